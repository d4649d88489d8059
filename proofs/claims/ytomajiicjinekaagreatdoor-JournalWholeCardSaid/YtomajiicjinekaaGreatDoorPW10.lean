/- Part 10. -/
import Derived.Test.YtomajiicjinekaaGreatDoorPW9
import Derived.Test.YtomajiicjinekaaGreatDoorPW3
import Derived.SliceStrings
import Derived.Test.YtomajiicjinekaaGreatDoorPW4
import Derived.Lib.SmallJoins
import Derived.SizedLaws
import Derived.Test.YtomajiicjinekaaGreatDoorRows
import Derived.ProofKit
import Derived.LaidMore
import Derived.Lib.LaidTab
import Derived.Stop.LaidErr
import Derived.MakeChecks
import Derived.SevenTiedAt
import Derived.Test.YtomajiicjinekaaGreatDoorCards
import Derived.Test.YtomajiicjinekaaGreatDoorTie
import Derived.Carry
/-! Jn27 -/
namespace Go.Proofs.YtomajiicjinekaaGreatDoor
open Go Go.Sx Go.MapKept Go.WideMaps Go.Maps
set_option maxRecDepth 100000
set_option linter.unusedVariables false
attribute [local irreducible] sum
theorem used_pos {r : FR} {a : AF} (h : r.Ok a) : 0 ≤ a.now.used := by
  obtain ⟨_, ⟨_, _, h1⟩, ⟨_, _, h2⟩⟩ := h.now
  omega
theorem namesA_ok {r : FR} {a : AF} (h : r.Ok a) {p m : List UInt8} (hm : m ∈ namesA a.now p) : strOk m := by
  unfold namesA at hm
  have h1 := (List.mem_filter.1 ((show m ∈ sortS _ ↔ _ by unfold sortS; exact List.mem_mergeSort).1 hm)).1
  obtain ⟨q, hq, rfl⟩ := List.mem_map.1 h1
  obtain ⟨z, hz, rfl⟩ := List.mem_map.1 (h.now.rep.nm.mem_iff.2 hq)
  exact h.now.raw.map.keys (z.1, fptr z.2) (List.mem_map.2 ⟨z, hz, rfl⟩)
theorem grpE_len2 {g : List (List UInt8)} (h : limR g) : (grpE g).length ≤ sizeR g + 440 := by
  have h0 := grpE_lim h
  have h1 := recsE_len (rs := g) fun x hx => Nat.le_trans (sizeR_get hx) h.2
  have h2 := num_len (show g.length < 268435456 by have := h.1; omega)
  have h3 : (bodyE g).length = (num g.length).length + (recsE g).length := by unfold bodyE; rw [List.length_append]
  have h4 := bodyE_lim h
  have h5 := num_len (show (bodyE g).length < 268435456 by omega)
  have h6 : (grpE g).length = (num (bodyE g).length).length + ((bodyE g).length + 32) := by unfold grpE; rw [List.length_append, List.length_append, sum_length]
  have := h.1
  omega
theorem gsE_len2 {gs : List (List (List UInt8))} (h : ∀ g ∈ gs, limR g) : (gsE gs).length ≤ sizeG gs + gs.length * 440 := by
  induction gs with
  | nil => exact Nat.le_refl _
  | cons g gs ih =>
    have h1 := ih fun x hx => h x (List.mem_cons_of_mem _ hx)
    have h2 := grpE_len2 (h g (List.mem_cons_self ..))
    rw [gsE_cons, List.length_append, List.length_cons]
    have h3 : sizeG (g :: gs) = sizeR g + sizeG gs := by unfold sizeG; rw [List.map_cons, List.sum_cons]
    omega
theorem headE_le {n : Nat} (h : n < 268435456) : (headE n).length ≤ 100 := by
  have h2 := num_len h
  have := headE_len n
  omega
structure PI (nm : List UInt8) (i b : Nat) (a : JA) (f : AF) : Prop where
  ji : JI (12600 * (i : Int)) i i a f
  nm : a.name = nm
  sz : sizeG a.gs + sizeR a.down ≤ b
  ln : a.gs.length + a.down.length ≤ i
  gl : ∀ g ∈ a.gs, g.length ≤ 100 ∧ sizeR g ≤ 12000
  ag : a.age ≤ i
  rm : f.room ≤ 1073741824
  pd : f.pend.length ≤ i
theorem PI.lim {nm : List UInt8} {i b : Nat} {a : JA} {f : AF} (h : PI nm i b a f) (hi : i ≤ 100) : limG a.gs := ⟨by have := h.ln; omega, h.gl⟩
theorem PI.limD {nm : List UInt8} {i b : Nat} {a : JA} {f : AF} (h : PI nm i b a f) (hi : i ≤ 100) (hb : b ≤ 12000) : limR a.down := ⟨by have := h.ln; omega, by have := h.sz; omega⟩
theorem PI.comOk {nm : List UInt8} {i b : Nat} {a : JA} {f : AF} (h : PI nm i b a f) (hi : i ≤ 100) (hb : b ≤ 12000) (hu : 0 ≤ f.now.used) (hdn : a.down ≠ []) (hn : nm.length ≤ 100) (hr : 12600 * ((i + 1 : Nat) : Int) ≤ f.room) : ComOk a f i := by
  have hl := h.lim hi
  have hd := h.limD hi hb
  have h1 := h.ln
  have h2 : 1 ≤ a.down.length := by
    cases hx : a.down with
    | nil => exact absurd hx hdn
    | cons x l => rw [List.length_cons]; omega
  obtain ⟨hj, hs, hbd⟩ := AllF.now h.ji
  have hsz := h.sz
  have h3 := gsE_len2 hl.2
  have h4 := grpE_lim hd
  have h5 := h.rm
  have h6 := hbd.us
  have h7 := hbd.nm
  have h8 := h.pd
  have h9 := h.ag
  have h10 := hl.1
  refine ⟨hj, by omega, hl.2, hd, by omega, by omega, h5, ⟨hu, by omega⟩, by omega, by omega, hbd.fresh, by omega, by rw [h.nm]; exact hn⟩
theorem PI.resOk {nm : List UInt8} {i b : Nat} {a : JA} {f : AF} (h : PI nm i b a f) (hi : i ≤ 100) (hu : 0 ≤ f.now.used) (hn : 1 ≤ nm.length ∧ nm.length ≤ 100) (hr : 12600 * ((i + 1 : Nat) : Int) ≤ f.room) : ResOk a f i := by
  obtain ⟨hj, hs, hbd⟩ := AllF.now h.ji
  have h5 := h.rm
  have h6 := hbd.us
  have h7 := hbd.nm
  have h8 := h.pd
  have h9 := h.ag
  refine ⟨by rw [h.nm]; exact hn, by omega, h5, ⟨hu, by omega⟩, by omega, by omega, hbd.fresh⟩
theorem PI.up {nm : List UInt8} {i b b' : Nat} {a : JA} {f : AF} (h : PI nm i b a f) (hb : b ≤ b') : PI nm (i + 1) b' a f :=
  ⟨h.ji.mono (by omega) (Nat.le_succ i) (Nat.le_succ i), h.nm, Nat.le_trans h.sz hb, Nat.le_succ_of_le h.ln, h.gl, Nat.le_succ_of_le h.ag, h.rm, Nat.le_succ_of_le h.pd⟩
theorem PI.le {nm : List UInt8} {i b b' : Nat} {a : JA} {f : AF} (h : PI nm i b a f) (hb : b ≤ b') : PI nm i b' a f := ⟨h.ji, h.nm, Nat.le_trans h.sz hb, h.ln, h.gl, h.ag, h.rm, h.pd⟩
theorem PI.add {nm : List UInt8} {i b : Nat} {a : JA} {f : AF} (h : PI nm i b a f) (xs : List UInt8) : PI nm (i + 1) (b + xs.length) (addJ a xs) f := by
  have h1 := h.up (Nat.le_add_right b xs.length)
  unfold addJ
  split
  · exact h1
  · refine ⟨h1.ji, h1.nm, ?_, ?_, h1.gl, h1.ag, h1.rm, h1.pd⟩
    · show sizeG a.gs + sizeR (a.down ++ [xs]) ≤ _
      rw [sizeR_snoc]
      have := h.sz
      omega
    · show a.gs.length + (a.down ++ [xs]).length ≤ _
      rw [List.length_append, List.length_singleton]
      have := h.ln
      omega
theorem PI.drop {nm : List UInt8} {i b : Nat} {a : JA} {f : AF} (h : PI nm i b a f) : PI nm (i + 1) b { a with down := [] } f := by
  have h1 := h.up (Nat.le_refl b)
  refine ⟨h1.ji, h1.nm, ?_, ?_, h1.gl, h1.ag, h1.rm, h1.pd⟩
  · show sizeG a.gs + sizeR [] ≤ _
    have e : sizeR [] = 0 := rfl
    have := h.sz
    omega
  · show a.gs.length + 0 ≤ _
    have := h.ln
    omega
theorem PI.crash {nm : List UInt8} {i b : Nat} {a : JA} {f : AF} (h : PI nm i b a f) (k : Int) : PI nm (i + 1) b { a with down := [] } (crashF f k) := by
  have h1 := h.drop
  exact ⟨JI.crash (a := a) (h.up (Nat.le_refl b)).ji k, h1.nm, h1.sz, h1.ln, h1.gl, h1.ag, h1.rm, Nat.zero_le _⟩
theorem comA_room (a : JA) (f : AF) (id : Nat) : (comA a f id).room = f.room ∧ (comA a f id).fused = f.fused ∧ (comA a f id).pend.length ≤ f.pend.length + 1 := by
  unfold comA
  repeat' split
  all_goals first | exact ⟨rfl, rfl, Nat.le_succ _⟩ | exact ⟨rfl, rfl, by show (f.pend ++ [_]).length ≤ _; rw [List.length_append]; exact Nat.le_refl _⟩ | exact ⟨rfl, rfl, Nat.zero_le _⟩
theorem rmsF_room (ns : List (List UInt8)) : ∀ f : AF, (rmsF f ns).room = f.room ∧ (rmsF f ns).fused = f.fused := by
  induction ns with
  | nil => exact fun f => ⟨rfl, rfl⟩
  | cons n ns ih =>
    intro f
    have h1 := ih (rmF f n)
    have h2 : (rmF f n).room = f.room ∧ (rmF f n).fused = f.fused := by
      unfold rmF
      split <;> exact ⟨rfl, rfl⟩
    exact ⟨h1.1.trans h2.1, h1.2.trans h2.2⟩
theorem resA_room (a : JA) (f : AF) (id : Nat) : (resA a f id).room = f.room ∧ (resA a f id).fused = f.fused := by
  unfold resA
  repeat' split
  all_goals first | exact ⟨rfl, rfl⟩ | exact rmsF_room _ _
theorem PI.com {nm : List UInt8} {i b : Nat} {a : JA} {f : AF} (h : PI nm i b a f) (hi : i ≤ 100) (hb : b ≤ 12000) (he : comE a f i = 0) : PI nm (i + 1) b (comJ a f i) (comA a f i) := by
  have h0 := comA_room a f i
  have hd := h.limD hi hb
  have h1 : JI (12600 * ((i + 1 : Nat) : Int)) (i + 1) (i + 1) (comJ a f i) (comA a f i) := (h.ji.com he).mono (by have := grpE_lim hd; omega) (Nat.le_refl _) (Nat.le_refl _)
  have h2 : (comJ a f i).name = a.name ∧ (comJ a f i).age = a.age := by
    unfold comJ
    repeat' split
    all_goals exact ⟨rfl, rfl⟩
  have hp := h.pd
  refine ⟨h1, by rw [h2.1]; exact h.nm, ?_, ?_, ?_, by rw [h2.2]; exact Nat.le_succ_of_le h.ag, by rw [h0.1]; exact h.rm, by omega⟩
  · have hs := h.sz
    unfold comJ
    repeat' split
    all_goals first | exact hs | skip
    show sizeG (a.gs ++ [a.down]) + sizeR [] ≤ b
    rw [sizeG_snoc]
    have e : sizeR [] = 0 := rfl
    omega
  · have hs := h.ln
    unfold comJ
    split
    · omega
    split
    · omega
    rename_i hdn
    have h2 : 1 ≤ a.down.length := by
      cases hx : a.down with
      | nil => exact absurd hx hdn
      | cons x l => rw [List.length_cons]; omega
    repeat' split
    all_goals first | exact Nat.le_succ_of_le hs | skip
    show (a.gs ++ [a.down]).length + 0 ≤ i + 1
    rw [List.length_append, List.length_singleton]
    omega
  · intro g hg
    unfold comJ at hg
    repeat' split at hg
    all_goals first | exact h.gl g hg | skip
    rcases List.mem_append.1 hg with hg | hg
    · exact h.gl g hg
    · rw [List.mem_singleton.1 hg]
      exact hd
theorem PI.res {nm : List UInt8} {i b : Nat} {a : JA} {f : AF} (h : PI nm i b a f) (hi : i ≤ 100) (he : resE a f i = 0) : PI nm (i + 1) b (resJ a f i) (resA a f i) := by
  have h0 := resA_room a f i
  have hag := h.ag
  have h1 : JI (12600 * ((i + 1 : Nat) : Int)) (i + 1) (i + 1) (resJ a f i) (resA a f i) := (h.ji.res he).mono (by have := headE_le (n := a.age + 1) (by omega); omega) (Nat.le_refl _) (Nat.le_refl _)
  have hnl : f.now.nm.length ≤ i := (AllF.now h.ji).2.2.nm
  have hp := h.pd
  have hpd : (resA a f i).pend.length ≤ i + 1 := by
    unfold resA
    repeat' split
    · omega
    · omega
    · show (f.pend ++ [_]).length ≤ _
      rw [List.length_append, List.length_singleton]
      omega
    · have h8 := rmsF_pend (syncF (stepF f (resT a i))) (namesA f.now (a.name ++ [46]))
      have h9 := namesA_len f.now (a.name ++ [46])
      have h10 : (syncF (stepF f (resT a i))).pend.length = 0 := rfl
      omega
  refine ⟨h1, ?_, ?_, ?_, ?_, ?_, by rw [h0.1]; exact h.rm, hpd⟩
  · unfold resJ
    repeat' split
    all_goals exact h.nm
  · have hs := h.sz
    have e : sizeG [] = 0 := rfl
    unfold resJ
    repeat' split
    all_goals first | exact hs | skip
    show sizeG [] + sizeR a.down ≤ b
    omega
  · have hs := h.ln
    unfold resJ
    repeat' split
    all_goals first | exact Nat.le_succ_of_le hs | skip
    show 0 + a.down.length ≤ i + 1
    omega
  · intro g hg
    unfold resJ at hg
    repeat' split at hg
    all_goals first | exact h.gl g hg | cases hg
  · unfold resJ
    repeat' split
    all_goals first | exact Nat.le_succ_of_le hag | (show a.age + 1 ≤ i + 1; omega)
theorem PI.new {nm : List UInt8} {room : Int} (h : room ≤ 1073741824) : PI nm 0 0 ⟨nm, 0, [], [], false⟩ (AF0 room) :=
  ⟨JI.new, rfl, Nat.le_refl _, Nat.le_refl _, (fun g hg => by cases hg), Nat.le_refl _, h, Nat.le_refl _⟩
theorem PI.fuse {nm : List UInt8} {i b : Nat} {a : JA} {f : AF} (h : PI nm i b a f) (n : Int) : PI nm i b a (fuseF f n) := ⟨h.ji, h.nm, h.sz, h.ln, h.gl, h.ag, h.rm, h.pd⟩
theorem comJ_0 {a : JA} {f : AF} {id : Nat} (he : comE a f id = 0) : comJ a f id = if a.down = [] then a else { a with gs := a.gs ++ [a.down], down := [] } := by
  unfold comE at he
  unfold comJ
  cases hd : a.dead <;> rw [hd] at he
  · simp only [if_neg (show ¬ (false = true) by simp)] at he ⊢
    split
    · rfl
    · rename_i hdn
      rw [if_neg hdn] at he
      split at he
      · cases he
      · rename_i hb
        rw [if_neg hb]
        split at he
        · cases he
        · rename_i hb2
          rw [if_neg hb2]
  · cases he
theorem comE_01 (a : JA) (f : AF) (id : Nat) : comE a f id = 0 ∨ comE a f id = 26 := by
  unfold comE
  repeat' split
  all_goals first | exact .inl rfl | exact .inr rfl
theorem resE_01 (a : JA) (f : AF) (id : Nat) : resE a f id = 0 ∨ resE a f id = 26 := by
  unfold resE
  repeat' split
  all_goals first | exact .inl rfl | exact .inr rfl
theorem com_dead {a : JA} {f : AF} {id : Nat} (he : comE a f id = 0) : a.dead = false := by
  cases hd : a.dead
  · rfl
  · simp [comE, hd] at he
theorem resJ_0 {a : JA} {f : AF} {id : Nat} (he : resE a f id = 0) : resJ a f id = { a with age := a.age + 1, gs := [] } := by
  unfold resE at he
  unfold resJ
  cases hd : a.dead <;> rw [hd] at he
  · simp only [if_neg (show ¬ (false = true) by simp)] at he ⊢
    split at he
    · cases he
    · rename_i hb
      rw [if_neg hb]
      split at he
      · cases he
      · rename_i hb2
        rw [if_neg hb2]
  · cases he
end Go.Proofs.YtomajiicjinekaaGreatDoor
/-! Jn28 -/
namespace Go.Proofs.YtomajiicjinekaaGreatDoor
open Go Go.Sx
set_option maxRecDepth 100000
set_option maxHeartbeats 4000000
set_option linter.unusedVariables false
set_option linter.unusedSimpArgs false
attribute [local irreducible] J JQ QS Con W opW
attribute [local irreducible] sum gsE headE fileN contA readE grpE fillE namesA
abbrev logN : List UInt8 := [108, 111, 103]
structure SJ where
  kind : Int
  n : Int
  bv : Value
  xs : List UInt8
def encJ (x : SJ) : List Value := [.int .i64 x.kind, .int .i64 x.n, x.bv]
theorem encJ_len (x : SJ) : (encJ x).length = 3 := rfl
def intOk (n : Int) : Prop := -9223372036854775808 ≤ n ∧ n ≤ 9223372036854775807
structure SJ.Ok (w : World) (x : SJ) : Prop where
  k : intOk x.kind
  n : intOk x.n
  b : BR w x.bv x.xs ∧ x.xs.length ≤ 140737488351232
abbrev SJ0 : SJ := ⟨0, 0, .slice none 0 0, []⟩
theorem wcomU_con (q : WM) (gs : List (List (List UInt8))) (dn : List (List UInt8)) (w : World) (hok : q.Ok gs dn) (hsz : sizeG gs ≤ 500000) (hgn : gs.length ≤ 1000) (hrn : ∀ g ∈ gs, g.length ≤ 1000) : Con Tryz.prog 19 [q.ptr] w q.heap fun u S' => u = .int .i64 0 ∧ ∃ m' : WM, S' = [m'.heap] ∧ m'.Ok (if dn = [] then gs else gs ++ [dn]) [] ∧ m'.g = q.g := by
  by_cases hdn : dn = []
  · rw [if_pos hdn]
    exact (wcom0_con q gs dn w hok hdn).mono fun u S' hu => by
      rw [hdn] at hu
      exact hu
  · rw [if_neg hdn]
    exact wcom_con q gs dn w hok hdn hsz hgn hrn
theorem comJ_gs {a : JA} {f : AF} {id : Nat} (he : comE a f id = 0) : (comJ a f id).gs = (if a.down = [] then a.gs else a.gs ++ [a.down]) ∧ (comJ a f id).down = [] ∧ (comJ a f id).dead = false := by
  have hd := com_dead he
  rw [comJ_0 he]
  split
  · rename_i h
    exact ⟨rfl, h, hd⟩
  · exact ⟨rfl, rfl, hd⟩
end Go.Proofs.YtomajiicjinekaaGreatDoor
/-! Jn29 -/
namespace Go.Proofs.YtomajiicjinekaaGreatDoor
open Go Go.Sx
set_option maxRecDepth 100000
set_option maxHeartbeats 4000000
set_option linter.unusedVariables false
set_option linter.unusedSimpArgs false
attribute [local irreducible] J JQ QS Con W opW
attribute [local irreducible] sum gsE headE fileN contA readE grpE fillE namesA
theorem wm_nil (m : WM) : ([[(m.g, .cells [nilS, m.d.v].toArray 36 (0, 0))], m.d.c, m.d.lf] : List SH).flatten.Perm [WM.heap ⟨m.g, ⟨nilS, [], []⟩, m.d⟩].flatten := by
  simp [WM.heap, RR.heap, NR.heap, NR.lf]
theorem JA.add_eq {a : JA} (hd : a.dead = false) (xs : List UInt8) : addJ a xs = { a with down := a.down ++ [xs] } := by
  unfold addJ
  rw [hd]
  rfl
end Go.Proofs.YtomajiicjinekaaGreatDoor
/-! SxT -/
namespace Go.Sx
open Go Go.ChangeShapes Go.WideShapes Go.ChangeAt Go.RowKit
set_option linter.unusedVariables false
end Go.Sx
/-! Jn30 -/
namespace Go.Proofs.YtomajiicjinekaaGreatDoor
open Go Go.Sx
set_option maxRecDepth 100000
set_option maxHeartbeats 4000000
set_option linter.unusedVariables false
set_option linter.unusedSimpArgs false
attribute [local irreducible] J JQ QS Con W opW
open Go.MapKept Go.WideMaps Go.Maps
attribute [local irreducible] sum gsE headE fileN contA readE grpE fillE namesA
abbrev steps (rs : List SJ) : List Value := (rs.map encJ).flatten
theorem steps_get {rs : List SJ} {i k : Nat} {u : Value} (h : i < rs.length) (hk : (encJ (rs.getD i SJ0))[k]? = some u) : (steps rs)[i * 3 + k]? = some u := by
  have hk4 : k < 3 := by
    have := (List.getElem?_eq_some_iff.1 hk).1
    rw [encJ_len] at this
    exact this
  rw [flat_get encJ_len rs i k hk4, List.getElem?_eq_getElem h]
  rw [List.getD_eq_getElem?_getD, List.getElem?_eq_getElem h] at hk
  exact hk
def Script (w : World) (v : Value) (rs : List SJ) : Prop := RSlN 3 w v (steps rs) rs.length ∧ ∀ x ∈ rs, x.Ok w
theorem script_form {w : World} {v : Value} {rs : List SJ} (h : Script w v rs) : ∃ A cap g off, v = .slice A rs.length cap ∧ rs.length ≤ cap ∧ (0 < rs.length → A = some ⟨g, off, none⟩ ∧ g < w.heap.size ∧ Cells w ⟨g, off, none⟩ (steps rs)) := rsln_form h.1
theorem script_ok {w : World} {v : Value} {rs : List SJ} (h : Script w v rs) {i : Nat} (hi : i < rs.length) : (rs.getD i SJ0).Ok w := by
  refine h.2 _ ?_
  rw [List.getD_eq_getElem?_getD, List.getElem?_eq_getElem hi, Option.getD_some]
  exact List.getElem_mem hi
theorem script_keep {w w' : World} {v : Value} {rs : List SJ} (h : Script w v rs) {S : List SH} (hs : Sig ⟨w, dom []⟩ S w') : Script w' v rs := ⟨rsln_keep h.1 hs, fun x hx => ⟨(h.2 x hx).k, (h.2 x hx).n, br0 (h.2 x hx).b.1 hs, (h.2 x hx).b.2⟩⟩
theorem off3 (g off i k : Nat) : (⟨g, off + i * 3 + k, none⟩ : Addr) = (⟨g, off, none⟩ : Addr).add (i * 3 + k) := by rw [add_off, Nat.add_assoc]
def sumX (rs : List SJ) (i : Nat) : Nat := ((rs.take i).map fun x => x.xs.length).sum
theorem sumX_succ {rs : List SJ} {i : Nat} (h : i < rs.length) : sumX rs (i + 1) = sumX rs i + (rs.getD i SJ0).xs.length := by
  unfold sumX
  rw [List.take_add_one, List.getElem?_eq_getElem h, Option.toList_some, List.map_append, List.sum_append, List.getD_eq_getElem?_getD, List.getElem?_eq_getElem h]
  simp
theorem sumX_mono (rs : List SJ) {i j : Nat} (h : i ≤ j) : sumX rs i ≤ sumX rs j := by
  unfold sumX
  rw [show rs.take i = (rs.take j).take i by rw [List.take_take, Nat.min_eq_left h]]
  have h1 : ((rs.take j).map fun x => x.xs.length).sum = (((rs.take j).take i).map fun x => x.xs.length).sum + (((rs.take j).drop i).map fun x => x.xs.length).sum := by
    rw [← List.sum_append, ← List.map_append, List.take_append_drop]
  omega
theorem NR.Ok.get {n : NR} (h : n.Ok) {k : Nat} {x : RR} (hx : n.L[k]? = some x) : x.Ok ∧ x.rs ∈ n.gs := by
  have hm := List.mem_of_getElem? hx
  exact ⟨h.rr x hm, List.mem_map.2 ⟨x, hm, rfl⟩⟩
theorem heavyJ_con (rs : List SJ) (v : Value) (w : World) (hs : Script w v rs) : Con Tryz.prog 7 [v] w [] fun u _ => ∃ hv : Bool, u = .bool hv ∧ (hv = false → ∀ i, i ≤ rs.length → i ≤ 100 → sumX rs i ≤ 12000) := by
  refine con_of_tree mix Tryz.func7 T7_ok (by kernel_rfl) ?_
  unfold T7
  obtain ⟨A, cap, g, off, rfl, hcap, hA⟩ := script_form hs
  refine j_q (qs_ac) ?_
  refine j_q (qs_ac) ?_
  refine j_q (qs_ac) ?_
  refine j_loop (fun m vs S' => ∃ (i : Nat), vs = [.int .i64 ((sumX rs i : Nat) : Int), .int .i64 (i : Int)] ∧ S' = [[]] ∧ sumX rs i ≤ 12000 ∧ i ≤ rs.length ∧ i ≤ 100 ∧ m = rs.length - i) ⟨_, 0, rfl, rfl, Nat.zero_le _, Nat.zero_le _, Nat.zero_le _, rfl⟩ ?_
  rintro m vs S' hlen ⟨i, rfl, rfl, hsx, hi, hi100, rfl⟩
  refine j_q (qs_lenl Tryz.underlying22 rfl) ?_
  refine j_q (qs_lss rfl rfl) ?_
  refine j_g rfl (fun hb => qs_mt rfl) ?_
  refine j_g rfl (fun hb => qs_lss (gd_eq hb) rfl) ?_
  refine j_q (qs_and rfl rfl) ?_
  refine j_cond rfl (fun hc0 => ?_) (fun hc0 => ?_)
  · skip
    have hb2 : i < rs.length ∧ i < 100 := by
      simp only [gd, Bool.and_eq_true, decide_eq_true_eq] at hc0
      omega
    obtain ⟨hi1, hi2⟩ := hb2
    obtain ⟨rfl, hgs, hcl⟩ := hA (by omega)
    obtain ⟨_, _, hxb, hxl⟩ := script_ok hs hi1
    obtain ⟨bA, bcp, hbf, _⟩ := br_form hxb
    refine j_q (qs_ixn (g := g) (off := off) (n := rs.length) (c := cap) (i := i) Tryz.underlying22 sz41 rfl rfl hi1) ?_
    refine j_q (qs_field Tryz.underlying41 rfl sz39 (by decide) rfl) ?_
    refine j_q (qs_loadR (v := (rs.getD i SJ0).bv) (a := ⟨g, off, none⟩) (i := i * 3 + 2) (rd_cells hcl (by simp)) Tryz.underlying39 rfl (congrArg (fun z => Value.pointer (some z)) (off3 g off i 2)) (steps_get hi1 rfl)) ?_
    refine j_q (qs_lenl (n := (rs.getD i SJ0).xs.length) (A := bA) (c := bcp) Tryz.underlying39 hbf) ?_
    refine j_q (qs_add64 rfl rfl (by first | omega | (simp only [bnA] at *; omega))) ?_
    refine j_q (qs_gtr rfl rfl) ?_
    refine j_cond rfl (fun hc1 => ?_) (fun hc1 => ?_)
    · skip
      refine j_q (qs_ac) ?_
      refine j_ret_con (vs := [_]) (fun w' hw' => ⟨rfl, trivial⟩) ?_
      exact ⟨true, rfl, fun h => by cases h⟩
    · skip
      have hle : ((sumX rs i : Nat) : Int) + ((rs.getD i SJ0).xs.length : Int) ≤ 12000 := by
        have h9 := of_decide_eq_false hc1
        omega
      refine j_q (qs_add64 rfl rfl (by first | omega | (simp only [bnA] at *; omega))) ?_
      refine j_back rfl ?_
      exact ⟨rs.length - (i + 1), by omega, i + 1, by rw [sumX_succ hi1, Int.natCast_add]; rfl, rfl, by rw [sumX_succ hi1]; omega, hi1, hi2, rfl⟩
  · skip
    have hb2 : ¬ (i < rs.length ∧ i < 100) := by
      rintro ⟨h1, h2⟩
      have h3 : decide ((i : Int) < (rs.length : Int)) = true := by simpa using h1
      have h4 : decide ((i : Int) < 100) = true := by
        simp only [decide_eq_true_eq]
        omega
      rw [h3] at hc0
      simp only [gd, h4] at hc0
      simp at hc0
    refine j_q (qs_ac) ?_
    refine j_ret_con (vs := [_]) (fun w' hw' => ⟨rfl, trivial⟩) ?_
    exact ⟨false, rfl, fun _ j hj hj2 => Nat.le_trans (sumX_mono rs (show j ≤ i by omega)) hsx⟩
end Go.Proofs.YtomajiicjinekaaGreatDoor
/-! Arg8 -/
namespace Go.Proofs.YtomajiicjinekaaGreatDoor
open Go Go.Sx Go.ChangeShapes Go.WideShapes Go.ChangeAt Go.RowKit
set_option linter.unusedVariables false
set_option maxRecDepth 100000
theorem j_gn {P : Program} {R : Ending → World → Prop} {env : Env} {b : Base} {S : List SH} {B : JB} {T : Tree} {c : Operand} {want : Bool} {o : Oper} (hne : ev env c ≠ .bool want) (h : J P R T (undef :: env) S b B) : J P R (.gop c want o T) env S b B := fun w hw =>
  ⟨fun e => absurd e hne, fun _ => h w hw⟩
theorem j_mgn {P : Program} {R : Ending → World → Prop} {env : Env} {b : Base} {S S0 : List SH} {B : JB} {T : Tree} {c : Operand} {want : Bool} {o : Oper} (hne : ev env c ≠ .bool want) (h : J P R T (undef :: env) S b (B ++ [dw S0])) : J P R (.mq (some (c, want)) o T) env S b (B ++ [dw S0]) := fun w hw => by
  have h1 := h w hw
  rw [List.map_append, List.map_singleton, lift_dw] at h1 ⊢
  exact ⟨_, List.getLast?_concat, fun e => absurd e hne, fun _ => h1⟩
theorem j_mgt {P : Program} {R : Ending → World → Prop} {env : Env} {b : Base} {S S0 : List SH} {B : JB} {T : Tree} {c : Operand} {want : Bool} {o : Oper} {v : Value} (hc : ev env c = .bool want) (hq : QS P o env b S0 v) (h : J P R T (v :: env) S b (B ++ [dw S0])) : J P R (.mq (some (c, want)) o T) env S b (B ++ [dw S0]) :=
  j_mg hc (fun _ => hq) (by rw [gd, if_pos rfl]; exact h)
def BRz (w : World) (p : Value × List UInt8) : Prop := (p.1 = .slice none 0 0 ∧ p.2 = []) ∨ ∃ a cap, p.1 = .slice (some a) p.2.length cap ∧ p.2.length ≤ cap ∧ Cells w a (ints p.2)
theorem brz_br {w : World} {v : Value} {xs : List UInt8} (h : BRz w (v, xs)) : BR w v xs := by
  rcases h with h | ⟨a, cap, h1, h2, h3⟩
  · exact .inl h
  · refine .inr ⟨a, cap, h1, h2, fun h0 => ?_, h3⟩
    have h4 := h3 0 _ (ints_get_lt h0)
    have h5 : (a.add 0).block = a.block := rfl
    unfold World.cell? at h4
    split at h4
    · rename_i hh
      rw [h5] at hh
      exact (Array.getElem?_eq_some_iff.1 hh).1
    · cases h4
theorem weights_at {H : Type} {P : Program} {ts : List TypeId} {ds : List (DataW H)} (h : (DataW.weightsEach P ts ds).all (· ≤ reachBytes) = true) {j : Nat} {t : TypeId} {d : DataW H} (ht : ts[j]? = some t) (hd : ds[j]? = some d) : (d.weights P t).all (· ≤ reachBytes) = true :=
  List.all_eq_true.2 fun n hn => List.all_eq_true.1 h n (DataW.weights_mem_each ht hd n hn)
theorem row_trod {H : Type} {enc : TypeId × Value → H} {w : World} {b0 : Nat} {sp : Nat → Bool} {held : Bool} (fuel : Nat) (cs : List Value) (y : DataW H × List MemPlace) (h : DataW.trod enc Tryz.prog w b0 sp held fuel 39 cs = some y) (hw : (y.1.weights Tryz.prog 39).all (· ≤ reachBytes) = true) :
    ∃ p : Value × List UInt8, (BRz w p ∧ p.2.length ≤ 140737488351232) ∧ cs = [p.1] := by
  rcases open_ints Tryz.underlying39 Tryz.underlying5 (by kernel_rfl) h with ⟨hcs, _⟩ | ⟨a, len, cap, zs, hcs, hb, hl, hm, hz, hx, hcell, hsz⟩
  · exact ⟨(.slice none 0 0, []), ⟨.inl ⟨rfl, rfl⟩, Nat.zero_le _⟩, hcs⟩
  · have hlen : len ≤ zs.length := by rw [hz]; split <;> omega
    have hll : ((zs.take len).map by8).length = len := by simp [Nat.min_eq_left hlen]
    have hwl : len ≤ 140737488351232 := by
      have h0 := List.all_eq_true.1 hw (((lits IntKind.u8 (zs.take len) : List (DataW H)).length + (lits IntKind.u8 (zs.drop len) : List (DataW H)).length) * Tryz.prog.bytesOf 5) (by rw [hx]; simp [DataW.weights, Tryz.underlying39])
      have hb5 : Tryz.prog.bytesOf 5 = 1 := by kernel_rfl
      have hreach : reachBytes = 140737488351232 := rfl
      rw [hb5] at h0
      have h1 : (lits IntKind.u8 (zs.take len) : List (DataW H)).length = len := by simp [lits, Nat.min_eq_left hlen]
      rw [h1] at h0
      simp only [decide_eq_true_eq] at h0
      omega
    refine ⟨(.slice (some a) len cap, (zs.take len).map by8), ⟨.inr ⟨a, cap, by simp only [hll], by simp only [hll]; exact hl, fun j u hu => ?_⟩, by simp only [hll]; exact hwl⟩, hcs⟩
    rw [ints_get] at hu
    obtain ⟨c, hc1, rfl⟩ := Option.map_eq_some_iff.1 hu
    rw [List.getElem?_map] at hc1
    obtain ⟨z, hz1, rfl⟩ := Option.map_eq_some_iff.1 hc1
    have hz2 : zs[j]? = some z := by
      rw [List.getElem?_take] at hz1
      split at hz1
      · exact hz1
      · cases hz1
    have hlt := (List.getElem?_eq_some_iff.1 hz2).1
    rw [hcell j hlt]
    have hr := hsz z (List.mem_of_getElem? hz2)
    have hr2 : 0 ≤ z ∧ z ≤ 255 := by
      have h1 : IntKind.u8.min = 0 := rfl
      have h2 : IntKind.u8.max = 255 := rfl
      simp [Lit.wf, h1, h2] at hr
      omega
    have hw : IntKind.u8.wrap z = z := by rw [IntKind.wrap_u8]; omega
    rw [← wrap_by8, hw]
    simp [List.getD_eq_getElem?_getD, hz2]
theorem trod_struct3' {H : Type} {enc : TypeId × Value → H} {P : Program} {w : World} {base : Nat} {spare : Nat → Bool} {held : Bool} {t : TypeId} {f0 f1 f2 : Field} {fuel : Nat} {cs : List Value} {x : DataW H × List MemPlace} (ht : P.underlying t = some (.struct #[f0, f1, f2])) (h : DataW.trod enc P w base spare held fuel t cs = some x) :
    ∃ y0 y1 y2 n, x = (.agg [y0.1, y1.1, y2.1], y0.2 ++ (y1.2 ++ y2.2)) ∧ cs.length = P.cellsOf t ∧ DataW.trod enc P w base spare held n f0.type ((cs.drop f0.offset).take (P.cellsOf f0.type)) = some y0 ∧
      DataW.trod enc P w base spare held n f1.type ((cs.drop f1.offset).take (P.cellsOf f1.type)) = some y1 ∧ DataW.trod enc P w base spare held n f2.type ((cs.drop f2.offset).take (P.cellsOf f2.type)) = some y2 := by
  obtain ⟨xs, n, _, rfl, hl, hlen, hf⟩ := DataW.trod_struct ht h
  match xs, hlen with
  | [y0, y1, y2], _ => exact ⟨y0, y1, y2, n, by simp, hl, by simpa using hf 0 f0 rfl, by simpa using hf 1 f1 rfl, by simpa using hf 2 f2 rfl⟩
theorem intOk_wf {n : Int} (h : (Lit.int .i64 n).wf = true) : intOk n := by
  have h1 : IntKind.i64.min = -9223372036854775808 := rfl
  have h2 : IntKind.i64.max = 9223372036854775807 := rfl
  simp only [Lit.wf, h1, h2, Bool.and_eq_true, decide_eq_true_eq] at h
  exact h
theorem st_trod {H : Type} {enc : TypeId × Value → H} {w : World} {b0 : Nat} {sp : Nat → Bool} {held : Bool} (fuel : Nat) (cs : List Value) (y : DataW H × List MemPlace) (h : DataW.trod enc Tryz.prog w b0 sp held fuel 41 cs = some y) (hw : (y.1.weights Tryz.prog 41).all (· ≤ reachBytes) = true) :
    ∃ a : SJ, a.Ok w ∧ cs = encJ a := by
  obtain ⟨y0, y1, y2, n, rfl, hl, h0, h1, h2⟩ := trod_struct3' Tryz.underlying41 h
  have hc : Tryz.prog.cellsOf 41 = 3 := by kernel_rfl
  rw [hc] at hl
  match cs, hl with
  | [c0, c1, c2], _ =>
    have e3 : Tryz.prog.cellsOf 3 = 1 := by kernel_rfl
    have e39 : Tryz.prog.cellsOf 39 = 1 := by kernel_rfl
    simp only [e3, e39, List.drop_zero, List.take_succ_cons, List.take_zero, List.drop_succ_cons] at h0 h1 h2
    obtain ⟨k0, hk0, e0, w0⟩ := DataW.trod_int Tryz.underlying3 h0
    obtain ⟨k1, hk1, e1, w1⟩ := DataW.trod_int Tryz.underlying3 h1
    unfold DataW.weights at hw
    rw [Tryz.underlying41] at hw
    simp only [List.map_cons, List.map_nil, DataW.weightsEach, List.all_append, List.all_nil, Bool.and_eq_true, Bool.and_true] at hw
    obtain ⟨hw0, hw1, hw2⟩ := hw
    obtain ⟨p4, ⟨hp4, hp5⟩, hb4⟩ := row_trod n [c2] y2 h2 hw2
    injection hk0 with hk0
    injection hk1 with hk1
    injection hb4 with hb4
    subst hk0 hk1 hb4
    exact ⟨⟨k0, k1, p4.1, p4.2⟩, ⟨intOk_wf w0, intOk_wf w1, brz_br hp4, hp5⟩, rfl⟩
theorem open_script {H : Type} {enc : TypeId × Value → H} {w : World} {r : Go.Reach} {base b0 : Nat} {sp : Nat → Bool} {held : Bool} {v : Value} {x : DataW H × List MemPlace} (hv : Value.okWide Tryz.prog w r base 22 v)
    (h : ∃ fuel, DataW.trod enc Tryz.prog w b0 sp held fuel 22 v.cells.toList = some x) (hw : (x.1.weights Tryz.prog 22).all (· ≤ reachBytes) = true) : ∃ rs : List SJ, Script w v rs ∧ rs.length ≤ 4611686018427387903 := by
  obtain ⟨rs, h1, h2, h3⟩ := open_sln (α := SJ) encJ (SJ.Ok w) encJ_len (by decide) Tryz.underlying22 (by kernel_rfl) hv st_trod h hw
  have hb : Tryz.prog.bytesOf 41 = 40 := by kernel_rfl
  have hreach : reachBytes = 140737488351232 := rfl
  rw [hb] at h3
  exact ⟨rs, ⟨h1, h2⟩, by omega⟩
end Go.Proofs.YtomajiicjinekaaGreatDoor
/-! Jn31 -/
namespace Go.Proofs.YtomajiicjinekaaGreatDoor
open Go Go.Sx
set_option maxRecDepth 100000
set_option maxHeartbeats 4000000
set_option linter.unusedVariables false
set_option linter.unusedSimpArgs false
attribute [local irreducible] J JQ QS Con W opW
open Go.MapKept Go.WideMaps Go.Maps
attribute [local irreducible] sum gsE headE fileN contA readE grpE fillE namesA
def Brk (gs mg : List (List (List UInt8))) (f : AF) : Prop := ∃ ag1 ag2, ag1 < 10000 ∧ ag2 < 10000 ∧ limG gs ∧ limG mg ∧ AllF (fun s => JS logN ag1 gs s ∨ JS logN ag2 mg s) f
theorem comJ_26 {a : JA} {f : AF} {id : Nat} (he : comE a f id ≠ 0) : (comJ a f id).gs = a.gs ∧ (comJ a f id).down = a.down := by
  rcases hd : a.dead with _ | _
  · by_cases hdn : a.down = []
    · exact absurd (by simp [comE, hd, hdn]) he
    · rcases hb : burnt f with _ | _
      · rcases hb2 : burnt (stepF f (comT a id)) with _ | _
        · exact absurd (com3 hd hdn hb hb2).1 he
        · rw [(com2 hd hdn hb hb2).2.1]; exact ⟨rfl, rfl⟩
      · rw [(com1 (id := id) hd hdn hb).2.1]; exact ⟨rfl, rfl⟩
  · have : comJ a f id = a := by simp [comJ, hd]
    rw [this]; exact ⟨rfl, rfl⟩
theorem resJ_26 {a : JA} {f : AF} {id : Nat} (he : resE a f id ≠ 0) : (resJ a f id).gs = a.gs ∧ (resJ a f id).down = a.down := by
  rcases hd : a.dead with _ | _
  · rcases hb : burnt f with _ | _
    · rcases hb2 : burnt (stepF f (resT a id)) with _ | _
      · exact absurd (res3 hd hb hb2).1 he
      · rw [(res2 hd hb hb2).2.1]; exact ⟨rfl, rfl⟩
    · rw [(res1 (id := id) hd hb).2.1]; exact ⟨rfl, rfl⟩
  · have : resJ a f id = a := by simp [resJ, hd]
    rw [this]; exact ⟨rfl, rfl⟩
theorem PI.brkCom {i b : Nat} {a : JA} {f : AF} (h : PI logN i b a f) (hi : i < 100) (hb : b ≤ 12000) (hd : a.dead = false) (he : comE a f i ≠ 0) : Brk a.gs (a.gs ++ [a.down]) (comA a f i) := by
  have hl := h.lim (by omega)
  have hag := h.ag
  have hdn : a.down ≠ [] := fun e => he (by simp [comE, hd, e])
  have h1 := h.ln
  have h2 : 1 ≤ a.down.length := by
    cases hx : a.down with
    | nil => exact absurd hx hdn
    | cons x l => rw [List.length_cons]; omega
  have hx := h.ji.comBad
  rw [h.nm] at hx
  refine ⟨a.age, a.age, by omega, by omega, hl, ⟨by rw [List.length_append, List.length_singleton]; omega, fun g hg => ?_⟩, hx⟩
  rcases List.mem_append.1 hg with hg | hg
  · exact hl.2 g hg
  · rw [List.mem_singleton.1 hg]
    exact h.limD (by omega) hb
theorem PI.brkRes {i b : Nat} {a : JA} {f : AF} (h : PI logN i b a f) (hi : i < 100) (he : resE a f i ≠ 0) : Brk a.gs [] (resA a f i) := by
  have hl := h.lim (by omega)
  have hag := h.ag
  have hx := h.ji.resBad he
  rw [h.nm] at hx
  exact ⟨a.age, a.age + 1, by omega, by omega, hl, ⟨by decide, fun g hg => by cases hg⟩, hx⟩
theorem NR.Ok.one {n : NR} (h : n.Ok) : ∀ v ∈ n.L.map RR.v, oneV v = true := fun v hv => by
  obtain ⟨z, hz, rfl⟩ := List.mem_map.1 hv
  obtain ⟨_, _, h1, _⟩ := (h.rr z hz).form
  rw [h1]
  rfl
theorem NR.snoc_seen {n : NR} {d : RR} {v : Value} {c : SH} (hn : n.Ok) (hd : d.Ok) (ho : Sx.Own 34 1 (n.L.map RR.v ++ [d.v]) v c) {w : World} (h1 : In w c) (h2 : In w n.heap) (h3 : In w d.heap) : BGG w v (n.gs ++ [d.rs]) := by
  have h := (hn.add ho hd).seen (w := w) (fun q hq => ?_)
  · rw [NR.add_gs] at h
    exact h
  · unfold NR.heap at hq
    rw [NR.add_lf] at hq
    rcases List.mem_append.1 hq with hq | hq
    · exact h1 q hq
    · rcases List.mem_append.1 hq with hq | hq
      · exact h2 q (List.mem_append_right _ hq)
      · exact h3 q hq
theorem seen_nil (w : World) : BGG w nilS [] := ⟨none, 0, [], rfl, rfl, (fun h => by simp at h), (fun i x u h => by simp at h)⟩
theorem WM.in_all {q : WM} {w : World} {b : Base} {S : List SH} (hw : Sig b S w) {k1 k2 k3 : Nat} (h1 : S[k1]? = some [(q.g, q.obj)]) (h2 : S[k2]? = some q.n.heap) (h3 : S[k3]? = some q.d.heap) : In w q.heap := fun z hz => by
  rcases List.mem_cons.1 hz with rfl | hz
  · exact in_own hw k1 h1 _ (List.mem_singleton.2 rfl)
  · rcases List.mem_append.1 hz with hz | hz
    · exact in_own hw k2 h2 z hz
    · exact in_own hw k3 h3 z hz
theorem jWhole_con (rs : List SJ) (vl : Value) (fuse keep : Int) (w : World) (hs : Script w vl rs) (hP : P10 w) : Con Tryz.prog 4 [vl, .int .i64 fuse, .int .i64 keep] w [] fun u _ => u = .bool true := by
  refine con_of_tree mix Tryz.func4 T4_ok (by kernel_rfl) ?_
  unfold T4
  obtain ⟨A, cap, g, off, hvl, hcap, hA⟩ := script_form hs
  subst hvl
  refine j_q (qs_ac) ?_
  refine j_call0 ent7 rfl rfl rfl (fun w' hw' => heavyJ_con rs _ w' (script_keep hs hw')) (fun u S2 hu => ?_)
  obtain ⟨hv, rfl, hhv⟩ := hu
  refine j_subl (S' := [[]]) (List.sublist_append_right _ _) ?_
  refine j_g rfl (fun hb => qs_mt rfl) ?_
  refine j_g rfl (fun hb => qs_lss (gd_eq hb) rfl) ?_
  refine j_q (qs_or rfl rfl) ?_
  refine j_g rfl (fun hb => qs_mt rfl) ?_
  refine j_g rfl (fun hb => qs_gtr (gd_eq hb) rfl) ?_
  refine j_q (qs_or rfl rfl) ?_
  refine j_cond rfl (fun hc0 => ?_) (fun hc0 => ?_)
  · skip
    refine j_call0 ent8 rfl rfl rfl (fun w' hw' => known_con w' (hP.keep hw' (by simp))) (fun u S2 hu => ?_)
    subst hu
    refine j_ret_con (vs := [_]) (fun w' hw' => ⟨rfl, trivial⟩) ?_
    rfl
  · skip
    have hhv0 : hv = false ∧ 0 ≤ fuse ∧ fuse ≤ 2000 := by
      cases hv with
      | true => simp at hc0
      | false =>
        by_cases h9 : fuse < 0
        · simp [gd, h9] at hc0
        · by_cases h10 : fuse > 2000
          · simp [gd, h9, h10] at hc0
          · exact ⟨rfl, by omega, by omega⟩
    have hhv9 := hhv hhv0.1
    obtain ⟨_, hfu1, hfu2⟩ := hhv0
    refine j_call0 ent9 rfl rfl rfl (fun w' hw' => newR_con 4194304 w' (by decide) (by decide)) (fun u S2 hu => ?_)
    obtain ⟨r0, rfl, rfl, hr0⟩ := hu
    refine j_subl (S' := [r0.heap]) (by repeat first | exact slR _ | exact slN _ | apply slC | apply slD) ?_
    refine j_q (qs_ext rfl rfl) ?_
    refine j_q (qs_ext rfl rfl) ?_
    refine j_call0 ent10 rfl rfl rfl (fun w' hw' => open_con r0 (AF0 4194304) logN 0 [] w' (in_own hw' 0 rfl) hr0 (AllF.now (JI.new (name := logN) (room := 4194304))).1 ⟨by decide, fun g hg => by cases hg⟩ (by decide) (by decide) (by decide) (hP.keep hw' (by simp))) (fun u S2 hu => ?_)
    obtain ⟨j0, rfl, rfl, hj0, hjf0⟩ := hu
    refine j_q (qs_ext rfl rfl) ?_
    refine j_q (qs_ext rfl rfl) ?_
    refine j_q (qs_neq rfl rfl) ?_
    rw [show ((0 : Int) != 0) = false from rfl]
    refine j_gt rfl (qs_mt rfl) ?_
    refine j_gt rfl (qs_pnil Tryz.underlying29 rfl) ?_
    refine j_q (qs_or rfl rfl) ?_
    refine j_cond rfl (fun hc1 => ?_) (fun hc1 => ?_)
    · skip
      simp at hc1
    · skip
      refine j_q (qs_run (v := .agg #[nilS, nilS]) (fun w => by kernel_rfl)) ?_
      refine j_box (l := [nilS, nilS]) rfl (fun g21 hg21 hs21 => ?_)
      refine j_perm (S' := [j0.heap, r0.heap, WM.heap ⟨g21, ⟨nilS, [], []⟩, ⟨nilS, [], []⟩⟩]) (by
        simp only [WM.heap, NR.heap, NR.lf, RR.heap, RR.lf, List.map_nil, List.flatten_nil, List.append_nil, List.flatten_cons, List.cons_append, List.nil_append, List.append_assoc]
        rw [← List.append_assoc]
        exact List.perm_append_comm (l₁ := [_])) ?_
      refine j_call 1 ent15 rfl rfl rfl rfl (fun w' hw' => fuseG_con r0 _ fuse w' hr0 (by omega)) (fun u S2 hu => ?_)
      obtain ⟨r1, rfl, hr1, hgr1⟩ := hu
      refine j_perm (S' := [j0.heap, r1.heap, WM.heap ⟨g21, ⟨nilS, [], []⟩, ⟨nilS, [], []⟩⟩, []]) (by
        classical
        refine List.perm_iff_count.2 fun x => ?_
        simp only [List.set, List.flatten_cons, List.flatten_nil, List.append_nil, List.nil_append, List.cons_append, List.count_append, List.count_cons, List.count_nil]
        all_goals omega) ?_
      refine j_q (qs_ac) ?_
      refine j_q (qs_ac) ?_
      refine j_q (qs_ac) ?_
      refine j_loop (fun m vs S' => ∃ (i : Nat) (j : JM) (r : FR) (q : WM) (a : JA) (f : AF) (mv : Value) (mc : SH) (bk : Bool) (mg : List (List (List UInt8))), vs = [mv, .bool bk, .int .i64 (i : Int)] ∧ S' = [j.heap, r.heap, q.heap, mc] ∧ j.Ok a ∧ r.Ok f ∧ j.fp = r.ptr ∧ j.gj = j0.gj ∧ q.Ok a.gs a.down ∧ (bk = false → mv = nilS ∧ mc = [] ∧ a.dead = false ∧ f.room = 4194304 ∧ PI logN i (sumX rs i) a f) ∧ (bk = true → Brk a.gs mg f ∧ ∀ w', In w' q.heap → In w' mc → BGG w' mv mg) ∧ r.gf = r0.gf ∧ q.g = g21 ∧ i ≤ rs.length ∧ i ≤ 100 ∧ m = rs.length - i) ⟨_, 0, j0, r1, ⟨g21, ⟨nilS, [], []⟩, ⟨nilS, [], []⟩⟩, ⟨logN, 0, [], [], false⟩, fuseF (AF0 4194304) fuse, nilS, [], false, [], rfl, rfl, hj0, hr1, hjf0.trans (by rw [FR.ptr, FR.ptr, hgr1]), rfl, ⟨nr0, rr0, rfl, rfl⟩, fun _ => ⟨rfl, rfl, rfl, rfl, (PI.new (by decide)).fuse fuse⟩, (fun h => by cases h), hgr1, rfl, Nat.zero_le _, Nat.zero_le _, rfl⟩ ?_
      rintro m vs S' hlen ⟨i, j, r, q, a, f, mv, mc, bk, mg, rfl, rfl, hj, hr, hjf, hgj, hq, hb0, hb1, hgr, hgq, hi, hi100, rfl⟩
      refine j_q (qs_lenl Tryz.underlying22 rfl) ?_
      refine j_q (qs_lss rfl rfl) ?_
      refine j_g rfl (fun hb => qs_mt rfl) ?_
      refine j_g rfl (fun hb => qs_lss (gd_eq hb) rfl) ?_
      refine j_q (qs_and rfl rfl) ?_
      refine j_g rfl (fun hb => qs_mt rfl) ?_
      refine j_g rfl (fun hb => qs_not (gd_eq hb)) ?_
      refine j_q (qs_and rfl rfl) ?_
      refine j_cond rfl (fun hc2 => ?_) (fun hc2 => ?_)
      · skip
        have hb2 : (i < rs.length ∧ i < 100) ∧ bk = false := by
          cases bk with
          | true => simp [gd] at hc2
          | false =>
            simp [gd] at hc2
            exact ⟨⟨hc2.1, by omega⟩, rfl⟩
        obtain ⟨⟨hi1, hi2⟩, rfl⟩ := hb2
        obtain ⟨rfl, rfl, hd, hroom, hpi⟩ := hb0 rfl
        obtain ⟨rfl, hgs, hcl⟩ := hA (by omega)
        obtain ⟨_, _, hxb, hxl⟩ := script_ok hs hi1
        obtain ⟨bA, bcp, hbf, _⟩ := br_form hxb
        have hone : ∀ v ∈ encJ (rs.getD i SJ0), oneV v = true := by
          intro v hv
          simp only [encJ, List.mem_cons, List.not_mem_nil, or_false] at hv
          rcases hv with rfl | rfl | rfl
          · rfl
          · rfl
          · rw [hbf]
            rfl
        have hsx := hhv9 (i + 1) hi1 hi2
        rw [sumX_succ hi1] at hsx
        rw [show j0.ptr = j.ptr from by rw [JM.ptr, JM.ptr, hgj]]
        have hpq : (.pointer (some ⟨g21, 0, none⟩) : Value) = q.ptr := by rw [WM.ptr, hgq]
        rw [hpq]
        refine j_subl (S' := [j.heap, r.heap, q.heap]) (by repeat first | exact slR _ | exact slN _ | apply slC | apply slD) ?_
        refine j_q (qs_ixn (g := g) (off := off) (n := rs.length) (c := cap) (i := i) Tryz.underlying22 sz41 rfl rfl hi1) ?_
        refine j_q (qs_loadrecw (encA := encJ) (rs := rs) (d := SJ0) (i := i) encJ_len (rd_cells hcl (by simp)) hi1 Tryz.underlying41 rfl sz41 rfl) ?_
        refine j_alloc zero41 (fun g36 hg36 hs36 => ?_)
        refine j_storew 0 sz41 rfl rfl rfl hone rfl rfl ?_
        refine j_perm (S' := [[(g36, .cells (encJ (rs.getD i SJ0)).toArray 41 (0, 0))], j.heap, r.heap, q.heap]) (by simp [encJ]) ?_
        refine j_q (qs_field Tryz.underlying41 rfl sz3 (by decide) rfl) ?_
        refine j_q (qs_load (l := encJ (rs.getD i SJ0)) 0 Tryz.underlying3 rfl rfl rfl rfl) ?_
        refine j_q (qs_eql rfl rfl) ?_
        refine j_cond rfl (fun hc3 => ?_) (fun hc3 => ?_)
        · skip
          refine j_q (qs_field Tryz.underlying41 rfl sz39 (by decide) rfl) ?_
          refine j_q (qs_load (l := encJ (rs.getD i SJ0)) 0 Tryz.underlying39 rfl rfl rfl rfl) ?_
          have hmj : mayJ a = 0 := by
            unfold mayJ
            rw [hd]
            rfl
          have hsz0 := hpi.sz
          have hln0 := hpi.ln
          refine j_call 1 ent16 rfl rfl rfl rfl (fun w' hw' => jadd_con j a _ (rs.getD i SJ0).xs w' hj (br0 hxb hw') (base_sep hxb hw' 1 rfl) (by omega) (by omega)) (fun u S2 hu => ?_)
          obtain ⟨rfl, j1, rfl, hj1, hgj1, hpj1⟩ := hu
          rw [hmj]
          refine j_subl (S' := [j1.heap, [(g36, .cells (encJ (rs.getD i SJ0)).toArray 41 (0, 0))], r.heap, q.heap]) (by repeat first | exact slR _ | exact slN _ | apply slC | apply slD) ?_
          refine j_q (qs_eql rfl rfl) ?_
          refine j_cond rfl (fun hc4 => ?_) (fun hc4 => ?_)
          · skip
            refine j_q (qs_field Tryz.underlying41 rfl sz39 (by decide) rfl) ?_
            refine j_q (qs_load (l := encJ (rs.getD i SJ0)) 1 Tryz.underlying39 rfl rfl rfl rfl) ?_
            refine j_call 3 ent17 rfl rfl rfl rfl (fun w' hw' => wadd_con q a.gs a.down (rs.getD i SJ0).bv (rs.getD i SJ0).xs w' hq (br0 hxb hw') (base_sep hxb hw' 3 rfl) (by omega) (by omega)) (fun u S2 hu => ?_)
            obtain ⟨rfl, q1, rfl, hq1, hgq1⟩ := hu
            refine j_subl (S' := [q1.heap, j1.heap, r.heap]) (by repeat first | exact slR _ | exact slN _ | apply slC | apply slD) ?_
            refine j_perm (S' := [j1.heap, r.heap, q1.heap, []]) (by
              classical
              refine List.perm_iff_count.2 fun x => ?_
              simp only [List.set, List.flatten_cons, List.flatten_nil, List.append_nil, List.nil_append, List.cons_append, List.count_append, List.count_cons, List.count_nil]
              all_goals omega) ?_
            rw [show j.ptr = j1.ptr from by rw [JM.ptr, JM.ptr, hgj1]]
            refine j_q (qs_add64 rfl rfl (by first | omega | (simp only [bnA] at *; omega))) ?_
            refine j_back rfl ?_
            have e9 : addJ a (rs.getD i SJ0).xs = { a with down := a.down ++ [(rs.getD i SJ0).xs] } := JA.add_eq hd _
            exact ⟨_, by omega, i + 1, j1, r, q1, addJ a (rs.getD i SJ0).xs, f, nilS, [], false, [], rfl, rfl, hj1, hr, hpj1.trans hjf, hgj1.trans hgj, by rw [e9]; exact hq1, fun _ => ⟨rfl, rfl, by rw [e9]; exact hd, hroom, by rw [sumX_succ hi1]; exact hpi.add _⟩, (fun h => by cases h), hgr, hgq1.trans hgq, hi1, hi2, rfl⟩
          · skip
            simp at hc4
        · skip
          refine j_q (qs_eql rfl rfl) ?_
          refine j_cond rfl (fun hc5 => ?_) (fun hc5 => ?_)
          · skip
            refine j_q (qs_nil rfl) ?_
            refine j_q (qs_field Tryz.underlying36 rfl sz34 (by decide) rfl) ?_
            refine j_perm (S' := [[(g36, .cells (encJ (rs.getD i SJ0)).toArray 41 (0, 0))], j.heap, r.heap, [(q.g, q.obj)], q.n.heap, q.d.heap]) (by simp [WM.heap]) ?_
            refine j_q (qs_load (l := [q.n.v, q.d.v]) 3 Tryz.underlying34 rfl rfl rfl rfl) ?_
            obtain ⟨hrA, hrB, _⟩ := comA_room a f i
            have hlim := hpi.lim (by omega)
            have hsz0 := hpi.sz
            refine j_subl (S' := [j.heap, r.heap, [(q.g, q.obj)], q.n.heap, q.d.heap]) (by repeat first | exact slR _ | exact slN _ | apply slC | apply slD) ?_
            refine j_perm (S' := [j.heap ++ r.heap, [(q.g, q.obj)], q.n.heap, q.d.heap]) (by simp) ?_
            refine j_call 0 ent18 rfl rfl rfl rfl (fun w' hw' => jcomU_con j a r f i w' hj hr hjf (fun _ hdn => hpi.comOk (by omega) (by omega) (used_pos hr) hdn (by decide) (by rw [hroom]; omega)) (hP.keep hw' (by simp)) (zero_out hw' hP.1 (k := 0) rfl)) (fun u S2 hu => ?_)
            obtain ⟨rfl, j1, r2, rfl, hj1, hr2, hgj1, hpj1, hgr2⟩ := hu
            rw [show j.ptr = j1.ptr from by rw [JM.ptr, JM.ptr, hgj1]]
            refine j_subl (S' := [j1.heap, r2.heap, [(q.g, q.obj)], q.n.heap, q.d.heap]) (by repeat first | exact slR _ | exact slN _ | apply slC | apply slD) ?_
            refine j_q (qs_eql rfl rfl) ?_
            refine j_cond rfl (fun hc6 => ?_) (fun hc6 => ?_)
            · skip
              have hce : comE a f i = 0 := by simpa using hc6
              obtain ⟨hcg, hcd, hcx⟩ := comJ_gs hce
              refine j_perm (S' := [j1.heap, r2.heap, q.heap]) (by simp [WM.heap]) ?_
              refine j_call 2 ent19 rfl rfl rfl rfl (fun w' hw' => wcomU_con q a.gs a.down w' hq (by omega) (by have := hlim.1; omega) (fun g hg => by have := (hlim.2 g hg).1; omega)) (fun u S2 hu => ?_)
              obtain ⟨rfl, q1, rfl, hq1, hgq1⟩ := hu
              refine j_subl (S' := [q1.heap, j1.heap, r2.heap]) (by repeat first | exact slR _ | exact slN _ | apply slC | apply slD) ?_
              refine j_perm (S' := [j1.heap, r2.heap, q1.heap, []]) (by
                classical
                refine List.perm_iff_count.2 fun x => ?_
                simp only [List.set, List.flatten_cons, List.flatten_nil, List.append_nil, List.nil_append, List.cons_append, List.count_append, List.count_cons, List.count_nil]
                all_goals omega) ?_
              refine j_q (qs_add64 rfl rfl (by first | omega | (simp only [bnA] at *; omega))) ?_
              refine j_back rfl ?_
              exact ⟨_, by omega, i + 1, j1, r2, q1, comJ a f i, comA a f i, nilS, [], false, [], rfl, rfl, hj1, hr2, (hpj1.trans hjf).trans (by rw [FR.ptr, FR.ptr, hgr2]), hgj1.trans hgj, by rw [hcg, hcd]; exact hq1, fun _ => ⟨rfl, rfl, hcx, hrA.trans hroom, by rw [sumX_succ hi1]; exact (hpi.com (by omega) (by omega) hce).le (Nat.le_add_right _ _)⟩, (fun h => by cases h), hgr2.trans hgr, hgq1.trans hgq, hi1, hi2, rfl⟩
            · skip
              have hce : comE a f i ≠ 0 := by simpa using hc6
              have hce26 : comE a f i = 26 := (comE_01 a f i).resolve_left hce
              obtain ⟨hcg, hcd⟩ := comJ_26 hce
              have hbrk := hpi.brkCom hi2 (by omega) hd hce
              refine j_q (qs_neq rfl rfl) ?_
              rw [hce26, show ((26 : Int) != 6) = true from rfl]
              refine j_cond rfl (fun hc7 => ?_) (fun hc7 => ?_)
              · skip
                refine j_q (qs_ac) ?_
                refine j_lit (vs := []) Tryz.underlying33 sz34 zero34 rfl (by simp [oneV]) ⟨rfl, by decide⟩ (fun g60 v60 c60 hv60 hc60 ho60 => ?_)
                subst hv60 hc60
                refine j_q (qs_nil rfl) ?_
                refine j_q (qs_field Tryz.underlying36 rfl sz33 (by decide) rfl) ?_
                obtain ⟨A63, cap63, hv63, _⟩ := hq.n.form
                have hgl : q.n.L.length ≤ 100 := by
                  have h9 : q.n.gs.length = q.n.L.length := List.length_map _
                  rw [← h9, hq.gs]
                  exact hlim.1
                refine j_perm (S' := [[(q.g, q.obj)], [(g60, .cells #[] 34 (0, 0))], j1.heap, r2.heap, q.n.c, q.n.lf, q.d.heap]) (by
                  have e : q.n.heap = q.n.c ++ q.n.lf := rfl
                  rw [e]
                  classical
                  refine List.perm_iff_count.2 fun x => ?_
                  simp only [List.set, List.flatten_cons, List.flatten_nil, List.append_nil, List.nil_append, List.cons_append, List.count_append, List.count_cons, List.count_nil]
                  all_goals omega) ?_
                refine j_q (qs_load (l := [q.n.v, q.d.v]) (v := .slice A63 q.n.L.length cap63) 0 Tryz.underlying33 rfl rfl rfl (congrArg some hv63)) ?_
                have hrow0 := hq.n.row
                rw [hv63] at hrow0
                obtain ⟨A65, cap65, hv65, _⟩ := hq.d.form
                refine j_append 1 Tryz.underlying33 Tryz.underlying33 (.inr ⟨_, rfl⟩) sb34 zero34 rfl ho60 rfl (own_src1 hrow0 4 rfl) hq.n.one ⟨(by simp only [List.length_map, List.length_nil]; omega), (by decide)⟩ (fun v64 c64 ho64 => ?_)
                rw [List.nil_append] at ho64
                obtain ⟨n64, A64, cap64, rfl, hn64⟩ := own_form ho64 (by decide)
                refine j_lit (vs := [q.d.v]) Tryz.underlying33 sz34 zero34 rfl (by simp [oneV, hv65]) ⟨rfl, by decide⟩ (fun g65 v65 c65 hv65 hc65 ho65 => ?_)
                subst hv65 hc65
                refine j_append 2 Tryz.underlying33 Tryz.underlying33 (.inr ⟨_, rfl⟩) sb34 zero34 rfl ho64 rfl (.inl ⟨_, _, rfl, rd_own (off := 0) (n := 1) 0 rfl rfl, rfl⟩) (by simp [oneV, hv65]) ⟨(by simp only [List.length_map, List.length_append, List.length_nil]; simp; omega), (by decide)⟩ (fun v66 c66 ho66 => ?_)
                refine j_subl (S' := [[(q.g, q.obj)], c66, j1.heap, r2.heap, q.n.c, q.n.lf, q.d.heap]) (by repeat first | exact slR _ | exact slN _ | apply slC | apply slD) ?_
                refine j_perm (S' := [j1.heap, r2.heap, q.heap, c66]) (by
                  have e : q.heap = (q.g, q.obj) :: ((q.n.c ++ q.n.lf) ++ q.d.heap) := rfl
                  rw [e]
                  classical
                  refine List.perm_iff_count.2 fun x => ?_
                  simp only [List.set, List.flatten_cons, List.flatten_nil, List.append_nil, List.nil_append, List.cons_append, List.count_append, List.count_cons, List.count_nil]
                  all_goals omega) ?_
                refine j_q (qs_add64 rfl rfl (by first | omega | (simp only [bnA] at *; omega))) ?_
                refine j_back rfl ?_
                exact ⟨_, by omega, i + 1, j1, r2, q, comJ a f i, comA a f i, v66, c66, true, a.gs ++ [a.down], rfl, rfl, hj1, hr2, (hpj1.trans hjf).trans (by rw [FR.ptr, FR.ptr, hgr2]), hgj1.trans hgj, by rw [hcg, hcd]; exact hq, (fun h => by cases h), fun _ => ⟨by rw [hcg]; exact hbrk, fun w' h1 h2 => by
                  rw [← hq.gs, ← hq.dn]
                  exact NR.snoc_seen hq.n hq.d ho66 h2 (fun z hz => h1 z (List.mem_cons_of_mem _ (List.mem_append_left _ hz))) (fun z hz => h1 z (List.mem_cons_of_mem _ (List.mem_append_right _ hz)))⟩, hgr2.trans hgr, hgq, hi1, hi2, rfl⟩
              · skip
                simp at hc7
          · skip
            refine j_q (qs_eql rfl rfl) ?_
            refine j_cond rfl (fun hc8 => ?_) (fun hc8 => ?_)
            · skip
              obtain ⟨hrA, hrB⟩ := resA_room a f i
              refine j_subl (S' := [j.heap, r.heap, q.heap]) (by repeat first | exact slR _ | exact slN _ | apply slC | apply slD) ?_
              refine j_perm (S' := [j.heap ++ r.heap, q.heap]) (by simp) ?_
              refine j_call 0 ent20 rfl rfl rfl rfl (fun w' hw' => jreset_con j a r f i w' hj hr hjf hd (hpi.resOk (by omega) (used_pos hr) ⟨by decide, by decide⟩ (by rw [hroom]; omega)) (fun n hn => namesA_ok hr hn)) (fun u S2 hu => ?_)
              obtain ⟨rfl, j1, r2, rfl, hj1, hr2, hgj1, hpj1, hgr2⟩ := hu
              rw [show j.ptr = j1.ptr from by rw [JM.ptr, JM.ptr, hgj1]]
              refine j_subl (S' := [j1.heap, r2.heap, q.heap]) (by repeat first | exact slR _ | exact slN _ | apply slC | apply slD) ?_
              refine j_q (qs_eql rfl rfl) ?_
              refine j_cond rfl (fun hc9 => ?_) (fun hc9 => ?_)
              · skip
                have hre : resE a f i = 0 := by simpa using hc9
                have hrj := resJ_0 hre
                refine j_q (qs_nil rfl) ?_
                refine j_q (qs_field Tryz.underlying36 rfl sz33 (by decide) rfl) ?_
                refine j_perm (S' := [j1.heap, r2.heap, [(q.g, q.obj)], q.n.heap, q.d.c, q.d.lf]) (by simp [WM.heap, RR.heap]) ?_
                refine j_store (l := [q.n.v, q.d.v]) 2 sz33 rfl rfl rfl rfl (by simp) (by simp) ?_
                refine j_subl (S' := [j1.heap, r2.heap, [(q.g, .cells [nilS, q.d.v].toArray 36 (0, 0))], q.d.c, q.d.lf]) (by repeat first | exact slR _ | exact slN _ | apply slC | apply slD) ?_
                refine j_perm (S' := [j1.heap, r2.heap, WM.heap ⟨q.g, ⟨nilS, [], []⟩, q.d⟩, []]) (by
                  have h9 := wm_nil q
                  classical
                  refine List.perm_iff_count.2 fun x => ?_
                  have h8 := List.perm_iff_count.1 h9 x
                  simp only [List.set, List.flatten_cons, List.flatten_nil, List.append_nil, List.nil_append, List.cons_append, List.count_append, List.count_cons, List.count_nil] at h8 ⊢
                  all_goals omega) ?_
                refine j_q (qs_add64 rfl rfl (by first | omega | (simp only [bnA] at *; omega))) ?_
                refine j_back rfl ?_
                exact ⟨_, by omega, i + 1, j1, r2, ⟨q.g, ⟨nilS, [], []⟩, q.d⟩, resJ a f i, resA a f i, nilS, [], false, [], rfl, rfl, hj1, hr2, (hpj1.trans hjf).trans (by rw [FR.ptr, FR.ptr, hgr2]), hgj1.trans hgj, by rw [hrj]; exact ⟨nr0, hq.d, rfl, hq.dn⟩, fun _ => ⟨rfl, rfl, by rw [hrj]; exact hd, hrA.trans hroom, by rw [sumX_succ hi1]; exact (hpi.res (by omega) hre).le (Nat.le_add_right _ _)⟩, (fun h => by cases h), hgr2.trans hgr, hgq, hi1, hi2, rfl⟩
              · skip
                have hre : resE a f i ≠ 0 := by simpa using hc9
                have hre26 : resE a f i = 26 := (resE_01 a f i).resolve_left hre
                obtain ⟨hrg, hrd⟩ := resJ_26 hre
                have hbrk := hpi.brkRes hi2 hre
                refine j_q (qs_neq rfl rfl) ?_
                rw [hre26, show ((26 : Int) != 6) = true from rfl]
                refine j_cond rfl (fun hc10 => ?_) (fun hc10 => ?_)
                · skip
                  refine j_q (qs_ac) ?_
                  refine j_q (qs_ac) ?_
                  refine j_q (qs_add64 rfl rfl (by first | omega | (simp only [bnA] at *; omega))) ?_
                  refine j_perm (S' := [j1.heap, r2.heap, q.heap, []]) (by
                    classical
                    refine List.perm_iff_count.2 fun x => ?_
                    simp only [List.set, List.flatten_cons, List.flatten_nil, List.append_nil, List.nil_append, List.cons_append, List.count_append, List.count_cons, List.count_nil]
                    all_goals omega) ?_
                  refine j_back rfl ?_
                  exact ⟨_, by omega, i + 1, j1, r2, q, resJ a f i, resA a f i, nilS, [], true, [], rfl, rfl, hj1, hr2, (hpj1.trans hjf).trans (by rw [FR.ptr, FR.ptr, hgr2]), hgj1.trans hgj, by rw [hrg, hrd]; exact hq, (fun h => by cases h), fun _ => ⟨by rw [hrg]; exact hbrk, fun w' _ _ => seen_nil w'⟩, hgr2.trans hgr, hgq, hi1, hi2, rfl⟩
                · skip
                  simp at hc10
            · skip
              refine j_q (qs_add64 rfl rfl (by first | omega | (simp only [bnA] at *; omega))) ?_
              refine j_subl (S' := [j.heap, r.heap, q.heap]) (by repeat first | exact slR _ | exact slN _ | apply slC | apply slD) ?_
              refine j_perm (S' := [j.heap, r.heap, q.heap, []]) (by
                classical
                refine List.perm_iff_count.2 fun x => ?_
                simp only [List.set, List.flatten_cons, List.flatten_nil, List.append_nil, List.nil_append, List.cons_append, List.count_append, List.count_cons, List.count_nil]
                all_goals omega) ?_
              refine j_back rfl ?_
              exact ⟨_, by omega, i + 1, j, r, q, a, f, nilS, [], false, [], rfl, rfl, hj, hr, hjf, hgj, hq, fun _ => ⟨rfl, rfl, hd, hroom, by rw [sumX_succ hi1]; exact hpi.up (Nat.le_add_right _ _)⟩, (fun h => by cases h), hgr, hgq, hi1, hi2, rfl⟩
      · skip
        have hpr : r0.ptr = r.ptr := by simp only [FR.ptr, hgr]
        have hpq : (.pointer (some ⟨g21, 0, none⟩) : Value) = q.ptr := by rw [WM.ptr, hgq]
        rw [hpr, hpq]
        refine j_call 1 ent21 rfl rfl rfl rfl (fun w' hw' => crashG_con r f keep w' hr) (fun u S2 hu => ?_)
        obtain ⟨r5, rfl, hr5, hgr5⟩ := hu
        refine j_subl (S' := [r5.heap, q.heap, mc]) (by repeat first | exact slR _ | exact slN _ | apply slC | apply slD) ?_
        have hout : ∃ gsO agO, JS logN agO gsO (crashF f keep).now ∧ limG gsO ∧ agO < 10000 ∧ (gsO = a.gs ∨ (bk = true ∧ gsO = mg)) := by
          cases bk with
          | false =>
            obtain ⟨_, _, hd, hroom, hpi⟩ := hb0 rfl
            have h9 := (AllF.now (hpi.ji.crash keep)).1
            rw [show ({ a with down := [] } : JA).name = logN from hpi.nm] at h9
            have hag := hpi.ag
            exact ⟨a.gs, a.age, h9, hpi.lim (by omega), by omega, .inl rfl⟩
          | true =>
            obtain ⟨⟨ag1, ag2, ha1, ha2, hl1, hl2, hall⟩, _⟩ := hb1 rfl
            rcases (AllF.crash hall keep).now with h9 | h9
            · exact ⟨a.gs, ag1, h9, hl1, ha1, .inl rfl⟩
            · exact ⟨mg, ag2, h9, hl2, ha2, .inr ⟨rfl, rfl⟩⟩
        obtain ⟨gsO, agO, hjs, hlo, hao, hcase⟩ := hout
        rw [show r.ptr = r5.ptr from by rw [FR.ptr, FR.ptr, hgr5]]
        refine j_call0 ent10 rfl rfl rfl (fun w' hw' => open_con r5 (crashF f keep) logN agO gsO w' (in_own hw' 0 rfl) hr5 hjs hlo hao (by decide) (by decide) (hP.keep hw' (by simp))) (fun u S2 hu => ?_)
        obtain ⟨j5, rfl, rfl, hj5, hjf5⟩ := hu
        refine j_q (qs_ext rfl rfl) ?_
        refine j_q (qs_ext rfl rfl) ?_
        refine j_q (qs_neq rfl rfl) ?_
        rw [show ((0 : Int) != 0) = false from rfl]
        refine j_gt rfl (qs_mt rfl) ?_
        refine j_gt rfl (qs_pnil Tryz.underlying29 rfl) ?_
        refine j_q (qs_or rfl rfl) ?_
        refine j_cond rfl (fun hc11 => ?_) (fun hc11 => ?_)
        · skip
          simp at hc11
        · skip
          refine j_subl (S' := [j5.heap, q.heap, mc]) (by repeat first | exact slR _ | exact slN _ | apply slC | apply slD) ?_
          refine j_perm (S' := [j5.heap, [(q.g, q.obj)], q.n.heap, q.d.heap, mc]) (by simp [WM.heap]) ?_
          refine j_mix [[(q.g, q.obj)]] (Le.of_sub (by repeat first | exact slR _ | exact slN _ | apply slC | apply slD)) ?_
          refine j_mq (qs_nil rfl) ?_
          refine j_mq (qs_field Tryz.underlying36 rfl sz33 (by decide) rfl) ?_
          refine j_mq (qs_load (l := [q.n.v, q.d.v]) 0 Tryz.underlying33 rfl rfl rfl rfl) ?_
          refine j_call0 ent12 rfl rfl rfl (fun w' hw' => jgroups_con j5 _ w' (in_own hw' 0 rfl) hj5 hlo) (fun u S2 hu => ?_)
          obtain ⟨n, rfl, rfl, hn, hng⟩ := hu
          have hng1 : ∀ g ∈ n.gs, g.length ≤ 1000000 ∧ ∀ z ∈ g, z.length ≤ 1000000 := fun g hg => by
            rw [hng] at hg
            have h9 := hlo.2 g hg
            exact ⟨by have := h9.1; omega, fun z hz => by have := sizeR_get hz; have := h9.2; omega⟩
          have hngl : n.gs.length ≤ 100 := by rw [hng]; exact hlo.1
          refine j_mD0 (Le.of_sub (by repeat first | exact slR _ | exact slN _ | apply slC | apply slD)) ?_
          refine j_call0 ent13 rfl rfl rfl (fun w' hw' => groups_con n.gs q.n.gs n.v q.n.v w' (hn.seen (fun z hz => by
            rcases List.mem_append.1 hz with h | h
            · exact in_own hw' 0 rfl z h
            · exact in_own hw' 1 rfl z h)) (hq.n.seen (in_own hw' 4 rfl)) (by omega) hng1) (fun u S2 hu => ?_)
          obtain ⟨b1, rfl, hbb⟩ := hu
          refine j_subl (S' := [n.c, n.lf, j5.heap, [(q.g, q.obj)], q.n.heap, q.d.heap, mc]) (List.sublist_append_right _ _) ?_
          have hbc : b1 = true ∨ (b1 = false ∧ bk = true ∧ gsO = mg) := by
            rcases hcase with h | ⟨h1, h2⟩
            · exact .inl (hbb ((hng.trans h).trans hq.gs.symm))
            · cases b1
              · exact .inr ⟨rfl, h1, h2⟩
              · exact .inl rfl
          rcases hbc with rfl | ⟨rfl, rfl, hgm⟩
          · skip
            refine j_mR _ (.refl _) ?_
            refine j_mgn (by show Value.bool true ≠ _; simp) ?_
            refine j_mgn (by show Value.bool true ≠ _; simp) ?_
            refine j_mgn (by show undef ≠ _; simp [undef]) ?_
            refine j_mgn (by show undef ≠ _; simp [undef]) ?_
            refine j_gn (by show undef ≠ _; simp [undef]) ?_
            refine j_mD0 (Le.of_sub (by repeat first | exact slR _ | exact slN _ | apply slC | apply slD)) ?_
            refine j_gn (by show undef ≠ _; simp [undef]) ?_
            refine j_mR _ (.refl _) ?_
            refine j_mgn (by show Value.bool true ≠ _; simp) ?_
            refine j_mq (v := .bool true) (qs_or (b0 := true) (b1 := true) rfl rfl) ?_
            refine j_gt rfl (qs_call ent8 rfl rfl rfl (fun w' hw' => known_con w' (hP.keep hw' (by simp)))) ?_
            refine j_mR _ (.refl _) ?_
            refine j_mq (v := .bool true) (qs_and (b0 := true) (b1 := true) rfl rfl) ?_
            refine j_mend ?_
            refine j_ret_con (vs := [_]) (fun w' hw' => ⟨rfl, trivial⟩) ?_
            rfl
          · skip
            refine j_mR _ (.refl _) ?_
            refine j_mgt rfl (qs_mt rfl) ?_
            refine j_mgt rfl (qs_mt rfl) ?_
            refine j_mgt rfl (qs_mt rfl) ?_
            refine j_mgt rfl (qs_mt rfl) ?_
            refine j_ga rfl ?_
            refine j_call0 ent12 rfl rfl rfl (fun w' hw' => jgroups_con j5 _ w' (in_own hw' 2 rfl) hj5 hlo) (fun u S2 hu => ?_)
            obtain ⟨n2, rfl, rfl, hn2, hng2⟩ := hu
            refine j_mD0 (Le.of_sub (by repeat first | exact slR _ | exact slN _ | apply slC | apply slD)) ?_
            refine j_ga rfl ?_
            refine j_call0 ent13 rfl rfl rfl (fun w' hw' => groups_con n2.gs mg n2.v mv w' (hn2.seen (fun z hz => by
              rcases List.mem_append.1 hz with h | h
              · exact in_own hw' 0 rfl z h
              · exact in_own hw' 1 rfl z h)) ((hb1 rfl).2 w' (WM.in_all hw' (k1 := 5) (k2 := 6) (k3 := 7) rfl rfl rfl) (in_own hw' 8 rfl)) (by rw [hng2]; have := hlo.1; show gsO.length ≤ _; omega) (by rw [hng2, ← hng]; exact hng1)) (fun u S2 hu => ?_)
            obtain ⟨b2, rfl, hbb2⟩ := hu
            rw [hbb2 (hng2.trans hgm)]
            refine j_mR _ (.refl _) ?_
            refine j_mgt rfl (qs_and (b0 := true) (b1 := true) rfl rfl) ?_
            refine j_mq (v := .bool true) (qs_or (b0 := false) (b1 := true) rfl rfl) ?_
            refine j_gt rfl (qs_call ent8 rfl rfl rfl (fun w' hw' => known_con w' (hP.keep hw' (by simp)))) ?_
            refine j_mR _ (.refl _) ?_
            refine j_mq (v := .bool true) (qs_and (b0 := true) (b1 := true) rfl rfl) ?_
            refine j_mend ?_
            refine j_ret_con (vs := [_]) (fun w' hw' => ⟨rfl, trivial⟩) ?_
            rfl
theorem journalWhole_con (rs : List SJ) (vl : Value) (fuse keep : Int) (w : World) (hs : Script w vl rs) (_ : rs.length ≤ 4611686018427387903) (_ : -9223372036854775808 ≤ fuse ∧ fuse ≤ 9223372036854775807) (_ : -9223372036854775808 ≤ keep ∧ keep ≤ 9223372036854775807) (hP : P10 w) : Con Tryz.prog 4 [vl, .int .i64 fuse, .int .i64 keep] w [] fun u _ => u = .bool true := jWhole_con rs vl fuse keep w hs hP
end Go.Proofs.YtomajiicjinekaaGreatDoor
/-! RowW -/
namespace Go.Proofs.YtomajiicjinekaaGreatDoor
open Go Go.Sx Go.ChangeShapes Go.WideShapes Go.ChangeAt Go.RowKit
set_option linter.unusedVariables false
theorem own_journalWhole : ownKnob Tryz.prog.godebug = none := by kernel_rfl
theorem laid_journalWhole : laidOutB Tryz.prog = true := by kernel_rfl
set_option maxRecDepth 100000 in
theorem door_met_journalWhole (os : Os) (args : Array Value) : laidMetH Tryz.prog Rows.journalWholeRow.laid ((World.doorLaid Tryz.prog 400 os).forCall (fun _ _ => 0) ⟨#[], args, []⟩).memory := by
  rw [MakeChecks.laidMetH_plain _ _ _ (by kernel_rfl)]
  exact laidMet_of_run' 8 (by kernel_rfl) (by kernel_rfl)
theorem p10_of_laid_journalWhole {W : World} (h : laidMetH Tryz.prog Rows.journalWholeRow.laid W) : P10 W := by
  rw [MakeChecks.laidMetH_plain _ _ _ (by kernel_rfl)] at h
  have h3 : Lib.TabIs Tryz.prog W "internal/strconv.uint64pow10" .u64 p10 := Lib.tabIs_of_head (t := 164) (e := 59) (n := 20) (g := 0) (by kernel_rfl) (by kernel_rfl) Tryz.underlying164 Tryz.underlying59 (by kernel_rfl) (by kernel_rfl) (rest := []) h.tail.tail
  have hc : ∀ i, i < 20 → W.cell? ⟨0, i, none⟩ = some (.int .u64 (p10.getD i 0)) := fun i hi => h3.cell (by kernel_rfl) i hi
  refine ⟨?_, fun j u hu => ?_⟩
  · have h0 := hc 0 (by decide)
    unfold World.cell? at h0
    by_cases hz : 0 < W.heap.size
    · exact hz
    · rw [Array.getElem?_eq_none (by simp only []; omega)] at h0
      cases h0
  · obtain ⟨hj, rfl⟩ := List.getElem?_eq_some_iff.1 hu
    have hj' : j < 20 := by rw [ks_length] at hj; exact hj
    rw [add_off, Nat.zero_add, hc j hj']
    have := ks_get (k := .u64) (l := p10) (i := j) hj'
    rw [← this, List.getElem?_eq_getElem hj]
set_option maxRecDepth 100000 in
theorem journalWhole_lifted (os : Os) (started : os.Started) (H : Type) (enc : TypeId × Value → H) :
    ReturnsInHanded {} Tryz.checked os 4 .any (fun w args => (Rows.journalWholeSpec.pre enc Tryz.prog Tryz.f4 [] false w args ∧ laidMetH Tryz.prog Rows.journalWholeRow.laid w) ∧ sizedMet enc Tryz.prog Tryz.f4 (OpenSpec.ofChange Rows.journalWholeSpec) false w args) (Rows.journalWholeSpec.post enc Tryz.prog Tryz.f4 false true false false) := by
  refine returnsInHanded_of_change_and (C := Tryz.checked) (X := fun w _ => laidMetH Tryz.prog Rows.journalWholeRow.laid w) (fun _ _ _ hh h => h.of_heap hh) own_journalWhole started (by kernel_rfl) Tryz.func4
    (ChangeSpec.witness_shaped (enc := enc) (C := Tryz.checked) (os := os) (X := fun w _ => laidMetH Tryz.prog Rows.journalWholeRow.laid w) false (World.doorLaid Tryz.prog 400 os) #[.slice none 0 0, .int .i64 0, .int .i64 0] 8 rfl (World.shaped_of_RefB (by kernel_rfl) (by kernel_rfl)) (by kernel_rfl) (by kernel_rfl) (by kernel_rfl) (door_met_journalWhole os _)) ?_
  intro W base args ds gs before hval0 hW hcnd hsz0 hL _
  have hsz : (DataW.weightsEach Tryz.prog (Tryz.f4.params.toList ++ Rows.journalWholeSpec.plain.varTypes Tryz.prog) (ds ++ gs)).all (· ≤ reachBytes) = true := hsz0
  have hreach : reachBytes = 140737488351232 := rfl
  have hval : ∀ (j : Nat) t v, Tryz.f4.params[j]? = some t → args[j]? = some v → Value.okWide Tryz.prog W .any base t v := hval0
  have hW' := hW
  obtain ⟨p, q, hA0, hV, rfl, hfz, hnd⟩ := hW
  have hA : DataW.TrodAll enc Tryz.prog W 0 (fun _ => true) true Tryz.f4.params.toList args.toList ds p := hA0
  rw [Tryz.params4] at hA hval
  obtain ⟨v0, v1, v2, d0, d1, d2, p0, p1, p2, rfl, rfl, rfl, h0, h1, h2⟩ := trodAll_three hA
  obtain ⟨rfl, rfl⟩ := trodVars_none hV
  obtain ⟨a0, wa0_0, wa0_1⟩ := open_script (hval 0 22 v0 rfl rfl) h0 (weights_at hsz (j := 0) (t := 22) (by rw [Tryz.params4]; rfl) rfl)
  obtain ⟨a1, rfl, rfl, rfl, wa1⟩ := open_int Tryz.underlying3 (hval 1 3 v1 rfl rfl) h1
  obtain ⟨a2, rfl, rfl, rfl, wa2⟩ := open_int Tryz.underlying3 (hval 2 3 v2 rfl rfl) h2
  clear hA0 hval0
  have hP := p10_of_laid_journalWhole hL
  have hc := journalWhole_con a0 v0 a1 a2 W wa0_0 wa0_1 (int_wf wa1) (int_wf wa2) hP (by simp) (by simp)
  refine hc.mono fun e W' h => ?_
  obtain ⟨v, S', rfl, rfl, hS⟩ := h
  exact ⟨_, rfl, post_law hW' rfl rfl laid_journalWhole (by decide +kernel) rfl Tryz.underlying4 (below_of_sig hS)⟩
theorem journalWhole_holds : Rows.JournalWholeSaid :=
  OpenClaim.holds_of_wide 4 Tryz.f4 rfl rfl rfl rfl rfl rfl rfl ⟨rfl, rfl, rfl, rfl, rfl⟩ rfl rfl rfl rfl rfl (by kernel_rfl) Tryz.func4 (by kernel_rfl)
    (of_decide_eq_true (by kernel_rfl)) (by unfold Func.isWrapper; first | (rw [if_pos (by decide +kernel)]; kernel_rfl) | (rw [if_neg (by decide +kernel)]; exact ⟨rfl, rfl⟩))
    (fun os started H enc _ => journalWhole_lifted os started H enc)
theorem journalWholeCard_holds : Rows.JournalWholeCardSaid :=
  Claim7.holds_tied_plain_at .later [] [.data, .data, .data] true (true, "977d215e86fb9408077f2dbeaf3a1bea85ca5a5894d8e6e3efd3f1765f63237c") false
    journalWhole_holds (fun _ h => by cases h) (by kernel_rfl) (fun _ h => by cases h) journalWhole_row_tie rfl ⟨rfl, rfl⟩ (by kernel_rfl) rfl
    (fun f fn hf hfn => by
      obtain rfl : f = 4 := Option.some.inj ((show Tryz.prog.funcNamed "pantry/pantrylaw8.JournalWhole" = some 4 by kernel_rfl).symm.trans hf) |>.symm
      obtain rfl : fn = Tryz.f4 := (Option.some.inj (Tryz.func4.symm.trans hfn)).symm
      exact ⟨by kernel_rfl, fun j t ht => by
        rw [Tryz.params4] at ht
        have hm : t ∈ [22,3] := by simpa using Array.mem_of_getElem? ht
        have hall : ([22,3].all fun u => !Tryz.prog.wantsStandIn u) = true := by kernel_rfl
        exact (show Tryz.prog.wantsStandIn t = false by simpa using List.all_eq_true.1 hall t hm)⟩)
    (by kernel_rfl)
end Go.Proofs.YtomajiicjinekaaGreatDoor
