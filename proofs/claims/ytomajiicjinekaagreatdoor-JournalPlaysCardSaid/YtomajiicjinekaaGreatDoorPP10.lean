/- Part 10. -/
import Derived.Test.YtomajiicjinekaaGreatDoorPP9
import Derived.Test.YtomajiicjinekaaGreatDoorPP3
import Derived.Test.YtomajiicjinekaaGreatDoorPP4
import Derived.SliceStrings
import Derived.Lib.SmallJoins
import Derived.SizedLaws
import Derived.Test.YtomajiicjinekaaGreatDoorRows
import Derived.ProofKit
import Derived.LaidMore
import Derived.Lib.LaidTab
import Derived.Stop.LaidErr
import Derived.MakeChecks
import Derived.SevenTiedAt
import Derived.Test.YtomajiicjinekaaGreatDoorCards
import Derived.Test.YtomajiicjinekaaGreatDoorTie
import Derived.Carry
/-! Jn27 -/
namespace Go.Proofs.YtomajiicjinekaaGreatDoor
open Go Go.Sx Go.MapKept Go.WideMaps Go.Maps
set_option maxRecDepth 100000
set_option linter.unusedVariables false
attribute [local irreducible] sum
theorem used_pos {r : FR} {a : AF} (h : r.Ok a) : 0 ≤ a.now.used := by
  obtain ⟨_, ⟨_, _, h1⟩, ⟨_, _, h2⟩⟩ := h.now
  omega
theorem namesA_ok {r : FR} {a : AF} (h : r.Ok a) {p m : List UInt8} (hm : m ∈ namesA a.now p) : strOk m := by
  unfold namesA at hm
  have h1 := (List.mem_filter.1 ((show m ∈ sortS _ ↔ _ by unfold sortS; exact List.mem_mergeSort).1 hm)).1
  obtain ⟨q, hq, rfl⟩ := List.mem_map.1 h1
  obtain ⟨z, hz, rfl⟩ := List.mem_map.1 (h.now.rep.nm.mem_iff.2 hq)
  exact h.now.raw.map.keys (z.1, fptr z.2) (List.mem_map.2 ⟨z, hz, rfl⟩)
theorem grpE_len2 {g : List (List UInt8)} (h : limR g) : (grpE g).length ≤ sizeR g + 440 := by
  have h0 := grpE_lim h
  have h1 := recsE_len (rs := g) fun x hx => Nat.le_trans (sizeR_get hx) h.2
  have h2 := num_len (show g.length < 268435456 by have := h.1; omega)
  have h3 : (bodyE g).length = (num g.length).length + (recsE g).length := by unfold bodyE; rw [List.length_append]
  have h4 := bodyE_lim h
  have h5 := num_len (show (bodyE g).length < 268435456 by omega)
  have h6 : (grpE g).length = (num (bodyE g).length).length + ((bodyE g).length + 32) := by unfold grpE; rw [List.length_append, List.length_append, sum_length]
  have := h.1
  omega
theorem gsE_len2 {gs : List (List (List UInt8))} (h : ∀ g ∈ gs, limR g) : (gsE gs).length ≤ sizeG gs + gs.length * 440 := by
  induction gs with
  | nil => exact Nat.le_refl _
  | cons g gs ih =>
    have h1 := ih fun x hx => h x (List.mem_cons_of_mem _ hx)
    have h2 := grpE_len2 (h g (List.mem_cons_self ..))
    rw [gsE_cons, List.length_append, List.length_cons]
    have h3 : sizeG (g :: gs) = sizeR g + sizeG gs := by unfold sizeG; rw [List.map_cons, List.sum_cons]
    omega
theorem headE_le {n : Nat} (h : n < 268435456) : (headE n).length ≤ 100 := by
  have h2 := num_len h
  have := headE_len n
  omega
structure PI (nm : List UInt8) (i b : Nat) (a : JA) (f : AF) : Prop where
  ji : JI (12600 * (i : Int)) i i a f
  nm : a.name = nm
  sz : sizeG a.gs + sizeR a.down ≤ b
  ln : a.gs.length + a.down.length ≤ i
  gl : ∀ g ∈ a.gs, g.length ≤ 100 ∧ sizeR g ≤ 12000
  ag : a.age ≤ i
  rm : f.room ≤ 1073741824
  pd : f.pend.length ≤ i
theorem PI.lim {nm : List UInt8} {i b : Nat} {a : JA} {f : AF} (h : PI nm i b a f) (hi : i ≤ 100) : limG a.gs := ⟨by have := h.ln; omega, h.gl⟩
theorem PI.limD {nm : List UInt8} {i b : Nat} {a : JA} {f : AF} (h : PI nm i b a f) (hi : i ≤ 100) (hb : b ≤ 12000) : limR a.down := ⟨by have := h.ln; omega, by have := h.sz; omega⟩
theorem PI.comOk {nm : List UInt8} {i b : Nat} {a : JA} {f : AF} (h : PI nm i b a f) (hi : i ≤ 100) (hb : b ≤ 12000) (hu : 0 ≤ f.now.used) (hdn : a.down ≠ []) (hn : nm.length ≤ 100) (hr : 12600 * ((i + 1 : Nat) : Int) ≤ f.room) : ComOk a f i := by
  have hl := h.lim hi
  have hd := h.limD hi hb
  have h1 := h.ln
  have h2 : 1 ≤ a.down.length := by
    cases hx : a.down with
    | nil => exact absurd hx hdn
    | cons x l => rw [List.length_cons]; omega
  obtain ⟨hj, hs, hbd⟩ := AllF.now h.ji
  have hsz := h.sz
  have h3 := gsE_len2 hl.2
  have h4 := grpE_lim hd
  have h5 := h.rm
  have h6 := hbd.us
  have h7 := hbd.nm
  have h8 := h.pd
  have h9 := h.ag
  have h10 := hl.1
  refine ⟨hj, by omega, hl.2, hd, by omega, by omega, h5, ⟨hu, by omega⟩, by omega, by omega, hbd.fresh, by omega, by rw [h.nm]; exact hn⟩
theorem PI.resOk {nm : List UInt8} {i b : Nat} {a : JA} {f : AF} (h : PI nm i b a f) (hi : i ≤ 100) (hu : 0 ≤ f.now.used) (hn : 1 ≤ nm.length ∧ nm.length ≤ 100) (hr : 12600 * ((i + 1 : Nat) : Int) ≤ f.room) : ResOk a f i := by
  obtain ⟨hj, hs, hbd⟩ := AllF.now h.ji
  have h5 := h.rm
  have h6 := hbd.us
  have h7 := hbd.nm
  have h8 := h.pd
  have h9 := h.ag
  refine ⟨by rw [h.nm]; exact hn, by omega, h5, ⟨hu, by omega⟩, by omega, by omega, hbd.fresh⟩
theorem PI.up {nm : List UInt8} {i b b' : Nat} {a : JA} {f : AF} (h : PI nm i b a f) (hb : b ≤ b') : PI nm (i + 1) b' a f :=
  ⟨h.ji.mono (by omega) (Nat.le_succ i) (Nat.le_succ i), h.nm, Nat.le_trans h.sz hb, Nat.le_succ_of_le h.ln, h.gl, Nat.le_succ_of_le h.ag, h.rm, Nat.le_succ_of_le h.pd⟩
theorem PI.le {nm : List UInt8} {i b b' : Nat} {a : JA} {f : AF} (h : PI nm i b a f) (hb : b ≤ b') : PI nm i b' a f := ⟨h.ji, h.nm, Nat.le_trans h.sz hb, h.ln, h.gl, h.ag, h.rm, h.pd⟩
theorem PI.add {nm : List UInt8} {i b : Nat} {a : JA} {f : AF} (h : PI nm i b a f) (xs : List UInt8) : PI nm (i + 1) (b + xs.length) (addJ a xs) f := by
  have h1 := h.up (Nat.le_add_right b xs.length)
  unfold addJ
  split
  · exact h1
  · refine ⟨h1.ji, h1.nm, ?_, ?_, h1.gl, h1.ag, h1.rm, h1.pd⟩
    · show sizeG a.gs + sizeR (a.down ++ [xs]) ≤ _
      rw [sizeR_snoc]
      have := h.sz
      omega
    · show a.gs.length + (a.down ++ [xs]).length ≤ _
      rw [List.length_append, List.length_singleton]
      have := h.ln
      omega
theorem PI.drop {nm : List UInt8} {i b : Nat} {a : JA} {f : AF} (h : PI nm i b a f) : PI nm (i + 1) b { a with down := [] } f := by
  have h1 := h.up (Nat.le_refl b)
  refine ⟨h1.ji, h1.nm, ?_, ?_, h1.gl, h1.ag, h1.rm, h1.pd⟩
  · show sizeG a.gs + sizeR [] ≤ _
    have e : sizeR [] = 0 := rfl
    have := h.sz
    omega
  · show a.gs.length + 0 ≤ _
    have := h.ln
    omega
theorem PI.crash {nm : List UInt8} {i b : Nat} {a : JA} {f : AF} (h : PI nm i b a f) (k : Int) : PI nm (i + 1) b { a with down := [] } (crashF f k) := by
  have h1 := h.drop
  exact ⟨JI.crash (a := a) (h.up (Nat.le_refl b)).ji k, h1.nm, h1.sz, h1.ln, h1.gl, h1.ag, h1.rm, Nat.zero_le _⟩
theorem comA_room (a : JA) (f : AF) (id : Nat) : (comA a f id).room = f.room ∧ (comA a f id).fused = f.fused ∧ (comA a f id).pend.length ≤ f.pend.length + 1 := by
  unfold comA
  repeat' split
  all_goals first | exact ⟨rfl, rfl, Nat.le_succ _⟩ | exact ⟨rfl, rfl, by show (f.pend ++ [_]).length ≤ _; rw [List.length_append]; exact Nat.le_refl _⟩ | exact ⟨rfl, rfl, Nat.zero_le _⟩
theorem rmsF_room (ns : List (List UInt8)) : ∀ f : AF, (rmsF f ns).room = f.room ∧ (rmsF f ns).fused = f.fused := by
  induction ns with
  | nil => exact fun f => ⟨rfl, rfl⟩
  | cons n ns ih =>
    intro f
    have h1 := ih (rmF f n)
    have h2 : (rmF f n).room = f.room ∧ (rmF f n).fused = f.fused := by
      unfold rmF
      split <;> exact ⟨rfl, rfl⟩
    exact ⟨h1.1.trans h2.1, h1.2.trans h2.2⟩
theorem resA_room (a : JA) (f : AF) (id : Nat) : (resA a f id).room = f.room ∧ (resA a f id).fused = f.fused := by
  unfold resA
  repeat' split
  all_goals first | exact ⟨rfl, rfl⟩ | exact rmsF_room _ _
theorem PI.com {nm : List UInt8} {i b : Nat} {a : JA} {f : AF} (h : PI nm i b a f) (hi : i ≤ 100) (hb : b ≤ 12000) (he : comE a f i = 0) : PI nm (i + 1) b (comJ a f i) (comA a f i) := by
  have h0 := comA_room a f i
  have hd := h.limD hi hb
  have h1 : JI (12600 * ((i + 1 : Nat) : Int)) (i + 1) (i + 1) (comJ a f i) (comA a f i) := (h.ji.com he).mono (by have := grpE_lim hd; omega) (Nat.le_refl _) (Nat.le_refl _)
  have h2 : (comJ a f i).name = a.name ∧ (comJ a f i).age = a.age := by
    unfold comJ
    repeat' split
    all_goals exact ⟨rfl, rfl⟩
  have hp := h.pd
  refine ⟨h1, by rw [h2.1]; exact h.nm, ?_, ?_, ?_, by rw [h2.2]; exact Nat.le_succ_of_le h.ag, by rw [h0.1]; exact h.rm, by omega⟩
  · have hs := h.sz
    unfold comJ
    repeat' split
    all_goals first | exact hs | skip
    show sizeG (a.gs ++ [a.down]) + sizeR [] ≤ b
    rw [sizeG_snoc]
    have e : sizeR [] = 0 := rfl
    omega
  · have hs := h.ln
    unfold comJ
    split
    · omega
    split
    · omega
    rename_i hdn
    have h2 : 1 ≤ a.down.length := by
      cases hx : a.down with
      | nil => exact absurd hx hdn
      | cons x l => rw [List.length_cons]; omega
    repeat' split
    all_goals first | exact Nat.le_succ_of_le hs | skip
    show (a.gs ++ [a.down]).length + 0 ≤ i + 1
    rw [List.length_append, List.length_singleton]
    omega
  · intro g hg
    unfold comJ at hg
    repeat' split at hg
    all_goals first | exact h.gl g hg | skip
    rcases List.mem_append.1 hg with hg | hg
    · exact h.gl g hg
    · rw [List.mem_singleton.1 hg]
      exact hd
theorem PI.res {nm : List UInt8} {i b : Nat} {a : JA} {f : AF} (h : PI nm i b a f) (hi : i ≤ 100) (he : resE a f i = 0) : PI nm (i + 1) b (resJ a f i) (resA a f i) := by
  have h0 := resA_room a f i
  have hag := h.ag
  have h1 : JI (12600 * ((i + 1 : Nat) : Int)) (i + 1) (i + 1) (resJ a f i) (resA a f i) := (h.ji.res he).mono (by have := headE_le (n := a.age + 1) (by omega); omega) (Nat.le_refl _) (Nat.le_refl _)
  have hnl : f.now.nm.length ≤ i := (AllF.now h.ji).2.2.nm
  have hp := h.pd
  have hpd : (resA a f i).pend.length ≤ i + 1 := by
    unfold resA
    repeat' split
    · omega
    · omega
    · show (f.pend ++ [_]).length ≤ _
      rw [List.length_append, List.length_singleton]
      omega
    · have h8 := rmsF_pend (syncF (stepF f (resT a i))) (namesA f.now (a.name ++ [46]))
      have h9 := namesA_len f.now (a.name ++ [46])
      have h10 : (syncF (stepF f (resT a i))).pend.length = 0 := rfl
      omega
  refine ⟨h1, ?_, ?_, ?_, ?_, ?_, by rw [h0.1]; exact h.rm, hpd⟩
  · unfold resJ
    repeat' split
    all_goals exact h.nm
  · have hs := h.sz
    have e : sizeG [] = 0 := rfl
    unfold resJ
    repeat' split
    all_goals first | exact hs | skip
    show sizeG [] + sizeR a.down ≤ b
    omega
  · have hs := h.ln
    unfold resJ
    repeat' split
    all_goals first | exact Nat.le_succ_of_le hs | skip
    show 0 + a.down.length ≤ i + 1
    omega
  · intro g hg
    unfold resJ at hg
    repeat' split at hg
    all_goals first | exact h.gl g hg | cases hg
  · unfold resJ
    repeat' split
    all_goals first | exact Nat.le_succ_of_le hag | (show a.age + 1 ≤ i + 1; omega)
theorem PI.new {nm : List UInt8} {room : Int} (h : room ≤ 1073741824) : PI nm 0 0 ⟨nm, 0, [], [], false⟩ (AF0 room) :=
  ⟨JI.new, rfl, Nat.le_refl _, Nat.le_refl _, (fun g hg => by cases hg), Nat.le_refl _, h, Nat.le_refl _⟩
theorem burnt_no {f : AF} (h : f.fused = false) : burnt f = false := by
  unfold burnt
  rw [h]
  rfl
theorem comE_no {a : JA} {f : AF} {id : Nat} (hd : a.dead = false) (h : f.fused = false) : comE a f id = 0 := by
  have h2 : burnt (stepF f (comT a id)) = false := burnt_no h
  unfold comE
  rw [hd, burnt_no h, h2]
  simp
theorem resE_no {a : JA} {f : AF} {id : Nat} (hd : a.dead = false) (h : f.fused = false) : resE a f id = 0 := by
  have h2 : burnt (stepF f (resT a id)) = false := burnt_no h
  unfold resE
  rw [hd, burnt_no h, h2]
  simp
theorem comJ_0 {a : JA} {f : AF} {id : Nat} (he : comE a f id = 0) : comJ a f id = if a.down = [] then a else { a with gs := a.gs ++ [a.down], down := [] } := by
  unfold comE at he
  unfold comJ
  cases hd : a.dead <;> rw [hd] at he
  · simp only [if_neg (show ¬ (false = true) by simp)] at he ⊢
    split
    · rfl
    · rename_i hdn
      rw [if_neg hdn] at he
      split at he
      · cases he
      · rename_i hb
        rw [if_neg hb]
        split at he
        · cases he
        · rename_i hb2
          rw [if_neg hb2]
  · cases he
theorem com_dead {a : JA} {f : AF} {id : Nat} (he : comE a f id = 0) : a.dead = false := by
  cases hd : a.dead
  · rfl
  · simp [comE, hd] at he
theorem resJ_0 {a : JA} {f : AF} {id : Nat} (he : resE a f id = 0) : resJ a f id = { a with age := a.age + 1, gs := [] } := by
  unfold resE at he
  unfold resJ
  cases hd : a.dead <;> rw [hd] at he
  · simp only [if_neg (show ¬ (false = true) by simp)] at he ⊢
    split at he
    · cases he
    · rename_i hb
      rw [if_neg hb]
      split at he
      · cases he
      · rename_i hb2
        rw [if_neg hb2]
  · cases he
end Go.Proofs.YtomajiicjinekaaGreatDoor
/-! Jn28 -/
namespace Go.Proofs.YtomajiicjinekaaGreatDoor
open Go Go.Sx
set_option maxRecDepth 100000
set_option maxHeartbeats 4000000
set_option linter.unusedVariables false
set_option linter.unusedSimpArgs false
attribute [local irreducible] J JQ QS Con W opW
attribute [local irreducible] sum gsE headE fileN contA readE grpE fillE namesA
abbrev logN : List UInt8 := [108, 111, 103]
structure SJ where
  kind : Int
  n : Int
  bv : Value
  xs : List UInt8
def encJ (x : SJ) : List Value := [.int .i64 x.kind, .int .i64 x.n, x.bv]
theorem encJ_len (x : SJ) : (encJ x).length = 3 := rfl
def intOk (n : Int) : Prop := -9223372036854775808 ≤ n ∧ n ≤ 9223372036854775807
structure SJ.Ok (w : World) (x : SJ) : Prop where
  k : intOk x.kind
  n : intOk x.n
  b : BR w x.bv x.xs ∧ x.xs.length ≤ 140737488351232
abbrev SJ0 : SJ := ⟨0, 0, .slice none 0 0, []⟩
theorem own_brp {b : Base} {S : List SH} {w : World} {xs ys : List UInt8} {g n cap : Nat} {c : SH} (ho : Sx.Own 5 1 (ints (xs ++ ys)) (.slice (some ⟨g, 0, none⟩) n cap) c) (k : Nat) (hk : S[k]? = some c) (hw : Sig b S w) (hc : xs.length ≤ cap) (hg : g < w.heap.size) : BR w (.slice (some ⟨g, 0, none⟩) xs.length cap) xs :=
  .inr ⟨_, cap, rfl, hc, fun _ => hg, fun j u hu => own_rd ho k hk w hw j u (by rw [ints_append]; exact getE_left hu)⟩
theorem wcomU_con (q : WM) (gs : List (List (List UInt8))) (dn : List (List UInt8)) (w : World) (hok : q.Ok gs dn) (hsz : sizeG gs ≤ 500000) (hgn : gs.length ≤ 1000) (hrn : ∀ g ∈ gs, g.length ≤ 1000) : Con Tryz.prog 19 [q.ptr] w q.heap fun u S' => u = .int .i64 0 ∧ ∃ m' : WM, S' = [m'.heap] ∧ m'.Ok (if dn = [] then gs else gs ++ [dn]) [] ∧ m'.g = q.g := by
  by_cases hdn : dn = []
  · rw [if_pos hdn]
    exact (wcom0_con q gs dn w hok hdn).mono fun u S' hu => by
      rw [hdn] at hu
      exact hu
  · rw [if_neg hdn]
    exact wcom_con q gs dn w hok hdn hsz hgn hrn
theorem comJ_gs {a : JA} {f : AF} {id : Nat} (he : comE a f id = 0) : (comJ a f id).gs = (if a.down = [] then a.gs else a.gs ++ [a.down]) ∧ (comJ a f id).down = [] ∧ (comJ a f id).dead = false := by
  have hd := com_dead he
  rw [comJ_0 he]
  split
  · rename_i h
    exact ⟨rfl, h, hd⟩
  · exact ⟨rfl, rfl, hd⟩
abbrev PostJ (i b : Nat) (x : SJ) (r : FR) (m : WM) (u : Value) (S' : List SH) : Prop := ∃ (j' : JM) (r' : FR) (m' : WM) (a' : JA) (f' : AF), u = .tuple #[j'.ptr, .bool true] ∧ S' = [j'.heap, r'.heap, m'.heap] ∧ j'.Ok a' ∧ r'.Ok f' ∧ j'.fp = r'.ptr ∧ m'.Ok a'.gs a'.down ∧ a'.dead = false ∧ f'.fused = false ∧ f'.room = 4194304 ∧ PI logN (i + 1) (b + x.xs.length) a' f' ∧ r'.gf = r.gf ∧ m'.g = m.g
end Go.Proofs.YtomajiicjinekaaGreatDoor
/-! Jn29 -/
namespace Go.Proofs.YtomajiicjinekaaGreatDoor
open Go Go.Sx
set_option maxRecDepth 100000
set_option maxHeartbeats 4000000
set_option linter.unusedVariables false
set_option linter.unusedSimpArgs false
attribute [local irreducible] J JQ QS Con W opW
attribute [local irreducible] sum gsE headE fileN contA readE grpE fillE namesA
theorem wm_drop (m : WM) : ([[(m.g, .cells [m.n.v, nilS].toArray 36 (0, 0))], m.n.heap] : List SH).flatten.Perm [WM.heap ⟨m.g, m.n, ⟨nilS, [], []⟩⟩].flatten := by
  simp [WM.heap, RR.heap, RR.lf]
theorem wm_nil (m : WM) : ([[(m.g, .cells [nilS, m.d.v].toArray 36 (0, 0))], m.d.c, m.d.lf] : List SH).flatten.Perm [WM.heap ⟨m.g, ⟨nilS, [], []⟩, m.d⟩].flatten := by
  simp [WM.heap, RR.heap, NR.heap, NR.lf]
theorem JA.drop_eq {a : JA} (hn : a.name = logN) (hd : a.dead = false) : ({ a with down := [] } : JA) = ⟨logN, a.age, a.gs, [], false⟩ := by
  cases a
  simp only at hn hd ⊢
  subst hn hd
  rfl
theorem JA.add_eq {a : JA} (hd : a.dead = false) (xs : List UInt8) : addJ a xs = { a with down := a.down ++ [xs] } := by
  unfold addJ
  rw [hd]
  rfl
theorem doesJ_con (j : JM) (a : JA) (r : FR) (f : AF) (m : WM) (x : SJ) (i b : Nat) (w : World) (hok : j.Ok a) (hfo : r.Ok f) (hfp : j.fp = r.ptr) (hm : m.Ok a.gs a.down) (hd : a.dead = false) (hfu : f.fused = false) (hroom : f.room = 4194304) (hpi : PI logN i b a f) (hi : i < 100) (hb : b + x.xs.length ≤ 12000) (hP : P10 w) (hP0 : 0 ∉ dom (j.heap ++ (r.heap ++ m.heap))) (hbr : BR w x.bv x.xs) (hbd : ∀ (z : Addr) (n c : Nat), x.bv = .slice (some z) n c → 0 < n → z.block ∉ dom (j.heap ++ (r.heap ++ m.heap))) : Con Tryz.prog 11 [r.ptr, j.ptr, m.ptr, .agg (encJ x).toArray] w (j.heap ++ (r.heap ++ m.heap)) fun u S' => PostJ i b x r m u S' := by
  refine con_of_tree mix Tryz.func11 T11_ok (by kernel_rfl) ?_
  unfold T11
  obtain ⟨bA, bcp, hbf, _⟩ := br_form hbr
  have hsz0 := hpi.sz
  have hln0 := hpi.ln
  have hmj : mayJ a = 0 := by
    unfold mayJ
    rw [hd]
    rfl
  have hdj : ∀ (z : Addr) (n c : Nat), x.bv = .slice (some z) n c → 0 < n → z.block ∉ dom m.heap := fun z n c e h0 h1 => hbd z n c e h0 (by rw [dom, List.map_append, List.map_append]; exact List.mem_append_right _ (List.mem_append_right _ h1))
  have h0jr : 0 ∉ dom (j.heap ++ r.heap) := fun h => hP0 (by
    simp only [dom, List.map_append, List.mem_append] at h ⊢
    rcases h with h | h
    · exact .inl h
    · exact .inr (.inl h))
  refine j_perm (S' := [j.heap, r.heap, m.heap]) (by simp) ?_
  refine j_box (l := encJ x) rfl (fun g0 hg0 hs0 => ?_)
  refine j_q (qs_ac) ?_
  refine j_q (qs_ac) ?_
  refine j_q (qs_field Tryz.underlying41 rfl sz3 (by decide) rfl) ?_
  refine j_q (qs_load (l := encJ x) 0 Tryz.underlying3 rfl rfl rfl rfl) ?_
  refine j_q (qs_eql rfl rfl) ?_
  refine j_cond rfl (fun hc0 => ?_) (fun hc0 => ?_)
  · skip
    refine j_q (qs_field Tryz.underlying41 rfl sz39 (by decide) rfl) ?_
    refine j_q (qs_load (l := encJ x) 0 Tryz.underlying39 rfl rfl rfl rfl) ?_
    refine j_call0 ent25 rfl rfl rfl (fun w' hw' => roomy_con x.bv x.xs w' (br_keep hbr hbd hw') (by omega)) (fun u S2 hu => ?_)
    obtain ⟨g, cap, c, rfl, hown, rfl⟩ := hu
    have hcap := own_cap hown
    obtain ⟨rest, fz, rfl, hr2, hr3, hr4, hr5⟩ := own_row hown
    have hown2 : Sx.Own 5 1 (ints (x.xs ++ [171])) (.slice (some ⟨g, 0, none⟩) (x.xs.length + 1) cap) [(g, .cells (ints (x.xs ++ [171, 171]) ++ rest).toArray 5 fz)] := by
      have e : ints (x.xs ++ [171, 171]) ++ rest = ints (x.xs ++ [171]) ++ (.int .u8 171 :: rest) := by simp [ints]
      rw [e] at hr3 hr5 ⊢
      exact own_mk (by rw [ints_length, List.length_append, List.length_singleton, Nat.mul_one]) hr3 (by omega) hr5
    refine j_mix [[(g0, .cells (encJ x).toArray 41 (0, 0))]] (Le.of_sub (by repeat first | exact slR _ | exact slN _ | apply slC | apply slD)) ?_
    refine j_mq (qs_field Tryz.underlying41 rfl sz39 (by decide) rfl) ?_
    refine j_mq (qs_load (l := encJ x) 0 Tryz.underlying39 rfl rfl rfl rfl) ?_
    refine j_mq (qs_lenl (n := x.xs.length) (A := bA) (c := bcp) Tryz.underlying39 hbf) ?_
    refine j_mq (qs_cutl (a := 0) (z := x.xs.length) Tryz.underlying39 sz5 rfl rfl ⟨.i64, rfl⟩ (by omega) (by omega)) ?_
    rw [if_neg (by omega), Nat.sub_zero, Nat.sub_zero]
    refine j_mq (qs_field Tryz.underlying41 rfl sz39 (by decide) rfl) ?_
    refine j_mq (qs_load (l := encJ x) 0 Tryz.underlying39 rfl rfl rfl rfl) ?_
    refine j_call 2 ent16 rfl rfl rfl rfl (fun w' hw' => jadd_con j a _ x.xs w' hok (own_brp hown 0 rfl hw' (by omega) (lt_of_get (hw'.own (g, .cells (ints (x.xs ++ [171, 171]) ++ rest).toArray 5 fz) (by simp)))) (fun z n c e h0 => by
      injection e with e1 e2 e3
      injection e1 with e1
      subst e1
      exact nodup_two hw'.nodup (i := 0) (j := 2) (by decide) rfl rfl g (by simp [dom])) (by omega) (by omega)) (fun u S2 hu => ?_)
    obtain ⟨rfl, j1, rfl, hj1, hgj1, hpj1⟩ := hu
    rw [hmj]
    refine j_subl (S' := [j1.heap, [(g, .cells (ints (x.xs ++ [171, 171]) ++ rest).toArray 5 fz)], [(g0, .cells (encJ x).toArray 41 (0, 0))], r.heap, m.heap]) (by repeat first | exact slR _ | exact slN _ | apply slC | apply slD) ?_
    refine j_mD0 (Le.of_sub (by repeat first | exact slR _ | exact slN _ | apply slC | apply slD)) ?_
    refine j_call 4 ent17 rfl rfl rfl rfl (fun w' hw' => wadd_con m a.gs a.down x.bv x.xs w' hm (br_keep hbr hbd hw') hdj (by omega) (by omega)) (fun u S2 hu => ?_)
    obtain ⟨rfl, m1, rfl, hm1, hgm1⟩ := hu
    refine j_subl (S' := [m1.heap, j1.heap, [(g, .cells (ints (x.xs ++ [171, 171]) ++ rest).toArray 5 fz)], [(g0, .cells (encJ x).toArray 41 (0, 0))], r.heap]) (by repeat first | exact slR _ | exact slN _ | apply slC | apply slD) ?_
    refine j_mR _ (.refl _) ?_
    refine j_mq (qs_eql rfl rfl) ?_
    refine j_mg rfl (fun hb => qs_mt rfl) ?_
    refine j_mg rfl (fun hb => qs_field Tryz.underlying41 rfl sz39 (by decide) rfl) ?_
    refine j_mg rfl (fun hb2 => qs_load (l := encJ x) 3 Tryz.underlying39 rfl (gd_eq hb2) rfl rfl) ?_
    refine j_g (v := .bool true) rfl (fun hb2 => qs_call ent26 rfl rfl (args2 (gd_eq hb2) (gd_eq hb2)) (fun w' hw' => stands_con g cap x.bv x.xs w' (lt_of_get (hw'.own (g, .cells (ints (x.xs ++ [171, 171]) ++ rest).toArray 5 fz) (by simp))) (own_rd hown 2 rfl w' hw') (by omega) (br_keep hbr hbd hw') (by omega))) ?_
    refine j_mR _ (.refl _) ?_
    refine j_mq (qs_and rfl rfl) ?_
    refine j_mend ?_
    refine j_call 2 ent14 rfl rfl rfl rfl (fun w' hw' => spoil_con (x.xs ++ [171]) _ _ w' hown2 (by rw [List.length_append]; show x.xs.length + 1 ≤ _; omega)) (fun u S2 _ => ?_)
    refine j_subl (S' := [m1.heap, j1.heap, r.heap]) (by
      refine List.Sublist.trans ?_ (List.sublist_append_right _ _)
      exact (by repeat first | exact slR _ | exact slN _ | apply slC | apply slD)) ?_
    refine j_perm (S' := [j1.heap, r.heap, m1.heap]) (by
      classical
      refine List.perm_iff_count.2 fun x => ?_
      simp only [List.set, List.flatten_cons, List.flatten_nil, List.append_nil, List.nil_append, List.cons_append, List.count_append, List.count_cons, List.count_nil]
      all_goals omega) ?_
    refine j_ret_con (vs := [_, _]) (fun w' hw' => ⟨rfl, rfl, trivial⟩) ?_
    refine ⟨j1, r, m1, addJ a x.xs, f, (by first | (simp [gd, JM.ptr, hgj1]; done) | (simp [gd, JM.ptr, hgj1]; rfl) | (simp [gd]; rfl)), rfl, hj1, hfo, hpj1.trans hfp, ?_, ?_, hfu, hroom, hpi.add x.xs, rfl, hgm1⟩
    · rw [JA.add_eq hd]
      exact hm1
    · rw [JA.add_eq hd]
      exact hd
  · skip
    refine j_q (qs_eql rfl rfl) ?_
    refine j_cond rfl (fun hc1 => ?_) (fun hc1 => ?_)
    · skip
      have hce : comE a f i = 0 := comE_no hd hfu
      obtain ⟨hcg, hcd, hcx⟩ := comJ_gs hce
      obtain ⟨hrA, hrB, _⟩ := comA_room a f i
      have hlim := hpi.lim (by omega)
      refine j_perm (S' := [j.heap ++ r.heap, [(g0, .cells (encJ x).toArray 41 (0, 0))], m.heap]) (by
        classical
        refine List.perm_iff_count.2 fun x => ?_
        simp only [List.set, List.flatten_cons, List.flatten_nil, List.append_nil, List.nil_append, List.cons_append, List.count_append, List.count_cons, List.count_nil]
        all_goals omega) ?_
      refine j_call 0 ent18 rfl rfl rfl rfl (fun w' hw' => jcomU_con j a r f i w' hok hfo hfp (fun _ hdn => hpi.comOk (by omega) (by omega) (used_pos hfo) hdn (by decide) (by rw [hroom]; omega)) (hP.keep hw' hP0) h0jr) (fun u S2 hu => ?_)
      obtain ⟨rfl, j1, r1, rfl, hj1, hr1, hgj1, hpj1, hgr1⟩ := hu
      rw [hce]
      refine j_subl (S' := [j1.heap, r1.heap, m.heap]) (by repeat first | exact slR _ | exact slN _ | apply slC | apply slD) ?_
      refine j_call 2 ent19 rfl rfl rfl rfl (fun w' hw' => wcomU_con m a.gs a.down w' hm (by omega) (by omega) (fun g hg => by have := (hlim.2 g hg).1; omega)) (fun u S2 hu => ?_)
      obtain ⟨rfl, m1, rfl, hm1, hgm1⟩ := hu
      refine j_subl (S' := [m1.heap, j1.heap, r1.heap]) (by repeat first | exact slR _ | exact slN _ | apply slC | apply slD) ?_
      refine j_perm (S' := [j1.heap, r1.heap, m1.heap]) (by
        classical
        refine List.perm_iff_count.2 fun x => ?_
        simp only [List.set, List.flatten_cons, List.flatten_nil, List.append_nil, List.nil_append, List.cons_append, List.count_append, List.count_cons, List.count_nil]
        all_goals omega) ?_
      refine j_q (qs_eql rfl rfl) ?_
      refine j_ret_con (vs := [_, _]) (fun w' hw' => ⟨rfl, rfl, trivial⟩) ?_
      refine ⟨j1, r1, m1, comJ a f i, comA a f i, (by first | (simp [gd, JM.ptr, hgj1]; done) | (simp [gd, JM.ptr, hgj1]; rfl) | (simp [gd]; rfl)), rfl, hj1, hr1, (hpj1.trans hfp).trans (by rw [FR.ptr, FR.ptr, hgr1]), ?_, hcx, hrB.trans hfu, hrA.trans hroom, (hpi.com (by omega) (by omega) hce).le (Nat.le_add_right _ _), hgr1, hgm1⟩
      rw [hcg, hcd]
      exact hm1
    · skip
      refine j_q (qs_eql rfl rfl) ?_
      refine j_cond rfl (fun hc2 => ?_) (fun hc2 => ?_)
      · skip
        refine j_call 1 ent22 rfl rfl rfl rfl (fun w' hw' => jdrop_con j a w' hok) (fun u S2 hu => ?_)
        obtain ⟨rfl, j1, rfl, hj1, hgj1, hpj1⟩ := hu
        refine j_subl (S' := [j1.heap, r.heap, m.heap]) (by repeat first | exact slR _ | exact slN _ | apply slC | apply slD) ?_
        refine j_q (qs_nil rfl) ?_
        refine j_q (qs_field Tryz.underlying36 rfl sz34 (by decide) rfl) ?_
        refine j_perm (S' := [j1.heap, r.heap, [(m.g, m.obj)], m.n.heap, m.d.c, m.d.lf]) (by
          have h9 := perm_w m
          classical
          refine List.perm_iff_count.2 fun x => ?_
          have h8 := List.perm_iff_count.1 h9 x
          simp only [List.set, List.flatten_cons, List.flatten_nil, List.append_nil, List.nil_append, List.cons_append, List.count_append, List.count_cons, List.count_nil] at h8 ⊢
          all_goals omega) ?_
        refine j_store (l := [m.n.v, m.d.v]) 2 sz34 rfl rfl rfl rfl (by simp) (by simp) ?_
        refine j_subl (S' := [j1.heap, r.heap, [(m.g, .cells [m.n.v, nilS].toArray 36 (0, 0))], m.n.heap]) (by repeat first | exact slR _ | exact slN _ | apply slC | apply slD) ?_
        refine j_perm (S' := [j1.heap, r.heap, WM.heap ⟨m.g, m.n, ⟨nilS, [], []⟩⟩]) (by
          have h9 := wm_drop m
          classical
          refine List.perm_iff_count.2 fun x => ?_
          have h8 := List.perm_iff_count.1 h9 x
          simp only [List.set, List.flatten_cons, List.flatten_nil, List.append_nil, List.nil_append, List.cons_append, List.count_append, List.count_cons, List.count_nil] at h8 ⊢
          all_goals omega) ?_
        refine j_q (qs_ac) ?_
        refine j_ret_con (vs := [_, _]) (fun w' hw' => ⟨rfl, rfl, trivial⟩) ?_
        exact ⟨j1, r, ⟨m.g, m.n, ⟨nilS, [], []⟩⟩, { a with down := [] }, f, (by first | (simp [gd, JM.ptr, hgj1]; done) | (simp [gd, JM.ptr, hgj1]; rfl) | (simp [gd]; rfl)), rfl, hj1, hfo, hpj1.trans hfp, ⟨hm.n, rr0, hm.gs, rfl⟩, hd, hfu, hroom, hpi.drop.le (Nat.le_add_right _ _), rfl, rfl⟩
      · skip
        refine j_q (qs_eql rfl rfl) ?_
        refine j_cond rfl (fun hc3 => ?_) (fun hc3 => ?_)
        · skip
          refine j_q (qs_nil rfl) ?_
          refine j_q (qs_field Tryz.underlying36 rfl sz33 (by decide) rfl) ?_
          refine j_perm (S' := [[(g0, .cells (encJ x).toArray 41 (0, 0))], j.heap, r.heap, [(m.g, m.obj)], m.n.heap, m.d.c, m.d.lf]) (by
            have h9 := perm_w m
            classical
            refine List.perm_iff_count.2 fun x => ?_
            have h8 := List.perm_iff_count.1 h9 x
            simp only [List.set, List.flatten_cons, List.flatten_nil, List.append_nil, List.nil_append, List.cons_append, List.count_append, List.count_cons, List.count_nil] at h8 ⊢
            all_goals omega) ?_
          refine j_store (l := [m.n.v, m.d.v]) 3 sz33 rfl rfl rfl rfl (by simp) (by simp) ?_
          refine j_subl (S' := [j.heap, r.heap, [(m.g, .cells [nilS, m.d.v].toArray 36 (0, 0))], m.d.c, m.d.lf]) (by repeat first | exact slR _ | exact slN _ | apply slC | apply slD) ?_
          refine j_perm (S' := [j.heap ++ r.heap, WM.heap ⟨m.g, ⟨nilS, [], []⟩, m.d⟩]) (by
            have h9 := wm_nil m
            classical
            refine List.perm_iff_count.2 fun x => ?_
            have h8 := List.perm_iff_count.1 h9 x
            simp only [List.set, List.flatten_cons, List.flatten_nil, List.append_nil, List.nil_append, List.cons_append, List.count_append, List.count_cons, List.count_nil] at h8 ⊢
            all_goals omega) ?_
          have hre : resE a f i = 0 := resE_no hd hfu
          have hrj := resJ_0 hre
          obtain ⟨hrA, hrB⟩ := resA_room a f i
          refine j_call 0 ent20 rfl rfl rfl rfl (fun w' hw' => jreset_con j a r f i w' hok hfo hfp hd (hpi.resOk (by omega) (used_pos hfo) ⟨by decide, by decide⟩ (by rw [hroom]; omega)) (fun n hn => namesA_ok hfo hn)) (fun u S2 hu => ?_)
          obtain ⟨rfl, j1, r1, rfl, hj1, hr1, hgj1, hpj1, hgr1⟩ := hu
          rw [hre]
          refine j_subl (S' := [j1.heap, r1.heap, WM.heap ⟨m.g, ⟨nilS, [], []⟩, m.d⟩]) (by repeat first | exact slR _ | exact slN _ | apply slC | apply slD) ?_
          refine j_q (qs_eql rfl rfl) ?_
          refine j_ret_con (vs := [_, _]) (fun w' hw' => ⟨rfl, rfl, trivial⟩) ?_
          refine ⟨j1, r1, ⟨m.g, ⟨nilS, [], []⟩, m.d⟩, resJ a f i, resA a f i, (by first | (simp [gd, JM.ptr, hgj1]; done) | (simp [gd, JM.ptr, hgj1]; rfl) | (simp [gd]; rfl)), rfl, hj1, hr1, (hpj1.trans hfp).trans (by rw [FR.ptr, FR.ptr, hgr1]), ?_, ?_, hrB.trans hfu, hrA.trans hroom, (hpi.res (by omega) hre).le (Nat.le_add_right _ _), hgr1, rfl⟩
          · rw [hrj]
            exact ⟨nr0, hm.d, rfl, hm.dn⟩
          · rw [hrj]
            exact hd
        · skip
          refine j_q (qs_eql rfl rfl) ?_
          refine j_cond rfl (fun hc4 => ?_) (fun hc4 => ?_)
          · skip
            refine j_q (qs_field Tryz.underlying41 rfl sz3 (by decide) rfl) ?_
            refine j_q (qs_load (l := encJ x) 0 Tryz.underlying3 rfl rfl rfl rfl) ?_
            refine j_call 2 ent21 rfl rfl rfl rfl (fun w' hw' => crashG_con r f x.n w' hfo) (fun u S2 hu => ?_)
            obtain ⟨r1, rfl, hr1, hgr1⟩ := hu
            refine j_subl (S' := [r1.heap, m.heap]) (by repeat first | exact slR _ | exact slN _ | apply slC | apply slD) ?_
            refine j_q (qs_nil rfl) ?_
            refine j_q (qs_field Tryz.underlying36 rfl sz34 (by decide) rfl) ?_
            refine j_perm (S' := [r1.heap, [(m.g, m.obj)], m.n.heap, m.d.c, m.d.lf]) (by
              have h9 := perm_w m
              classical
              refine List.perm_iff_count.2 fun x => ?_
              have h8 := List.perm_iff_count.1 h9 x
              simp only [List.set, List.flatten_cons, List.flatten_nil, List.append_nil, List.nil_append, List.cons_append, List.count_append, List.count_cons, List.count_nil] at h8 ⊢
              all_goals omega) ?_
            refine j_store (l := [m.n.v, m.d.v]) 1 sz34 rfl rfl rfl rfl (by simp) (by simp) ?_
            refine j_subl (S' := [r1.heap, [(m.g, .cells [m.n.v, nilS].toArray 36 (0, 0))], m.n.heap]) (by repeat first | exact slR _ | exact slN _ | apply slC | apply slD) ?_
            refine j_perm (S' := [r1.heap, WM.heap ⟨m.g, m.n, ⟨nilS, [], []⟩⟩]) (by
              have h9 := wm_drop m
              classical
              refine List.perm_iff_count.2 fun x => ?_
              have h8 := List.perm_iff_count.1 h9 x
              simp only [List.set, List.flatten_cons, List.flatten_nil, List.append_nil, List.nil_append, List.cons_append, List.count_append, List.count_cons, List.count_nil] at h8 ⊢
              all_goals omega) ?_
            have hlim := hpi.lim (by omega)
            have hag := hpi.ag
            have hjs : JS logN a.age a.gs (crashF f x.n).now := by
              have h9 := (AllF.now (hpi.crash x.n).ji).1
              rw [show ({ a with down := [] } : JA).name = logN from hpi.nm] at h9
              exact h9
            rw [show r.ptr = r1.ptr from by rw [FR.ptr, FR.ptr, hgr1]]
            refine j_call0 ent10 rfl rfl rfl (fun w' hw' => open_con r1 (crashF f x.n) logN a.age a.gs w' (in_own hw' 0 rfl) hr1 hjs hlim (by omega) (by decide) (by decide) (hP.keep hw' hP0)) (fun u S2 hu => ?_)
            obtain ⟨j1, rfl, rfl, hj1, hjf1⟩ := hu
            rw [← JA.drop_eq hpi.nm hd] at hj1
            refine j_q (qs_ext rfl rfl) ?_
            refine j_q (qs_ext rfl rfl) ?_
            refine j_q (qs_eql rfl rfl) ?_
            rw [show ((0 : Int) == 0) = true from rfl]
            refine j_gt rfl (qs_mt rfl) ?_
            refine j_gt rfl (qs_pnnil Tryz.underlying29 rfl) ?_
            refine j_q (qs_and rfl rfl) ?_
            refine j_ret_con (vs := [_, _]) (fun w' hw' => ⟨rfl, rfl, trivial⟩) ?_
            exact ⟨j1, r1, ⟨m.g, m.n, ⟨nilS, [], []⟩⟩, { a with down := [] }, crashF f x.n, (by first | (simp [gd, JM.ptr, hgj1]; done) | (simp [gd, JM.ptr, hgj1]; rfl) | (simp [gd]; rfl)), rfl, hj1, hr1, hjf1, ⟨hm.n, rr0, hm.gs, rfl⟩, hd, rfl, hroom, (hpi.crash x.n).le (Nat.le_add_right _ _), hgr1, rfl⟩
          · skip
            refine j_q (qs_nil rfl) ?_
            refine j_q (qs_field Tryz.underlying36 rfl sz34 (by decide) rfl) ?_
            refine j_subl (S' := [r.heap, m.heap]) (by repeat first | exact slR _ | exact slN _ | apply slC | apply slD) ?_
            refine j_perm (S' := [r.heap, [(m.g, m.obj)], m.n.heap, m.d.c, m.d.lf]) (by
              have h9 := perm_w m
              classical
              refine List.perm_iff_count.2 fun x => ?_
              have h8 := List.perm_iff_count.1 h9 x
              simp only [List.set, List.flatten_cons, List.flatten_nil, List.append_nil, List.nil_append, List.cons_append, List.count_append, List.count_cons, List.count_nil] at h8 ⊢
              all_goals omega) ?_
            refine j_store (l := [m.n.v, m.d.v]) 1 sz34 rfl rfl rfl rfl (by simp) (by simp) ?_
            refine j_subl (S' := [r.heap, [(m.g, .cells [m.n.v, nilS].toArray 36 (0, 0))], m.n.heap]) (by repeat first | exact slR _ | exact slN _ | apply slC | apply slD) ?_
            refine j_perm (S' := [r.heap, WM.heap ⟨m.g, m.n, ⟨nilS, [], []⟩⟩]) (by
              have h9 := wm_drop m
              classical
              refine List.perm_iff_count.2 fun x => ?_
              have h8 := List.perm_iff_count.1 h9 x
              simp only [List.set, List.flatten_cons, List.flatten_nil, List.append_nil, List.nil_append, List.cons_append, List.count_append, List.count_cons, List.count_nil] at h8 ⊢
              all_goals omega) ?_
            have hlim := hpi.lim (by omega)
            have hag := hpi.ag
            have hjs : JS logN a.age a.gs f.now := by
              have h9 := (AllF.now (hpi.drop).ji).1
              rw [show ({ a with down := [] } : JA).name = logN from hpi.nm] at h9
              exact h9
            refine j_call0 ent10 rfl rfl rfl (fun w' hw' => open_con r f logN a.age a.gs w' (in_own hw' 0 rfl) hfo hjs hlim (by omega) (by decide) (by decide) (hP.keep hw' hP0)) (fun u S2 hu => ?_)
            obtain ⟨j1, rfl, rfl, hj1, hjf1⟩ := hu
            rw [← JA.drop_eq hpi.nm hd] at hj1
            refine j_q (qs_ext rfl rfl) ?_
            refine j_q (qs_ext rfl rfl) ?_
            refine j_q (qs_eql rfl rfl) ?_
            rw [show ((0 : Int) == 0) = true from rfl]
            refine j_gt rfl (qs_mt rfl) ?_
            refine j_gt rfl (qs_pnnil Tryz.underlying29 rfl) ?_
            refine j_q (qs_and rfl rfl) ?_
            refine j_ret_con (vs := [_, _]) (fun w' hw' => ⟨rfl, rfl, trivial⟩) ?_
            exact ⟨j1, r, ⟨m.g, m.n, ⟨nilS, [], []⟩⟩, { a with down := [] }, f, (by first | (simp [gd, JM.ptr, hgj1]; done) | (simp [gd, JM.ptr, hgj1]; rfl) | (simp [gd]; rfl)), rfl, hj1, hfo, hjf1, ⟨hm.n, rr0, hm.gs, rfl⟩, hd, hfu, hroom, hpi.drop.le (Nat.le_add_right _ _), rfl, rfl⟩
end Go.Proofs.YtomajiicjinekaaGreatDoor
/-! SxT -/
namespace Go.Sx
open Go Go.ChangeShapes Go.WideShapes Go.ChangeAt Go.RowKit
set_option linter.unusedVariables false
end Go.Sx
/-! Jn30 -/
namespace Go.Proofs.YtomajiicjinekaaGreatDoor
open Go Go.Sx
set_option maxRecDepth 100000
set_option maxHeartbeats 4000000
set_option linter.unusedVariables false
set_option linter.unusedSimpArgs false
attribute [local irreducible] J JQ QS Con W opW
open Go.MapKept Go.WideMaps Go.Maps
attribute [local irreducible] sum gsE headE fileN contA readE grpE fillE namesA
abbrev steps (rs : List SJ) : List Value := (rs.map encJ).flatten
theorem steps_get {rs : List SJ} {i k : Nat} {u : Value} (h : i < rs.length) (hk : (encJ (rs.getD i SJ0))[k]? = some u) : (steps rs)[i * 3 + k]? = some u := by
  have hk4 : k < 3 := by
    have := (List.getElem?_eq_some_iff.1 hk).1
    rw [encJ_len] at this
    exact this
  rw [flat_get encJ_len rs i k hk4, List.getElem?_eq_getElem h]
  rw [List.getD_eq_getElem?_getD, List.getElem?_eq_getElem h] at hk
  exact hk
def Script (w : World) (v : Value) (rs : List SJ) : Prop := RSlN 3 w v (steps rs) rs.length ∧ ∀ x ∈ rs, x.Ok w
theorem script_form {w : World} {v : Value} {rs : List SJ} (h : Script w v rs) : ∃ A cap g off, v = .slice A rs.length cap ∧ rs.length ≤ cap ∧ (0 < rs.length → A = some ⟨g, off, none⟩ ∧ g < w.heap.size ∧ Cells w ⟨g, off, none⟩ (steps rs)) := rsln_form h.1
theorem script_ok {w : World} {v : Value} {rs : List SJ} (h : Script w v rs) {i : Nat} (hi : i < rs.length) : (rs.getD i SJ0).Ok w := by
  refine h.2 _ ?_
  rw [List.getD_eq_getElem?_getD, List.getElem?_eq_getElem hi, Option.getD_some]
  exact List.getElem_mem hi
theorem script_keep {w w' : World} {v : Value} {rs : List SJ} (h : Script w v rs) {S : List SH} (hs : Sig ⟨w, dom []⟩ S w') : Script w' v rs := ⟨rsln_keep h.1 hs, fun x hx => ⟨(h.2 x hx).k, (h.2 x hx).n, br0 (h.2 x hx).b.1 hs, (h.2 x hx).b.2⟩⟩
theorem off3 (g off i k : Nat) : (⟨g, off + i * 3 + k, none⟩ : Addr) = (⟨g, off, none⟩ : Addr).add (i * 3 + k) := by rw [add_off, Nat.add_assoc]
def sumX (rs : List SJ) (i : Nat) : Nat := ((rs.take i).map fun x => x.xs.length).sum
theorem sumX_succ {rs : List SJ} {i : Nat} (h : i < rs.length) : sumX rs (i + 1) = sumX rs i + (rs.getD i SJ0).xs.length := by
  unfold sumX
  rw [List.take_add_one, List.getElem?_eq_getElem h, Option.toList_some, List.map_append, List.sum_append, List.getD_eq_getElem?_getD, List.getElem?_eq_getElem h]
  simp
theorem sumX_mono (rs : List SJ) {i j : Nat} (h : i ≤ j) : sumX rs i ≤ sumX rs j := by
  unfold sumX
  rw [show rs.take i = (rs.take j).take i by rw [List.take_take, Nat.min_eq_left h]]
  have h1 : ((rs.take j).map fun x => x.xs.length).sum = (((rs.take j).take i).map fun x => x.xs.length).sum + (((rs.take j).drop i).map fun x => x.xs.length).sum := by
    rw [← List.sum_append, ← List.map_append, List.take_append_drop]
  omega
theorem drop_flat {α : Type} {l : List α} {k : Nat} (f : α → SH) (h : k < l.length) {x : α} (hx : l[k]? = some x) : ((l.drop k).map f).flatten = f x ++ ((l.drop (k + 1)).map f).flatten := by
  rw [List.drop_eq_getElem_cons h, List.map_cons, List.flatten_cons]
  rw [List.getElem?_eq_getElem h] at hx
  injection hx with hx
  rw [hx]
theorem NR.Ok.get {n : NR} (h : n.Ok) {k : Nat} {x : RR} (hx : n.L[k]? = some x) : x.Ok ∧ x.rs ∈ n.gs := by
  have hm := List.mem_of_getElem? hx
  exact ⟨h.rr x hm, List.mem_map.2 ⟨x, hm, rfl⟩⟩
theorem heavyJ_con (rs : List SJ) (v : Value) (w : World) (hs : Script w v rs) : Con Tryz.prog 7 [v] w [] fun u _ => ∃ hv : Bool, u = .bool hv ∧ (hv = false → ∀ i, i ≤ rs.length → i ≤ 100 → sumX rs i ≤ 12000) := by
  refine con_of_tree mix Tryz.func7 T7_ok (by kernel_rfl) ?_
  unfold T7
  obtain ⟨A, cap, g, off, rfl, hcap, hA⟩ := script_form hs
  refine j_q (qs_ac) ?_
  refine j_q (qs_ac) ?_
  refine j_q (qs_ac) ?_
  refine j_loop (fun m vs S' => ∃ (i : Nat), vs = [.int .i64 ((sumX rs i : Nat) : Int), .int .i64 (i : Int)] ∧ S' = [[]] ∧ sumX rs i ≤ 12000 ∧ i ≤ rs.length ∧ i ≤ 100 ∧ m = rs.length - i) ⟨_, 0, rfl, rfl, Nat.zero_le _, Nat.zero_le _, Nat.zero_le _, rfl⟩ ?_
  rintro m vs S' hlen ⟨i, rfl, rfl, hsx, hi, hi100, rfl⟩
  refine j_q (qs_lenl Tryz.underlying22 rfl) ?_
  refine j_q (qs_lss rfl rfl) ?_
  refine j_g rfl (fun hb => qs_mt rfl) ?_
  refine j_g rfl (fun hb => qs_lss (gd_eq hb) rfl) ?_
  refine j_q (qs_and rfl rfl) ?_
  refine j_cond rfl (fun hc0 => ?_) (fun hc0 => ?_)
  · skip
    have hb2 : i < rs.length ∧ i < 100 := by
      simp only [gd, Bool.and_eq_true, decide_eq_true_eq] at hc0
      omega
    obtain ⟨hi1, hi2⟩ := hb2
    obtain ⟨rfl, hgs, hcl⟩ := hA (by omega)
    obtain ⟨_, _, hxb, hxl⟩ := script_ok hs hi1
    obtain ⟨bA, bcp, hbf, _⟩ := br_form hxb
    refine j_q (qs_ixn (g := g) (off := off) (n := rs.length) (c := cap) (i := i) Tryz.underlying22 sz41 rfl rfl hi1) ?_
    refine j_q (qs_field Tryz.underlying41 rfl sz39 (by decide) rfl) ?_
    refine j_q (qs_loadR (v := (rs.getD i SJ0).bv) (a := ⟨g, off, none⟩) (i := i * 3 + 2) (rd_cells hcl (by simp)) Tryz.underlying39 rfl (congrArg (fun z => Value.pointer (some z)) (off3 g off i 2)) (steps_get hi1 rfl)) ?_
    refine j_q (qs_lenl (n := (rs.getD i SJ0).xs.length) (A := bA) (c := bcp) Tryz.underlying39 hbf) ?_
    refine j_q (qs_add64 rfl rfl (by first | omega | (simp only [bnA] at *; omega))) ?_
    refine j_q (qs_gtr rfl rfl) ?_
    refine j_cond rfl (fun hc1 => ?_) (fun hc1 => ?_)
    · skip
      refine j_q (qs_ac) ?_
      refine j_ret_con (vs := [_]) (fun w' hw' => ⟨rfl, trivial⟩) ?_
      exact ⟨true, rfl, fun h => by cases h⟩
    · skip
      have hle : ((sumX rs i : Nat) : Int) + ((rs.getD i SJ0).xs.length : Int) ≤ 12000 := by
        have h9 := of_decide_eq_false hc1
        omega
      refine j_q (qs_add64 rfl rfl (by first | omega | (simp only [bnA] at *; omega))) ?_
      refine j_back rfl ?_
      exact ⟨rs.length - (i + 1), by omega, i + 1, by rw [sumX_succ hi1, Int.natCast_add]; rfl, rfl, by rw [sumX_succ hi1]; omega, hi1, hi2, rfl⟩
  · skip
    have hb2 : ¬ (i < rs.length ∧ i < 100) := by
      rintro ⟨h1, h2⟩
      have h3 : decide ((i : Int) < (rs.length : Int)) = true := by simpa using h1
      have h4 : decide ((i : Int) < 100) = true := by
        simp only [decide_eq_true_eq]
        omega
      rw [h3] at hc0
      simp only [gd, h4] at hc0
      simp at hc0
    refine j_q (qs_ac) ?_
    refine j_ret_con (vs := [_]) (fun w' hw' => ⟨rfl, trivial⟩) ?_
    exact ⟨false, rfl, fun _ j hj hj2 => Nat.le_trans (sumX_mono rs (show j ≤ i by omega)) hsx⟩
theorem jPlays_con (rs : List SJ) (vl : Value) (w : World) (hs : Script w vl rs) (hP : P10 w) : Con Tryz.prog 3 [vl] w [] fun u _ => u = .bool true := by
  refine con_of_tree mix Tryz.func3 T3_ok (by kernel_rfl) ?_
  unfold T3
  obtain ⟨A, cap, g, off, hvl, hcap, hA⟩ := script_form hs
  subst hvl
  refine j_q (qs_ac) ?_
  refine j_call0 ent7 rfl rfl rfl (fun w' hw' => heavyJ_con rs _ w' (script_keep hs hw')) (fun u S2 hu => ?_)
  obtain ⟨hv, rfl, hhv⟩ := hu
  refine j_subl (S' := [[]]) (List.sublist_append_right _ _) ?_
  refine j_cond rfl (fun hc0 => ?_) (fun hc0 => ?_)
  · skip
    refine j_call0 ent8 rfl rfl rfl (fun w' hw' => known_con w' (hP.keep hw' (by simp))) (fun u S2 hu => ?_)
    subst hu
    refine j_ret_con (vs := [_]) (fun w' hw' => ⟨rfl, trivial⟩) ?_
    rfl
  · skip
    have hhv9 := hhv (by simpa using hc0)
    refine j_call0 ent9 rfl rfl rfl (fun w' hw' => newR_con 4194304 w' (by decide) (by decide)) (fun u S2 hu => ?_)
    obtain ⟨r0, rfl, rfl, hr0⟩ := hu
    refine j_subl (S' := [r0.heap]) (by repeat first | exact slR _ | exact slN _ | apply slC | apply slD) ?_
    refine j_q (qs_ext rfl rfl) ?_
    refine j_q (qs_ext rfl rfl) ?_
    refine j_call0 ent10 rfl rfl rfl (fun w' hw' => open_con r0 (AF0 4194304) logN 0 [] w' (in_own hw' 0 rfl) hr0 (AllF.now (JI.new (name := logN) (room := 4194304))).1 ⟨by decide, fun g hg => by cases hg⟩ (by decide) (by decide) (by decide) (hP.keep hw' (by simp))) (fun u S2 hu => ?_)
    obtain ⟨j0, rfl, rfl, hj0, hjf0⟩ := hu
    refine j_q (qs_ext rfl rfl) ?_
    refine j_q (qs_ext rfl rfl) ?_
    refine j_q (qs_neq rfl rfl) ?_
    rw [show ((0 : Int) != 0) = false from rfl]
    refine j_gt rfl (qs_mt rfl) ?_
    refine j_gt rfl (qs_pnil Tryz.underlying29 rfl) ?_
    refine j_q (qs_or rfl rfl) ?_
    refine j_cond rfl (fun hc1 => ?_) (fun hc1 => ?_)
    · skip
      simp at hc1
    · skip
      refine j_q (qs_run (v := .agg #[nilS, nilS]) (fun w => by kernel_rfl)) ?_
      refine j_box (l := [nilS, nilS]) rfl (fun g15 hg15 hs15 => ?_)
      refine j_perm (S' := [j0.heap, r0.heap, WM.heap ⟨g15, ⟨nilS, [], []⟩, ⟨nilS, [], []⟩⟩]) (by
        simp only [WM.heap, NR.heap, NR.lf, RR.heap, RR.lf, List.map_nil, List.flatten_nil, List.append_nil, List.flatten_cons, List.cons_append, List.nil_append, List.append_assoc]
        rw [← List.append_assoc]
        exact List.perm_append_comm (l₁ := [_])) ?_
      refine j_q (qs_ac) ?_
      refine j_loop (fun m vs S' => ∃ (i : Nat) (j : JM) (r : FR) (q : WM) (a : JA) (f : AF), vs = [j.ptr, .int .i64 (i : Int)] ∧ S' = [j.heap, r.heap, q.heap] ∧ j.Ok a ∧ r.Ok f ∧ j.fp = r.ptr ∧ q.Ok a.gs a.down ∧ a.dead = false ∧ f.fused = false ∧ f.room = 4194304 ∧ PI logN i (sumX rs i) a f ∧ r.gf = r0.gf ∧ q.g = g15 ∧ i ≤ rs.length ∧ i ≤ 100 ∧ m = rs.length - i) ⟨_, 0, j0, r0, ⟨g15, ⟨nilS, [], []⟩, ⟨nilS, [], []⟩⟩, ⟨logN, 0, [], [], false⟩, AF0 4194304, rfl, rfl, hj0, hr0, hjf0, ⟨nr0, rr0, rfl, rfl⟩, rfl, rfl, rfl, PI.new (by decide), rfl, rfl, Nat.zero_le _, Nat.zero_le _, rfl⟩ ?_
      rintro m vs S' hlen ⟨i, j, r, q, a, f, rfl, rfl, hj, hr, hjf, hq, hd, hfu, hroom, hpi, hgr, hgq, hi, hi100, rfl⟩
      refine j_q (qs_lenl Tryz.underlying22 rfl) ?_
      refine j_q (qs_lss rfl rfl) ?_
      refine j_g rfl (fun hb => qs_mt rfl) ?_
      refine j_g rfl (fun hb => qs_lss (gd_eq hb) rfl) ?_
      refine j_q (qs_and rfl rfl) ?_
      refine j_cond rfl (fun hc2 => ?_) (fun hc2 => ?_)
      · skip
        have hb2 : i < rs.length ∧ i < 100 := by
          simp only [gd, Bool.and_eq_true, decide_eq_true_eq] at hc2
          omega
        obtain ⟨hi1, hi2⟩ := hb2
        obtain ⟨rfl, hgs, hcl⟩ := hA (by omega)
        refine j_q (qs_ac) ?_
        refine j_q (qs_ixn (g := g) (off := off) (n := rs.length) (c := cap) (i := i) Tryz.underlying22 sz41 rfl rfl hi1) ?_
        refine j_q (qs_loadrecw (encA := encJ) (rs := rs) (d := SJ0) (i := i) encJ_len (rd_cells hcl (by simp)) hi1 Tryz.underlying41 rfl sz41 rfl) ?_
        obtain ⟨_, _, hxb, hxl⟩ := script_ok hs hi1
        have hpr : r0.ptr = r.ptr := by simp only [FR.ptr, hgr]
        have hpq : (.pointer (some ⟨g15, 0, none⟩) : Value) = q.ptr := by rw [WM.ptr, hgq]
        have hsx := hhv9 (i + 1) hi1 hi2
        rw [sumX_succ hi1] at hsx
        rw [hpr, hpq]
        refine j_perm (S' := [j.heap ++ (r.heap ++ q.heap)]) (by simp) ?_
        refine j_call 0 ent11 rfl rfl rfl rfl (fun w' hw' => doesJ_con j a r f q (rs.getD i SJ0) i (sumX rs i) w' hj hr hjf hq hd hfu hroom hpi hi2 hsx (hP.keep hw' (by simp)) (zero_out hw' hP.1 (k := 0) rfl) (br0 hxb hw') (base_sep hxb hw' 0 rfl)) (fun u S5 h5 => ?_)
        obtain ⟨j1, r1, q1, a1, f1, rfl, rfl, hj1, hr1, hjf1, hq1, hd1, hfu1, hroom1, hpi1, hgr1, hgq1⟩ := h5
        refine j_subl (S' := [j1.heap, r1.heap, q1.heap]) (by repeat first | exact slR _ | exact slN _ | apply slC | apply slD) ?_
        refine j_q (qs_ext (vs := [j1.ptr, .bool true]) rfl rfl) ?_
        refine j_q (qs_ext (vs := [j1.ptr, .bool true]) rfl rfl) ?_
        refine j_q (qs_not rfl) ?_
        refine j_cond rfl (fun hc3 => ?_) (fun hc3 => ?_)
        · skip
          simp at hc3
        · skip
          have hlim1 := hpi1.lim (by omega)
          refine j_call0 ent12 rfl rfl rfl (fun w' hw' => jgroups_con j1 a1 w' (in_own hw' 0 rfl) hj1 hlim1) (fun u S2 hu => ?_)
          obtain ⟨n, rfl, rfl, hn, hng⟩ := hu
          obtain ⟨An, capn, hnv, hnA⟩ := hn.form
          rw [show q.ptr = q1.ptr from by rw [WM.ptr, WM.ptr, hgq1]]
          have hnn : n.gs.length = n.L.length := List.length_map _
          have hng1 : ∀ g ∈ n.gs, g.length ≤ 1000000 ∧ ∀ z ∈ g, z.length ≤ 1000000 := fun g hg => by
            rw [hng] at hg
            have h9 := hlim1.2 g hg
            exact ⟨by have := h9.1; omega, fun z hz => by have := sizeR_get hz; have := h9.2; omega⟩
          have hngl : n.gs.length ≤ 100 := by rw [hng]; exact hlim1.1
          refine j_q (qs_nil rfl) ?_
          refine j_q (qs_field Tryz.underlying36 rfl sz33 (by decide) rfl) ?_
          refine j_perm (S' := [n.c, n.lf, j1.heap, r1.heap, [(q1.g, q1.obj)], q1.n.heap, q1.d.heap]) (by simp [WM.heap]) ?_
          refine j_q (qs_load (l := [q1.n.v, q1.d.v]) 4 Tryz.underlying33 rfl rfl rfl rfl) ?_
          refine j_call0 ent13 rfl rfl rfl (fun w' hw' => groups_con n.gs q1.n.gs n.v q1.n.v w' (hn.seen (fun z hz => by
            rcases List.mem_append.1 hz with h | h
            · exact in_own hw' 0 rfl z h
            · exact in_own hw' 1 rfl z h)) (hq1.n.seen (in_own hw' 5 rfl)) (by omega) hng1) (fun u S2 hu => ?_)
          obtain ⟨bb, rfl, hbb⟩ := hu
          rw [hbb (hng.trans hq1.gs.symm)]
          refine j_subl (S' := [n.c, n.lf, j1.heap, r1.heap, [(q1.g, q1.obj)], q1.n.heap, q1.d.heap]) (List.sublist_append_right _ _) ?_
          refine j_perm (S' := [n.c, n.lf, j1.heap, r1.heap, q1.heap]) (by simp [WM.heap]) ?_
          refine j_q (qs_not rfl) ?_
          refine j_cond rfl (fun hc4 => ?_) (fun hc4 => ?_)
          · skip
            simp at hc4
          · skip
            refine j_q (qs_ac) ?_
            refine j_loop (fun m vs S' => ∃ k : Nat, vs = [.int .i64 (k : Int)] ∧ S' = [n.c, ((n.L.drop k).map RR.heap).flatten, j1.heap, r1.heap, q1.heap] ∧ k ≤ n.L.length ∧ m = n.L.length - k) ⟨_, 0, rfl, rfl, Nat.zero_le _, rfl⟩ ?_
            rintro m vs S' hlen ⟨k, rfl, rfl, hk, rfl⟩
            refine j_q (qs_lenl (n := n.L.length) (A := An) (c := capn) Tryz.underlying33 hnv) ?_
            refine j_q (qs_lss rfl rfl) ?_
            refine j_cond rfl (fun hc5 => ?_) (fun hc5 => ?_)
            · skip
              have hkl : k < n.L.length := by
                simp only [bnA] at *
                omega
              obtain ⟨g1, hg1⟩ := hnA (by omega)
              have hrow := hn.row
              rw [hnv, hg1] at hrow
              obtain ⟨x, hx⟩ : ∃ x, x = n.L[k] := ⟨_, rfl⟩
              have hxx : n.L[k]? = some x := by rw [hx]; exact List.getElem?_eq_getElem hkl
              obtain ⟨hxo, hxg⟩ := hn.get hxx
              obtain ⟨Ax, capx, hxv, hxA⟩ := hxo.form
              have hxl9 : ∀ z ∈ x.rs, z.length ≤ 1000000 := (hng1 _ hxg).2
              have hxn9 : x.L.length ≤ 1000000 := by
                have h9 := (hng1 _ hxg).1
                have h8 : x.rs.length = x.L.length := List.length_map _
                omega
              refine j_perm (S' := [n.c, x.c, x.lf, ((n.L.drop (k + 1)).map RR.heap).flatten, j1.heap, r1.heap, q1.heap]) (by
                rw [drop_flat RR.heap hkl hxx]
                simp [RR.heap]) ?_
              refine j_q (qs_ac) ?_
              refine j_loop (fun m vs S' => ∃ t : Nat, vs = [.int .i64 (t : Int)] ∧ S' = [n.c, x.c, ((x.L.drop t).map fun z => z.2.2).flatten, ((n.L.drop (k + 1)).map RR.heap).flatten, j1.heap, r1.heap, q1.heap] ∧ t ≤ x.L.length ∧ m = x.L.length - t) ⟨_, 0, rfl, rfl, Nat.zero_le _, rfl⟩ ?_
              rintro m vs S' hlen ⟨t, rfl, rfl, ht0, rfl⟩
              refine j_q (qs_ixl0 (a := ⟨g1, 0, none⟩) (n := n.L.length) (c := capn) Tryz.underlying33 sz34 (by show n.v = _; rw [hnv, hg1]) rfl (by omega)) ?_
              refine j_q (qs_loadR (v := x.v) (a := ⟨g1, 0, none⟩) (i := k) (own_rd hrow 0 rfl) Tryz.underlying34 rfl (by show Value.pointer (some (Addr.add ⟨g1, 0, none⟩ (k : Int).toNat)) = _; rw [Int.toNat_natCast]) (by rw [List.getElem?_map, hxx]; rfl)) ?_
              rw [hxv]
              refine j_q (qs_lenl (n := x.L.length) (A := Ax) (c := capx) Tryz.underlying34 rfl) ?_
              refine j_q (qs_lss rfl rfl) ?_
              refine j_cond rfl (fun hc6 => ?_) (fun hc6 => ?_)
              · skip
                have ht : t < x.L.length := by
                  simp only [bnA] at *
                  omega
                obtain ⟨g2, hg2⟩ := hxA (by omega)
                have hrow2 := hxo.row
                rw [hxv, hg2] at hrow2
                obtain ⟨y, hy⟩ : ∃ y, y = x.L[t] := ⟨_, rfl⟩
                have hyy : x.L[t]? = some y := by rw [hy]; exact List.getElem?_eq_getElem ht
                have hym : y ∈ x.L := by rw [hy]; exact List.getElem_mem ht
                have hyl := hxl9 y.1 (List.mem_map.2 ⟨y, hym, rfl⟩)
                refine j_q (qs_ixl0 (a := ⟨g1, 0, none⟩) (n := n.L.length) (c := capn) Tryz.underlying33 sz34 (by show n.v = _; rw [hnv, hg1]) rfl (by omega)) ?_
                refine j_q (qs_loadR (v := x.v) (a := ⟨g1, 0, none⟩) (i := k) (own_rd hrow 0 rfl) Tryz.underlying34 rfl (by show Value.pointer (some (Addr.add ⟨g1, 0, none⟩ (k : Int).toNat)) = _; rw [Int.toNat_natCast]) (by rw [List.getElem?_map, hxx]; rfl)) ?_
                rw [hxv]
                refine j_q (qs_ixl0 (a := ⟨g2, 0, none⟩) (n := x.L.length) (c := capx) Tryz.underlying34 sz39 (by show Value.slice Ax _ _ = _; rw [hg2]) rfl (by omega)) ?_
                refine j_q (qs_loadR (v := y.2.1) (a := ⟨g2, 0, none⟩) (i := t) (own_rd hrow2 1 rfl) Tryz.underlying39 rfl (by show Value.pointer (some (Addr.add ⟨g2, 0, none⟩ (t : Int).toNat)) = _; rw [Int.toNat_natCast]) (by rw [List.getElem?_map, hyy]; rfl)) ?_
                refine j_perm (S' := [n.c, x.c, y.2.2, ((x.L.drop (t + 1)).map fun z => z.2.2).flatten, ((n.L.drop (k + 1)).map RR.heap).flatten, j1.heap, r1.heap, q1.heap]) (by
                  rw [drop_flat (fun z : List UInt8 × Value × SH => z.2.2) ht hyy]
                  simp) ?_
                refine j_call 2 ent14 rfl rfl rfl rfl (fun w' hw' => spoil_con y.1 y.2.1 y.2.2 w' (hxo.own y hym) (by omega)) (fun u S2 _ => ?_)
                refine j_subl (S' := [n.c, x.c, ((x.L.drop (t + 1)).map fun z => z.2.2).flatten, ((n.L.drop (k + 1)).map RR.heap).flatten, j1.heap, r1.heap, q1.heap]) (by
                  refine List.Sublist.trans ?_ (List.sublist_append_right _ _)
                  exact (by repeat first | exact slR _ | exact slN _ | apply slC | apply slD)) ?_
                refine j_q (qs_add64 rfl rfl (by first | omega | (simp only [bnA] at *; omega))) ?_
                refine j_back rfl ?_
                exact ⟨_, by omega, t + 1, rfl, rfl, by omega, rfl⟩
              · skip
                refine j_q (qs_add64 rfl rfl (by first | omega | (simp only [bnA] at *; omega))) ?_
                refine j_subl (S' := [n.c, ((n.L.drop (k + 1)).map RR.heap).flatten, j1.heap, r1.heap, q1.heap]) (by repeat first | exact slR _ | exact slN _ | apply slC | apply slD) ?_
                refine j_back rfl ?_
                exact ⟨_, by omega, k + 1, rfl, rfl, by omega, rfl⟩
            · skip
              refine j_q (qs_add64 rfl rfl (by first | omega | (simp only [bnA] at *; omega))) ?_
              refine j_subl (S' := [j1.heap, r1.heap, q1.heap]) (by repeat first | exact slR _ | exact slN _ | apply slC | apply slD) ?_
              refine j_back rfl ?_
              exact ⟨_, by omega, i + 1, j1, r1, q1, a1, f1, rfl, rfl, hj1, hr1, hjf1, hq1, hd1, hfu1, hroom1, by rw [sumX_succ hi1]; exact hpi1, hgr1.trans hgr, hgq1.trans hgq, hi1, hi2, rfl⟩
      · skip
        refine j_call0 ent8 rfl rfl rfl (fun w' hw' => known_con w' (hP.keep hw' (by simp))) (fun u S2 hu => ?_)
        subst hu
        refine j_ret_con (vs := [_]) (fun w' hw' => ⟨rfl, trivial⟩) ?_
        rfl
end Go.Proofs.YtomajiicjinekaaGreatDoor
/-! Arg8 -/
namespace Go.Proofs.YtomajiicjinekaaGreatDoor
open Go Go.Sx Go.ChangeShapes Go.WideShapes Go.ChangeAt Go.RowKit
set_option linter.unusedVariables false
set_option maxRecDepth 100000
def BRz (w : World) (p : Value × List UInt8) : Prop := (p.1 = .slice none 0 0 ∧ p.2 = []) ∨ ∃ a cap, p.1 = .slice (some a) p.2.length cap ∧ p.2.length ≤ cap ∧ Cells w a (ints p.2)
theorem brz_br {w : World} {v : Value} {xs : List UInt8} (h : BRz w (v, xs)) : BR w v xs := by
  rcases h with h | ⟨a, cap, h1, h2, h3⟩
  · exact .inl h
  · refine .inr ⟨a, cap, h1, h2, fun h0 => ?_, h3⟩
    have h4 := h3 0 _ (ints_get_lt h0)
    have h5 : (a.add 0).block = a.block := rfl
    unfold World.cell? at h4
    split at h4
    · rename_i hh
      rw [h5] at hh
      exact (Array.getElem?_eq_some_iff.1 hh).1
    · cases h4
theorem weights_at {H : Type} {P : Program} {ts : List TypeId} {ds : List (DataW H)} (h : (DataW.weightsEach P ts ds).all (· ≤ reachBytes) = true) {j : Nat} {t : TypeId} {d : DataW H} (ht : ts[j]? = some t) (hd : ds[j]? = some d) : (d.weights P t).all (· ≤ reachBytes) = true :=
  List.all_eq_true.2 fun n hn => List.all_eq_true.1 h n (DataW.weights_mem_each ht hd n hn)
theorem row_trod {H : Type} {enc : TypeId × Value → H} {w : World} {b0 : Nat} {sp : Nat → Bool} {held : Bool} (fuel : Nat) (cs : List Value) (y : DataW H × List MemPlace) (h : DataW.trod enc Tryz.prog w b0 sp held fuel 39 cs = some y) (hw : (y.1.weights Tryz.prog 39).all (· ≤ reachBytes) = true) :
    ∃ p : Value × List UInt8, (BRz w p ∧ p.2.length ≤ 140737488351232) ∧ cs = [p.1] := by
  rcases open_ints Tryz.underlying39 Tryz.underlying5 (by kernel_rfl) h with ⟨hcs, _⟩ | ⟨a, len, cap, zs, hcs, hb, hl, hm, hz, hx, hcell, hsz⟩
  · exact ⟨(.slice none 0 0, []), ⟨.inl ⟨rfl, rfl⟩, Nat.zero_le _⟩, hcs⟩
  · have hlen : len ≤ zs.length := by rw [hz]; split <;> omega
    have hll : ((zs.take len).map by8).length = len := by simp [Nat.min_eq_left hlen]
    have hwl : len ≤ 140737488351232 := by
      have h0 := List.all_eq_true.1 hw (((lits IntKind.u8 (zs.take len) : List (DataW H)).length + (lits IntKind.u8 (zs.drop len) : List (DataW H)).length) * Tryz.prog.bytesOf 5) (by rw [hx]; simp [DataW.weights, Tryz.underlying39])
      have hb5 : Tryz.prog.bytesOf 5 = 1 := by kernel_rfl
      have hreach : reachBytes = 140737488351232 := rfl
      rw [hb5] at h0
      have h1 : (lits IntKind.u8 (zs.take len) : List (DataW H)).length = len := by simp [lits, Nat.min_eq_left hlen]
      rw [h1] at h0
      simp only [decide_eq_true_eq] at h0
      omega
    refine ⟨(.slice (some a) len cap, (zs.take len).map by8), ⟨.inr ⟨a, cap, by simp only [hll], by simp only [hll]; exact hl, fun j u hu => ?_⟩, by simp only [hll]; exact hwl⟩, hcs⟩
    rw [ints_get] at hu
    obtain ⟨c, hc1, rfl⟩ := Option.map_eq_some_iff.1 hu
    rw [List.getElem?_map] at hc1
    obtain ⟨z, hz1, rfl⟩ := Option.map_eq_some_iff.1 hc1
    have hz2 : zs[j]? = some z := by
      rw [List.getElem?_take] at hz1
      split at hz1
      · exact hz1
      · cases hz1
    have hlt := (List.getElem?_eq_some_iff.1 hz2).1
    rw [hcell j hlt]
    have hr := hsz z (List.mem_of_getElem? hz2)
    have hr2 : 0 ≤ z ∧ z ≤ 255 := by
      have h1 : IntKind.u8.min = 0 := rfl
      have h2 : IntKind.u8.max = 255 := rfl
      simp [Lit.wf, h1, h2] at hr
      omega
    have hw : IntKind.u8.wrap z = z := by rw [IntKind.wrap_u8]; omega
    rw [← wrap_by8, hw]
    simp [List.getD_eq_getElem?_getD, hz2]
theorem trod_struct3' {H : Type} {enc : TypeId × Value → H} {P : Program} {w : World} {base : Nat} {spare : Nat → Bool} {held : Bool} {t : TypeId} {f0 f1 f2 : Field} {fuel : Nat} {cs : List Value} {x : DataW H × List MemPlace} (ht : P.underlying t = some (.struct #[f0, f1, f2])) (h : DataW.trod enc P w base spare held fuel t cs = some x) :
    ∃ y0 y1 y2 n, x = (.agg [y0.1, y1.1, y2.1], y0.2 ++ (y1.2 ++ y2.2)) ∧ cs.length = P.cellsOf t ∧ DataW.trod enc P w base spare held n f0.type ((cs.drop f0.offset).take (P.cellsOf f0.type)) = some y0 ∧
      DataW.trod enc P w base spare held n f1.type ((cs.drop f1.offset).take (P.cellsOf f1.type)) = some y1 ∧ DataW.trod enc P w base spare held n f2.type ((cs.drop f2.offset).take (P.cellsOf f2.type)) = some y2 := by
  obtain ⟨xs, n, _, rfl, hl, hlen, hf⟩ := DataW.trod_struct ht h
  match xs, hlen with
  | [y0, y1, y2], _ => exact ⟨y0, y1, y2, n, by simp, hl, by simpa using hf 0 f0 rfl, by simpa using hf 1 f1 rfl, by simpa using hf 2 f2 rfl⟩
theorem intOk_wf {n : Int} (h : (Lit.int .i64 n).wf = true) : intOk n := by
  have h1 : IntKind.i64.min = -9223372036854775808 := rfl
  have h2 : IntKind.i64.max = 9223372036854775807 := rfl
  simp only [Lit.wf, h1, h2, Bool.and_eq_true, decide_eq_true_eq] at h
  exact h
theorem st_trod {H : Type} {enc : TypeId × Value → H} {w : World} {b0 : Nat} {sp : Nat → Bool} {held : Bool} (fuel : Nat) (cs : List Value) (y : DataW H × List MemPlace) (h : DataW.trod enc Tryz.prog w b0 sp held fuel 41 cs = some y) (hw : (y.1.weights Tryz.prog 41).all (· ≤ reachBytes) = true) :
    ∃ a : SJ, a.Ok w ∧ cs = encJ a := by
  obtain ⟨y0, y1, y2, n, rfl, hl, h0, h1, h2⟩ := trod_struct3' Tryz.underlying41 h
  have hc : Tryz.prog.cellsOf 41 = 3 := by kernel_rfl
  rw [hc] at hl
  match cs, hl with
  | [c0, c1, c2], _ =>
    have e3 : Tryz.prog.cellsOf 3 = 1 := by kernel_rfl
    have e39 : Tryz.prog.cellsOf 39 = 1 := by kernel_rfl
    simp only [e3, e39, List.drop_zero, List.take_succ_cons, List.take_zero, List.drop_succ_cons] at h0 h1 h2
    obtain ⟨k0, hk0, e0, w0⟩ := DataW.trod_int Tryz.underlying3 h0
    obtain ⟨k1, hk1, e1, w1⟩ := DataW.trod_int Tryz.underlying3 h1
    unfold DataW.weights at hw
    rw [Tryz.underlying41] at hw
    simp only [List.map_cons, List.map_nil, DataW.weightsEach, List.all_append, List.all_nil, Bool.and_eq_true, Bool.and_true] at hw
    obtain ⟨hw0, hw1, hw2⟩ := hw
    obtain ⟨p4, ⟨hp4, hp5⟩, hb4⟩ := row_trod n [c2] y2 h2 hw2
    injection hk0 with hk0
    injection hk1 with hk1
    injection hb4 with hb4
    subst hk0 hk1 hb4
    exact ⟨⟨k0, k1, p4.1, p4.2⟩, ⟨intOk_wf w0, intOk_wf w1, brz_br hp4, hp5⟩, rfl⟩
theorem open_script {H : Type} {enc : TypeId × Value → H} {w : World} {r : Go.Reach} {base b0 : Nat} {sp : Nat → Bool} {held : Bool} {v : Value} {x : DataW H × List MemPlace} (hv : Value.okWide Tryz.prog w r base 22 v)
    (h : ∃ fuel, DataW.trod enc Tryz.prog w b0 sp held fuel 22 v.cells.toList = some x) (hw : (x.1.weights Tryz.prog 22).all (· ≤ reachBytes) = true) : ∃ rs : List SJ, Script w v rs ∧ rs.length ≤ 4611686018427387903 := by
  obtain ⟨rs, h1, h2, h3⟩ := open_sln (α := SJ) encJ (SJ.Ok w) encJ_len (by decide) Tryz.underlying22 (by kernel_rfl) hv st_trod h hw
  have hb : Tryz.prog.bytesOf 41 = 40 := by kernel_rfl
  have hreach : reachBytes = 140737488351232 := rfl
  rw [hb] at h3
  exact ⟨rs, ⟨h1, h2⟩, by omega⟩
theorem journalPlays_con (rs : List SJ) (vl : Value) (w : World) (hs : Script w vl rs) (_ : rs.length ≤ 4611686018427387903) (hP : P10 w) : Con Tryz.prog 3 [vl] w [] fun u _ => u = .bool true := jPlays_con rs vl w hs hP
end Go.Proofs.YtomajiicjinekaaGreatDoor
/-! RowP -/
namespace Go.Proofs.YtomajiicjinekaaGreatDoor
open Go Go.Sx Go.ChangeShapes Go.WideShapes Go.ChangeAt Go.RowKit
set_option linter.unusedVariables false
theorem own_journalPlays : ownKnob Tryz.prog.godebug = none := by kernel_rfl
theorem laid_journalPlays : laidOutB Tryz.prog = true := by kernel_rfl
set_option maxRecDepth 100000 in
theorem door_met_journalPlays (os : Os) (args : Array Value) : laidMetH Tryz.prog Rows.journalPlaysRow.laid ((World.doorLaid Tryz.prog 400 os).forCall (fun _ _ => 0) ⟨#[], args, []⟩).memory := by
  rw [MakeChecks.laidMetH_plain _ _ _ (by kernel_rfl)]
  exact laidMet_of_run' 8 (by kernel_rfl) (by kernel_rfl)
theorem p10_of_laid_journalPlays {W : World} (h : laidMetH Tryz.prog Rows.journalPlaysRow.laid W) : P10 W := by
  rw [MakeChecks.laidMetH_plain _ _ _ (by kernel_rfl)] at h
  have h3 : Lib.TabIs Tryz.prog W "internal/strconv.uint64pow10" .u64 p10 := Lib.tabIs_of_head (t := 164) (e := 59) (n := 20) (g := 0) (by kernel_rfl) (by kernel_rfl) Tryz.underlying164 Tryz.underlying59 (by kernel_rfl) (by kernel_rfl) (rest := []) h.tail.tail
  have hc : ∀ i, i < 20 → W.cell? ⟨0, i, none⟩ = some (.int .u64 (p10.getD i 0)) := fun i hi => h3.cell (by kernel_rfl) i hi
  refine ⟨?_, fun j u hu => ?_⟩
  · have h0 := hc 0 (by decide)
    unfold World.cell? at h0
    by_cases hz : 0 < W.heap.size
    · exact hz
    · rw [Array.getElem?_eq_none (by simp only []; omega)] at h0
      cases h0
  · obtain ⟨hj, rfl⟩ := List.getElem?_eq_some_iff.1 hu
    have hj' : j < 20 := by rw [ks_length] at hj; exact hj
    rw [add_off, Nat.zero_add, hc j hj']
    have := ks_get (k := .u64) (l := p10) (i := j) hj'
    rw [← this, List.getElem?_eq_getElem hj]
set_option maxRecDepth 100000 in
theorem journalPlays_lifted (os : Os) (started : os.Started) (H : Type) (enc : TypeId × Value → H) :
    ReturnsInHanded {} Tryz.checked os 3 .any (fun w args => (Rows.journalPlaysSpec.pre enc Tryz.prog Tryz.f3 [] false w args ∧ laidMetH Tryz.prog Rows.journalPlaysRow.laid w) ∧ sizedMet enc Tryz.prog Tryz.f3 (OpenSpec.ofChange Rows.journalPlaysSpec) false w args) (Rows.journalPlaysSpec.post enc Tryz.prog Tryz.f3 false true false false) := by
  refine returnsInHanded_of_change_and (C := Tryz.checked) (X := fun w _ => laidMetH Tryz.prog Rows.journalPlaysRow.laid w) (fun _ _ _ hh h => h.of_heap hh) own_journalPlays started (by kernel_rfl) Tryz.func3
    (ChangeSpec.witness_shaped (enc := enc) (C := Tryz.checked) (os := os) (X := fun w _ => laidMetH Tryz.prog Rows.journalPlaysRow.laid w) false (World.doorLaid Tryz.prog 400 os) #[.slice none 0 0] 8 rfl (World.shaped_of_RefB (by kernel_rfl) (by kernel_rfl)) (by kernel_rfl) (by kernel_rfl) (by kernel_rfl) (door_met_journalPlays os _)) ?_
  intro W base args ds gs before hval0 hW hcnd hsz0 hL _
  have hsz : (DataW.weightsEach Tryz.prog (Tryz.f3.params.toList ++ Rows.journalPlaysSpec.plain.varTypes Tryz.prog) (ds ++ gs)).all (· ≤ reachBytes) = true := hsz0
  have hreach : reachBytes = 140737488351232 := rfl
  have hval : ∀ (j : Nat) t v, Tryz.f3.params[j]? = some t → args[j]? = some v → Value.okWide Tryz.prog W .any base t v := hval0
  have hW' := hW
  obtain ⟨p, q, hA0, hV, rfl, hfz, hnd⟩ := hW
  have hA : DataW.TrodAll enc Tryz.prog W 0 (fun _ => true) true Tryz.f3.params.toList args.toList ds p := hA0
  rw [Tryz.params3] at hA hval
  obtain ⟨v0, d0, rfl, rfl, h0⟩ := trodAll_one hA
  obtain ⟨rfl, rfl⟩ := trodVars_none hV
  obtain ⟨a0, wa0_0, wa0_1⟩ := open_script (hval 0 22 v0 rfl rfl) h0 (weights_at hsz (j := 0) (t := 22) (by rw [Tryz.params3]; rfl) rfl)
  clear hA0 hval0
  have hP := p10_of_laid_journalPlays hL
  have hc := journalPlays_con a0 v0 W wa0_0 wa0_1 hP (by simp) (by simp)
  refine hc.mono fun e W' h => ?_
  obtain ⟨v, S', rfl, rfl, hS⟩ := h
  exact ⟨_, rfl, post_law hW' rfl rfl laid_journalPlays (by decide +kernel) rfl Tryz.underlying4 (below_of_sig hS)⟩
theorem journalPlays_holds : Rows.JournalPlaysSaid :=
  OpenClaim.holds_of_wide 3 Tryz.f3 rfl rfl rfl rfl rfl rfl rfl ⟨rfl, rfl, rfl, rfl, rfl⟩ rfl rfl rfl rfl rfl (by kernel_rfl) Tryz.func3 (by kernel_rfl)
    (of_decide_eq_true (by kernel_rfl)) (by unfold Func.isWrapper; first | (rw [if_pos (by decide +kernel)]; kernel_rfl) | (rw [if_neg (by decide +kernel)]; exact ⟨rfl, rfl⟩))
    (fun os started H enc _ => journalPlays_lifted os started H enc)
theorem journalPlaysCard_holds : Rows.JournalPlaysCardSaid :=
  Claim7.holds_tied_plain_at .later [] [.data, .data, .data] true (true, "977d215e86fb9408077f2dbeaf3a1bea85ca5a5894d8e6e3efd3f1765f63237c") false
    journalPlays_holds (fun _ h => by cases h) (by kernel_rfl) (fun _ h => by cases h) journalPlays_row_tie rfl ⟨rfl, rfl⟩ (by kernel_rfl) rfl
    (fun f fn hf hfn => by
      obtain rfl : f = 3 := Option.some.inj ((show Tryz.prog.funcNamed "pantry/pantrylaw8.JournalPlays" = some 3 by kernel_rfl).symm.trans hf) |>.symm
      obtain rfl : fn = Tryz.f3 := (Option.some.inj (Tryz.func3.symm.trans hfn)).symm
      exact ⟨by kernel_rfl, fun j t ht => by
        rw [Tryz.params3] at ht
        have hm : t ∈ [22] := by simpa using Array.mem_of_getElem? ht
        have hall : ([22].all fun u => !Tryz.prog.wantsStandIn u) = true := by kernel_rfl
        exact (show Tryz.prog.wantsStandIn t = false by simpa using List.all_eq_true.1 hall t hm)⟩)
    (by kernel_rfl)
end Go.Proofs.YtomajiicjinekaaGreatDoor
