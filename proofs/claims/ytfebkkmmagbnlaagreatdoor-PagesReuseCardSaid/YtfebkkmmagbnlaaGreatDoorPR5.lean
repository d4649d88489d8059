/- Part 5. -/
import Derived.Test.YtfebkkmmagbnlaaGreatDoorPR3
import Derived.Test.YtfebkkmmagbnlaaGreatDoorPR4
import Derived.Shelf.SlIter.Nil
import Derived.Shelf.SortM.Plain
import Derived.Shelf.SortM.SortNone
import Derived.Ground.GgzProg
import Derived.Ground.SlgmProg
import Derived.Test.YtfebkkmmagbnlaaGreatDoorProg
import Derived.Maps.RangeRun
/-! Fs9 -/
namespace Go.Proofs.YtfebkkmmagbnlaaGreatDoor
open Go Go.Sx
set_option maxRecDepth 100000
set_option maxHeartbeats 4000000
set_option linter.unusedVariables false
set_option linter.unusedSimpArgs false
attribute [local irreducible] J JQ QS Con W opW
theorem same_con (xs ys : List UInt8) (v1 v2 : Value) (w : World) (h1 : BR w v1 xs) (h2 : BR w v2 ys) (hl : xs.length ≤ 1000000000) : Con Tryz.prog 25 [v1, v2] w [] fun u _ => u = .bool (xs == ys) := by
  refine con_of_tree mix Tryz.func25 T25_ok (by kernel_rfl) ?_
  unfold T25
  obtain ⟨A1, c1, hv1, hc1'⟩ := br_form h1
  obtain ⟨A2, c2, hv2, hc2'⟩ := br_form h2
  subst hv1 hv2
  refine j_q (qs_ac) ?_
  refine j_q (qs_lenl Tryz.underlying33 rfl) ?_
  refine j_q (qs_lenl Tryz.underlying33 rfl) ?_
  refine j_q (qs_neq rfl rfl) ?_
  refine j_cond rfl (fun hc0 => ?_) (fun hc0 => ?_)
  · skip
    have hne : xs.length ≠ ys.length := by
      simp only [bnA] at *
      omega
    refine j_q (qs_ac) ?_
    refine j_ret_con (vs := [_]) (fun w' hw' => ⟨rfl, trivial⟩) ?_
    show Value.bool _ = _
    congr 1
    symm
    rw [beq_eq_false_iff_ne]
    exact fun e => hne (by rw [e])
  · skip
    have heq : xs.length = ys.length := by
      simp only [bnA] at *
      omega
    refine j_q (qs_ac) ?_
    refine j_loop (fun m vs S' => ∃ i : Nat, vs = [.int .i64 (i : Int)] ∧ S' = [[]] ∧ (∀ j, j < i → xs.getD j 0 = ys.getD j 0) ∧ i ≤ xs.length ∧ m = xs.length - i) ⟨_, 0, rfl, rfl, (fun j hj => by omega), Nat.zero_le _, rfl⟩ ?_
    rintro m vs S' hlen ⟨i, rfl, rfl, hall, hin, rfl⟩
    refine j_q (qs_lenl Tryz.underlying33 rfl) ?_
    refine j_q (qs_lss rfl rfl) ?_
    refine j_cond rfl (fun hc1 => ?_) (fun hc1 => ?_)
    · skip
      have hi : i < xs.length := by
        simp only [bnA] at *
        omega
      have hi2 : i < ys.length := by omega
      obtain ⟨a1, rfl, hcl1⟩ : ∃ a, A1 = some a ∧ Cells w a (ints xs) := by
        rcases h1 with ⟨_, e⟩ | ⟨a, c, e, _, _, hcc⟩
        · rw [e] at hi; simp at hi
        · injection e with e1
          exact ⟨a, e1, hcc⟩
      obtain ⟨a2, rfl, hcl2⟩ : ∃ a, A2 = some a ∧ Cells w a (ints ys) := by
        rcases h2 with ⟨_, e⟩ | ⟨a, c, e, _, _, hcc⟩
        · rw [e] at hi2; simp at hi2
        · injection e with e1
          exact ⟨a, e1, hcc⟩
      refine j_draw ?_
      refine jq_q (qs_ixl0 Tryz.underlying33 sz5 rfl rfl ⟨(by first | omega | (simp only [bnA] at *; omega)), (by first | omega | (simp only [bnA] at *; omega))⟩) ?_
      refine jq_q (qs_loadR (v := .int .u8 ((xs.getD i 0).toNat : Int)) (a := a1) (i := i) (rd_cells hcl1 (by simp)) Tryz.underlying5 rfl (by show Value.pointer (some (Addr.add a1 (i : Int).toNat)) = _; rw [Int.toNat_natCast]) (ints_get_lt hi)) ?_
      refine jq_q (qs_ixl0 Tryz.underlying33 sz5 rfl rfl ⟨(by first | omega | (simp only [bnA] at *; omega)), (by first | omega | (simp only [bnA] at *; omega))⟩) ?_
      refine jq_q (qs_loadR (v := .int .u8 ((ys.getD i 0).toNat : Int)) (a := a2) (i := i) (rd_cells hcl2 (by simp)) Tryz.underlying5 rfl (by show Value.pointer (some (Addr.add a2 (i : Int).toNat)) = _; rw [Int.toNat_natCast]) (ints_get_lt hi2)) ?_
      refine jq_q (qs_neq rfl rfl) ?_
      refine jq_nil ?_
      refine j_cond rfl (fun hc2 => ?_) (fun hc2 => ?_)
      · skip
        have hd : xs.getD i 0 ≠ ys.getD i 0 := fun e => by rw [e] at hc2; simp at hc2
        refine j_q (qs_ac) ?_
        refine j_ret_con (vs := [_]) (fun w' hw' => ⟨rfl, trivial⟩) ?_
        show Value.bool _ = _
        congr 1
        symm
        rw [beq_eq_false_iff_ne]
        exact fun e => hd (by rw [e])
      · skip
        have hd : xs.getD i 0 = ys.getD i 0 := by
          have h3 : ((xs.getD i 0).toNat : Int) = ((ys.getD i 0).toNat : Int) := by simpa using hc2
          exact UInt8.toNat_inj.1 (by omega)
        refine j_q (qs_add64 rfl rfl (by first | omega | (simp only [bnA] at *; omega))) ?_
        refine j_back rfl ?_
        exact ⟨xs.length - (i + 1), by omega, i + 1, rfl, rfl, fun j hj => by
          rcases Nat.lt_or_ge j i with h | h
          · exact hall j h
          · obtain rfl : j = i := by omega
            exact hd, by omega, rfl⟩
    · skip
      have hi : i = xs.length := by
        simp only [bnA] at *
        omega
      refine j_q (qs_ac) ?_
      refine j_ret_con (vs := [_]) (fun w' hw' => ⟨rfl, trivial⟩) ?_
      show Value.bool _ = _
      congr 1
      symm
      rw [beq_iff_eq]
      apply List.ext_getElem heq
      intro j h3 h4
      have h5 := hall j (by omega)
      rw [List.getD_eq_getElem?_getD, List.getD_eq_getElem?_getD, List.getElem?_eq_getElem h3, List.getElem?_eq_getElem h4] at h5
      simpa using h5
end Go.Proofs.YtfebkkmmagbnlaaGreatDoor
/-! Iter -/
namespace Go.Proofs
open Go.RowKit Go.Maps Go.Sort Go.Shelf
end Go.Proofs
/-! Srk7 -/
namespace Go.Proofs.YtfebkkmmagbnlaaGreatDoor
open Go Go.Sx
set_option maxRecDepth 100000
set_option maxHeartbeats 4000000
set_option linter.unusedVariables false
set_option linter.unusedSimpArgs false
attribute [local irreducible] J JQ QS Con W opW
open Go.MapKept Go.WideMaps Go.Maps Go.RowKit Go.Shelf Go.Sort
end Go.Proofs.YtfebkkmmagbnlaaGreatDoor
/-! Fs10 -/
namespace Go.Proofs.YtfebkkmmagbnlaaGreatDoor
open Go Go.Sx
set_option maxRecDepth 100000
set_option maxHeartbeats 4000000
set_option linter.unusedVariables false
set_option linter.unusedSimpArgs false
attribute [local irreducible] J JQ QS Con W opW
open Go.MapKept Go.WideMaps Go.Maps
end Go.Proofs.YtfebkkmmagbnlaaGreatDoor
/-! Fs11 -/
namespace Go.Proofs.YtfebkkmmagbnlaaGreatDoor
open Go Go.Sx
set_option maxRecDepth 100000
set_option maxHeartbeats 4000000
set_option linter.unusedVariables false
set_option linter.unusedSimpArgs false
attribute [local irreducible] J JQ QS Con W opW
open Go.MapKept Go.WideMaps Go.Maps
end Go.Proofs.YtfebkkmmagbnlaaGreatDoor
/-! Fs12 -/
namespace Go.Proofs.YtfebkkmmagbnlaaGreatDoor
open Go Go.Sx
set_option maxRecDepth 100000
set_option maxHeartbeats 4000000
set_option linter.unusedVariables false
set_option linter.unusedSimpArgs false
attribute [local irreducible] J JQ QS Con W opW
open Go.MapKept Go.WideMaps Go.Maps
theorem br0 {w w' : World} {v : Value} {xs : List UInt8} {S : List SH} (h : BR w v xs) (hs : Sig ⟨w, dom []⟩ S w') : BR w' v xs := br_keep h (fun a m c e _ => by simp [dom]) hs
theorem own_br {b : Base} {S : List SH} {w : World} {v : Value} {c : SH} {xs : List UInt8} (h : Sx.Own 5 1 (ints xs) v c) (k : Nat) (hk : S[k]? = some c) (hw : Sig b S w) : BR w v xs := br_rsl (rsl_own h k hk hw)
end Go.Proofs.YtfebkkmmagbnlaaGreatDoor
/-! Fs13 -/
namespace Go.Proofs.YtfebkkmmagbnlaaGreatDoor
open Go Go.Sx
set_option maxRecDepth 100000
set_option maxHeartbeats 4000000
set_option linter.unusedVariables false
set_option linter.unusedSimpArgs false
attribute [local irreducible] J JQ QS Con W opW
open Go.MapKept Go.WideMaps Go.Maps
end Go.Proofs.YtfebkkmmagbnlaaGreatDoor
/-! Fs14 -/
namespace Go.Proofs.YtfebkkmmagbnlaaGreatDoor
open Go Go.Sx
set_option maxRecDepth 100000
set_option maxHeartbeats 4000000
set_option linter.unusedVariables false
set_option linter.unusedSimpArgs false
attribute [local irreducible] J JQ QS Con W opW
open Go.MapKept Go.WideMaps Go.Maps
theorem letsM_none {s : SM} {n : List UInt8} (hl : alook s.ml n = none) : letsM s n = s := by
  unfold letsM
  rw [hl]
theorem gives_fresh {s : SM} {n : List UInt8} {id : Nat} {v : Value} {xs : List UInt8} {g : Nat} (hl : alook s.ml n = none) (hid : ∀ f ∈ s.fs, f.id ≠ id) : givesM (newM s id v xs g) n (g, id) = { s with ml := s.ml ++ [(n, (g, id))], fs := ⟨g, id, v, xs, 1⟩ :: s.fs } := by
  have hb : bump ((⟨g, id, v, xs, 0⟩ : FL) :: s.fs) id 1 = ⟨g, id, v, xs, 1⟩ :: s.fs := by
    have e : bump ((⟨g, id, v, xs, 0⟩ : FL) :: s.fs) id 1 = (if id = id then (⟨g, id, v, xs, 0 + 1⟩ : FL) else ⟨g, id, v, xs, 0⟩) :: bump s.fs id 1 := rfl
    rw [e, if_pos rfl, bump_off hid]
    rfl
  have h1 : alook (newM s id v xs g).ml n ≠ some (g, id) := by
    show alook s.ml n ≠ _
    rw [hl]
    exact fun e => by cases e
  unfold givesM
  rw [if_neg h1, letsM_none (by exact hl)]
  show ({ s with ml := s.ml ++ [(n, (g, id))], fs := bump ((⟨g, id, v, xs, 0⟩ : FL) :: s.fs) id 1 } : SM) = _
  rw [hb]
theorem tot_cons (x : FL) (fs : List FL) : tot (x :: fs) = x.xs.length + tot fs := by simp [tot]
theorem tot_filter {s : SM} (h : Raw s) {x : FL} (hx : x ∈ s.fs) : tot (s.fs.filter fun y => decide (y.id ≠ x.id)) + x.xs.length = tot s.fs := by
  obtain ⟨a, b, hab⟩ := List.append_of_mem hx
  have hids := h.ids
  rw [hab] at hids ⊢
  rw [filter_split hids, tot_split]
theorem readZ_con (f : FM) (B : Nat) (n : List UInt8) (w : World) (hin : In w f.heap) (hok : f.Ok B) (hn : strOk n) (hlk : alook f.now.ml n = none) : Con Tryz.prog 27 [f.ptr, .string (bs n)] w [] fun u S' => u = .tuple #[.slice none 0 0, .int .i64 7] ∧ S' = [[]] := by
  refine con_of_tree mix Tryz.func27 T27_ok (by kernel_rfl) ?_
  unfold T27
  refine j_q (qs_ac) ?_
  refine j_q (qs_ac) ?_
  refine j_q (qs_pnil Tryz.underlying23 rfl) ?_
  refine j_g rfl (fun hb => qs_mt rfl) ?_
  refine j_g rfl (fun hb => qs_nil (gd_eq hb)) ?_
  refine j_g rfl (fun hb => qs_field Tryz.underlying63 rfl sz59 (by decide) (gd_eq hb)) ?_
  refine j_g rfl (fun hb => qs_loadO (rdo_base (FM.in_gf hin) (by simp)) Tryz.underlying59 rfl (gd_eq hb) rfl) ?_
  refine j_g rfl (fun hb => qs_pnil Tryz.underlying59 (gd_eq hb)) ?_
  refine j_q (qs_or rfl rfl) ?_
  refine j_g rfl (fun hb => qs_mt rfl) ?_
  refine j_g rfl (fun hb => qs_nil (gd_eq hb)) ?_
  refine j_g rfl (fun hb => qs_field Tryz.underlying63 rfl sz59 (by decide) (gd_eq hb)) ?_
  refine j_g rfl (fun hb => qs_loadO (rdo_base (FM.in_gf hin) (by simp)) Tryz.underlying59 rfl (gd_eq hb) rfl) ?_
  refine j_g rfl (fun hb => qs_nil (gd_eq hb)) ?_
  refine j_g rfl (fun hb => qs_field Tryz.underlying109 rfl sz107 (by decide) (gd_eq hb)) ?_
  refine j_g rfl (fun hb => qs_loadO (rdo_base (SM.in_gs (FM.in_now hin)) (by simp)) Tryz.underlying107 rfl (gd_eq hb) rfl) ?_
  refine j_g rfl (fun hb => qs_mt rfl) ?_
  refine j_g rfl (fun hb => qs_lookupR (key := n) strKey (rdo_base (SM.in_gm (FM.in_now hin)) (by simp)) Tryz.underlying107 zv63 (gd_eq hb) (gd_eq hb) hok.raw.map hn) ?_
  rw [mlook_map fptr, getD_fptr, hlk, Option.map_none]
  refine j_g rfl (fun hb => qs_pnil Tryz.underlying110 (gd_eq hb)) ?_
  refine j_q (qs_or rfl rfl) ?_
  refine j_cond rfl (fun hc0 => ?_) (fun hc0 => ?_)
  · skip
    refine j_q (qs_ac) ?_
    refine j_q (qs_ac) ?_
    refine j_ret_con (vs := [_, _]) (fun w' hw' => ⟨rfl, rfl, trivial⟩) ?_
    exact ⟨rfl, rfl⟩
  · skip
    simp [gd] at hc0
end Go.Proofs.YtfebkkmmagbnlaaGreatDoor
/-! Ft0 -/
namespace Go.Proofs.YtfebkkmmagbnlaaGreatDoor
open Go Go.Sx Go.MapKept Go.WideMaps Go.Maps
set_option maxRecDepth 100000
set_option linter.unusedVariables false
set_option linter.unusedSimpArgs false
set_option linter.unusedSectionVars false
structure AS where
  nm : List (List UInt8 × Nat)
  dt : Nat → List UInt8
  used : Int
def cntA (nm : List (List UInt8 × Nat)) (i : Nat) : Nat := (nm.filter fun q => decide (q.2 = i)).length
def updA (d : Nat → List UInt8) (i : Nat) (xs : List UInt8) : Nat → List UInt8 := fun j => if j = i then xs else d j
def letsA (a : AS) (n : List UInt8) : AS :=
  match alook a.nm n with
  | none => a
  | some i => { a with nm := mdel a.nm n, used := if cntA a.nm i = 1 then a.used - ((a.dt i).length : Int) else a.used }
def givesA (a : AS) (n : List UInt8) (i : Nat) : AS := if alook a.nm n = some i then a else { letsA a n with nm := (letsA a n).nm ++ [(n, i)] }
def writeA (a : AS) (n xs : List UInt8) (i : Nat) : AS := let b := givesA { letsA a n with dt := updA (letsA a n).dt i xs } n i; { b with used := b.used + (xs.length : Int) }
def appA (a : AS) (n xs : List UInt8) : AS :=
  match alook a.nm n with
  | none => a
  | some i => { a with dt := updA a.dt i (a.dt i ++ xs), used := a.used + (xs.length : Int) }
inductive AT where
  | wr (n xs : List UInt8) (i : Nat)
  | ap (n xs : List UInt8)
  | li (old n : List UInt8)
  | rn (old n : List UInt8)
  | rm (n : List UInt8)
def doA (a : AS) : AT → AS
  | .wr n xs i => writeA a n xs i
  | .ap n xs => appA a n xs
  | .li old n => match alook a.nm old with | none => a | some i => givesA a n i
  | .rn old n => if old = n then a else match alook a.nm old with | none => a | some i => letsA (givesA a n i) old
  | .rm n => letsA a n
def limA (a : AS) : Prop := a.used ≤ 1073741824 ∧ a.nm.length ≤ 16384
def canA (a : AS) : AT → Prop
  | .wr n xs i => ∀ q ∈ a.nm, q.2 ≠ i
  | .ap n xs => ∃ i, alook a.nm n = some i ∧ (a.dt i).length + xs.length ≤ 1048576
  | .li old n => (alook a.nm old).isSome = true
  | .rn old n => (alook a.nm old).isSome = true
  | .rm n => True
def runA (a : AS) (l : List AT) : AS := l.foldl doA a
def okA (a : AS) : List AT → Prop
  | [] => limA a
  | t :: l => limA a ∧ canA a t ∧ okA (doA a t) l
theorem okA_append {a : AS} {l : List AT} {t : AT} (h : okA a l) (ht : canA (runA a l) t) (hl : limA (doA (runA a l) t)) : okA a (l ++ [t]) := by
  induction l generalizing a with
  | nil => exact ⟨h, ht, hl⟩
  | cons x l ih => exact ⟨h.1, h.2.1, ih h.2.2 ht hl⟩
theorem okA_run {a : AS} {l : List AT} (h : okA a l) (k : Nat) : limA (runA a (l.take k)) := by
  induction l generalizing a k with
  | nil =>
    rw [List.take_nil]
    exact h
  | cons x l ih =>
    cases k with
    | zero => exact h.1
    | succ k => exact ih h.2.2 k
theorem okA_end {a : AS} {l : List AT} (h : okA a l) : limA (runA a l) := by
  have := okA_run h l.length
  rwa [List.take_length] at this
theorem okA_nth {a : AS} {l : List AT} (h : okA a l) {k : Nat} {t : AT} (hk : l[k]? = some t) : canA (runA a (l.take k)) t := by
  induction l generalizing a k with
  | nil => simp at hk
  | cons x l ih =>
    cases k with
    | zero => simp at hk; subst hk; exact h.2.1
    | succ k => exact ih h.2.2 (by simpa using hk)
theorem runA_succ {a : AS} {l : List AT} {k : Nat} {t : AT} (hk : l[k]? = some t) : runA a (l.take (k + 1)) = doA (runA a (l.take k)) t := by
  unfold runA
  rw [List.take_add_one, hk, Option.toList_some, List.foldl_append]
  rfl
theorem runA_snoc {a : AS} {l : List AT} {t : AT} : runA a (l ++ [t]) = doA (runA a l) t := by
  unfold runA
  rw [List.foldl_append]
  rfl
section
variable {κ α β : Type} [DecidableEq κ]
theorem alook_map (f : α → β) (m : List (κ × α)) (k : κ) : alook (m.map fun p => (p.1, f p.2)) k = (alook m k).map f := by
  unfold alook
  induction m with
  | nil => rfl
  | cons p m ih =>
    rw [List.map_cons, List.find?_cons, List.find?_cons]
    split
    · rename_i h1
      simp only at h1
      rw [h1]
      rfl
    · rename_i h1
      simp only at h1
      rw [h1]
      exact ih
theorem alook_perm {m m' : List (κ × α)} (hp : m.Perm m') (hn : (m.map Prod.fst).Nodup) (k : κ) : alook m k = alook m' k := by
  have hn' : (m'.map Prod.fst).Nodup := (hp.map Prod.fst).nodup_iff.1 hn
  cases h : alook m k with
  | some v => exact (alook_of_mem hn' (hp.mem_iff.1 (alook_mem h))).symm
  | none => exact (alook_none.2 fun p hq => alook_none.1 h p (hp.mem_iff.2 hq)).symm
end
structure RepS (s : SM) (a : AS) : Prop where
  nm : (s.ml.map fun p => (p.1, Prod.snd p.2)).Perm a.nm
  dt : ∀ f ∈ s.fs, a.dt f.id = f.xs
  us : s.used = a.used
structure Ex (s : SM) (e : Nat → Int) (z : Nat → Prop) (d : Int) : Prop where
  kc : ∀ f ∈ s.fs, f.k = (cnt s.ml f.id : Int) + e f.id
  pos : ∀ f ∈ s.fs, ¬ z f.id → 1 ≤ f.k
  ut : s.used + d = (tot s.fs : Int)
theorem RepS.look {s : SM} {a : AS} (h : RepS s a) (hr : Raw s) (n : List UInt8) : (alook s.ml n).map Prod.snd = alook a.nm n := by
  rw [← alook_map Prod.snd]
  refine alook_perm h.nm ?_ n
  rw [List.map_map]
  exact hr.nd
theorem RepS.nd {s : SM} {a : AS} (h : RepS s a) (hr : Raw s) : (a.nm.map Prod.fst).Nodup := by
  refine (h.nm.map Prod.fst).nodup_iff.1 ?_
  rw [List.map_map]
  exact hr.nd
theorem RepS.cnt {s : SM} {a : AS} (h : RepS s a) (i : Nat) : cnt s.ml i = cntA a.nm i := by
  unfold Go.Proofs.YtfebkkmmagbnlaaGreatDoor.cnt cntA
  rw [← (h.nm.filter _).length_eq, List.filter_map, List.length_map]
  rfl
theorem RepS.len {s : SM} {a : AS} (h : RepS s a) : s.ml.length = a.nm.length := by
  rw [← h.nm.length_eq, List.length_map]
theorem RepS.fresh {s : SM} {a : AS} (h : RepS s a) {i : Nat} (hr : Raw s) {e z d} (he : Ex s e z d) (h0 : ∀ j, e j = 0) (hz : ∀ j, ¬ z j) (hf : ∀ q ∈ a.nm, q.2 ≠ i) : ∀ f ∈ s.fs, f.id ≠ i := fun f hf2 hfi => by
  have h1 := he.kc f hf2
  have h2 := he.pos f hf2 (hz _)
  rw [h0] at h1
  have h3 : 0 < Go.Proofs.YtfebkkmmagbnlaaGreatDoor.cnt s.ml f.id := by omega
  unfold Go.Proofs.YtfebkkmmagbnlaaGreatDoor.cnt at h3
  obtain ⟨q, hq⟩ := List.exists_mem_of_length_pos h3
  obtain ⟨hq1, hq2⟩ := List.mem_filter.1 hq
  have := hf (q.1, q.2.2) (h.nm.mem_iff.1 (List.mem_map.2 ⟨q, hq1, rfl⟩))
  simp only [decide_eq_true_eq] at hq2
  exact this (hq2.trans hfi)
theorem look_fs {s : SM} (h : Raw s) {n : List UInt8} {p : Nat × Nat} (hl : alook s.ml n = some p) : ∃ f ∈ s.fs, f.g = p.1 ∧ f.id = p.2 ∧ getF s.fs p.2 = some f := by
  obtain ⟨f, hf, hfg, hfi⟩ := h.has _ (alook_mem hl)
  obtain ⟨a, b, hab⟩ := List.append_of_mem hf
  have hids := h.ids
  rw [hab] at hids
  exact ⟨f, hf, hfg, hfi, by rw [hab]; simp only at hfi; rw [← hfi]; exact getF_split hids⟩
theorem look_rep {s : SM} {a : AS} (h : Raw s) (hr : RepS s a) {n : List UInt8} {i : Nat} (hl : alook a.nm n = some i) : ∃ f ∈ s.fs, alook s.ml n = some (f.g, f.id) ∧ f.id = i ∧ f.xs = a.dt i := by
  rw [← hr.look h n] at hl
  obtain ⟨p, hp, rfl⟩ := Option.map_eq_some_iff.1 hl
  obtain ⟨f, hf, h1, h2, _⟩ := look_fs h hp
  exact ⟨f, hf, by rw [hp, h1, h2], h2, by rw [← h2, hr.dt f hf]⟩
theorem look_rep0 {s : SM} {a : AS} (h : Raw s) (hr : RepS s a) {n : List UInt8} (hl : alook a.nm n = none) : alook s.ml n = none := by
  rw [← hr.look h n] at hl
  exact Option.map_eq_none_iff.1 hl
theorem tot_filt {s : SM} (h : Raw s) {x : FL} (hx : x ∈ s.fs) : tot (s.fs.filter fun y => decide (y.id ≠ x.id)) + x.xs.length = tot s.fs := tot_filter h hx
theorem ex_lets {s : SM} (h : Raw s) {e z d} (he : Ex s e z d) (n : List UInt8) : Ex (letsM s n) e z d := by
  unfold letsM
  cases hl : alook s.ml n with
  | none => exact he
  | some p =>
    obtain ⟨f, hf, hfg, hfi, hg⟩ := look_fs h hl
    simp only
    rw [hg]
    simp only
    have hc := cnt_del h.nd hl
    split
    · refine ⟨fun x hx => ?_, fun x hx hz => he.pos x (List.mem_filter.1 hx).1 hz, ?_⟩
      · obtain ⟨hx1, hx2⟩ := List.mem_filter.1 hx
        simp only [decide_eq_true_eq] at hx2
        have h1 := he.kc x hx1
        have h2 := hc x.id
        rw [if_neg (fun e => hx2 e.symm)] at h2
        simp only at h2 ⊢
        omega
      · have h1 := tot_filt h hf
        have h2 := he.ut
        rw [hfi] at h1
        simp only
        omega
    · rename_i hk
      refine ⟨fun x hx => ?_, fun x hx hz => ?_, ?_⟩
      · obtain ⟨y, hy, e1, _, _, _, e5⟩ := mem_bump hx
        have h1 := he.kc y hy
        have h2 := hc y.id
        rw [e1, e5]
        simp only
        by_cases hyp : y.id = p.2
        · rw [if_pos hyp]
          rw [if_pos hyp.symm] at h2
          omega
        · rw [if_neg hyp]
          rw [if_neg (fun e => hyp e.symm)] at h2
          omega
      · obtain ⟨y, hy, e1, _, _, _, e5⟩ := mem_bump hx
        rw [e1] at hz
        have h1 := he.pos y hy hz
        rw [e5]
        by_cases hyp : y.id = p.2
        · rw [if_pos hyp]
          have : y = f := by
            obtain ⟨a, b, hab⟩ := List.append_of_mem hf
            have hids := h.ids
            rw [hab] at hids hy
            rcases List.mem_append.1 hy with hy | hy
            · exact absurd (hyp.trans hfi.symm) ((off_ids hids).1 y hy)
            · rcases List.mem_cons.1 hy with hy | hy
              · exact hy
              · exact absurd (hyp.trans hfi.symm) ((off_ids hids).2 y hy)
          rw [this] at h1 ⊢
          omega
        · rw [if_neg hyp]
          omega
      · show s.used + d = (tot (bump s.fs p.2 (-1)) : Int)
        rw [tot_bump]
        exact he.ut
theorem rep_lets {s : SM} (h : Raw s) {e z d} (he : Ex s e z d) {a : AS} (hr : RepS s a) {n : List UInt8} (h0 : ∀ p, alook s.ml n = some p → e p.2 = 0) : RepS (letsM s n) (letsA a n) := by
  unfold letsM letsA
  rw [← hr.look h n]
  cases hl : alook s.ml n with
  | none => exact hr
  | some p =>
    obtain ⟨f, hf, hfg, hfi, hg⟩ := look_fs h hl
    rw [Option.map_some]
    simp only
    rw [hg]
    simp only
    have hk := he.kc f hf
    rw [hfi, h0 p hl, hr.cnt] at hk
    have hnm : ((mdel s.ml n).map fun p => (p.1, Prod.snd p.2)).Perm (mdel a.nm n) := by
      rw [← mdel_map]
      exact hr.nm.filter _
    have hdt := hr.dt f hf
    rw [hfi] at hdt
    have hus := hr.us
    split
    · rename_i h1
      rw [if_pos (by omega)]
      exact ⟨hnm, fun x hx => hr.dt x (List.mem_filter.1 hx).1, by show s.used - _ = a.used - _; rw [hdt, hus]⟩
    · rename_i h1
      rw [if_neg (by omega)]
      refine ⟨hnm, fun x hx => ?_, hus⟩
      obtain ⟨y, hy, e1, _, _, e4, _⟩ := mem_bump hx
      show a.dt x.id = x.xs
      rw [e1, e4]
      exact hr.dt y hy
theorem id_uniq {s : SM} (h : Raw s) {f x : FL} (hf : f ∈ s.fs) (hx : x ∈ s.fs) (hi : x.id = f.id) : x = f := by
  obtain ⟨a, b, hab⟩ := List.append_of_mem hf
  have hids := h.ids
  rw [hab] at hids hx
  rcases List.mem_append.1 hx with hx | hx
  · exact absurd hi ((off_ids hids).1 x hx)
  · rcases List.mem_cons.1 hx with hx | hx
    · exact hx
    · exact absurd hi ((off_ids hids).2 x hx)
theorem ex_bump {s : SM} (h : Raw s) {e z d} (he : Ex s e z d) {f : FL} (hf : f ∈ s.fs) (h0 : 0 ≤ f.k) : Ex { s with fs := bump s.fs f.id 1 } (fun j => e j + if j = f.id then 1 else 0) (fun j => z j ∧ j ≠ f.id) d := by
  refine ⟨fun x hx => ?_, fun x hx hz => ?_, by show s.used + d = (tot (bump s.fs f.id 1) : Int); rw [tot_bump]; exact he.ut⟩
  · obtain ⟨y, hy, e1, _, _, _, e5⟩ := mem_bump hx
    have h1 := he.kc y hy
    rw [e1, e5]
    simp only
    omega
  · obtain ⟨y, hy, e1, _, _, _, e5⟩ := mem_bump hx
    rw [e5]
    by_cases hyf : y.id = f.id
    · rw [if_pos hyf, id_uniq h hf hy hyf]
      omega
    · rw [if_neg hyf]
      rw [e1] at hz
      have h1 := he.pos y hy (fun hzz => hz ⟨hzz, hyf⟩)
      omega
theorem rep_bump {s : SM} {a : AS} (hr : RepS s a) (i : Nat) (c : Int) : RepS { s with fs := bump s.fs i c } a := by
  refine ⟨hr.nm, fun x hx => ?_, hr.us⟩
  obtain ⟨y, hy, e1, _, _, e4, _⟩ := mem_bump hx
  rw [e1, e4]
  exact hr.dt y hy
theorem cnt_snoc (ml : List (List UInt8 × (Nat × Nat))) (n : List UInt8) (p : Nat × Nat) (i : Nat) : cnt (ml ++ [(n, p)]) i = cnt ml i + if p.2 = i then 1 else 0 := by
  unfold cnt
  rw [List.filter_append, List.length_append, List.filter_cons, List.filter_nil]
  by_cases hx2 : p.2 = i
  · rw [if_pos hx2, if_pos (by simpa using hx2)]; rfl
  · rw [if_neg hx2, if_neg (by simpa using hx2)]; rfl
theorem ex_gives {s : SM} (h : Raw s) {e z d} (he : Ex s e z d) {f : FL} (hf : f ∈ s.fs) (h0 : 0 ≤ f.k) (hk : f.k + 1 ≤ 1000000) (he0 : ∀ j, e j = 0) (n : List UInt8) : Ex (givesM s n (f.g, f.id)) e (fun j => z j ∧ j ≠ f.id) d := by
  unfold givesM
  split
  · rename_i hl
    refine ⟨he.kc, fun x hx hz => ?_, he.ut⟩
    by_cases hxf : x.id = f.id
    · have h1 := he.kc x hx
      have h2 := cnt_pos (alook_mem hl)
      rw [he0, hxf] at h1
      simp only at h2
      omega
    · exact he.pos x hx (fun hzz => hz ⟨hzz, hxf⟩)
  · have h1 := ex_lets (raw_bump h hf hk) (ex_bump h he hf h0) n
    refine ⟨fun x hx => ?_, fun x hx hz => h1.pos x hx hz, h1.ut⟩
    have h2 := h1.kc x hx
    show x.k = ((cnt ((letsM { s with fs := bump s.fs f.id 1 } n).ml ++ [(n, (f.g, f.id))]) x.id : Nat) : Int) + e x.id
    rw [cnt_snoc, h2]
    simp only
    by_cases hxf : x.id = f.id
    · rw [if_pos hxf, if_pos hxf.symm]
      omega
    · rw [if_neg hxf, if_neg (fun q => hxf q.symm)]
      omega
theorem rep_gives {s : SM} (h : Raw s) {e z d} (he : Ex s e z d) {a : AS} (hr : RepS s a) {f : FL} (hf : f ∈ s.fs) (h0 : 0 ≤ f.k) (hk : f.k + 1 ≤ 1000000) (he0 : ∀ j, e j = 0) (n : List UInt8) : RepS (givesM s n (f.g, f.id)) (givesA a n f.id) := by
  have hlk := hr.look h n
  unfold givesM givesA
  by_cases hl : alook s.ml n = some (f.g, f.id)
  · rw [if_pos hl, if_pos (by rw [← hlk, hl]; rfl)]
    exact hr
  · have hne : alook a.nm n ≠ some f.id := fun e2 => by
      rw [← hlk] at e2
      obtain ⟨p, hp, hp2⟩ := Option.map_eq_some_iff.1 e2
      obtain ⟨x, hx, h1, h2, _⟩ := look_fs h hp
      have := id_uniq h hf hx (h2.trans hp2)
      subst this
      exact hl (by rw [hp]; exact congrArg some (Prod.ext h1.symm h2.symm))
    rw [if_neg hl, if_neg hne]
    have h1 := rep_lets (raw_bump h hf hk) (ex_bump h he hf h0) (rep_bump hr f.id 1) (n := n) (fun p hp => by
      have hpf : p.2 ≠ f.id := fun q => hne (by rw [← hlk]; show (alook s.ml n).map Prod.snd = _; rw [show alook s.ml n = some p from hp, Option.map_some, q])
      show e p.2 + (if p.2 = f.id then 1 else 0) = 0
      rw [he0, if_neg hpf]
      rfl)
    refine ⟨?_, h1.dt, h1.us⟩
    show (((letsM { s with fs := bump s.fs f.id 1 } n).ml ++ [(n, (f.g, f.id))]).map fun p => (p.1, Prod.snd p.2)).Perm ((letsA a n).nm ++ [(n, f.id)])
    rw [List.map_append]
    exact h1.nm.append_right _
abbrev E0 : Nat → Int := fun _ => 0
abbrev Z0 : Nat → Prop := fun _ => False
structure Sx' (s : SM) (a : AS) : Prop where
  raw : Raw s
  ex : Ex s E0 Z0 0
  rep : RepS s a
theorem ex_new {s : SM} (h : Raw s) (he : Ex s E0 Z0 0) {id : Nat} {v : Value} {xs : List UInt8} {g : Nat} (hid : ∀ f ∈ s.fs, f.id ≠ id) : Ex (newM s id v xs g) E0 (fun j => j = id) (xs.length : Int) := by
  refine ⟨fun f hf => ?_, fun f hf hz => ?_, ?_⟩
  · rcases List.mem_cons.1 hf with rfl | hf
    · show (0 : Int) = ((cnt s.ml id : Nat) : Int) + 0
      rw [cnt_zero h hid]
      rfl
    · exact he.kc f hf
  · rcases List.mem_cons.1 hf with rfl | hf
    · exact absurd rfl hz
    · exact he.pos f hf (fun q => q)
  · have h1 := he.ut
    show s.used + (xs.length : Int) = (tot ((⟨g, id, v, xs, 0⟩ : FL) :: s.fs) : Int)
    rw [tot_cons]
    show _ = ((xs.length + tot s.fs : Nat) : Int)
    omega
theorem rep_new {s : SM} {a : AS} (hr : RepS s a) {id : Nat} {v : Value} {xs : List UInt8} {g : Nat} (hid : ∀ f ∈ s.fs, f.id ≠ id) : RepS (newM s id v xs g) { a with dt := updA a.dt id xs } := by
  refine ⟨hr.nm, fun f hf => ?_, hr.us⟩
  rcases List.mem_cons.1 hf with rfl | hf
  · exact if_pos rfl
  · show updA a.dt id xs f.id = f.xs
    unfold updA
    rw [if_neg (hid f hf)]
    exact hr.dt f hf
theorem lets_ids {s : SM} {n : List UInt8} {id : Nat} (hid : ∀ f ∈ s.fs, f.id ≠ id) : ∀ f ∈ (letsM s n).fs, f.id ≠ id := fun f hf => by
  obtain ⟨y, hy, e, _⟩ := lets_sub hf
  rw [e]
  exact hid y hy
theorem raw_letsE {s : SM} (h : Raw s) (n : List UInt8) : ∃ es, Raw { letsM s n with es := es } := by
  have key : ∃ es, MapOk strEnc strOk es s.ck ((letsM s n).ml.map fun q => (q.1, fptr q.2)) := by
    unfold letsM
    cases hl : alook s.ml n with
    | none => exact ⟨s.es, h.map⟩
    | some p =>
      obtain ⟨f, hf, hfg, hfi, hg⟩ := look_fs h hl
      simp only
      rw [hg]
      simp only
      obtain ⟨i, hi, he⟩ := List.getElem_of_mem (alook_mem hl)
      have := h.map.erase (k := n) (j := i) (v := fptr p) (by rw [List.getElem?_map, List.getElem?_eq_getElem hi, he]; rfl)
      rw [mdel_map] at this
      split <;> exact ⟨_, this⟩
  obtain ⟨es, hm⟩ := key
  exact ⟨es, raw_lets h hm⟩
theorem writeM_fs {s : SM} (h : Raw s) {n : List UInt8} {id : Nat} {v : Value} {xs : List UInt8} {g : Nat} (hid : ∀ f ∈ s.fs, f.id ≠ id) : (writeM s n id v xs g).fs = ⟨g, id, v, xs, 1⟩ :: (letsM s n).fs := by
  unfold writeM
  rw [gives_fresh (letsM_free h n) (lets_ids hid)]
theorem full_write {s : SM} {a : AS} (h : Sx' s a) {n : List UInt8} {id : Nat} {v : Value} {xs : List UInt8} {g : Nat} (hid : ∀ q ∈ a.nm, q.2 ≠ id) {es2 : Array MapEntry} {ck2 : Nat} (hr : Raw { writeM s n id v xs g with es := es2, ck := ck2 }) (hv : ∃ A cap, v = .slice A xs.length cap ∧ xs.length ≤ 1000000000) : Sx' { writeM s n id v xs g with es := es2, ck := ck2 } (writeA a n xs id) := by
  obtain ⟨es, hr0⟩ := raw_letsE h.raw n
  have hid1 := h.rep.fresh h.raw h.ex (fun _ => rfl) (fun _ q => q) hid
  have hid2 := lets_ids (n := n) hid1
  have e1 := ex_lets h.raw h.ex n
  have hgn := hr.gnd
  simp only at hgn
  rw [writeM_fs h.raw hid1, List.map_cons, List.nodup_cons] at hgn
  have hr1 : Raw (newM { letsM s n with es := es } id v xs g) := raw_new hr0 hid2 (fun f hf e => hgn.1 (List.mem_map.2 ⟨f, hf, e⟩)) hv (by
    have := e1.ut
    show (tot (letsM s n).fs : Int) ≤ (letsM s n).used
    omega)
  have r1 := rep_lets h.raw h.ex h.rep (n := n) (fun _ _ => rfl)
  have e2 := ex_new (s := { letsM s n with es := es }) hr0 ⟨e1.kc, e1.pos, e1.ut⟩ (v := v) (xs := xs) (g := g) hid2
  have r2 := rep_new (s := { letsM s n with es := es }) ⟨r1.nm, r1.dt, r1.us⟩ (v := v) (xs := xs) (g := g) hid2
  have e3 := ex_gives hr1 e2 (f := ⟨g, id, v, xs, 0⟩) (List.mem_cons_self ..) (Int.le_refl _) (by show (0 : Int) + 1 ≤ _; decide) (fun _ => rfl) n
  have r3 := rep_gives hr1 e2 r2 (f := ⟨g, id, v, xs, 0⟩) (List.mem_cons_self ..) (Int.le_refl _) (by show (0 : Int) + 1 ≤ _; decide) (fun _ => rfl) n
  have hes : givesM (newM { letsM s n with es := es } id v xs g) n (g, id) = { givesM (newM (letsM s n) id v xs g) n (g, id) with es := es, ck := (letsM s n).ck } := givesM_es (newM (letsM s n) id v xs g) n (g, id) es (letsM s n).ck
  simp only at e3 r3
  rw [hes] at e3 r3
  unfold writeM writeA
  unfold writeM at hr
  refine ⟨hr, ⟨e3.kc, fun f hf hz => e3.pos f hf (fun q => q.2 q.1), ?_⟩, r3.nm, r3.dt, ?_⟩
  · have := e3.ut
    show (givesM (newM (letsM s n) id v xs g) n (g, id)).used + (xs.length : Int) + 0 = (tot (givesM (newM (letsM s n) id v xs g) n (g, id)).fs : Int)
    simp only at this
    omega
  · have := r3.us
    show _ + (xs.length : Int) = _ + (xs.length : Int)
    rw [← this]
theorem full_app {s : SM} {a : AS} (h : Sx' s a) {n : List UInt8} {f : FL} {v : Value} {xs : List UInt8} (hf : f ∈ s.fs) (hl : alook s.ml n = some (f.g, f.id)) (hr1 : Raw (appM s f.id v xs)) : Sx' (appM s f.id v xs) (appA a n xs) := by
  have hla : alook a.nm n = some f.id := by rw [← h.rep.look h.raw n, hl]; rfl
  unfold appA
  rw [hla]
  simp only
  refine ⟨hr1, ⟨fun x hx => ?_, fun x hx hz => ?_, ?_⟩, h.rep.nm, fun x hx => ?_, ?_⟩
  · obtain ⟨y, hy, rfl⟩ := List.mem_map.1 hx
    rw [(app_id _ _ _ y).2.2, (app_id _ _ _ y).1]
    exact h.ex.kc y hy
  · obtain ⟨y, hy, rfl⟩ := List.mem_map.1 hx
    rw [(app_id _ _ _ y).2.2]
    exact h.ex.pos y hy (fun q => q)
  · obtain ⟨p, q, hab⟩ := List.append_of_mem hf
    have hids := h.raw.ids
    rw [hab] at hids
    have hfs : s.fs.map (app1 f.id v xs) = p ++ { f with v := v, xs := f.xs ++ xs } :: q := by rw [hab]; exact app_split hids
    have t1 := tot_split p q f
    have t2 := tot_split p q { f with v := v, xs := f.xs ++ xs }
    rw [← hab] at t1
    have := h.ex.ut
    show s.used + (xs.length : Int) + 0 = (tot (s.fs.map (app1 f.id v xs)) : Int)
    rw [hfs, t2]
    simp only [List.length_append]
    omega
  · obtain ⟨y, hy, rfl⟩ := List.mem_map.1 hx
    have hd := h.rep.dt y hy
    show updA a.dt f.id (a.dt f.id ++ xs) (app1 f.id v xs y).id = _
    rw [(app_id _ _ _ y).1]
    unfold updA app1
    by_cases hyf : y.id = f.id
    · rw [if_pos hyf, if_pos hyf, ← hyf, hd]
    · rw [if_neg hyf, if_neg hyf]
      exact hd
  · show s.used + _ = a.used + _
    rw [h.rep.us]
theorem full_lets {s : SM} {a : AS} (h : Sx' s a) (n : List UInt8) : Ex (letsM s n) E0 Z0 0 ∧ RepS (letsM s n) (letsA a n) := ⟨ex_lets h.raw h.ex n, rep_lets h.raw h.ex h.rep (fun _ _ => rfl)⟩
theorem Sx'.es {s : SM} {a : AS} {es : Array MapEntry} {ck : Nat} (hr : Raw { s with es := es, ck := ck }) (h : Ex s E0 Z0 0 ∧ RepS s a) : Sx' { s with es := es, ck := ck } a := ⟨hr, ⟨h.1.kc, h.1.pos, h.1.ut⟩, h.2.nm, h.2.dt, h.2.us⟩
end Go.Proofs.YtfebkkmmagbnlaaGreatDoor
/-! Ft1 -/
namespace Go.Proofs.YtfebkkmmagbnlaaGreatDoor
open Go Go.Sx
set_option maxRecDepth 100000
set_option maxHeartbeats 4000000
set_option linter.unusedVariables false
set_option linter.unusedSimpArgs false
attribute [local irreducible] J JQ QS Con W opW
open Go.MapKept Go.WideMaps Go.Maps
theorem rm_con (s : SM) (P : List BK) (n : List UInt8) (g1 : Nat) (w : World) (h : Raw s) (hn : strOk n) (h1 : w.heap[g1]? = some (.cells [.string (bs n)].toArray 9 (0, 0))) (hd1 : g1 ∉ dom (s.heap ++ ph P)) : Con Tryz.prog 98 [s.ptr, .pointer (some ⟨g1, 0, none⟩)] w (s.heap ++ ph P) fun _ S' => ∃ es : Array MapEntry, S' = [SM.heap { letsM s n with es := es }, ph P] ∧ Raw { letsM s n with es := es } := by
  refine con_of_tree mix Tryz.func98 T98_ok (by kernel_rfl) ?_
  unfold T98
  refine j_perm (S' := [s.heap, ph P]) (by simp) ?_
  refine j_q (qs_loadO (rdo_base h1 hd1) Tryz.underlying9 rfl rfl rfl) ?_
  refine j_call 0 ent99 rfl rfl rfl rfl (fun w' hw' => lets_con s n w' h hn) (fun u S2 hu => ?_)
  obtain ⟨es1, rfl, hr1⟩ := hu
  refine j_subl (S' := [SM.heap { letsM s n with es := es1 }, ph P]) (by repeat first | exact slR _ | exact slN _ | apply slC | apply slD) ?_
  refine j_ret_con (vs := []) (fun w' hw' => trivial) ?_
  exact ⟨es1, rfl, hr1⟩
inductive MT where
  | wr (n xs : List UInt8) (id g0 g1 : Nat) (A : Option Addr) (c : Nat)
  | ap (n xs : List UInt8) (g0 g1 : Nat) (A : Option Addr) (c : Nat)
  | li (old n : List UInt8) (g0 g1 : Nat)
  | rn (old n : List UInt8) (g0 g1 : Nat)
  | rm (n : List UInt8) (g0 : Nat)
def MT.abs : MT → AT
  | .wr n xs id _ _ _ _ => .wr n xs id
  | .ap n xs _ _ _ _ => .ap n xs
  | .li old n _ _ => .li old n
  | .rn old n _ _ => .rn old n
  | .rm n _ => .rm n
def MT.fid : MT → FuncId
  | .wr .. => 101
  | .ap .. => 119
  | .li .. => 98
  | .rn .. => 98
  | .rm .. => 98
abbrev gp (g : Nat) : Value := .pointer (some ⟨g, 0, none⟩)
def MT.caps : MT → List Value
  | .wr _ _ _ g0 g1 _ _ => [gp g0, gp g1]
  | .ap _ _ g0 g1 _ _ => [gp g0, gp g1]
  | .li _ _ g0 g1 => [gp g1, gp g0]
  | .rn _ _ g0 g1 => [gp g0, gp g1]
  | .rm _ g0 => [gp g0]
abbrev MT.val (m : MT) : Value := .func (.func m.fid) #[] m.caps.toArray
def MT.h : MT → SH
  | .wr n xs _ g0 g1 A c => [(g0, .cells [.string (bs n)].toArray 9 (0, 0)), (g1, .cells [.slice A xs.length c].toArray 33 (0, 0))]
  | .ap n xs g0 g1 A c => [(g0, .cells [.string (bs n)].toArray 9 (0, 0)), (g1, .cells [.slice A xs.length c].toArray 33 (0, 0))]
  | .li old n g0 g1 => [(g0, .cells [.string (bs old)].toArray 9 (0, 0)), (g1, .cells [.string (bs n)].toArray 9 (0, 0))]
  | .rn old n g0 g1 => [(g0, .cells [.string (bs old)].toArray 9 (0, 0)), (g1, .cells [.string (bs n)].toArray 9 (0, 0))]
  | .rm n g0 => [(g0, .cells [.string (bs n)].toArray 9 (0, 0))]
def MT.ok (P : List BK) : MT → Prop
  | .wr n xs _ _ _ A c => strOk n ∧ RV P (.slice A xs.length c) xs ∧ xs.length ≤ c ∧ xs.length ≤ 1048576
  | .ap n xs _ _ A c => strOk n ∧ RV P (.slice A xs.length c) xs ∧ xs.length ≤ c ∧ xs.length ≤ 1048576
  | .li .. => False
  | .rn .. => False
  | .rm n _ => strOk n
theorem MT.ent (m : MT) : Sx.Enters Tryz.prog m.fid := by
  cases m
  · exact ent101
  · exact ent119
  · exact ent98
  · exact ent98
  · exact ent98
def VwA (P : List BK) (s : SM) : Prop := ∀ x ∈ s.fs, Vw P x.g x.v x.xs
theorem VwA.sub {P : List BK} {s t : SM} (h : VwA P s) (hs : ∀ x ∈ t.fs, ∃ y ∈ s.fs, x.id = y.id ∧ x.g = y.g ∧ x.v = y.v ∧ x.xs = y.xs) : VwA P t := fun x hx => by
  obtain ⟨y, hy, _, h2, h3, h4⟩ := hs x hx
  rw [h2, h3, h4]
  exact h y hy
theorem thing_con (s : SM) (P : List BK) (a : AS) (m : MT) (w : World) (h : Sx' s a) (hv : VwA P s) (hl : limA a) (hm : m.ok P) (hc : canA a m.abs) (hb : In w m.h) (hd : ∀ g ∈ dom m.h, g ∉ dom (s.heap ++ ph P)) :
    Con Tryz.prog m.fid (s.ptr :: m.caps) w (s.heap ++ ph P) fun _ S' => ∃ (s' : SM) (P' : List BK), S' = [s'.heap, ph P'] ∧ s'.gs = s.gs ∧ Sx' s' (doA a m.abs) ∧ VwA P' s' ∧ (P' = P ∨ ∃ f ∈ s.fs, PLe f.g P P') := by
  have hut := h.ex.ut
  have hus := h.rep.us
  have hl1 := hl.1
  cases m with
  | wr n xs id g0 g1 A c =>
    obtain ⟨hn, hrv, hxc, hxl⟩ := hm
    have hid := h.rep.fresh h.raw h.ex (fun _ => rfl) (fun _ q => q) hc
    refine (wr_con s P n _ xs A c id g0 g1 w h.raw (by omega) (by omega) hid rfl hxc (by omega) hn (hb (g0, _) (by simp [MT.h])) (hd g0 (by simp [MT.h, dom])) (hb (g1, .cells [.slice A xs.length c].toArray 33 (0, 0)) (by simp [MT.h])) (hd g1 (by simp [MT.h, dom]))).mono (fun u S' hu => ?_)
    obtain ⟨es, ck, g, hg, rfl, hraw⟩ := hu
    refine ⟨_, P, rfl, (writeM_gs _ _ _ _ _ _).1, full_write h hc hraw ⟨_, _, rfl, by omega⟩, ?_, .inl rfl⟩
    intro x hx
    have hx' : x ∈ (writeM s n id (.slice (if xs.length = 0 then A else A.map (fun a : Addr => a.add (0 * 1))) xs.length xs.length) xs g).fs := hx
    rw [writeM_fs h.raw hid] at hx'
    rcases List.mem_cons.1 hx' with rfl | hx'
    · exact Vw.clip g hrv rfl
    · obtain ⟨y, hy, _, e2, e3, e4⟩ := lets_sub hx'
      rw [e2, e3, e4]
      exact hv y hy
  | ap n xs g0 g1 A c =>
    obtain ⟨hn, hrv, hxc, hxl⟩ := hm
    obtain ⟨i, hi, hlen⟩ := hc
    obtain ⟨f, hf, hlk, hfi, hfx⟩ := look_rep h.raw h.rep hi
    refine (ap_con s P n f _ xs g0 g1 w h.raw hf hlk (hv f hf) hrv (by rw [List.length_append, hfx]; omega) (by omega) hn (hb (g0, _) (by simp [MT.h])) (hd g0 (by simp [MT.h, dom])) (hb (g1, .cells [.slice A xs.length c].toArray 33 (0, 0)) (by simp [MT.h])) (hd g1 (by simp [MT.h, dom]))).mono (fun u S' hu => ?_)
    obtain ⟨v', P', rfl, hvw2, hple, hraw⟩ := hu
    refine ⟨_, P', rfl, rfl, full_app h hf hlk hraw, ?_, .inr ⟨f, hf, hple⟩⟩
    intro y hy
    obtain ⟨z, hz, rfl⟩ := List.mem_map.1 hy
    unfold app1
    split
    · rename_i he
      rw [id_uniq h.raw hf hz he]
      exact hvw2
    · rename_i he
      have hg : z.g ≠ f.g := fun e => he (by rw [fs_uniq h.raw hf hz e])
      exact (hv z hz).mono hple hg
  | li old n g0 g1 => exact hm.elim
  | rn old n g0 g1 => exact hm.elim
  | rm n g0 =>
    refine (rm_con s P n g0 w h.raw hm (hb (g0, _) (by simp [MT.h])) (hd g0 (by simp [MT.h, dom]))).mono (fun u S' hu => ?_)
    obtain ⟨es, rfl, hraw⟩ := hu
    exact ⟨_, P, rfl, (letsM_gs _ _).1, Sx'.es hraw (full_lets h n), hv.sub (fun x hx => lets_sub hx), .inl rfl⟩
end Go.Proofs.YtfebkkmmagbnlaaGreatDoor
/-! Ft2 -/
namespace Go.Proofs.YtfebkkmmagbnlaaGreatDoor
open Go Go.Sx
set_option maxRecDepth 100000
set_option maxHeartbeats 4000000
set_option linter.unusedVariables false
set_option linter.unusedSimpArgs false
attribute [local irreducible] J JQ QS Con W opW
open Go.MapKept Go.WideMaps Go.Maps
structure AF where
  room : Int
  base : AS
  pend : List AT
  fused : Bool
  left : Int
abbrev AF.now (a : AF) : AS := runA a.base a.pend
structure FR where
  gf : Nat
  room : Int
  ls : SM
  now : SM
  ms : List MT
  tv : Value
  tc : SH
  fused : Bool
  left : Int
  X : SH
  P : List BK
abbrev FR.fm (r : FR) : FM := ⟨r.gf, r.room, r.ls.ptr, r.now, r.ms.map MT.val, r.tv, r.tc, r.fused, r.left, r.ls.heap ++ r.X, r.P⟩
abbrev FR.heap (r : FR) : SH := r.fm.heap
abbrev FR.ptr (r : FR) : Value := .pointer (some ⟨r.gf, 0, none⟩)
structure FR.Ok (r : FR) (a : AF) : Prop where
  rm : r.room = a.room
  fu : r.fused = a.fused
  le : r.left = a.left
  l0 : 0 ≤ r.left ∧ r.left ≤ 9223372036854775807
  pd : r.ms.map MT.abs = a.pend
  row : Sx.Own 153 1 (r.ms.map MT.val) r.tv r.tc
  lt : r.ms.length ≤ 16384
  bx : ∀ m ∈ r.ms, ∀ q ∈ m.h, q ∈ r.X
  mo : ∀ m ∈ r.ms, m.ok r.P
  ok : okA a.base a.pend
  ls : Sx' r.ls a.base
  lv : VwA r.P r.ls
  now : Sx' r.now a.now
  nv : VwA r.P r.now
def Gr (w : World) (Fp : SH) (P P' : List BK) : Prop := (∀ v xs, RV P v xs → RV P' v xs) ∧ ∀ o, o < w.heap.size → o ∉ dom Fp → ∀ v xs, Vw P o v xs → Vw P' o v xs
theorem Gr.refl (w : World) (Fp : SH) (P : List BK) : Gr w Fp P P := ⟨fun _ _ h => h, fun _ _ _ _ _ h => h⟩
theorem Gr.trans {w : World} {Fp : SH} {P Q R : List BK} (h1 : Gr w Fp P Q) (h2 : Gr w Fp Q R) : Gr w Fp P R := ⟨fun v xs h => h2.1 v xs (h1.1 v xs h), fun o a b v xs h => h2.2 o a b v xs (h1.2 o a b v xs h)⟩
theorem Gr.old {w w' : World} {Fp : SH} {P P' : List BK} (h : Gr w' Fp P P') (hs : w.heap.size ≤ w'.heap.size) : Gr w Fp P P' := ⟨h.1, fun o ho hd v xs hv => h.2 o (Nat.lt_of_lt_of_le ho hs) hd v xs hv⟩
theorem MT.ok_mono {P P' : List BK} {m : MT} (h : m.ok P) (hr : ∀ v xs, RV P v xs → RV P' v xs) : m.ok P' := by
  cases m with
  | wr n xs id g0 g1 A c => exact ⟨h.1, hr _ _ h.2.1, h.2.2⟩
  | ap n xs g0 g1 A c => exact ⟨h.1, hr _ _ h.2.1, h.2.2⟩
  | li old n g0 g1 => exact h
  | rn old n g0 g1 => exact h
  | rm n g0 => exact h
abbrev FR.parts (r : FR) : List SH := [[(r.gf, r.fm.obj)], r.ls.heap ++ ph r.P, r.tc, r.now.heap, r.X]
theorem FR.split (r : FR) : ([r.heap] : List SH).flatten.Perm (r.parts).flatten := by
  classical
  refine List.perm_iff_count.2 fun x => ?_
  simp only [FM.heap, FR.parts, List.flatten_cons, List.flatten_nil, List.append_nil, List.nil_append, List.cons_append, List.count_append, List.count_cons, List.count_nil] <;> omega
theorem cut_addr {A : Option Addr} {n cap : Nat} {e : TypeId} {xs : List Value} {c : SH} (ho : Sx.Own e 1 xs (.slice A n cap) c) (h : 0 < xs.length) : ∃ g, A = some ⟨g, 0, none⟩ ∧ (if cap = 0 then A else A.map (·.add (0 * 1))) = some ⟨g, 0, none⟩ := by
  obtain ⟨g, rfl⟩ := own_addr ho h
  refine ⟨g, rfl, ?_⟩
  split <;> simp [Addr.add]
theorem dom_gs {s : SM} {x : FL} (hx : x ∈ s.fs) : x.g ∈ dom s.heap := List.mem_map.2 ⟨x.h, by unfold SM.heap; exact List.mem_append_right _ (List.mem_map.2 ⟨x, hx, rfl⟩), rfl⟩
theorem nodup_two {H1 H2 : SH} {S : List SH} (h : (dom S.flatten).Nodup) {i j : Nat} (hij : i < j) (hi : S[i]? = some H1) (hj : S[j]? = some H2) : ∀ g ∈ dom H1, g ∉ dom H2 := fun g h1 h2 => by
  induction S generalizing i j with
  | nil => simp at hi
  | cons c S ih =>
    rw [List.flatten_cons, dom, List.map_append, List.nodup_append] at h
    cases j with
    | zero => omega
    | succ j =>
      cases i with
      | zero =>
        simp at hi hj
        subst hi
        obtain ⟨q, hq, e⟩ := List.mem_map.1 h2
        exact h.2.2 g h1 g (List.mem_map.2 ⟨q, mem_flatten_of hj hq, e⟩) rfl
      | succ i => exact ih h.2.1 (by omega) hi hj
theorem last_con (r : FR) (a : AF) (k : Nat) (w : World) (hok : r.Ok a) (hk : k ≤ r.ms.length) : Con Tryz.prog 55 [r.ptr, .int .i64 (k : Int)] w r.heap fun _ S' => ∃ (ls : SM) (P : List BK), S' = [FR.heap ({ r with ls := ls, P := P, ms := [], tv := .slice none 0 0, tc := [] } : FR)] ∧ ls.gs = r.ls.gs ∧ Sx' ls (runA a.base (a.pend.take k)) ∧ VwA P ls ∧ VwA P r.now ∧ Gr w r.heap r.P P := by
  refine con_of_tree mix Tryz.func55 T55_ok (by kernel_rfl) ?_
  unfold T55
  obtain ⟨n1, A1, cap1, htv, hn1⟩ := own_form hok.row (by decide)
  rw [Nat.mul_one, List.length_map] at hn1
  subst hn1
  have hrow := hok.row
  rw [htv] at hrow
  have hcap := own_cap hrow
  have hlt := hok.lt
  refine j_perm (S' := r.parts) r.split ?_
  refine j_q (qs_nil rfl) ?_
  refine j_q (qs_field Tryz.underlying63 rfl sz61 (by decide) rfl) ?_
  refine j_q (qs_load (l := fmcells r.fm) 0 Tryz.underlying61 rfl rfl rfl rfl) ?_
  refine j_q (qs_cutl (a := 0) (z := k) (n := r.ms.length) (c := cap1) (A := A1) Tryz.underlying61 sz153 htv rfl ⟨_, rfl⟩ (by omega) (by omega)) ?_
  obtain ⟨A2, hA2⟩ : ∃ A2, A2 = (if cap1 = 0 then A1 else A1.map (·.add (0 * 1))) := ⟨_, rfl⟩
  rw [← hA2, Nat.sub_zero, Nat.sub_zero]
  refine j_q (qs_lenl Tryz.underlying61 rfl) ?_
  refine j_q (qs_mc) ?_
  refine j_loop (fun m vs S' => ∃ (i : Nat) (ls : SM) (P : List BK), vs = [.int .i64 (i : Int)] ∧ i ≤ k ∧ S' = [[(r.gf, r.fm.obj)], ls.heap ++ ph P, r.tc, r.now.heap, r.X] ∧ ls.gs = r.ls.gs ∧ Sx' ls (runA a.base (a.pend.take i)) ∧ VwA P ls ∧ VwA P r.now ∧ Gr w r.heap r.P P ∧ m = k - i) ⟨_, 0, r.ls, r.P, rfl, Nat.zero_le _, rfl, rfl, hok.ls, hok.lv, hok.nv, Gr.refl _ _ _, rfl⟩ ?_
  rintro m vs S' hlen ⟨i, ls, P, rfl, hik, rfl, hgs, hls, hlv, hnv, hgr, rfl⟩
  refine j_q (qs_lss rfl rfl) ?_
  refine j_cond rfl (fun hc0 => ?_) (fun hc0 => ?_)
  · skip
    have hi : i < k := by
      have h5 : (i : Int) < (k : Int) := by simpa using hc0
      omega
    obtain ⟨mt, hmt⟩ : ∃ mt, r.ms[i]? = some mt := ⟨_, List.getElem?_eq_getElem (show i < r.ms.length by omega)⟩
    have hmem : mt ∈ r.ms := List.mem_of_getElem? hmt
    have hpd : a.pend[i]? = some mt.abs := by rw [← hok.pd, List.getElem?_map, hmt]; rfl
    obtain ⟨g1, rfl, hA3⟩ := cut_addr hrow (by rw [List.length_map]; omega)
    rw [hA3] at hA2
    subst hA2
    refine j_q (qs_ixn (i := i) Tryz.underlying61 sz153 rfl rfl hi) ?_
    refine j_q (qs_loadR (v := mt.val) (a := ⟨g1, 0, none⟩) (i := i) (own_rd hrow 2 rfl) Tryz.underlying153 rfl (by rw [add_off]; show Value.pointer (some ⟨g1, 0 + i * 1, none⟩) = _; rw [Nat.mul_one]) (by rw [List.getElem?_map, hmt]; rfl)) ?_
    refine j_q (qs_nil rfl) ?_
    refine j_q (qs_field Tryz.underlying63 rfl sz59 (by decide) rfl) ?_
    refine j_q (qs_load (l := fmcells r.fm) 0 Tryz.underlying59 rfl rfl rfl rfl) ?_
    refine j_callf 1 mt.ent rfl rfl (by simp only [List.nil_append, List.map_cons, List.map_nil]; show r.ls.ptr :: mt.caps = ls.ptr :: mt.caps; simp only [SM.ptr, hgs]) rfl (fun w' hw' => (thing_con ls P (runA a.base (a.pend.take i)) mt w' hls hlv (okA_run hok.ok i) (MT.ok_mono (hok.mo mt hmem) hgr.1) (okA_nth hok.ok hpd) (fun q hq => in_own hw' 4 rfl q (hok.bx mt hmem q hq)) (fun g hg hg2 => nodup_two hw'.nodup (i := 1) (j := 4) (by decide) rfl rfl g hg2 (List.mem_map.2 (by obtain ⟨q, hq, e⟩ := List.mem_map.1 hg; exact ⟨q, hok.bx mt hmem q hq, e⟩)))).mono (fun u S3 hu3 => (⟨hu3, fun f hf => ⟨fun hfn => nodup_two hw'.nodup (i := 1) (j := 3) (by decide) rfl rfl f.g (by rw [dom, List.map_append]; exact List.mem_append_left _ (dom_gs hf)) hfn, fun o ho hod e => by
      have h9 := hw'.dom_ f.g (by
        rw [dom, show ∀ l : List SH, l.flatten = l.flatten from fun _ => rfl]
        exact List.mem_map.2 ⟨f.h, mem_flatten_of (k := 1) rfl (by
          refine List.mem_append_left _ ?_
          unfold SM.heap
          exact List.mem_append_right _ (List.mem_map.2 ⟨f, hf, rfl⟩)), rfl⟩)
      rw [← e] at h9
      rcases h9 with h9 | h9
      · exact hod h9
      · exact absurd ho (Nat.not_lt.2 h9)⟩⟩ : _ ∧ ∀ f ∈ ls.fs, f.g ∉ dom r.now.heap ∧ ∀ o, o < w.heap.size → o ∉ dom r.heap → o ≠ f.g))) (fun u S2 hu2 => ?_)
    obtain ⟨⟨ls2, P2, rfl, hgs2, hls2, hlv2, hple⟩, hsep⟩ := hu2
    refine j_perm (S' := [[(r.gf, r.fm.obj)], ls2.heap ++ ph P2, r.tc, r.now.heap, r.X]) (by
      classical
      refine List.perm_iff_count.2 fun x => ?_
      simp only [List.set, List.flatten_cons, List.flatten_nil, List.append_nil, List.nil_append, List.cons_append, List.count_append, List.count_cons, List.count_nil] <;> omega) ?_
    refine j_q (qs_add64 rfl rfl (by first | omega | (simp only [bnA] at *; omega))) ?_
    refine j_back rfl ?_
    refine ⟨k - (i + 1), by omega, i + 1, ls2, P2, rfl, hi, rfl, hgs2.trans hgs, by rw [runA_succ hpd]; exact hls2, hlv2, ?_, ?_, rfl⟩
    · rcases hple with rfl | ⟨f, hf, hple⟩
      · exact hnv
      · exact fun x hx => (hnv x hx).mono hple (fun e => (hsep f hf).1 (e ▸ dom_gs hx))
    · rcases hple with rfl | ⟨f, hf, hple⟩
      · exact hgr
      · exact hgr.trans ⟨fun v xs h => h.mono hple, fun o ho hod v xs h => h.mono hple ((hsep f hf).2 o ho hod)⟩
  · skip
    have hi : i = k := by
      have h5 : ¬ (i : Int) < (k : Int) := by simpa using hc0
      omega
    subst hi
    refine j_q (qs_nil rfl) ?_
    refine j_q (qs_field Tryz.underlying63 rfl sz61 (by decide) rfl) ?_
    refine j_store (l := fmcells r.fm) 0 sz61 rfl rfl rfl rfl (by simp) (by simp) ?_
    have hp : ls.ptr = r.ls.ptr := by simp only [SM.ptr, hgs]
    refine j_subl (S' := [[(r.gf, FM.obj (FR.fm ({ r with ls := ls, P := P, ms := [], tv := .slice none 0 0, tc := [] } : FR)))], ls.heap ++ ph P, r.now.heap, r.X]) (by
      have e : FM.obj (FR.fm ({ r with ls := ls, P := P, ms := [], tv := .slice none 0 0, tc := [] } : FR)) = .cells [.int .i64 r.room, r.ls.ptr, r.now.ptr, .slice none 0 0, .bool r.fused, .int .i64 r.left].toArray 63 (0, 0) := by
        simp only [FM.obj, fmcells, hp]
      rw [e]
      exact (by repeat first | exact slR _ | exact slN _ | apply slC | apply slD)) ?_
    refine j_perm (S' := [FR.heap ({ r with ls := ls, P := P, ms := [], tv := .slice none 0 0, tc := [] } : FR)]) (by
      classical
      refine List.perm_iff_count.2 fun x => ?_
      simp only [FM.heap, List.set, List.flatten_cons, List.flatten_nil, List.append_nil, List.nil_append, List.cons_append, List.count_append, List.count_cons, List.count_nil] <;> omega) ?_
    refine j_ret_con (vs := []) (fun w' hw' => trivial) ?_
    exact ⟨ls, P, rfl, hgs, hls, hlv, hnv, hgr⟩
end Go.Proofs.YtfebkkmmagbnlaaGreatDoor
/-! Sx23 -/
namespace Go.Sx
open Go
set_option linter.unusedVariables false
variable {P : Program} {R : Ending → World → Prop} {env : Env} {b : Base} {S : List SH} {B : JB} {T : Tree} {v : Value} {ty : TypeId}
end Go.Sx
/-! Sx24 -/
namespace Go.Sx
open Go
set_option linter.unusedVariables false
variable {P : Program} {R : Ending → World → Prop} {env : Env} {b : Base} {S : List SH} {B : JB} {T : Tree} {v : Value} {ty : TypeId}
end Go.Sx
/-! Sx26 -/
namespace Go.Sx
open Go Go.MapKept Go.WideMaps Go.Maps
set_option linter.unusedVariables false
set_option linter.unusedSimpArgs false
set_option linter.unusedSectionVars false
variable {P : Program} {R : Ending → World → Prop} {env : Env} {b : Base} {S : List SH} {B : JB} {T : Tree} {v : Value} {ty : TypeId}
theorem flat_setw {α : Type} {encA : α → List Value} {n : Nat} (hl : ∀ a, (encA a).length = n) (a' : α) : ∀ (rs : List α) (i : Nat), i < rs.length → ((rs.map encA).flatten).take (i * n) ++ encA a' ++ ((rs.map encA).flatten).drop (i * n + n) = ((rs.set i a').map encA).flatten
  | [], _, h => by simp at h
  | a :: rs, 0, _ => by
    simp only [List.map_cons, List.flatten_cons, List.set_cons_zero, Nat.zero_mul, Nat.zero_add, List.take_zero, List.nil_append]
    rw [List.drop_append_of_le_length (by rw [hl]; exact Nat.le_refl _), List.drop_of_length_le (by rw [hl]; exact Nat.le_refl _), List.nil_append]
  | a :: rs, i + 1, h => by
    simp only [List.map_cons, List.flatten_cons, List.set_cons_succ]
    have e1 : (i + 1) * n = n + i * n := by rw [Nat.add_mul]; omega
    rw [← flat_setw hl a' rs i (by simpa using h), e1, List.take_append, hl, List.take_of_length_le (by rw [hl]; omega), List.drop_append, hl, List.drop_of_length_le (by rw [hl]; omega)]
    simp only [List.append_assoc, List.nil_append]
    rw [Nat.add_sub_cancel_left, show n + i * n + n - n = i * n + n by omega]
theorem own_mk {e : TypeId} {sz n cap g : Nat} {xs rest : List Value} {fz : Nat × Nat} (h1 : xs.length = n * sz) (h2 : (xs ++ rest).length = cap * sz) (h3 : n ≤ cap) (h4 : ∀ j, j < (xs ++ rest).length → ¬ (fz.1 ≤ j ∧ j < fz.2)) : Own e sz xs (.slice (some ⟨g, 0, none⟩) n cap) [(g, .cells (xs ++ rest).toArray e fz)] := .inr ⟨g, n, cap, rest, fz, rfl, rfl, h1, h2, h3, h4⟩
theorem j_storerecw {α : Type} {encA : α → List Value} {n : Nat} {rs : List α} {t : TypeId} {x y : Operand} {g i len cap : Nat} {c : SH} {e : TypeId} (a' : α) (k : Nat) (hl : ∀ a, (encA a).length = n) (ho : Own e n ((rs.map encA).flatten) (.slice (some ⟨g, 0, none⟩) len cap) c) (hk : S[k]? = some c) (hi : i < rs.length) (hz : (P.info? t).map (·.size) = some n)
    (hx : ev env x = .pointer (some ⟨g, 0 + i * n, none⟩)) (hy : ev env y = .agg (encA a').toArray) (hv : ∀ u ∈ encA a', oneV u = true)
    (h : ∀ c', Own e n (((rs.set i a').map encA).flatten) (.slice (some ⟨g, 0, none⟩) len cap) c' → J P R T (undef :: env) (S.set k c') b B) : J P R (.op (O (.store t x y) ty) T) env S b B := by
  obtain ⟨rest, fz, rfl, h1, h2, h3, h4⟩ := own_row ho
  have hlen : ∀ rs : List α, ((rs.map encA).flatten).length = rs.length * n := fun rs => by
    induction rs with
    | nil => simp
    | cons a rs ih => simp only [List.map_cons, List.flatten_cons, List.length_append, hl, List.length_cons, Nat.add_mul, Nat.one_mul, ih]; omega
  have hlt : i * n + n ≤ ((rs.map encA).flatten).length := by
    rw [hlen]
    have : (i + 1) * n ≤ rs.length * n := Nat.mul_le_mul_right _ hi
    rw [Nat.add_mul] at this
    omega
  refine j_storea k hz (by rw [hx, Nat.zero_add]) hy (hl _) hv hk (by rw [List.length_append]; omega) (fun j h5 h6 => h4 j (by rw [List.length_append]; omega)) ?_
  have he : (((rs.set i a').map encA).flatten).length = ((rs.map encA).flatten).length := by rw [hlen, hlen, List.length_set]
  have hE : ((rs.map encA).flatten ++ rest).take (i * n) ++ encA a' ++ ((rs.map encA).flatten ++ rest).drop (i * n + n) = ((rs.set i a').map encA).flatten ++ rest := by
    rw [List.take_append_of_le_length (by omega), List.drop_append_of_le_length hlt, ← List.append_assoc, flat_setw hl a' rs i hi]
  rw [hE]
  refine h _ (own_mk (by rw [he]; exact h1) (by rw [List.length_append, he, ← List.length_append]; exact h2) h3 (fun j hj => h4 j (by rw [List.length_append, he, ← List.length_append] at hj; exact hj)))
end Go.Sx
/-! Sx27 -/
namespace Go.Sx
open Go Go.MapKept Go.WideMaps Go.Maps
set_option linter.unusedVariables false
set_option linter.unusedSimpArgs false
set_option linter.unusedSectionVars false
variable {P : Program} {R : Ending → World → Prop} {env : Env} {b : Base} {S : List SH} {B : JB} {T : Tree} {v : Value} {ty : TypeId}
variable {κ : Type} [DecidableEq κ] {enc : κ → Value} {ok : κ → Prop} {m : List (κ × Value)} {kt : TypeId}
end Go.Sx
/-! Sx28 -/
namespace Go.Sx
open Go Go.MapKept Go.WideMaps Go.Maps
set_option linter.unusedVariables false
set_option linter.unusedSimpArgs false
set_option linter.unusedSectionVars false
variable {P : Program} {R : Ending → World → Prop} {env : Env} {b : Base} {S : List SH} {B : JB} {T : Tree} {v : Value} {ty : TypeId}
variable {κ : Type} [DecidableEq κ] {enc : κ → Value} {ok : κ → Prop} {es : Array MapEntry} {clock : Nat} {m done : List (κ × Value)}
structure ItOk (enc : κ → Value) (es : Array MapEntry) (seen : Array Nat) (done : List (κ × Value)) : Prop where
  nd : (done.map Prod.fst).Nodup
  sub : ∀ p ∈ done, ∃ e ∈ es.toList, e.key = enc p.1 ∧ e.val = p.2 ∧ e.born ∈ seen.toList
  all : ∀ e ∈ es.toList, e.born ∈ seen.toList → ∃ p ∈ done, e.key = enc p.1 ∧ e.val = p.2
end Go.Sx
/-! Sx29 -/
namespace Go.Sx
open Go Go.MapKept Go.WideMaps Go.Maps
set_option linter.unusedVariables false
set_option linter.unusedSimpArgs false
set_option linter.unusedSectionVars false
variable {P : Program} {R : Ending → World → Prop} {env : Env} {b : Base} {S : List SH} {B : JB} {T : Tree} {ty : TypeId}
variable {es : Array MapEntry} {clock : Nat} {m : List (Nat × Value)}
abbrev pEnc (g : Nat) : Value := .pointer (some ⟨g, 0, none⟩)
end Go.Sx
/-! Ft3p -/
namespace Go.Proofs.YtfebkkmmagbnlaaGreatDoor
open Go Go.Sx Go.MapKept Go.WideMaps Go.Maps
set_option maxRecDepth 100000
set_option linter.unusedVariables false
set_option linter.unusedSimpArgs false
set_option linter.unusedSectionVars false
structure Cp (s o : SM) (done : List (List UInt8 × (Nat × Nat))) (tw : List (Nat × Value)) : Prop where
  raw : Raw o
  nm : o.ml.map (fun p => (p.1, Prod.snd p.2)) = done.map (fun p => (p.1, Prod.snd p.2))
  kc : ∀ f ∈ o.fs, f.k = (cnt o.ml f.id : Int)
  pos : ∀ f ∈ o.fs, 1 ≤ f.k
  fs : ∀ f ∈ o.fs, ∃ y ∈ s.fs, y.id = f.id ∧ y.xs = f.xs
  us : o.used = s.used
  tl : ∀ y ∈ s.fs, mlook tw y.g = (getF o.fs y.id).map fun f => pEnc f.g
  ts : ∀ p ∈ tw, ∃ y ∈ s.fs, p.1 = y.g
end Go.Proofs.YtfebkkmmagbnlaaGreatDoor
/-! Ft3 -/
namespace Go.Proofs.YtfebkkmmagbnlaaGreatDoor
open Go Go.Sx
set_option maxRecDepth 100000
set_option maxHeartbeats 4000000
set_option linter.unusedVariables false
set_option linter.unusedSimpArgs false
attribute [local irreducible] J JQ QS Con W opW
open Go.MapKept Go.WideMaps Go.Maps
end Go.Proofs.YtfebkkmmagbnlaaGreatDoor
/-! Ft4 -/
namespace Go.Proofs.YtfebkkmmagbnlaaGreatDoor
open Go Go.Sx
set_option maxRecDepth 100000
set_option maxHeartbeats 4000000
set_option linter.unusedVariables false
set_option linter.unusedSimpArgs false
attribute [local irreducible] J JQ QS Con W opW
open Go.MapKept Go.WideMaps Go.Maps
def burnL (a : AF) : Int := if a.fused then a.left - 1 else a.left
def syncF (a : AF) : AF := { a with base := a.now, pend := [], left := burnL a }
structure FR.To (w : World) (r r' : FR) : Prop where
  gf : r'.gf = r.gf
  gr : Gr w r.heap r.P r'.P
  xs : ∀ q ∈ r.X, q ∈ r'.X
theorem FR.To.refl (w : World) (r : FR) : FR.To w r r := ⟨rfl, Gr.refl _ _ _, fun q h => h⟩
theorem FR.Ok.len {r : FR} {a : AF} (h : r.Ok a) : r.ms.length = a.pend.length := by rw [← h.pd, List.length_map]
abbrev lastR (r : FR) (ls : SM) (P : List BK) : FR := { r with ls := ls, P := P, ms := [], tv := .slice none 0 0, tc := [] }
theorem FR.hgf {r : FR} {w : World} (h : In w r.heap) : w.heap[r.gf]? = some r.fm.obj := FM.in_gf h
theorem sync_con (r : FR) (a : AF) (w : World) (hok : r.Ok a) : Con Tryz.prog 78 [r.ptr] w r.heap fun v S' => v = .int .i64 (mayE a.fused a.left []) ∧ ∃ r' : FR, S' = [r'.heap] ∧ r'.Ok (if mayE a.fused a.left [] = 0 then syncF a else a) ∧ FR.To w r r' := by
  refine con_of_tree mix Tryz.func78 T78_ok (by kernel_rfl) ?_
  unfold T78
  obtain ⟨n1, A1, cap1, htv, hn1⟩ := own_form hok.row (by decide)
  rw [Nat.mul_one, List.length_map] at hn1
  subst hn1
  have hmay : mayE r.fused r.left [] = mayE a.fused a.left [] := by rw [hok.fu, hok.le]
  refine j_q (qs_ac) ?_
  refine j_q (qs_call ent96 rfl rfl rfl (fun w' hw' => may_con r.fm [] _ w' (in_own hw' 0 rfl) (.inl ⟨rfl, rfl⟩) (by simp))) ?_
  refine j_q (qs_neq rfl rfl) ?_
  refine j_cond rfl (fun hc0 => ?_) (fun hc0 => ?_)
  · skip
    have hm : mayE a.fused a.left [] ≠ 0 := by
      rw [← hmay]
      simpa using hc0
    refine j_ret_con (vs := [_]) (fun w' hw' => ⟨rfl, trivial⟩) ?_
    rw [if_neg hm]
    exact ⟨congrArg (Value.int .i64) hmay, r, rfl, hok, FR.To.refl _ _⟩
  · skip
    have hm : mayE a.fused a.left [] = 0 := by
      rw [← hmay]
      simpa using hc0
    refine j_perm (S' := r.parts) r.split ?_
    refine j_q (qs_nil rfl) ?_
    refine j_q (qs_field Tryz.underlying63 rfl sz61 (by decide) rfl) ?_
    refine j_q (qs_load (l := fmcells r.fm) 0 Tryz.underlying61 rfl rfl rfl rfl) ?_
    refine j_q (qs_lenl (n := r.ms.length) (A := A1) (c := cap1) Tryz.underlying61 htv) ?_
    refine j_perm (S' := [r.heap]) r.split.symm ?_
    refine j_call 0 ent55 rfl rfl rfl rfl (fun w' hw' => (last_con r a r.ms.length w' hok (Nat.le_refl _)).mono (fun u S3 h3 => by
      obtain ⟨ls, P, h1, h2, h3, h4, h5, h6⟩ := h3
      exact (⟨ls, P, h1, h2, h3, h4, h5, h6.old hw'.size⟩ : ∃ (ls : SM) (P : List BK), S3 = [FR.heap (lastR r ls P)] ∧ ls.gs = r.ls.gs ∧ Sx' ls (runA a.base (a.pend.take r.ms.length)) ∧ VwA P ls ∧ VwA P r.now ∧ Gr w r.heap r.P P))) (fun u S2 hu => ?_)
    obtain ⟨ls, P, rfl, hgs, hls, hlv, hnv, hgr⟩ := hu
    refine j_perm (S' := FR.parts (lastR r ls P)) (by
      classical
      refine List.perm_iff_count.2 fun x => ?_
      simp only [FM.heap, FR.parts, List.set, List.flatten_cons, List.flatten_nil, List.append_nil, List.nil_append, List.cons_append, List.count_append, List.count_cons, List.count_nil] <;> omega) ?_
    refine j_call 0 ent105 rfl rfl rfl rfl (fun w' hw' => burns_con (lastR r ls P).fm w' (by have := hok.l0; show _ ≤ r.left ∧ r.left ≤ _; omega)) (fun u S2 hu => ?_)
    subst hu
    refine j_q (qs_ac) ?_
    refine j_perm (S' := [[(r.gf, FM.obj (FR.fm { lastR r ls P with left := if r.fused then r.left - 1 else r.left }))], [], ls.heap ++ ph P, [], r.now.heap, r.X]) (.refl _) ?_
    refine j_perm (S' := [FR.heap { lastR r ls P with left := if r.fused then r.left - 1 else r.left }]) (by
      classical
      refine List.perm_iff_count.2 fun x => ?_
      simp only [FM.heap, FR.parts, List.set, List.flatten_cons, List.flatten_nil, List.append_nil, List.nil_append, List.cons_append, List.count_append, List.count_cons, List.count_nil] <;> omega) ?_
    refine j_ret_con (vs := [_]) (fun w' hw' => ⟨rfl, trivial⟩) ?_
    rw [if_pos hm]
    refine ⟨by rw [hm]; rfl, _, rfl, ?_, rfl, ?_, fun q h => h⟩
    · rw [hok.len, List.take_length] at hls
      have hb : (if r.fused = true then r.left - 1 else r.left) = burnL a := by
        unfold burnL
        rw [hok.fu, hok.le]
      refine ⟨hok.rm, hok.fu, hb, ?_, rfl, own_nil, Nat.zero_le _, (fun m hm => by cases hm), (fun m hm => by cases hm), okA_end hok.ok, hls, hlv, hok.now, hnv⟩
      have h0 := hok.l0
      show 0 ≤ (if r.fused = true then r.left - 1 else r.left) ∧ (if r.fused = true then r.left - 1 else r.left) ≤ _
      have hz : r.fused = true → r.left ≠ 0 := fun hf hl => by
        unfold mayE at hm
        rw [← hok.fu, ← hok.le, hf, hl] at hm
        simp at hm
      split
      · rename_i hf
        have := hz hf
        omega
      · exact h0
    · exact hgr
end Go.Proofs.YtfebkkmmagbnlaaGreatDoor
/-! Ft5 -/
namespace Go.Proofs.YtfebkkmmagbnlaaGreatDoor
open Go Go.Sx
set_option maxRecDepth 100000
set_option maxHeartbeats 4000000
set_option linter.unusedVariables false
set_option linter.unusedSimpArgs false
attribute [local irreducible] J JQ QS Con W opW
open Go.MapKept Go.WideMaps Go.Maps
theorem FR.Ok.fm {r : FR} {a : AF} (h : r.Ok a) {B : Nat} (hB : a.pend.length ≤ B) : FM.Ok B r.fm := ⟨h.row, by show (r.ms.map MT.val).length ≤ B; rw [List.length_map, h.len]; exact hB, h.now.raw, h.nv, rfl⟩
theorem VwA.more {P P' : List BK} {s : SM} (hs : ∀ b ∈ P, b ∈ P') (h : VwA P s) : VwA P' s := fun x hx => (h x hx).more hs
theorem FR.Ok.more {r : FR} {a : AF} (h : r.Ok a) (X : SH) (Q : List BK) : FR.Ok { r with X := X ++ r.X, P := Q ++ r.P } a := by
  have hs : ∀ b ∈ r.P, b ∈ Q ++ r.P := fun b hb => List.mem_append_right _ hb
  exact ⟨h.rm, h.fu, h.le, h.l0, h.pd, h.row, h.lt, fun m hm q hq => List.mem_append_right _ (h.bx m hm q hq), fun m hm => MT.ok_mono (h.mo m hm) (fun v xs hv => hv.more hs), h.ok, h.ls, h.lv.more hs, h.now, h.nv.more hs⟩
theorem Gr.more (w : World) (Fp : SH) (Q P : List BK) : Gr w Fp P (Q ++ P) := ⟨fun v xs h => h.more (fun b hb => List.mem_append_right _ hb), fun o _ _ v xs h => h.more (fun b hb => List.mem_append_right _ hb)⟩
def stepF (a : AF) (t : AT) : AF := { a with pend := a.pend ++ [t], left := burnL a }
theorem doesR_con (r : FR) (a : AF) (mt : MT) (w : World) (hok : r.Ok a) (hB : a.pend.length < 16384) (hz : a.fused = true → a.left ≠ 0) (hmo : mt.ok r.P) (hbx : ∀ q ∈ mt.h, q ∈ r.X) (hcan : canA a.now mt.abs) (hlim : limA (doA a.now mt.abs)) :
    Con Tryz.prog 97 [r.ptr, mt.val] w r.heap fun v S' => v = .int .i64 0 ∧ ∃ r' : FR, S' = [r'.heap] ∧ r'.Ok (stepF a mt.abs) ∧ FR.To w r r' := by
  have hl0 := hok.l0
  have hsub : ∀ q ∈ mt.h, q ∈ r.fm.more := fun q hq => List.mem_append_right _ (hbx q hq)
  refine (does_con r.fm a.pend.length (by omega) mt.fid mt.caps.toArray (fun s' P' => Sx' s' (doA a.now mt.abs) ∧ VwA P' s' ∧ (P' = r.P ∨ ∃ f ∈ r.now.fs, PLe f.g r.P P' ∧ f.g ∉ dom (r.ls.heap))) w (hok.fm (Nat.le_refl _)) (by show _ ≤ r.left ∧ r.left ≤ _; omega) mt.ent (fun w2 hin hdj => (thing_con r.now r.P a.now mt w2 hok.now hok.nv (okA_end hok.ok) hmo hcan (fun q hq => hin q (hsub q hq)) (fun g hg => by
    obtain ⟨q, hq, e⟩ := List.mem_map.1 hg
    exact hdj g (List.mem_map.2 ⟨q, hsub q hq, e⟩))).mono (fun u S3 h3 => by
      obtain ⟨s', P', h1, h2, h4, h5, h6⟩ := h3
      refine ⟨s', P', h1, h2, h4, h5, ?_⟩
      rcases h6 with h6 | ⟨f, hf, h6⟩
      · exact .inl h6
      · exact .inr ⟨f, hf, h6, fun hx => hdj f.g (by
          obtain ⟨q, hq, e⟩ := List.mem_map.1 hx
          exact List.mem_map.2 ⟨q, List.mem_append_left _ hq, e⟩) (by
          rw [dom, List.map_append]
          exact List.mem_append_left _ (dom_gs hf))⟩))).mono (fun u S4 h4 => ?_)
  obtain ⟨rfl, s', P', tv, tc, rfl, hrow, hgs, hs', hv', hP⟩ := h4
  have hrv : ∀ v xs, RV r.P v xs → RV P' v xs := fun v xs h => by
    rcases hP with rfl | ⟨f, hf, h6, _⟩
    · exact h
    · exact h.mono h6
  have hb : (if r.fused = true then r.left - 1 else r.left) = burnL a := by
    unfold burnL
    rw [hok.fu, hok.le]
  have hb0 : 0 ≤ burnL a ∧ burnL a ≤ 9223372036854775807 := by
    unfold burnL
    rw [hok.le] at hl0
    split
    · rename_i hf
      have := hz hf
      omega
    · exact hl0
  refine ⟨rfl, { r with now := s', P := P', ms := r.ms ++ [mt], tv := tv, tc := tc, left := if r.fused then r.left - 1 else r.left }, ?_, ⟨hok.rm, hok.fu, hb, by show 0 ≤ (if r.fused = true then r.left - 1 else r.left) ∧ _; rw [hb]; exact hb0, by show (r.ms ++ [mt]).map MT.abs = a.pend ++ [mt.abs]; rw [List.map_append, hok.pd]; rfl, ?_, ?_, ?_, ?_, okA_append hok.ok hcan hlim, hok.ls, ?_, by show Sx' s' (runA a.base (a.pend ++ [mt.abs])); rw [runA_snoc]; exact hs', hv'⟩, rfl, ⟨hrv, fun o ho hod v xs h => ?_⟩, fun q hq => hq⟩
  · rfl
  · show Sx.Own 153 1 ((r.ms ++ [mt]).map MT.val) tv tc
    rw [List.map_append]
    exact hrow
  · show (r.ms ++ [mt]).length ≤ 16384
    rw [List.length_append, hok.len]
    simp only [List.length_singleton]
    omega
  · intro m hm q hq
    rcases List.mem_append.1 hm with hm | hm
    · exact hok.bx m hm q hq
    · rw [List.mem_singleton] at hm
      subst hm
      exact hbx q hq
  · intro m hm
    rcases List.mem_append.1 hm with hm | hm
    · exact MT.ok_mono (hok.mo m hm) hrv
    · rw [List.mem_singleton] at hm
      subst hm
      exact MT.ok_mono hmo hrv
  · rcases hP with rfl | ⟨f, hf, h6, h7⟩
    · exact hok.lv
    · exact fun x hx => (hok.lv x hx).mono h6 (fun e => h7 (e ▸ dom_gs hx))
  · rcases hP with rfl | ⟨f, hf, h6, h7⟩
    · exact h
    · exact h.mono h6 (fun e => hod (by
        rw [e]
        obtain ⟨q, hq, e2⟩ := List.mem_map.1 (dom_gs hf)
        exact List.mem_map.2 ⟨q, by simp only [FM.heap]; simp [hq], e2⟩))
end Go.Proofs.YtfebkkmmagbnlaaGreatDoor
/-! Ft6 -/
namespace Go.Proofs.YtfebkkmmagbnlaaGreatDoor
open Go Go.Sx
set_option maxRecDepth 100000
set_option maxHeartbeats 4000000
set_option linter.unusedVariables false
set_option linter.unusedSimpArgs false
attribute [local irreducible] J JQ QS Con W opW
open Go.MapKept Go.WideMaps Go.Maps
def freesA (s : AS) (n : List UInt8) : Nat :=
  match alook s.nm n with
  | none => 0
  | some i => if cntA s.nm i = 1 then (s.dt i).length else 0
def fullA (a : AF) (n xs : List UInt8) : Prop := (alook a.now.nm n = none ∧ 16384 ≤ a.now.nm.length) ∨ a.room < a.now.used - (freesA a.now n : Int) + (xs.length : Int)
instance (a : AF) (n xs : List UInt8) : Decidable (fullA a n xs) := by unfold fullA; infer_instance
def wrE (a : AF) (n xs : List UInt8) : Int := if mayE a.fused a.left [n] ≠ 0 then mayE a.fused a.left [n] else if 1048576 < xs.length then 5 else if fullA a n xs then 6 else 0
theorem letsA_free (s : AS) (n : List UInt8) : alook (letsA s n).nm n = none := by
  unfold letsA
  split
  · rename_i h
    exact h
  · show alook (mdel s.nm n) n = none
    rw [alook_mdel, if_pos rfl]
theorem letsA_none {s : AS} {n : List UInt8} (h : alook s.nm n = none) : letsA s n = s := by
  unfold letsA
  rw [h]
theorem letsA_used (s : AS) (n : List UInt8) : (letsA s n).used = s.used - (freesA s n : Int) := by
  cases h : alook s.nm n with
  | none =>
    rw [letsA_none h]
    simp only [freesA, h]
    omega
  | some i =>
    simp only [letsA, freesA, h]
    split
    · rfl
    · omega
theorem writeA_eq (s : AS) (n xs : List UInt8) (i : Nat) : writeA s n xs i = ⟨(letsA s n).nm ++ [(n, i)], updA (letsA s n).dt i xs, (letsA s n).used + (xs.length : Int)⟩ := by
  have h := letsA_free s n
  unfold writeA givesA
  simp only
  rw [if_neg (by rw [h]; simp)]
  have e : letsA { letsA s n with dt := updA (letsA s n).dt i xs } n = { letsA s n with dt := updA (letsA s n).dt i xs } := letsA_none h
  rw [e]
theorem mdel_len {s : AS} {n : List UInt8} {i : Nat} (hn : (s.nm.map Prod.fst).Nodup) (hl : alook s.nm n = some i) : (mdel s.nm n).length + 1 = s.nm.length := by
  obtain ⟨A, B, e, hA⟩ := alook_split hl
  rw [e] at hn ⊢
  rw [List.map_append, List.map_cons, List.nodup_append, List.nodup_cons] at hn
  have hb : ∀ q ∈ B, q.1 ≠ n := fun q hq e => hn.2.1.1 (by rw [← e]; exact List.mem_map.2 ⟨q, hq, rfl⟩)
  have e1 : mdel (A ++ (n, i) :: B) n = A ++ B := by
    unfold mdel
    rw [List.filter_append, List.filter_cons_of_neg (by simp), List.filter_eq_self.2 (fun q hq => by simpa using hA q hq), List.filter_eq_self.2 (fun q hq => by simpa using hb q hq)]
  rw [e1]
  simp only [List.length_append, List.length_cons]
  omega
theorem write_lim {a : AF} {n xs : List UInt8} {i : Nat} (hn : (a.now.nm.map Prod.fst).Nodup) (hl : limA a.now) (hr : a.room ≤ 1073741824) (hf : ¬ fullA a n xs) : limA (writeA a.now n xs i) := by
  unfold fullA at hf
  rw [not_or] at hf
  rw [writeA_eq]
  refine ⟨?_, ?_⟩
  · show (letsA a.now n).used + (xs.length : Int) ≤ _
    rw [letsA_used]
    have := hf.2
    omega
  · show ((letsA a.now n).nm ++ [(n, i)]).length ≤ _
    rw [List.length_append, List.length_singleton]
    cases h : alook a.now.nm n with
    | none =>
      have e : letsA a.now n = a.now := by unfold letsA; rw [h]
      rw [e]
      have h1 := hf.1
      rw [not_and] at h1
      have := h1 h
      omega
    | some j =>
      have e : (letsA a.now n).nm = mdel a.now.nm n := by unfold letsA; rw [h]
      rw [e]
      have := mdel_len hn h
      have := hl.2
      omega
theorem FR.To.old {w w' : World} {r R1 r' : FR} {S : List SH} (h : FR.To w' R1 r') (hw' : Sig ⟨w, dom r.heap⟩ S w') (k : Nat) (hk : S[k]? = some R1.heap) (hg : R1.gf = r.gf) (hx : ∀ q ∈ r.X, q ∈ R1.X) (hp : ∀ b ∈ r.P, b ∈ R1.P) : FR.To w r r' := by
  refine ⟨h.gf.trans hg, ⟨fun v xs hv => h.gr.1 v xs (hv.more hp), fun o ho hod v xs hv => h.gr.2 o (Nat.lt_of_lt_of_le ho hw'.size) (fun hd => ?_) v xs (hv.more hp)⟩, fun q hq => h.xs q (hx q hq)⟩
  obtain ⟨q, hq, e⟩ := List.mem_map.1 hd
  rcases hw'.dom_ o (List.mem_map.2 ⟨q, mem_flatten_of hk hq, e⟩) with h1 | h1
  · exact hod h1
  · exact absurd ho (Nat.not_lt.2 h1)
theorem write0_con (r : FR) (a : AF) (n : List UInt8) (bv : Value) (xs : List UInt8) (id : Nat) (w : World) (hok : r.Ok a) (hn : strOk n) (hbr : BR w bv xs) (hbd : ∀ (a : Addr) (m c : Nat), bv = .slice (some a) m c → 0 < m → a.block ∉ dom r.heap) (hxl : xs.length ≤ 1000000000) (hB : a.pend.length < 16384) (hrm : a.room ≤ 1073741824) (hid : ∀ q ∈ a.now.nm, q.2 ≠ id) (hlk : alook r.now.ml n = none) : Con Tryz.prog 75 [r.ptr, .string (bs n), bv] w r.heap fun v S' => v = .int .i64 (wrE a n xs) ∧ ∃ r' : FR, S' = [r'.heap] ∧ r'.Ok (if wrE a n xs = 0 then stepF a (.wr n xs id) else a) ∧ FR.To w r r' := by
  refine con_of_tree mix Tryz.func75 T75_ok (by kernel_rfl) ?_
  unfold T75
  obtain ⟨A, cap, hbv, hcap⟩ := br_form hbr
  have hone : oneV bv = true := by rw [hbv]; rfl
  have hmay : mayE r.fused r.left [n] = mayE a.fused a.left [n] := by rw [hok.fu, hok.le]
  have hlim := okA_end hok.ok
  have hu1 : a.now.used ≤ 1073741824 := hlim.1
  have hl2 : a.now.nm.length ≤ 16384 := hlim.2
  have hut : r.now.used + 0 = (tot r.now.fs : Int) := hok.now.ex.ut
  have hus : r.now.used = a.now.used := hok.now.rep.us
  have hlen : r.now.ml.length = a.now.nm.length := hok.now.rep.len
  have hrm2 := hok.rm
  refine j_box (l := [.string (bs n)]) rfl (fun g0 hg0 hs0 => ?_)
  refine j_box (l := [bv]) (by show bv.cells = #[bv]; rw [hbv]; rfl) (fun g1 hg1 hs1 => ?_)
  refine j_q (qs_ac) ?_
  refine j_q (qs_load (l := [.string (bs n)]) 1 Tryz.underlying9 rfl rfl rfl rfl) ?_
  refine j_lit (vs := [.string (bs _)]) Tryz.underlying142 sz9 zero9 rfl (by simp [oneV]) ⟨rfl, by decide⟩ (fun g4 v4 c4 hv4 hc4 ho4 => ?_)
  subst hv4 hc4
  refine j_q (qs_call ent96 rfl rfl rfl (fun w' hw' => may_con r.fm [n] _ w' (in_own hw' 3 rfl) (rsl_own ho4 0 rfl hw') (by simp))) ?_
  refine j_q (qs_neq rfl rfl) ?_
  refine j_cond rfl (fun hc0 => ?_) (fun hc0 => ?_)
  · skip
    have hm : mayE a.fused a.left [n] ≠ 0 := by
      rw [← hmay]
      simpa using hc0
    refine j_subl (S' := [r.heap]) (by repeat first | exact slR _ | exact slN _ | apply slC | apply slD) ?_
    have hwe : wrE a n xs = mayE a.fused a.left [n] := by
      unfold wrE
      rw [if_pos hm]
    refine j_ret_con (vs := [_]) (fun w' hw' => ⟨rfl, trivial⟩) ?_
    rw [hwe]
    refine ⟨congrArg (Value.int .i64) hmay, r, rfl, ?_, FR.To.refl _ _⟩
    rw [if_neg hm]
    exact hok
  · skip
    have hm : mayE a.fused a.left [n] = 0 := by
      rw [← hmay]
      simpa using hc0
    have hz : a.fused = true → a.left ≠ 0 := fun hf hl => by
      unfold mayE at hm
      rw [hf, hl] at hm
      simp at hm
    refine j_q (qs_load (l := [bv]) 1 Tryz.underlying33 rfl rfl rfl rfl) ?_
    refine j_q (qs_lenl (n := xs.length) (A := A) (c := cap) Tryz.underlying33 hbv) ?_
    refine j_q (qs_gtr rfl rfl) ?_
    refine j_cond rfl (fun hc1 => ?_) (fun hc1 => ?_)
    · skip
      have hlong : 1048576 < xs.length := by
        have h5 : (xs.length : Int) > 1048576 := by simpa using hc1
        omega
      refine j_q (qs_ac) ?_
      refine j_subl (S' := [r.heap]) (by repeat first | exact slR _ | exact slN _ | apply slC | apply slD) ?_
      have hwe : wrE a n xs = 5 := by
        unfold wrE
        rw [if_neg (by rw [hm]; simp), if_pos (by omega)]
      refine j_ret_con (vs := [_]) (fun w' hw' => ⟨rfl, trivial⟩) ?_
      rw [hwe]
      refine ⟨rfl, r, rfl, ?_, FR.To.refl _ _⟩
      rw [if_neg (by decide)]
      exact hok
    · skip
      have hlong : ¬ 1048576 < xs.length := by
        have h5 : ¬ (xs.length : Int) > 1048576 := by simpa using hc1
        omega
      refine j_perm (S' := [[(g4, .cells [Value.string (bs n)].toArray 9 (0, 0))], [(g1, .cells [bv].toArray 33 (0, 0))], [(g0, .cells [.string (bs n)].toArray 9 (0, 0))], [(r.gf, r.fm.obj)], [(r.now.gs, r.now.sobj)], [(r.now.gm, .map r.now.es r.now.ck)], r.now.fs.map FL.h, r.tc ++ (r.ls.heap ++ r.X) ++ ph r.P]) (by
        classical
        refine List.perm_iff_count.2 fun x => ?_
        simp only [FM.heap, FM.obj, fmcells, SM.heap, ph, List.map_append, List.set, List.flatten_cons, List.flatten_nil, List.append_nil, List.nil_append, List.cons_append, List.count_append, List.count_cons, List.count_nil] <;> omega) ?_
      refine j_draw ?_
      refine jq_q (qs_nil rfl) ?_
      refine jq_q (qs_field Tryz.underlying63 rfl sz59 (by decide) rfl) ?_
      refine jq_q (qs_load (l := fmcells r.fm) 3 Tryz.underlying59 rfl rfl rfl rfl) ?_
      refine jq_q (qs_nil rfl) ?_
      refine jq_q (qs_field Tryz.underlying109 rfl sz107 (by decide) rfl) ?_
      refine jq_q (qs_load (l := smcells r.now) 4 Tryz.underlying107 rfl rfl rfl rfl) ?_
      refine jq_q (qs_load (l := [.string (bs n)]) 2 Tryz.underlying9 rfl rfl rfl rfl) ?_
      refine jq_q (qs_lookup (key := n) strKey 5 Tryz.underlying107 zv63 rfl rfl rfl hok.now.raw.map hn) ?_
      rw [mlook_map fptr, getD_fptr, hlk]
      refine jq_nil ?_
      refine j_q (qs_ac) ?_
      refine j_q (qs_pnnil Tryz.underlying110 rfl) ?_
      refine j_gf rfl (by simp) ?_
      refine j_gf rfl (by simp) ?_
      refine j_gf rfl (by simp) ?_
      refine j_gf rfl (by simp) ?_
      refine j_gf rfl (by simp) ?_
      refine j_q (qs_and (b0 := false) (b1 := false) rfl rfl) ?_
      refine j_cond rfl (fun hc2 => ?_) (fun hc2 => ?_)
      · skip
        simp [gd] at hc2
      · skip
        refine j_draw ?_
        refine jq_q (qs_pnil Tryz.underlying110 rfl) ?_
        refine jq_g rfl (fun hb => qs_mt rfl) ?_
        refine jq_g rfl (fun hb => qs_nil (gd_eq hb)) ?_
        refine jq_g rfl (fun hb => qs_field Tryz.underlying63 rfl sz59 (by decide) (gd_eq hb)) ?_
        refine jq_g rfl (fun hb => qs_load (l := fmcells r.fm) 3 Tryz.underlying59 rfl (gd_eq hb) rfl rfl) ?_
        refine jq_g rfl (fun hb => qs_nil (gd_eq hb)) ?_
        refine jq_g rfl (fun hb => qs_field Tryz.underlying109 rfl sz107 (by decide) (gd_eq hb)) ?_
        refine jq_g rfl (fun hb => qs_load (l := smcells r.now) 4 Tryz.underlying107 rfl (gd_eq hb) rfl rfl) ?_
        refine jq_g rfl (fun hb => qs_maplen (rdo_mem (o := .map r.now.es r.now.ck) 5 rfl (by simp)) Tryz.underlying107 (gd_eq hb) hok.now.raw.map) ?_
        refine jq_g rfl (fun hb => qs_geq (gd_eq hb) rfl) ?_
        refine jq_q (qs_and rfl rfl) ?_
        refine jq_g rfl (fun hb => qs_mt rfl) ?_
        refine jq_g rfl (fun hb => qs_nil (gd_eq hb)) ?_
        refine jq_g rfl (fun hb => qs_field Tryz.underlying63 rfl sz59 (by decide) (gd_eq hb)) ?_
        refine jq_g rfl (fun hb => qs_load (l := fmcells r.fm) 3 Tryz.underlying59 rfl (gd_eq hb) rfl rfl) ?_
        refine jq_g rfl (fun hb => qs_nil (gd_eq hb)) ?_
        refine jq_g rfl (fun hb => qs_field Tryz.underlying109 rfl sz3 (by decide) (gd_eq hb)) ?_
        refine jq_g rfl (fun hb => qs_load (l := smcells r.now) 4 Tryz.underlying3 rfl (gd_eq hb) rfl rfl) ?_
        refine jq_g rfl (fun hb => qs_mt rfl) ?_
        refine jq_g rfl (fun hb => qs_sub64 (gd_eq hb) (gd_eq hb) (by first | omega | (simp only [bnA] at *; omega))) ?_
        refine jq_g rfl (fun hb => qs_load (l := [bv]) 1 Tryz.underlying33 rfl rfl rfl rfl) ?_
        refine jq_g rfl (fun hb => qs_lenl (n := xs.length) (A := A) (c := cap) Tryz.underlying33 ((gd_eq hb).trans hbv)) ?_
        refine jq_g rfl (fun hb => qs_add64 (gd_eq hb) (gd_eq hb) (by first | omega | (simp only [bnA] at *; omega))) ?_
        refine jq_g rfl (fun hb => qs_mt rfl) ?_
        refine jq_g rfl (fun hb => qs_nil (gd_eq hb)) ?_
        refine jq_g rfl (fun hb => qs_field Tryz.underlying63 rfl sz3 (by decide) (gd_eq hb)) ?_
        refine jq_g rfl (fun hb => qs_load (l := fmcells r.fm) 3 Tryz.underlying3 rfl (gd_eq hb) rfl rfl) ?_
        refine jq_g rfl (fun hb => qs_gtr (gd_eq hb) (gd_eq hb)) ?_
        refine jq_q (qs_or rfl rfl) ?_
        refine jq_nil ?_
        refine j_cond rfl (fun hc4 => ?_) (fun hc4 => ?_)
        · skip
          have hla : alook a.now.nm n = none := by
            rw [← hok.now.rep.look hok.now.raw n, hlk]
            rfl
          have hfr : freesA a.now n = 0 := by unfold freesA; rw [hla]
          have hnf : fullA a n xs := by
            unfold fullA
            rw [hfr]
            simp [gd] at hc4
            rcases hc4 with h6 | h6
            · exact .inl ⟨hla, by omega⟩
            · exact .inr (by rw [← hok.rm, ← hus]; omega)
          refine j_q (qs_ac) ?_
          refine j_subl (S' := r.fm.parts2) (by repeat first | exact slR _ | exact slN _ | apply slC | apply slD) ?_
          refine j_perm (S' := [r.heap]) r.fm.split2.symm ?_
          have hwe : wrE a n xs = 6 := by
            unfold wrE
            rw [if_neg (by rw [hm]; simp), if_neg (by omega), if_pos hnf]
          refine j_ret_con (vs := [_]) (fun w' hw' => ⟨rfl, trivial⟩) ?_
          rw [hwe]
          refine ⟨rfl, r, rfl, ?_, FR.To.refl _ _⟩
          rw [if_neg (by decide)]
          exact hok
        · skip
          have hla : alook a.now.nm n = none := by
            rw [← hok.now.rep.look hok.now.raw n, hlk]
            rfl
          have hfr : freesA a.now n = 0 := by unfold freesA; rw [hla]
          have hnf : ¬ fullA a n xs := by
            unfold fullA
            rw [hfr]
            simp [gd] at hc4
            obtain ⟨h6, h7⟩ := hc4
            rintro (⟨_, h8⟩ | h8)
            · omega
            · rw [← hok.rm, ← hus] at h8
              omega
          refine j_q (qs_load (l := [bv]) 1 Tryz.underlying33 rfl rfl rfl rfl) ?_
          refine j_call0 ent39 rfl rfl rfl (fun w' hw' => clone_con bv xs w' (br_keep hbr hbd hw') hxl) (fun u S2 hu1 => ?_)
          obtain ⟨Q, rfl, hrv⟩ := hu1
          obtain ⟨bv2, hbv2⟩ : ∃ y, y = u := ⟨_, rfl⟩
          rw [← hbv2] at hrv ⊢
          refine j_subl (S' := [ph Q, [(g4, .cells [Value.string (bs n)].toArray 9 (0, 0))], [(g1, .cells [bv].toArray 33 (0, 0))], [(g0, .cells [.string (bs n)].toArray 9 (0, 0))], [(r.gf, r.fm.obj)], [(r.now.gs, r.now.sobj)], [(r.now.gm, .map r.now.es r.now.ck)], r.now.fs.map FL.h, r.tc ++ (r.ls.heap ++ r.X) ++ ph r.P]) (by repeat first | exact slR _ | exact slN _ | apply slC | apply slD) ?_
          obtain ⟨A2, c2, hbe, hbc, _⟩ := hrv.form
          refine j_store (l := [bv]) 2 sz33 rfl rfl (by show oneV bv2 = true; rw [hbe]; rfl) rfl (by simp) (by simp) ?_
          refine j_q (qs_mkfuncv (vs := [.pointer (some ⟨g0, 0, none⟩), .pointer (some ⟨g1, 0, none⟩)]) rfl) ?_
          refine j_perm (S' := [ph Q, [(g4, .cells [Value.string (bs n)].toArray 9 (0, 0))], [(g1, .cells [bv2].toArray 33 (0, 0))], [(g0, .cells [.string (bs n)].toArray 9 (0, 0))], [(r.gf, r.fm.obj)], [(r.now.gs, r.now.sobj)], [(r.now.gm, .map r.now.es r.now.ck)], r.now.fs.map FL.h, r.tc ++ (r.ls.heap ++ r.X) ++ ph r.P]) (.refl _) ?_
          have hrv2 : RV (Q ++ r.P) (.slice A2 xs.length c2) xs := by
            rw [← hbe]
            exact hrv.more (fun b hb => List.mem_append_left _ hb)
          rw [hbe]
          refine j_perm (S' := [FR.heap ({ r with X := ([(g0, .cells [.string (bs n)].toArray 9 (0, 0))] ++ [(g1, .cells [.slice A2 xs.length c2].toArray 33 (0, 0))]) ++ r.X, P := Q ++ r.P } : FR), [(g4, .cells [Value.string (bs n)].toArray 9 (0, 0))]]) (by
            classical
            refine List.perm_iff_count.2 fun x => ?_
            simp only [FM.heap, FM.obj, fmcells, SM.heap, ph, List.map_append, List.set, List.flatten_cons, List.flatten_nil, List.append_nil, List.nil_append, List.cons_append, List.count_append, List.count_cons, List.count_nil] <;> omega) ?_
          refine j_call 0 ent97 rfl rfl rfl rfl (fun w' hw' => (doesR_con ({ r with X := ([(g0, .cells [.string (bs n)].toArray 9 (0, 0))] ++ [(g1, .cells [.slice A2 xs.length c2].toArray 33 (0, 0))]) ++ r.X, P := Q ++ r.P } : FR) a (.wr n xs id g0 g1 A2 c2) w' (hok.more _ _) hB hz ⟨hn, hrv2, hbc, by omega⟩ (fun q hq => List.mem_append_left _ hq) hid (write_lim (hok.now.rep.nd hok.now.raw) (okA_end hok.ok) hrm hnf)).mono (fun u S5 h5 => by
            obtain ⟨h1, r', h2, h3, h4⟩ := h5
            exact (⟨h1, r', h2, h3, h4.old hw' 0 rfl rfl (fun q hq => List.mem_append_right _ hq) (fun b hb => List.mem_append_right _ hb)⟩ : _ ∧ ∃ r' : FR, S5 = [r'.heap] ∧ r'.Ok (stepF a (.wr n xs id)) ∧ FR.To w r r'))) (fun u S5 h5 => ?_)
          obtain ⟨rfl, r', rfl, hr', hto⟩ := h5
          refine j_subl (S' := [r'.heap]) (by repeat first | exact slR _ | exact slN _ | apply slC | apply slD) ?_
          have hwe : wrE a n xs = 0 := by
            unfold wrE
            rw [if_neg (by rw [hm]; simp), if_neg (by omega), if_neg hnf]
          refine j_ret_con (vs := [_]) (fun w' hw' => ⟨rfl, trivial⟩) ?_
          rw [hwe]
          refine ⟨rfl, r', rfl, ?_, hto⟩
          rw [if_pos rfl]
          exact hr'
theorem write1_con (r : FR) (a : AF) (n : List UInt8) (bv : Value) (xs : List UInt8) (id : Nat) (w : World) (hok : r.Ok a) (hn : strOk n) (hbr : BR w bv xs) (hbd : ∀ (a : Addr) (m c : Nat), bv = .slice (some a) m c → 0 < m → a.block ∉ dom r.heap) (hxl : xs.length ≤ 1000000000) (hB : a.pend.length < 16384) (hrm : a.room ≤ 1073741824) (hid : ∀ q ∈ a.now.nm, q.2 ≠ id) (x : FL) (hx : x ∈ r.now.fs) (hlk : alook r.now.ml n = some (x.g, x.id)) : Con Tryz.prog 75 [r.ptr, .string (bs n), bv] w r.heap fun v S' => v = .int .i64 (wrE a n xs) ∧ ∃ r' : FR, S' = [r'.heap] ∧ r'.Ok (if wrE a n xs = 0 then stepF a (.wr n xs id) else a) ∧ FR.To w r r' := by
  refine con_of_tree mix Tryz.func75 T75_ok (by kernel_rfl) ?_
  unfold T75
  obtain ⟨A, cap, hbv, hcap⟩ := br_form hbr
  have hone : oneV bv = true := by rw [hbv]; rfl
  have hmay : mayE r.fused r.left [n] = mayE a.fused a.left [n] := by rw [hok.fu, hok.le]
  have hlim := okA_end hok.ok
  have hu1 : a.now.used ≤ 1073741824 := hlim.1
  have hl2 : a.now.nm.length ≤ 16384 := hlim.2
  have hut : r.now.used + 0 = (tot r.now.fs : Int) := hok.now.ex.ut
  have hus : r.now.used = a.now.used := hok.now.rep.us
  have hlen : r.now.ml.length = a.now.nm.length := hok.now.rep.len
  have hrm2 := hok.rm
  obtain ⟨xA, xc, hxv, hxl2⟩ := hok.now.raw.form x hx
  refine j_box (l := [.string (bs n)]) rfl (fun g0 hg0 hs0 => ?_)
  refine j_box (l := [bv]) (by show bv.cells = #[bv]; rw [hbv]; rfl) (fun g1 hg1 hs1 => ?_)
  refine j_q (qs_ac) ?_
  refine j_q (qs_load (l := [.string (bs n)]) 1 Tryz.underlying9 rfl rfl rfl rfl) ?_
  refine j_lit (vs := [.string (bs _)]) Tryz.underlying142 sz9 zero9 rfl (by simp [oneV]) ⟨rfl, by decide⟩ (fun g4 v4 c4 hv4 hc4 ho4 => ?_)
  subst hv4 hc4
  refine j_q (qs_call ent96 rfl rfl rfl (fun w' hw' => may_con r.fm [n] _ w' (in_own hw' 3 rfl) (rsl_own ho4 0 rfl hw') (by simp))) ?_
  refine j_q (qs_neq rfl rfl) ?_
  refine j_cond rfl (fun hc0 => ?_) (fun hc0 => ?_)
  · skip
    have hm : mayE a.fused a.left [n] ≠ 0 := by
      rw [← hmay]
      simpa using hc0
    refine j_subl (S' := [r.heap]) (by repeat first | exact slR _ | exact slN _ | apply slC | apply slD) ?_
    have hwe : wrE a n xs = mayE a.fused a.left [n] := by
      unfold wrE
      rw [if_pos hm]
    refine j_ret_con (vs := [_]) (fun w' hw' => ⟨rfl, trivial⟩) ?_
    rw [hwe]
    refine ⟨congrArg (Value.int .i64) hmay, r, rfl, ?_, FR.To.refl _ _⟩
    rw [if_neg hm]
    exact hok
  · skip
    have hm : mayE a.fused a.left [n] = 0 := by
      rw [← hmay]
      simpa using hc0
    have hz : a.fused = true → a.left ≠ 0 := fun hf hl => by
      unfold mayE at hm
      rw [hf, hl] at hm
      simp at hm
    refine j_q (qs_load (l := [bv]) 1 Tryz.underlying33 rfl rfl rfl rfl) ?_
    refine j_q (qs_lenl (n := xs.length) (A := A) (c := cap) Tryz.underlying33 hbv) ?_
    refine j_q (qs_gtr rfl rfl) ?_
    refine j_cond rfl (fun hc1 => ?_) (fun hc1 => ?_)
    · skip
      have hlong : 1048576 < xs.length := by
        have h5 : (xs.length : Int) > 1048576 := by simpa using hc1
        omega
      refine j_q (qs_ac) ?_
      refine j_subl (S' := [r.heap]) (by repeat first | exact slR _ | exact slN _ | apply slC | apply slD) ?_
      have hwe : wrE a n xs = 5 := by
        unfold wrE
        rw [if_neg (by rw [hm]; simp), if_pos (by omega)]
      refine j_ret_con (vs := [_]) (fun w' hw' => ⟨rfl, trivial⟩) ?_
      rw [hwe]
      refine ⟨rfl, r, rfl, ?_, FR.To.refl _ _⟩
      rw [if_neg (by decide)]
      exact hok
    · skip
      have hlong : ¬ 1048576 < xs.length := by
        have h5 : ¬ (xs.length : Int) > 1048576 := by simpa using hc1
        omega
      refine j_perm (S' := [[(g4, .cells [Value.string (bs n)].toArray 9 (0, 0))], [(g1, .cells [bv].toArray 33 (0, 0))], [(g0, .cells [.string (bs n)].toArray 9 (0, 0))], [(r.gf, r.fm.obj)], [(r.now.gs, r.now.sobj)], [(r.now.gm, .map r.now.es r.now.ck)], r.now.fs.map FL.h, r.tc ++ (r.ls.heap ++ r.X) ++ ph r.P]) (by
        classical
        refine List.perm_iff_count.2 fun x => ?_
        simp only [FM.heap, FM.obj, fmcells, SM.heap, ph, List.map_append, List.set, List.flatten_cons, List.flatten_nil, List.append_nil, List.nil_append, List.cons_append, List.count_append, List.count_cons, List.count_nil] <;> omega) ?_
      refine j_draw ?_
      refine jq_q (qs_nil rfl) ?_
      refine jq_q (qs_field Tryz.underlying63 rfl sz59 (by decide) rfl) ?_
      refine jq_q (qs_load (l := fmcells r.fm) 3 Tryz.underlying59 rfl rfl rfl rfl) ?_
      refine jq_q (qs_nil rfl) ?_
      refine jq_q (qs_field Tryz.underlying109 rfl sz107 (by decide) rfl) ?_
      refine jq_q (qs_load (l := smcells r.now) 4 Tryz.underlying107 rfl rfl rfl rfl) ?_
      refine jq_q (qs_load (l := [.string (bs n)]) 2 Tryz.underlying9 rfl rfl rfl rfl) ?_
      refine jq_q (qs_lookup (key := n) strKey 5 Tryz.underlying107 zv63 rfl rfl rfl hok.now.raw.map hn) ?_
      rw [mlook_map fptr, getD_fptr, hlk, Option.map_some]
      refine jq_nil ?_
      refine j_q (qs_ac) ?_
      refine j_q (qs_pnnil Tryz.underlying110 rfl) ?_
      refine j_g rfl (fun hb => qs_mt rfl) ?_
      refine j_g rfl (fun hb => qs_nil (gd_eq hb)) ?_
      refine j_g rfl (fun hb => qs_field Tryz.underlying114 rfl sz112 (by decide) (gd_eq hb)) ?_
      refine j_g rfl (fun hb => qs_call ent100 rfl rfl (args1 (gd_eq hb)) (fun w' hw' => aload_con x.g 1 (flcells x) 114 (0, 0) x.k w' (hw'.own x.h (mem_flatten_of (k := 6) rfl (List.mem_map.2 ⟨x, hx, rfl⟩))) rfl)) ?_
      refine j_g rfl (fun hb => qs_eql (gd_eq hb) rfl) ?_
      refine j_q (qs_and rfl rfl) ?_
      refine j_cond rfl (fun hc2 => ?_) (fun hc2 => ?_)
      · skip
        have hk1 : x.k = 1 := by simpa [gd] using hc2
        refine j_q (qs_nil rfl) ?_
        refine j_q (qs_field Tryz.underlying114 rfl sz33 (by decide) rfl) ?_
        refine j_q (qs_loadO (l := flcells x) (rdo_mem (o := x.h.2) 6 rfl (List.mem_map.2 ⟨x, hx, rfl⟩)) Tryz.underlying33 rfl rfl rfl) ?_
        refine j_q (qs_lenl (n := x.xs.length) (A := xA) (c := xc) Tryz.underlying33 hxv) ?_
        refine j_draw ?_
        refine jq_q (qs_pnil Tryz.underlying110 rfl) ?_
        refine jq_gf rfl (by simp) ?_
        refine jq_gf rfl (by simp) ?_
        refine jq_gf rfl (by simp) ?_
        refine jq_gf rfl (by simp) ?_
        refine jq_gf rfl (by simp) ?_
        refine jq_gf rfl (by simp) ?_
        refine jq_gf rfl (by simp) ?_
        refine jq_gf rfl (by simp) ?_
        refine jq_gf rfl (by simp) ?_
        refine jq_q (qs_and (b0 := false) (b1 := false) rfl rfl) ?_
        refine jq_g rfl (fun hb => qs_mt rfl) ?_
        refine jq_g rfl (fun hb => qs_nil (gd_eq hb)) ?_
        refine jq_g rfl (fun hb => qs_field Tryz.underlying63 rfl sz59 (by decide) (gd_eq hb)) ?_
        refine jq_g rfl (fun hb => qs_load (l := fmcells r.fm) 3 Tryz.underlying59 rfl (gd_eq hb) rfl rfl) ?_
        refine jq_g rfl (fun hb => qs_nil (gd_eq hb)) ?_
        refine jq_g rfl (fun hb => qs_field Tryz.underlying109 rfl sz3 (by decide) (gd_eq hb)) ?_
        refine jq_g rfl (fun hb => qs_load (l := smcells r.now) 4 Tryz.underlying3 rfl (gd_eq hb) rfl rfl) ?_
        refine jq_g rfl (fun hb => qs_mt rfl) ?_
        refine jq_g rfl (fun hb => qs_sub64 (gd_eq hb) (gd_eq hb) (by first | omega | (simp only [bnA] at *; omega))) ?_
        refine jq_g rfl (fun hb => qs_load (l := [bv]) 1 Tryz.underlying33 rfl rfl rfl rfl) ?_
        refine jq_g rfl (fun hb => qs_lenl (n := xs.length) (A := A) (c := cap) Tryz.underlying33 ((gd_eq hb).trans hbv)) ?_
        refine jq_g rfl (fun hb => qs_add64 (gd_eq hb) (gd_eq hb) (by first | omega | (simp only [bnA] at *; omega))) ?_
        refine jq_g rfl (fun hb => qs_mt rfl) ?_
        refine jq_g rfl (fun hb => qs_nil (gd_eq hb)) ?_
        refine jq_g rfl (fun hb => qs_field Tryz.underlying63 rfl sz3 (by decide) (gd_eq hb)) ?_
        refine jq_g rfl (fun hb => qs_load (l := fmcells r.fm) 3 Tryz.underlying3 rfl (gd_eq hb) rfl rfl) ?_
        refine jq_g rfl (fun hb => qs_gtr (gd_eq hb) (gd_eq hb)) ?_
        refine jq_q (qs_or rfl rfl) ?_
        refine jq_nil ?_
        refine j_cond rfl (fun hc3 => ?_) (fun hc3 => ?_)
        · skip
          have hla : alook a.now.nm n = some x.id := by
            rw [← hok.now.rep.look hok.now.raw n, hlk]
            rfl
          have hkx : x.k = (cntA a.now.nm x.id : Int) := by
            have h6 : x.k = (cnt r.now.ml x.id : Int) + 0 := hok.now.ex.kc x hx
            rw [hok.now.rep.cnt] at h6
            omega
          have hdx := hok.now.rep.dt x hx
          have hfr : freesA a.now n = x.xs.length := by
            simp only [freesA, hla]
            rw [if_pos (by omega), hdx]
          have hnf : fullA a n xs := by
            unfold fullA
            rw [hfr]
            refine .inr ?_
            rw [← hok.rm, ← hus]
            simp [gd] at hc3
            omega
          refine j_q (qs_ac) ?_
          refine j_subl (S' := r.fm.parts2) (by repeat first | exact slR _ | exact slN _ | apply slC | apply slD) ?_
          refine j_perm (S' := [r.heap]) r.fm.split2.symm ?_
          have hwe : wrE a n xs = 6 := by
            unfold wrE
            rw [if_neg (by rw [hm]; simp), if_neg (by omega), if_pos hnf]
          refine j_ret_con (vs := [_]) (fun w' hw' => ⟨rfl, trivial⟩) ?_
          rw [hwe]
          refine ⟨rfl, r, rfl, ?_, FR.To.refl _ _⟩
          rw [if_neg (by decide)]
          exact hok
        · skip
          have hla : alook a.now.nm n = some x.id := by
            rw [← hok.now.rep.look hok.now.raw n, hlk]
            rfl
          have hkx : x.k = (cntA a.now.nm x.id : Int) := by
            have h6 : x.k = (cnt r.now.ml x.id : Int) + 0 := hok.now.ex.kc x hx
            rw [hok.now.rep.cnt] at h6
            omega
          have hdx := hok.now.rep.dt x hx
          have hfr : freesA a.now n = x.xs.length := by
            simp only [freesA, hla]
            rw [if_pos (by omega), hdx]
          have hnf : ¬ fullA a n xs := by
            unfold fullA
            rw [hfr]
            rintro (⟨h7, _⟩ | h8)
            · rw [hla] at h7
              cases h7
            · rw [← hok.rm, ← hus] at h8
              simp [gd] at hc3
              omega
          refine j_q (qs_load (l := [bv]) 1 Tryz.underlying33 rfl rfl rfl rfl) ?_
          refine j_call0 ent39 rfl rfl rfl (fun w' hw' => clone_con bv xs w' (br_keep hbr hbd hw') hxl) (fun u S2 hu1 => ?_)
          obtain ⟨Q, rfl, hrv⟩ := hu1
          obtain ⟨bv2, hbv2⟩ : ∃ y, y = u := ⟨_, rfl⟩
          rw [← hbv2] at hrv ⊢
          refine j_subl (S' := [ph Q, [(g4, .cells [Value.string (bs n)].toArray 9 (0, 0))], [(g1, .cells [bv].toArray 33 (0, 0))], [(g0, .cells [.string (bs n)].toArray 9 (0, 0))], [(r.gf, r.fm.obj)], [(r.now.gs, r.now.sobj)], [(r.now.gm, .map r.now.es r.now.ck)], r.now.fs.map FL.h, r.tc ++ (r.ls.heap ++ r.X) ++ ph r.P]) (by repeat first | exact slR _ | exact slN _ | apply slC | apply slD) ?_
          obtain ⟨A2, c2, hbe, hbc, _⟩ := hrv.form
          refine j_store (l := [bv]) 2 sz33 rfl rfl (by show oneV bv2 = true; rw [hbe]; rfl) rfl (by simp) (by simp) ?_
          refine j_q (qs_mkfuncv (vs := [.pointer (some ⟨g0, 0, none⟩), .pointer (some ⟨g1, 0, none⟩)]) rfl) ?_
          refine j_perm (S' := [ph Q, [(g4, .cells [Value.string (bs n)].toArray 9 (0, 0))], [(g1, .cells [bv2].toArray 33 (0, 0))], [(g0, .cells [.string (bs n)].toArray 9 (0, 0))], [(r.gf, r.fm.obj)], [(r.now.gs, r.now.sobj)], [(r.now.gm, .map r.now.es r.now.ck)], r.now.fs.map FL.h, r.tc ++ (r.ls.heap ++ r.X) ++ ph r.P]) (.refl _) ?_
          have hrv2 : RV (Q ++ r.P) (.slice A2 xs.length c2) xs := by
            rw [← hbe]
            exact hrv.more (fun b hb => List.mem_append_left _ hb)
          rw [hbe]
          refine j_perm (S' := [FR.heap ({ r with X := ([(g0, .cells [.string (bs n)].toArray 9 (0, 0))] ++ [(g1, .cells [.slice A2 xs.length c2].toArray 33 (0, 0))]) ++ r.X, P := Q ++ r.P } : FR), [(g4, .cells [Value.string (bs n)].toArray 9 (0, 0))]]) (by
            classical
            refine List.perm_iff_count.2 fun x => ?_
            simp only [FM.heap, FM.obj, fmcells, SM.heap, ph, List.map_append, List.set, List.flatten_cons, List.flatten_nil, List.append_nil, List.nil_append, List.cons_append, List.count_append, List.count_cons, List.count_nil] <;> omega) ?_
          refine j_call 0 ent97 rfl rfl rfl rfl (fun w' hw' => (doesR_con ({ r with X := ([(g0, .cells [.string (bs n)].toArray 9 (0, 0))] ++ [(g1, .cells [.slice A2 xs.length c2].toArray 33 (0, 0))]) ++ r.X, P := Q ++ r.P } : FR) a (.wr n xs id g0 g1 A2 c2) w' (hok.more _ _) hB hz ⟨hn, hrv2, hbc, by omega⟩ (fun q hq => List.mem_append_left _ hq) hid (write_lim (hok.now.rep.nd hok.now.raw) (okA_end hok.ok) hrm hnf)).mono (fun u S5 h5 => by
            obtain ⟨h1, r', h2, h3, h4⟩ := h5
            exact (⟨h1, r', h2, h3, h4.old hw' 0 rfl rfl (fun q hq => List.mem_append_right _ hq) (fun b hb => List.mem_append_right _ hb)⟩ : _ ∧ ∃ r' : FR, S5 = [r'.heap] ∧ r'.Ok (stepF a (.wr n xs id)) ∧ FR.To w r r'))) (fun u S5 h5 => ?_)
          obtain ⟨rfl, r', rfl, hr', hto⟩ := h5
          refine j_subl (S' := [r'.heap]) (by repeat first | exact slR _ | exact slN _ | apply slC | apply slD) ?_
          have hwe : wrE a n xs = 0 := by
            unfold wrE
            rw [if_neg (by rw [hm]; simp), if_neg (by omega), if_neg hnf]
          refine j_ret_con (vs := [_]) (fun w' hw' => ⟨rfl, trivial⟩) ?_
          rw [hwe]
          refine ⟨rfl, r', rfl, ?_, hto⟩
          rw [if_pos rfl]
          exact hr'
      · skip
        have hk1 : x.k ≠ 1 := by simpa [gd] using hc2
        refine j_draw ?_
        refine jq_q (qs_pnil Tryz.underlying110 rfl) ?_
        refine jq_gf rfl (by simp) ?_
        refine jq_gf rfl (by simp) ?_
        refine jq_gf rfl (by simp) ?_
        refine jq_gf rfl (by simp) ?_
        refine jq_gf rfl (by simp) ?_
        refine jq_gf rfl (by simp) ?_
        refine jq_gf rfl (by simp) ?_
        refine jq_gf rfl (by simp) ?_
        refine jq_gf rfl (by simp) ?_
        refine jq_q (qs_and (b0 := false) (b1 := false) rfl rfl) ?_
        refine jq_g rfl (fun hb => qs_mt rfl) ?_
        refine jq_g rfl (fun hb => qs_nil (gd_eq hb)) ?_
        refine jq_g rfl (fun hb => qs_field Tryz.underlying63 rfl sz59 (by decide) (gd_eq hb)) ?_
        refine jq_g rfl (fun hb => qs_load (l := fmcells r.fm) 3 Tryz.underlying59 rfl (gd_eq hb) rfl rfl) ?_
        refine jq_g rfl (fun hb => qs_nil (gd_eq hb)) ?_
        refine jq_g rfl (fun hb => qs_field Tryz.underlying109 rfl sz3 (by decide) (gd_eq hb)) ?_
        refine jq_g rfl (fun hb => qs_load (l := smcells r.now) 4 Tryz.underlying3 rfl (gd_eq hb) rfl rfl) ?_
        refine jq_g rfl (fun hb => qs_mt rfl) ?_
        refine jq_g rfl (fun hb => qs_sub64 (gd_eq hb) (gd_eq hb) (by first | omega | (simp only [bnA] at *; omega))) ?_
        refine jq_g rfl (fun hb => qs_load (l := [bv]) 1 Tryz.underlying33 rfl rfl rfl rfl) ?_
        refine jq_g rfl (fun hb => qs_lenl (n := xs.length) (A := A) (c := cap) Tryz.underlying33 ((gd_eq hb).trans hbv)) ?_
        refine jq_g rfl (fun hb => qs_add64 (gd_eq hb) (gd_eq hb) (by first | omega | (simp only [bnA] at *; omega))) ?_
        refine jq_g rfl (fun hb => qs_mt rfl) ?_
        refine jq_g rfl (fun hb => qs_nil (gd_eq hb)) ?_
        refine jq_g rfl (fun hb => qs_field Tryz.underlying63 rfl sz3 (by decide) (gd_eq hb)) ?_
        refine jq_g rfl (fun hb => qs_load (l := fmcells r.fm) 3 Tryz.underlying3 rfl (gd_eq hb) rfl rfl) ?_
        refine jq_g rfl (fun hb => qs_gtr (gd_eq hb) (gd_eq hb)) ?_
        refine jq_q (qs_or rfl rfl) ?_
        refine jq_nil ?_
        refine j_cond rfl (fun hc4 => ?_) (fun hc4 => ?_)
        · skip
          have hla : alook a.now.nm n = some x.id := by
            rw [← hok.now.rep.look hok.now.raw n, hlk]
            rfl
          have hkx : x.k = (cntA a.now.nm x.id : Int) := by
            have h6 : x.k = (cnt r.now.ml x.id : Int) + 0 := hok.now.ex.kc x hx
            rw [hok.now.rep.cnt] at h6
            omega
          have hdx := hok.now.rep.dt x hx
          have hfr : freesA a.now n = 0 := by
            simp only [freesA, hla]
            rw [if_neg (by omega)]
          have hnf : fullA a n xs := by
            unfold fullA
            rw [hfr]
            refine .inr ?_
            rw [← hok.rm, ← hus]
            simp [gd] at hc4
            omega
          refine j_q (qs_ac) ?_
          refine j_subl (S' := r.fm.parts2) (by repeat first | exact slR _ | exact slN _ | apply slC | apply slD) ?_
          refine j_perm (S' := [r.heap]) r.fm.split2.symm ?_
          have hwe : wrE a n xs = 6 := by
            unfold wrE
            rw [if_neg (by rw [hm]; simp), if_neg (by omega), if_pos hnf]
          refine j_ret_con (vs := [_]) (fun w' hw' => ⟨rfl, trivial⟩) ?_
          rw [hwe]
          refine ⟨rfl, r, rfl, ?_, FR.To.refl _ _⟩
          rw [if_neg (by decide)]
          exact hok
        · skip
          have hla : alook a.now.nm n = some x.id := by
            rw [← hok.now.rep.look hok.now.raw n, hlk]
            rfl
          have hkx : x.k = (cntA a.now.nm x.id : Int) := by
            have h6 : x.k = (cnt r.now.ml x.id : Int) + 0 := hok.now.ex.kc x hx
            rw [hok.now.rep.cnt] at h6
            omega
          have hdx := hok.now.rep.dt x hx
          have hfr : freesA a.now n = 0 := by
            simp only [freesA, hla]
            rw [if_neg (by omega)]
          have hnf : ¬ fullA a n xs := by
            unfold fullA
            rw [hfr]
            rintro (⟨h7, _⟩ | h8)
            · rw [hla] at h7
              cases h7
            · rw [← hok.rm, ← hus] at h8
              simp [gd] at hc4
              omega
          refine j_q (qs_load (l := [bv]) 1 Tryz.underlying33 rfl rfl rfl rfl) ?_
          refine j_call0 ent39 rfl rfl rfl (fun w' hw' => clone_con bv xs w' (br_keep hbr hbd hw') hxl) (fun u S2 hu1 => ?_)
          obtain ⟨Q, rfl, hrv⟩ := hu1
          obtain ⟨bv2, hbv2⟩ : ∃ y, y = u := ⟨_, rfl⟩
          rw [← hbv2] at hrv ⊢
          refine j_subl (S' := [ph Q, [(g4, .cells [Value.string (bs n)].toArray 9 (0, 0))], [(g1, .cells [bv].toArray 33 (0, 0))], [(g0, .cells [.string (bs n)].toArray 9 (0, 0))], [(r.gf, r.fm.obj)], [(r.now.gs, r.now.sobj)], [(r.now.gm, .map r.now.es r.now.ck)], r.now.fs.map FL.h, r.tc ++ (r.ls.heap ++ r.X) ++ ph r.P]) (by repeat first | exact slR _ | exact slN _ | apply slC | apply slD) ?_
          obtain ⟨A2, c2, hbe, hbc, _⟩ := hrv.form
          refine j_store (l := [bv]) 2 sz33 rfl rfl (by show oneV bv2 = true; rw [hbe]; rfl) rfl (by simp) (by simp) ?_
          refine j_q (qs_mkfuncv (vs := [.pointer (some ⟨g0, 0, none⟩), .pointer (some ⟨g1, 0, none⟩)]) rfl) ?_
          refine j_perm (S' := [ph Q, [(g4, .cells [Value.string (bs n)].toArray 9 (0, 0))], [(g1, .cells [bv2].toArray 33 (0, 0))], [(g0, .cells [.string (bs n)].toArray 9 (0, 0))], [(r.gf, r.fm.obj)], [(r.now.gs, r.now.sobj)], [(r.now.gm, .map r.now.es r.now.ck)], r.now.fs.map FL.h, r.tc ++ (r.ls.heap ++ r.X) ++ ph r.P]) (.refl _) ?_
          have hrv2 : RV (Q ++ r.P) (.slice A2 xs.length c2) xs := by
            rw [← hbe]
            exact hrv.more (fun b hb => List.mem_append_left _ hb)
          rw [hbe]
          refine j_perm (S' := [FR.heap ({ r with X := ([(g0, .cells [.string (bs n)].toArray 9 (0, 0))] ++ [(g1, .cells [.slice A2 xs.length c2].toArray 33 (0, 0))]) ++ r.X, P := Q ++ r.P } : FR), [(g4, .cells [Value.string (bs n)].toArray 9 (0, 0))]]) (by
            classical
            refine List.perm_iff_count.2 fun x => ?_
            simp only [FM.heap, FM.obj, fmcells, SM.heap, ph, List.map_append, List.set, List.flatten_cons, List.flatten_nil, List.append_nil, List.nil_append, List.cons_append, List.count_append, List.count_cons, List.count_nil] <;> omega) ?_
          refine j_call 0 ent97 rfl rfl rfl rfl (fun w' hw' => (doesR_con ({ r with X := ([(g0, .cells [.string (bs n)].toArray 9 (0, 0))] ++ [(g1, .cells [.slice A2 xs.length c2].toArray 33 (0, 0))]) ++ r.X, P := Q ++ r.P } : FR) a (.wr n xs id g0 g1 A2 c2) w' (hok.more _ _) hB hz ⟨hn, hrv2, hbc, by omega⟩ (fun q hq => List.mem_append_left _ hq) hid (write_lim (hok.now.rep.nd hok.now.raw) (okA_end hok.ok) hrm hnf)).mono (fun u S5 h5 => by
            obtain ⟨h1, r', h2, h3, h4⟩ := h5
            exact (⟨h1, r', h2, h3, h4.old hw' 0 rfl rfl (fun q hq => List.mem_append_right _ hq) (fun b hb => List.mem_append_right _ hb)⟩ : _ ∧ ∃ r' : FR, S5 = [r'.heap] ∧ r'.Ok (stepF a (.wr n xs id)) ∧ FR.To w r r'))) (fun u S5 h5 => ?_)
          obtain ⟨rfl, r', rfl, hr', hto⟩ := h5
          refine j_subl (S' := [r'.heap]) (by repeat first | exact slR _ | exact slN _ | apply slC | apply slD) ?_
          have hwe : wrE a n xs = 0 := by
            unfold wrE
            rw [if_neg (by rw [hm]; simp), if_neg (by omega), if_neg hnf]
          refine j_ret_con (vs := [_]) (fun w' hw' => ⟨rfl, trivial⟩) ?_
          rw [hwe]
          refine ⟨rfl, r', rfl, ?_, hto⟩
          rw [if_pos rfl]
          exact hr'
theorem write_con' (r : FR) (a : AF) (n : List UInt8) (bv : Value) (xs : List UInt8) (id : Nat) (w : World) (hok : r.Ok a) (hn : strOk n) (hbr : BR w bv xs) (hbd : ∀ (a : Addr) (m c : Nat), bv = .slice (some a) m c → 0 < m → a.block ∉ dom r.heap) (hxl : xs.length ≤ 1000000000) (hB : a.pend.length < 16384) (hrm : a.room ≤ 1073741824) (hid : ∀ q ∈ a.now.nm, q.2 ≠ id) : Con Tryz.prog 75 [r.ptr, .string (bs n), bv] w r.heap fun v S' => v = .int .i64 (wrE a n xs) ∧ ∃ r' : FR, S' = [r'.heap] ∧ r'.Ok (if wrE a n xs = 0 then stepF a (.wr n xs id) else a) ∧ FR.To w r r' := by
  cases h : alook a.now.nm n with
  | none => exact write0_con r a n bv xs id w hok hn hbr hbd hxl hB hrm hid (look_rep0 hok.now.raw hok.now.rep h)
  | some i =>
    obtain ⟨f, hf, hl, _, _⟩ := look_rep hok.now.raw hok.now.rep h
    exact write1_con r a n bv xs id w hok hn hbr hbd hxl hB hrm hid f hf hl
end Go.Proofs.YtfebkkmmagbnlaaGreatDoor
/-! Ft7 -/
namespace Go.Proofs.YtfebkkmmagbnlaaGreatDoor
open Go Go.Sx
set_option maxRecDepth 100000
set_option maxHeartbeats 4000000
set_option linter.unusedVariables false
set_option linter.unusedSimpArgs false
attribute [local irreducible] J JQ QS Con W opW
open Go.MapKept Go.WideMaps Go.Maps
end Go.Proofs.YtfebkkmmagbnlaaGreatDoor
/-! Any7 -/
namespace Go.Proofs.YtfebkkmmagbnlaaGreatDoor
open Go Go.Sx Go.MapKept Go.WideMaps Go.Maps
set_option maxRecDepth 100000
set_option maxHeartbeats 4000000
set_option linter.unusedVariables false
attribute [local irreducible] J JQ QS Con W opW
structure RI (f : FM) (i : Nat) : Prop where
  ok : f.Ok i
  fu : f.fused = false
  lf : f.left = 0
  k1 : ∀ x ∈ f.now.fs, x.k = 1
  idl : ∀ x ∈ f.now.fs, x.id < i
  tt : (tot f.now.fs : Int) = f.now.used
  ur : f.now.used ≤ f.room
  rm : f.room ≤ 1073741824
  mll : f.now.ml.length ≤ i
end Go.Proofs.YtfebkkmmagbnlaaGreatDoor
/-! Fs15 -/
namespace Go.Proofs.YtfebkkmmagbnlaaGreatDoor
open Go Go.Sx
set_option maxRecDepth 100000
set_option maxHeartbeats 4000000
set_option linter.unusedVariables false
set_option linter.unusedSimpArgs false
attribute [local irreducible] J JQ QS Con W opW
open Go.MapKept Go.WideMaps Go.Maps
end Go.Proofs.YtfebkkmmagbnlaaGreatDoor
/-! Ft8 -/
namespace Go.Proofs.YtfebkkmmagbnlaaGreatDoor
open Go Go.Sx
set_option maxRecDepth 100000
set_option maxHeartbeats 4000000
set_option linter.unusedVariables false
set_option linter.unusedSimpArgs false
attribute [local irreducible] J JQ QS Con W opW
open Go.MapKept Go.WideMaps Go.Maps
abbrev AS0 : AS := ⟨[], fun _ => [], 0⟩
abbrev AF0 (room : Int) : AF := ⟨room, AS0, [], false, 0⟩
theorem sx0 (gs gm : Nat) : Sx' (SM0 gs gm) AS0 := ⟨raw0 _ _, ⟨(fun f h => by cases h), (fun f h => by cases h), rfl⟩, .nil, (fun f h => by cases h), rfl⟩
def nmF (i : Nat) : List UInt8 := [102, by8 ((i : Int).fdiv (2 ^ min (Int.toNat 8) IntKind.i64.bits)), by8 (i : Int)]
theorem nmF_ok (i : Nat) : nameOk (nmF i) = true ∧ strOk (nmF i) := ⟨rfl, by show 3 ≤ _; decide⟩
theorem by8_nat (m : Nat) : (by8 (m : Int)).toNat = m % 256 := by
  unfold by8
  rw [show IntKind.u8.wrap (m : Int) = ((m % 256 : Nat) : Int) by simp [IntKind.wrap, IntKind.bits, IntKind.signed]]
  rw [Int.toNat_natCast, UInt8.toNat_ofNat']
  omega
theorem nmF_inj {i j : Nat} (hi : i < 65536) (hj : j < 65536) (h : nmF i = nmF j) : i = j := by
  have hd : ∀ k : Nat, (k : Int).fdiv (2 ^ min (Int.toNat 8) IntKind.i64.bits) = ((k / 256 : Nat) : Int) := fun k => by
    rw [show (2 ^ min (Int.toNat 8) IntKind.i64.bits : Int) = 256 by decide, Int.fdiv_eq_ediv_of_nonneg _ (by decide)]
    omega
  unfold nmF at h
  rw [hd, hd] at h
  injection h with _ h
  injection h with h1 h
  injection h with h2 _
  have e1 := congrArg UInt8.toNat h1
  have e2 := congrArg UInt8.toNat h2
  rw [by8_nat, by8_nat] at e1 e2
  omega
structure FI (a : AF) (n : Int) (i t : Nat) : Prop where
  rm : a.room = 1048576
  fu : a.fused = true
  le : a.left = n - min (i : Int) n
  pl : (a.pend.length : Int) = min (i : Int) n
  nl : (a.now.nm.length : Int) = min (i : Int) n
  nms : ∀ q ∈ a.now.nm, ∃ k, k < i ∧ q.1 = nmF k
  ids : ∀ q ∈ a.now.nm, q.2 < i
  us : a.now.used ≤ (t : Int)
theorem FI.may {a : AF} {n : Int} {i t : Nat} (h : FI a n i t) (hn : 0 ≤ n) {ns : List (List UInt8)} (hns : ns.all nameOk = true) : mayE a.fused a.left ns = if (i : Int) < n then 0 else 26 := by
  unfold mayE
  rw [h.fu, h.le, hns]
  by_cases hi : (i : Int) < n
  · rw [if_pos hi, if_neg (by simp; omega), if_pos rfl]
  · rw [if_neg hi, if_pos (by simp; omega)]
theorem FI.fresh {a : AF} {n : Int} {i t : Nat} (h : FI a n i t) (hi : i < 60000) : alook a.now.nm (nmF i) = none := by
  refine alook_none.2 fun q hq e => ?_
  obtain ⟨k, hk, e2⟩ := h.nms q hq
  have := nmF_inj (by omega) (by omega) (e.symm.trans e2)
  omega
theorem FI.wr {a : AF} {n : Int} {i t : Nat} (h : FI a n i t) (hn : 0 ≤ n ∧ n ≤ 1000) (hi : i ≤ 8000) (xs : List UInt8) (hx : t + xs.length ≤ 8000) : wrE a (nmF i) xs = if (i : Int) < n then 0 else 26 := by
  unfold wrE
  rw [h.may hn.1 (by simp [nmF_ok])]
  by_cases hin : (i : Int) < n
  · rw [if_pos hin, if_neg (by simp), if_neg (by omega), if_neg]
    unfold fullA
    have h1 := h.nl
    have h2 := h.us
    have h3 := h.rm
    rintro (⟨_, h4⟩ | h4) <;> omega
  · rw [if_neg hin, if_pos (by decide)]
theorem FI.step {a : AF} {n : Int} {i t : Nat} (h : FI a n i t) (hn : 0 ≤ n ∧ n ≤ 1000) (hi : i ≤ 8000) (xs : List UInt8) (hx : t + xs.length ≤ 8000) : FI (if wrE a (nmF i) xs = 0 then stepF a (.wr (nmF i) xs i) else a) n (i + 1) (t + xs.length) := by
  rw [h.wr hn hi xs hx]
  have h1 := h.nl
  have h2 := h.us
  have h3 := h.le
  have h4 := h.pl
  by_cases hin : (i : Int) < n
  · rw [if_pos hin, if_pos rfl]
    have hnow : (stepF a (.wr (nmF i) xs i)).now = writeA a.now (nmF i) xs i := runA_snoc
    have hfr := letsA_none (h.fresh (by omega))
    rw [writeA_eq, hfr] at hnow
    refine ⟨h.rm, h.fu, ?_, ?_, ?_, ?_, ?_, ?_⟩
    · show burnL a = _
      unfold burnL
      rw [h.fu, if_pos rfl, h3]
      omega
    · show ((a.pend ++ [_]).length : Int) = _
      rw [List.length_append, List.length_singleton]
      omega
    · rw [hnow]
      show (((a.now.nm ++ [(nmF i, i)]).length : Nat) : Int) = _
      rw [List.length_append, List.length_singleton]
      omega
    · rw [hnow]
      intro q hq
      rcases List.mem_append.1 hq with hq | hq
      · obtain ⟨k, hk, e⟩ := h.nms q hq
        exact ⟨k, by omega, e⟩
      · rw [List.mem_singleton] at hq
        rw [hq]
        exact ⟨i, by omega, rfl⟩
    · rw [hnow]
      intro q hq
      rcases List.mem_append.1 hq with hq | hq
      · have := h.ids q hq
        omega
      · rw [List.mem_singleton] at hq
        rw [hq]
        exact Nat.lt_succ_self i
    · rw [hnow]
      show a.now.used + (xs.length : Int) ≤ _
      omega
  · rw [if_neg hin, if_neg (by decide)]
    refine ⟨h.rm, h.fu, by omega, by omega, by omega, fun q hq => ?_, fun q hq => ?_, by omega⟩
    · obtain ⟨k, hk, e⟩ := h.nms q hq
      exact ⟨k, by omega, e⟩
    · have := h.ids q hq
      omega
theorem int_wf {n : Int} (h : (Lit.int .i64 n).wf = true) : -9223372036854775808 ≤ n ∧ n ≤ 9223372036854775807 := by
  have h1 : IntKind.i64.min = -9223372036854775808 := rfl
  have h2 : IntKind.i64.max = 9223372036854775807 := rfl
  simp only [Lit.wf, h1, h2, Bool.and_eq_true, decide_eq_true_eq] at h
  exact h
theorem newR_con (room : Int) (w : World) (h0 : 0 ≤ room) (h1 : room ≤ 1073741824) : Con Tryz.prog 9 [.int .i64 room] w [] fun v S' => ∃ r : FR, S' = [r.heap] ∧ v = .tuple #[r.ptr, .int .i64 0] ∧ r.Ok (AF0 room) := by
  refine con_of_tree mix Tryz.func9 T9_ok (by kernel_rfl) ?_
  unfold T9
  refine j_q (qs_ac) ?_
  refine j_q (qs_ac) ?_
  refine j_q (qs_lss rfl rfl) ?_
  refine j_g rfl (fun hb => qs_mt rfl) ?_
  refine j_g rfl (fun hb => qs_gtr (gd_eq hb) rfl) ?_
  refine j_q (qs_or rfl rfl) ?_
  refine j_cond rfl (fun hc0 => ?_) (fun hc0 => ?_)
  · skip
    simp [gd] at hc0
    omega
  · skip
    refine j_call0 ent26 rfl rfl rfl (fun w' hw' => begun_con w') (fun u S2 hu => ?_)
    obtain ⟨gs1, gm1, rfl, rfl⟩ := hu
    refine j_subl (S' := [(SM0 gs1 gm1).heap]) (by repeat first | exact slR _ | exact slN _ | apply slC | apply slD) ?_
    refine j_call0 ent26 rfl rfl rfl (fun w' hw' => begun_con w') (fun u S2 hu => ?_)
    obtain ⟨gs2, gm2, rfl, rfl⟩ := hu
    refine j_subl (S' := [(SM0 gs2 gm2).heap, (SM0 gs1 gm1).heap]) (by repeat first | exact slR _ | exact slN _ | apply slC | apply slD) ?_
    refine j_q (qs_build (places := [(0, 1), (1, 1), (2, 1), (3, 1), (4, 1), (5, 1)]) (offs := [(0, [.int .i64 room]), (1, [(SM0 gs1 gm1).ptr]), (2, [(SM0 gs2 gm2).ptr])]) Tryz.underlying63 zero63 (by kernel_rfl) rfl (by rintro (_ | _ | _ | j) p q hp hq <;> first | (simp at hp hq; subst hp hq; exact ⟨rfl, rfl, by simp⟩) | (simp at hp))) ?_
    refine j_box (l := fmcells (⟨0, room, (SM0 gs1 gm1).ptr, SM0 gs2 gm2, [], .slice none 0 0, [], false, 0, (SM0 gs1 gm1).heap, []⟩ : FM)) rfl (fun g11 hg11 hs11 => ?_)
    refine j_q (qs_ac) ?_
    refine j_perm (S' := [FR.heap (⟨g11, room, SM0 gs1 gm1, SM0 gs2 gm2, [], .slice none 0 0, [], false, 0, [], []⟩ : FR)]) (List.Perm.of_eq (by simp [FM.heap, ph])) ?_
    refine j_ret_con (vs := [_, _]) (fun w' hw' => ⟨rfl, rfl, trivial⟩) ?_
    exact ⟨(⟨g11, room, SM0 gs1 gm1, SM0 gs2 gm2, [], .slice none 0 0, [], false, 0, [], []⟩ : FR), rfl, rfl, ⟨rfl, rfl, rfl, ⟨Int.le_refl 0, by show (0 : Int) ≤ _; decide⟩, rfl, own_nil, Nat.zero_le _, (fun m h => by cases h), (fun m h => by cases h), ⟨by show (0 : Int) ≤ _; decide, Nat.zero_le _⟩, sx0 _ _, (fun x h => by cases h), sx0 _ _, (fun x h => by cases h)⟩⟩
end Go.Proofs.YtfebkkmmagbnlaaGreatDoor
/-! Ft9 -/
namespace Go.Proofs.YtfebkkmmagbnlaaGreatDoor
open Go Go.Sx
set_option maxRecDepth 100000
set_option maxHeartbeats 4000000
set_option linter.unusedVariables false
set_option linter.unusedSimpArgs false
attribute [local irreducible] J JQ QS Con W opW
open Go.MapKept Go.WideMaps Go.Maps
def remE (a : AF) (n : List UInt8) : Int := if mayE a.fused a.left [n] ≠ 0 then mayE a.fused a.left [n] else if alook a.now.nm n = none then 7 else 0
def sizeA (s : AS) (n : List UInt8) : Nat :=
  match alook s.nm n with
  | none => 0
  | some i => (s.dt i).length
def appE (a : AF) (n xs : List UInt8) : Int := if mayE a.fused a.left [n] ≠ 0 then mayE a.fused a.left [n] else if alook a.now.nm n = none then 7 else if 1048576 < sizeA a.now n + xs.length then 5 else if a.room < a.now.used + (xs.length : Int) then 6 else 0
theorem look_none {r : FR} {a : AF} (hok : r.Ok a) (n : List UInt8) : alook r.now.ml n = none ↔ alook a.now.nm n = none := by
  rw [← hok.now.rep.look hok.now.raw n]
  cases alook r.now.ml n <;> simp
theorem appendR_con (r : FR) (a : AF) (n : List UInt8) (bv : Value) (xs : List UInt8) (w : World) (hok : r.Ok a) (hB : a.pend.length < 16384) (hn : strOk n) (hbr : BR w bv xs) (hbd : ∀ (a : Addr) (m c : Nat), bv = .slice (some a) m c → 0 < m → a.block ∉ dom r.heap) (hxl : xs.length ≤ 1000000000) (hrm : a.room ≤ 1073741824) : Con Tryz.prog 94 [r.ptr, .string (bs n), bv] w r.heap fun v S' => v = .int .i64 (appE a n xs) ∧ ∃ r' : FR, S' = [r'.heap] ∧ r'.Ok (if appE a n xs = 0 then stepF a (.ap n xs) else a) ∧ FR.To w r r' := by
  refine con_of_tree mix Tryz.func94 T94_ok (by kernel_rfl) ?_
  unfold T94
  obtain ⟨A, cap, hbv, hcap⟩ := br_form hbr
  have hone : oneV bv = true := by rw [hbv]; rfl
  have hmay : mayE r.fused r.left [n] = mayE a.fused a.left [n] := by rw [hok.fu, hok.le]
  have hlim := okA_end hok.ok
  have hu1 : a.now.used ≤ 1073741824 := hlim.1
  have hl2 : a.now.nm.length ≤ 16384 := hlim.2
  have hut : r.now.used + 0 = (tot r.now.fs : Int) := hok.now.ex.ut
  have hus : r.now.used = a.now.used := hok.now.rep.us
  have hlen : r.now.ml.length = a.now.nm.length := hok.now.rep.len
  have hrm2 := hok.rm
  have hnd := hok.now.rep.nd hok.now.raw
  refine j_box (l := [.string (bs n)]) rfl (fun g0 hg0 hs0 => ?_)
  refine j_box (l := [bv]) (by show bv.cells = #[bv]; rw [hbv]; rfl) (fun g1 hg1 hs1 => ?_)
  refine j_q (qs_ac) ?_
  refine j_q (qs_load (l := [.string (bs n)]) 1 Tryz.underlying9 rfl rfl rfl rfl) ?_
  refine j_lit (vs := [.string (bs _)]) Tryz.underlying142 sz9 zero9 rfl (by simp [oneV]) ⟨rfl, by decide⟩ (fun g4 v4 c4 hv4 hc4 ho4 => ?_)
  subst hv4 hc4
  refine j_q (qs_call ent96 rfl rfl rfl (fun w' hw' => may_con r.fm [n] _ w' (in_own hw' 3 rfl) (rsl_own ho4 0 rfl hw') (by simp))) ?_
  refine j_q (qs_neq rfl rfl) ?_
  refine j_cond rfl (fun hc0 => ?_) (fun hc0 => ?_)
  · skip
    have hm : mayE a.fused a.left [n] ≠ 0 := by
      rw [← hmay]
      simpa using hc0
    refine j_subl (S' := [r.heap]) (by repeat first | exact slR _ | exact slN _ | apply slC | apply slD) ?_
    have hwe : appE a n xs = mayE a.fused a.left [n] := by
      unfold appE
      rw [if_pos hm]
    refine j_ret_con (vs := [_]) (fun w' hw' => ⟨rfl, trivial⟩) ?_
    rw [hwe]
    refine ⟨congrArg (Value.int .i64) hmay, r, rfl, ?_, FR.To.refl _ _⟩
    rw [if_neg hm]
    exact hok
  · skip
    have hm : mayE a.fused a.left [n] = 0 := by
      rw [← hmay]
      simpa using hc0
    have hz : a.fused = true → a.left ≠ 0 := fun hf hl => by
      unfold mayE at hm
      rw [hf, hl] at hm
      simp at hm
    refine j_perm (S' := [[(g4, .cells [.string (bs n)].toArray 9 (0, 0))], [(g1, .cells [bv].toArray 33 (0, 0))], [(g0, .cells [.string (bs n)].toArray 9 (0, 0))], [(r.gf, r.fm.obj)], [(r.now.gs, r.now.sobj)], [(r.now.gm, .map r.now.es r.now.ck)], r.now.fs.map FL.h, r.tc ++ (r.ls.heap ++ r.X) ++ ph r.P]) (by
      classical
      refine List.perm_iff_count.2 fun x => ?_
      simp only [FM.heap, FM.obj, fmcells, SM.heap, ph, List.map_append, List.map_nil, List.set, List.flatten_cons, List.flatten_nil, List.append_nil, List.nil_append, List.cons_append, List.count_append, List.count_cons, List.count_nil] <;> omega) ?_
    refine j_draw ?_
    refine jq_q (qs_nil rfl) ?_
    refine jq_q (qs_field Tryz.underlying63 rfl sz59 (by decide) rfl) ?_
    refine jq_q (qs_load (l := fmcells r.fm) 3 Tryz.underlying59 rfl rfl rfl rfl) ?_
    refine jq_q (qs_nil rfl) ?_
    refine jq_q (qs_field Tryz.underlying109 rfl sz107 (by decide) rfl) ?_
    refine jq_q (qs_load (l := smcells r.now) 4 Tryz.underlying107 rfl rfl rfl rfl) ?_
    refine jq_q (qs_load (l := [.string (bs n)]) 2 Tryz.underlying9 rfl rfl rfl rfl) ?_
    refine jq_q (qs_lookup (key := n) strKey 5 Tryz.underlying107 zv63 rfl rfl rfl hok.now.raw.map hn) ?_
    rw [mlook_map fptr, getD_fptr]
    refine jq_nil ?_
    refine j_q (qs_pnil Tryz.underlying110 rfl) ?_
    refine j_cond rfl (fun hc1 => ?_) (fun hc1 => ?_)
    · skip
      have hl0 : alook a.now.nm n = none := by
        rw [← look_none hok]
        cases hx : alook r.now.ml n with
        | none => rfl
        | some p => rw [hx] at hc1; simp at hc1
      refine j_q (qs_ac) ?_
      refine j_subl (S' := r.fm.parts2) (by repeat first | exact slR _ | exact slN _ | apply slC | apply slD) ?_
      refine j_perm (S' := [r.heap]) r.fm.split2.symm ?_
      have hwe : appE a n xs = 7 := by
        unfold appE
        rw [if_neg (by rw [hm]; simp), if_pos hl0]
      refine j_ret_con (vs := [_]) (fun w' hw' => ⟨rfl, trivial⟩) ?_
      rw [hwe]
      refine ⟨rfl, r, rfl, ?_, FR.To.refl _ _⟩
      rw [if_neg (by decide)]
      exact hok
    · skip
      have hl0 : alook a.now.nm n ≠ none := by
        rw [Ne, ← look_none hok]
        intro hx
        rw [hx] at hc1
        simp at hc1
      obtain ⟨i, hi⟩ := Option.ne_none_iff_exists'.1 hl0
      obtain ⟨x, hx, hlk, rfl, _⟩ := look_rep hok.now.raw hok.now.rep hi
      have hla := hi
      rw [hlk, Option.map_some]
      obtain ⟨xA, xc, hxv, hxl2⟩ := hok.now.raw.form x hx
      have hdx := hok.now.rep.dt x hx
      have hsz : sizeA a.now n = x.xs.length := by simp only [sizeA, hi, hdx]
      refine j_draw ?_
      refine jq_q (qs_load (l := [bv]) 1 Tryz.underlying33 rfl rfl rfl rfl) ?_
      refine jq_q (qs_lenl (n := xs.length) (A := A) (c := cap) Tryz.underlying33 hbv) ?_
      refine jq_q (qs_nil rfl) ?_
      refine jq_q (qs_field Tryz.underlying114 rfl sz33 (by decide) rfl) ?_
      refine jq_q (qs_loadO (l := flcells x) (rdo_mem (o := x.h.2) 6 rfl (List.mem_map.2 ⟨x, hx, rfl⟩)) Tryz.underlying33 rfl rfl rfl) ?_
      refine jq_q (qs_lenl (n := x.xs.length) (A := xA) (c := xc) Tryz.underlying33 hxv) ?_
      refine jq_q (qs_sub64 rfl rfl (by first | omega | (simp only [bnA] at *; omega))) ?_
      refine jq_q (qs_gtr rfl rfl) ?_
      refine jq_nil ?_
      refine j_cond rfl (fun hc2 => ?_) (fun hc2 => ?_)
      · skip
        have hbig : 1048576 < sizeA a.now n + xs.length := by
          rw [hsz]
          simp at hc2
          omega
        refine j_q (qs_ac) ?_
        refine j_subl (S' := r.fm.parts2) (by repeat first | exact slR _ | exact slN _ | apply slC | apply slD) ?_
        refine j_perm (S' := [r.heap]) r.fm.split2.symm ?_
        have hwe : appE a n xs = 5 := by
          unfold appE
          rw [if_neg (by rw [hm]; simp), if_neg hl0, if_pos hbig]
        refine j_ret_con (vs := [_]) (fun w' hw' => ⟨rfl, trivial⟩) ?_
        rw [hwe]
        refine ⟨rfl, r, rfl, ?_, FR.To.refl _ _⟩
        rw [if_neg (by decide)]
        exact hok
      · skip
        have hbig : ¬ 1048576 < sizeA a.now n + xs.length := by
          rw [hsz]
          simp at hc2
          omega
        have hbig2 := hbig
        rw [hsz] at hbig2
        refine j_draw ?_
        refine jq_q (qs_nil rfl) ?_
        refine jq_q (qs_field Tryz.underlying63 rfl sz59 (by decide) rfl) ?_
        refine jq_q (qs_load (l := fmcells r.fm) 3 Tryz.underlying59 rfl rfl rfl rfl) ?_
        refine jq_q (qs_nil rfl) ?_
        refine jq_q (qs_field Tryz.underlying109 rfl sz3 (by decide) rfl) ?_
        refine jq_q (qs_load (l := smcells r.now) 4 Tryz.underlying3 rfl rfl rfl rfl) ?_
        refine jq_q (qs_load (l := [bv]) 1 Tryz.underlying33 rfl rfl rfl rfl) ?_
        refine jq_q (qs_lenl (n := xs.length) (A := A) (c := cap) Tryz.underlying33 hbv) ?_
        refine jq_q (qs_add64 rfl rfl (by first | omega | (simp only [bnA] at *; omega))) ?_
        refine jq_q (qs_nil rfl) ?_
        refine jq_q (qs_field Tryz.underlying63 rfl sz3 (by decide) rfl) ?_
        refine jq_q (qs_load (l := fmcells r.fm) 3 Tryz.underlying3 rfl rfl rfl rfl) ?_
        refine jq_q (qs_gtr rfl rfl) ?_
        refine jq_nil ?_
        refine j_cond rfl (fun hc3 => ?_) (fun hc3 => ?_)
        · skip
          have hfl : a.room < a.now.used + (xs.length : Int) := by
            rw [← hok.rm, ← hus]
            simp at hc3
            omega
          refine j_q (qs_ac) ?_
          refine j_subl (S' := r.fm.parts2) (by repeat first | exact slR _ | exact slN _ | apply slC | apply slD) ?_
          refine j_perm (S' := [r.heap]) r.fm.split2.symm ?_
          have hwe : appE a n xs = 6 := by
            unfold appE
            rw [if_neg (by rw [hm]; simp), if_neg hl0, if_neg hbig, if_pos hfl]
          refine j_ret_con (vs := [_]) (fun w' hw' => ⟨rfl, trivial⟩) ?_
          rw [hwe]
          refine ⟨rfl, r, rfl, ?_, FR.To.refl _ _⟩
          rw [if_neg (by decide)]
          exact hok
        · skip
          have hfl : ¬ a.room < a.now.used + (xs.length : Int) := by
            rw [← hok.rm, ← hus]
            simp at hc3
            omega
          refine j_q (qs_load (l := [bv]) 1 Tryz.underlying33 rfl rfl rfl rfl) ?_
          refine j_call0 ent39 rfl rfl rfl (fun w' hw' => clone_con bv xs w' (br_keep hbr hbd hw') hxl) (fun u S2 hu1 => ?_)
          obtain ⟨Q, rfl, hrv⟩ := hu1
          obtain ⟨bv2, hbv2⟩ : ∃ y, y = u := ⟨_, rfl⟩
          rw [← hbv2] at hrv ⊢
          refine j_subl (S' := [ph Q, [(g4, .cells [.string (bs n)].toArray 9 (0, 0))], [(g1, .cells [bv].toArray 33 (0, 0))], [(g0, .cells [.string (bs n)].toArray 9 (0, 0))], [(r.gf, r.fm.obj)], [(r.now.gs, r.now.sobj)], [(r.now.gm, .map r.now.es r.now.ck)], r.now.fs.map FL.h, r.tc ++ (r.ls.heap ++ r.X) ++ ph r.P]) (by repeat first | exact slR _ | exact slN _ | apply slC | apply slD) ?_
          obtain ⟨A2, c2, hbe, hbc, _⟩ := hrv.form
          refine j_store (l := [bv]) 2 sz33 rfl rfl (by show oneV bv2 = true; rw [hbe]; rfl) rfl (by simp) (by simp) ?_
          refine j_q (qs_mkfuncv (vs := [.pointer (some ⟨g0, 0, none⟩), .pointer (some ⟨g1, 0, none⟩)]) rfl) ?_
          refine j_perm (S' := [ph Q, [(g4, .cells [.string (bs n)].toArray 9 (0, 0))], [(g1, .cells [bv2].toArray 33 (0, 0))], [(g0, .cells [.string (bs n)].toArray 9 (0, 0))], [(r.gf, r.fm.obj)], [(r.now.gs, r.now.sobj)], [(r.now.gm, .map r.now.es r.now.ck)], r.now.fs.map FL.h, r.tc ++ (r.ls.heap ++ r.X) ++ ph r.P]) (.refl _) ?_
          have hrv2 : RV (Q ++ r.P) (.slice A2 xs.length c2) xs := by
            rw [← hbe]
            exact hrv.more (fun b hb => List.mem_append_left _ hb)
          rw [hbe]
          refine j_perm (S' := [FR.heap ({ r with X := ([(g0, .cells [.string (bs n)].toArray 9 (0, 0))] ++ [(g1, .cells [.slice A2 xs.length c2].toArray 33 (0, 0))]) ++ r.X, P := Q ++ r.P } : FR), [(g4, .cells [.string (bs n)].toArray 9 (0, 0))]]) (by
            classical
            refine List.perm_iff_count.2 fun x => ?_
            simp only [FM.heap, FM.obj, fmcells, SM.heap, ph, List.map_append, List.map_nil, List.set, List.flatten_cons, List.flatten_nil, List.append_nil, List.nil_append, List.cons_append, List.count_append, List.count_cons, List.count_nil] <;> omega) ?_
          refine j_call 0 ent97 rfl rfl rfl rfl (fun w' hw' => (doesR_con ({ r with X := ([(g0, .cells [.string (bs n)].toArray 9 (0, 0))] ++ [(g1, .cells [.slice A2 xs.length c2].toArray 33 (0, 0))]) ++ r.X, P := Q ++ r.P } : FR) a (.ap n xs g0 g1 A2 c2) w' (hok.more _ _) hB hz ⟨hn, hrv2, hbc, by omega⟩ (fun q hq => List.mem_append_left _ hq) ⟨x.id, hla, by rw [hdx]; omega⟩ (by
            show limA (appA a.now n xs)
            unfold appA
            rw [hla]
            exact ⟨by show a.now.used + (xs.length : Int) ≤ _; omega, hl2⟩)).mono (fun u S5 h5 => by
            obtain ⟨h1, r', h2, h3, h4⟩ := h5
            exact (⟨h1, r', h2, h3, h4.old hw' 0 rfl rfl (fun q hq => List.mem_append_right _ hq) (fun b hb => List.mem_append_right _ hb)⟩ : _ ∧ ∃ r' : FR, S5 = [r'.heap] ∧ r'.Ok (stepF a (.ap n xs)) ∧ FR.To w r r'))) (fun u S5 h5 => ?_)
          obtain ⟨rfl, r', rfl, hr', hto⟩ := h5
          refine j_subl (S' := [r'.heap]) (by repeat first | exact slR _ | exact slN _ | apply slC | apply slD) ?_
          have hwe : appE a n xs = 0 := by
            unfold appE
            rw [if_neg (by rw [hm]; simp), if_neg hl0, if_neg hbig, if_neg hfl]
          refine j_ret_con (vs := [_]) (fun w' hw' => ⟨rfl, trivial⟩) ?_
          rw [hwe]
          refine ⟨rfl, r', rfl, ?_, hto⟩
          rw [if_pos rfl]
          exact hr'
end Go.Proofs.YtfebkkmmagbnlaaGreatDoor
/-! Ft11 -/
namespace Go.Proofs.YtfebkkmmagbnlaaGreatDoor
open Go Go.Sx
set_option maxRecDepth 100000
set_option maxHeartbeats 4000000
set_option linter.unusedVariables false
set_option linter.unusedSimpArgs false
attribute [local irreducible] J JQ QS Con W opW
open Go.MapKept Go.WideMaps Go.Maps
def contA (s : AS) (n : List UInt8) : List UInt8 :=
  match alook s.nm n with
  | none => []
  | some i => s.dt i
def readE (s : AS) (n : List UInt8) : Int := if alook s.nm n = none then 7 else 0
end Go.Proofs.YtfebkkmmagbnlaaGreatDoor
/-! Ft12 -/
namespace Go.Proofs.YtfebkkmmagbnlaaGreatDoor
open Go Go.Sx
set_option maxRecDepth 100000
set_option maxHeartbeats 4000000
set_option linter.unusedVariables false
set_option linter.unusedSimpArgs false
attribute [local irreducible] J JQ QS Con W opW
open Go.MapKept Go.WideMaps Go.Maps
end Go.Proofs.YtfebkkmmagbnlaaGreatDoor
/-! Ft13 -/
namespace Go.Proofs.YtfebkkmmagbnlaaGreatDoor
open Go Go.Sx
set_option maxRecDepth 100000
set_option maxHeartbeats 4000000
set_option linter.unusedVariables false
set_option linter.unusedSimpArgs false
attribute [local irreducible] J JQ QS Con W opW
open Go.MapKept Go.WideMaps Go.Maps
theorem cloneO_con (v : Value) (xs : List UInt8) (w : World) (h : BR w v xs) (hl : xs.length ≤ 1000000000) : Con Tryz.prog 39 [v] w [] fun u S' => ∃ c : SH, S' = [c] ∧ Sx.Own 5 1 (ints xs) u c := by
  refine con_of_tree mix Tryz.func39 T39_ok (by kernel_rfl) ?_
  unfold T39
  have hf := br_form h
  obtain ⟨A, cap, hv, hcap⟩ := hf
  subst hv
  refine j_q (qs_ac) ?_
  refine j_q (qs_slnil Tryz.underlying33 rfl) ?_
  refine j_cond rfl (fun hc0 => ?_) (fun hc0 => ?_)
  · skip
    have h0 : A = none := by cases A with
      | none => rfl
      | some a => simp at hc0
    subst h0
    have hx0 : xs = [] := by
      rcases h with ⟨_, h⟩ | ⟨a, c, e, _⟩
      · exact h
      · cases e
    subst hx0
    refine j_q (qs_ac) ?_
    refine j_subl (S' := [[]]) (by simp) ?_
    refine j_ret_con (vs := [_]) (fun w' hw' => ⟨rfl, trivial⟩) ?_
    exact ⟨[], rfl, own_nil⟩
  · skip
    obtain ⟨a, rfl⟩ : ∃ a, A = some a := by
      cases A with
      | none => simp at hc0
      | some a => exact ⟨a, rfl⟩
    have hcl : Cells w a (ints xs) := by
      rcases h with ⟨e, _⟩ | ⟨a', c, e, _, _, h⟩
      · cases e
      · injection e with e1 e2 e3
        injection e1 with e1
        rw [e1]
        exact h
    refine j_lit (vs := []) Tryz.underlying33 sz5 zero5 rfl (by simp [oneV]) ⟨rfl, by decide⟩ (fun g3 v3 c3 hv3 hc3 ho3 => ?_)
    subst hv3 hc3
    refine j_append 0 Tryz.underlying33 Tryz.underlying33 (.inr ⟨_, rfl⟩) sb5 zero5 rfl ho3 rfl (src_sl (rd_cells hcl (by simp)) (by rw [ints_length, Nat.mul_one])) ints_one ⟨(by rw [ints_length]; simp only [List.length_nil]; omega), (by decide)⟩ (fun v4 c4 ho4 => ?_)
    rw [List.nil_append] at ho4
    refine j_subl (S' := [c4]) (by repeat first | exact slR _ | exact slN _ | apply slC | apply slD) ?_
    refine j_ret_con (vs := [_]) (fun w' hw' => ⟨rfl, trivial⟩) ?_
    exact ⟨c4, rfl, ho4⟩
theorem readO_con (f : FM) (B : Nat) (n : List UInt8) (w : World) (hin : In w f.heap) (hok : f.Ok B) (hn : strOk n) (x : FL) (hx : x ∈ f.now.fs) (hlk : alook f.now.ml n = some (x.g, x.id)) : Con Tryz.prog 27 [f.ptr, .string (bs n)] w [] fun u S' => ∃ (v : Value) (c : SH), u = .tuple #[v, .int .i64 0] ∧ S' = [c] ∧ Sx.Own 5 1 (ints x.xs) v c := by
  refine con_of_tree mix Tryz.func27 T27_ok (by kernel_rfl) ?_
  unfold T27
  obtain ⟨xA, xc, hxv, hxl⟩ := hok.raw.form x hx
  refine j_q (qs_ac) ?_
  refine j_q (qs_ac) ?_
  refine j_q (qs_pnil Tryz.underlying23 rfl) ?_
  refine j_g rfl (fun hb => qs_mt rfl) ?_
  refine j_g rfl (fun hb => qs_nil (gd_eq hb)) ?_
  refine j_g rfl (fun hb => qs_field Tryz.underlying63 rfl sz59 (by decide) (gd_eq hb)) ?_
  refine j_g rfl (fun hb => qs_loadO (rdo_base (FM.in_gf hin) (by simp)) Tryz.underlying59 rfl (gd_eq hb) rfl) ?_
  refine j_g rfl (fun hb => qs_pnil Tryz.underlying59 (gd_eq hb)) ?_
  refine j_q (qs_or rfl rfl) ?_
  refine j_g rfl (fun hb => qs_mt rfl) ?_
  refine j_g rfl (fun hb => qs_nil (gd_eq hb)) ?_
  refine j_g rfl (fun hb => qs_field Tryz.underlying63 rfl sz59 (by decide) (gd_eq hb)) ?_
  refine j_g rfl (fun hb => qs_loadO (rdo_base (FM.in_gf hin) (by simp)) Tryz.underlying59 rfl (gd_eq hb) rfl) ?_
  refine j_g rfl (fun hb => qs_nil (gd_eq hb)) ?_
  refine j_g rfl (fun hb => qs_field Tryz.underlying109 rfl sz107 (by decide) (gd_eq hb)) ?_
  refine j_g rfl (fun hb => qs_loadO (rdo_base (SM.in_gs (FM.in_now hin)) (by simp)) Tryz.underlying107 rfl (gd_eq hb) rfl) ?_
  refine j_g rfl (fun hb => qs_mt rfl) ?_
  refine j_g rfl (fun hb => qs_lookupR (key := n) strKey (rdo_base (SM.in_gm (FM.in_now hin)) (by simp)) Tryz.underlying107 zv63 (gd_eq hb) (gd_eq hb) hok.raw.map hn) ?_
  rw [mlook_map fptr, getD_fptr, hlk, Option.map_some]
  refine j_g rfl (fun hb => qs_pnil Tryz.underlying110 (gd_eq hb)) ?_
  refine j_q (qs_or rfl rfl) ?_
  refine j_cond rfl (fun hc0 => ?_) (fun hc0 => ?_)
  · skip
    simp [gd] at hc0
  · skip
    refine j_q (qs_nil rfl) ?_
    refine j_q (qs_field Tryz.underlying63 rfl sz59 (by decide) rfl) ?_
    refine j_q (qs_loadO (rdo_base (FM.in_gf hin) (by simp)) Tryz.underlying59 rfl rfl rfl) ?_
    refine j_q (qs_nil rfl) ?_
    refine j_q (qs_field Tryz.underlying109 rfl sz107 (by decide) rfl) ?_
    refine j_q (qs_loadO (rdo_base (SM.in_gs (FM.in_now hin)) (by simp)) Tryz.underlying107 rfl rfl rfl) ?_
    refine j_q (qs_lookupR (key := n) strKey (rdo_base (SM.in_gm (FM.in_now hin)) (by simp)) Tryz.underlying107 zv63 rfl rfl hok.raw.map hn) ?_
    rw [mlook_map fptr, getD_fptr, hlk, Option.map_some]
    refine j_q (qs_nil rfl) ?_
    refine j_q (qs_field Tryz.underlying114 rfl sz33 (by decide) rfl) ?_
    refine j_q (qs_loadO (rdo_base (SM.in_f (FM.in_now hin) hx) (by simp)) Tryz.underlying33 rfl rfl rfl) ?_
    refine j_call0 ent39 rfl rfl rfl (fun w' hw' => cloneO_con x.v x.xs w' (br_rv (hok.vw x hx).rv (in_keep0 (FM.in_P hin) hw')) hxl) (fun u S2 hu1 => ?_)
    obtain ⟨Q, rfl, hrv⟩ := hu1
    refine j_subl (S' := [Q]) (by repeat first | exact slR _ | exact slN _ | apply slC | apply slD) ?_
    refine j_q (qs_ac) ?_
    refine j_ret_con (vs := [_, _]) (fun w' hw' => ⟨rfl, rfl, trivial⟩) ?_
    exact ⟨_, Q, rfl, rfl, hrv⟩
theorem readRO_con (r : FR) (a : AF) (n : List UInt8) (w : World) (hin : In w r.heap) (hok : r.Ok a) (hn : strOk n) : Con Tryz.prog 27 [r.ptr, .string (bs n)] w [] fun u S' => ∃ (v : Value) (c : SH), u = .tuple #[v, .int .i64 (readE a.now n)] ∧ S' = [c] ∧ Sx.Own 5 1 (ints (contA a.now n)) v c := by
  cases h : alook a.now.nm n with
  | none =>
    refine (readZ_con r.fm a.pend.length n w hin (hok.fm (Nat.le_refl _)) hn (look_rep0 hok.now.raw hok.now.rep h)).mono (fun u S' hu => ?_)
    obtain ⟨rfl, rfl⟩ := hu
    refine ⟨.slice none 0 0, [], ?_, rfl, ?_⟩
    · unfold readE
      rw [if_pos h]
    · simp only [contA, h]
      exact own_nil
  | some i =>
    obtain ⟨f, hf, hl, hi, hx⟩ := look_rep hok.now.raw hok.now.rep h
    refine (readO_con r.fm a.pend.length n w hin (hok.fm (Nat.le_refl _)) hn f hf hl).mono (fun u S' hu => ?_)
    obtain ⟨v, Q, rfl, rfl, hv⟩ := hu
    refine ⟨v, Q, ?_, rfl, ?_⟩
    · unfold readE
      rw [if_neg (by rw [h]; simp)]
    · simp only [contA, h]
      rw [← hx]
      exact hv
end Go.Proofs.YtfebkkmmagbnlaaGreatDoor
/-! Sha1 -/
namespace Go.Proofs.YtfebkkmmagbnlaaGreatDoor
open Go Go.Sx
set_option maxRecDepth 100000
set_option maxHeartbeats 4000000
set_option linter.unusedVariables false
set_option linter.unusedSimpArgs false
attribute [local irreducible] J JQ QS Con W opW
theorem and31 (n : Int) (h0 : 0 < n) (h1 : n < 32) : bw .and .u64 (IntKind.u64.wrap (-n)) 31 = 32 - n := by
  have : ∀ k : Fin 32, 0 < k.val → bw .and .u64 (IntKind.u64.wrap (-(k.val : Int))) 31 = 32 - (k.val : Int) := by decide +kernel
  have := this ⟨n.toNat, by omega⟩ (by show 0 < n.toNat; omega)
  simp only [Int.toNat_of_nonneg (Int.le_of_lt h0)] at this
  exact this
theorem rot_con (a n : Int) (w : World) (h0 : 0 < n) (h1 : n < 32) : Con Tryz.prog 149 [.int .u32 a, .int .i64 (-n)] w [] fun v _ => v = .int .u32 (rotr a n) := by
  refine con_of_tree mix Tryz.func149 T149_ok (by kernel_rfl) ?_
  unfold T149
  refine j_q (qs_ac) ?_
  refine j_q (qs_conv Tryz.underlying3 Tryz.underlying165 rfl) ?_
  refine j_q (qs_and_ rfl rfl) ?_
  rw [and31 n h0 h1]
  refine j_q (qs_shl rfl rfl (by first | omega | (simp only [bnA] at *; omega))) ?_
  refine j_q (qs_sub rfl rfl) ?_
  rw [IntWalk.u64_in _ (by omega)]
  have e32 : 32 - (32 - n) = n := by omega
  rw [e32]
  refine j_q (qs_shr rfl rfl (by first | omega | (simp only [bnA] at *; omega))) ?_
  refine j_q (qs_or_ rfl rfl) ?_
  refine j_ret_con (vs := [_]) (fun w' hw' => ⟨rfl, trivial⟩) ?_
  rfl
theorem turn_con (a n : Int) (w : World) (h0 : 0 < n) (h1 : n < 32) : Con Tryz.prog 128 [.int .u32 a, .int .i64 n] w [] fun v _ => v = .int .u32 (rotr a n) := by
  refine con_of_tree mix Tryz.func128 T128_ok (by kernel_rfl) ?_
  unfold T128
  refine j_q (qs_ac) ?_
  refine j_q (qs_neg rfl) ?_
  rw [IntWalk.i64_in _ (by omega), Int.zero_sub]
  refine j_q (qs_call ent149 rfl rfl rfl (fun w' hw' => rot_con a n w' h0 h1)) ?_
  refine j_ret_con (vs := [_]) (fun w' hw' => ⟨rfl, trivial⟩) ?_
  rfl
theorem numbers_con (w : World) : Con Tryz.prog 127 [] w [] fun v _ => v = .agg (ks .u32 kk64).toArray := by
  refine con_of_tree mix Tryz.func127 T127_ok (by kernel_rfl) ?_
  unfold T127
  refine j_alloc zero192 (fun g0 hg0 hs0 => ?_)
  refine j_q (qs_run (v := .agg (ks .u32 kk64).toArray) (fun w => by kernel_rfl)) ?_
  refine j_storew 0 sz192 rfl rfl rfl ks_one rfl rfl ?_
  refine j_ret_con (vs := [_]) (fun w' hw' => ⟨rv_agg 0 Tryz.underlying192 rfl sz192 rfl rfl rfl hw', trivial⟩) ?_
  rfl
theorem dbegun_con (w : World) : Con Tryz.prog 107 [] w [] fun v _ => v = .agg (ks .u32 init8).toArray := by
  refine con_of_tree mix Tryz.func107 T107_ok (by kernel_rfl) ?_
  unfold T107
  refine j_alloc zero176 (fun g0 hg0 hs0 => ?_)
  refine j_q (qs_run (v := .agg (ks .u32 init8).toArray) (fun w => by kernel_rfl)) ?_
  refine j_storew 0 sz176 rfl rfl rfl ks_one rfl rfl ?_
  refine j_ret_con (vs := [_]) (fun w' hw' => ⟨rv_agg 0 Tryz.underlying176 rfl sz176 rfl rfl rfl hw', trivial⟩) ?_
  rfl
end Go.Proofs.YtfebkkmmagbnlaaGreatDoor
