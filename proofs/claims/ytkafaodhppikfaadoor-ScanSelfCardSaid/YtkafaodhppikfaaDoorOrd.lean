/- Lists of byte strings that rise: told by their members. -/
import Derived.Sort.Walk0
import Derived.Test.YtkafaodhppikfaaDoorCpt
namespace Go.Proofs.YtkafaodhppikfaaDoor
open Go Go.Sx
/-- each one less than all behind it -/
def Strict (l : List (List UInt8)) : Prop := l.Pairwise (· < ·)
theorem lt_ne {x y : List UInt8} (h : x < y) : x ≠ y := fun e => List.lt_irrefl y (e ▸ h)
theorem strict_ext : ∀ {l m : List (List UInt8)}, Strict l → Strict m → (∀ x, x ∈ l ↔ x ∈ m) → l = m
  | [], [], _, _, _ => rfl
  | [], b :: m, _, _, h => by have := (h b).2 (by simp); simp at this
  | a :: l, [], _, _, h => by have := (h a).1 (by simp); simp at this
  | a :: l, b :: m, hl, hm, h => by
    obtain ⟨hl1, hl2⟩ := List.pairwise_cons.1 hl
    obtain ⟨hm1, hm2⟩ := List.pairwise_cons.1 hm
    have hab : a = b := by
      rcases List.mem_cons.1 ((h a).1 (by simp)) with e | ha
      · exact e
      · rcases List.mem_cons.1 ((h b).2 (by simp)) with e | hb
        · exact e.symm
        · exact absurd (List.lt_trans (hl1 b hb) (hm1 a ha)) (List.lt_irrefl a)
    subst hab
    congr 1
    refine strict_ext hl2 hm2 fun x => ?_
    have hx := h x
    simp only [List.mem_cons] at hx
    constructor
    · intro hm
      rcases hx.1 (.inr hm) with e | h'
      · exact absurd e.symm (lt_ne (hl1 x hm))
      · exact h'
    · intro hm
      rcases hx.2 (.inr hm) with e | h'
      · exact absurd e.symm (lt_ne (hm1 x hm))
      · exact h'
theorem lt_of_le_ne {x y : List UInt8} (h : x ≤ y) (hne : x ≠ y) : x < y := by
  rcases List.le_iff_lt_or_eq.1 h with h | h
  · exact h
  · exact absurd h hne
theorem lt_of_le_lt {x y z : List UInt8} (h : x ≤ y) (h2 : y < z) : x < z := by
  rcases List.le_iff_lt_or_eq.1 h with h | h
  · exact List.lt_trans h h2
  · exact h ▸ h2
theorem cp_spec {l : List (List UInt8)} (hl : l.Pairwise (· ≤ ·)) : ∀ i, i ≤ l.length → Strict (cp (l.take i)) ∧ ∀ x, x ∈ cp (l.take i) ↔ x ∈ l.take i
  | 0, _ => ⟨by simp [cp, Strict], by simp [cp]⟩
  | i + 1, h => by
    obtain ⟨h1, h2⟩ := cp_spec hl i (by omega)
    by_cases h0 : i = 0
    · subst h0
      rw [cp_one (by omega)]
      refine ⟨?_, fun _ => Iff.rfl⟩
      rw [take_snoc (by omega)]
      simp [Strict]
    · have hst := cp_step (l := l) (i := i) (by omega) (by omega)
      have e : ∀ j, j < l.length → l.getD j [] ∈ l := fun j hj => by rw [List.getD_eq_getElem?_getD, List.getElem?_eq_getElem hj]; exact List.getElem_mem hj
      have hget : ∀ j, (hj : j < l.length) → l.getD j [] = l[j] := fun j hj => by rw [List.getD_eq_getElem?_getD, List.getElem?_eq_getElem hj]; rfl
      split at hst
      · rename_i he
        rw [hst]
        refine ⟨h1, fun x => ?_⟩
        rw [h2, take_snoc (by omega), List.mem_append, List.mem_singleton]
        constructor
        · exact .inl
        · rintro (h | rfl)
          · exact h
          · rw [← he, hget _ (by omega)]
            exact List.mem_take_iff_getElem.2 ⟨i - 1, by omega, rfl⟩
      · rename_i he
        rw [hst]
        refine ⟨?_, fun x => by rw [List.mem_append, List.mem_singleton, take_snoc (by omega), List.mem_append, List.mem_singleton, h2]⟩
        refine List.pairwise_append.2 ⟨h1, by simp, fun x hx y hy => ?_⟩
        rw [List.mem_singleton] at hy
        subst hy
        have hx := (h2 x).1 hx
        obtain ⟨j, hj, rfl⟩ := List.mem_take_iff_getElem.1 hx
        have hlast : l.getD (i - 1) [] < l.getD i [] := by
          refine lt_of_le_ne ?_ he
          rw [hget _ (by omega), hget _ (by omega)]
          exact List.pairwise_iff_getElem.1 hl (i - 1) i (by omega) (by omega) (by omega)
        by_cases hji : j = i - 1
        · rw [← hget j (by omega), hji]; exact hlast
        · refine lt_of_le_lt ?_ hlast
          rw [hget (i - 1) (by omega)]
          exact List.pairwise_iff_getElem.1 hl j (i - 1) (by omega) (by omega) (by omega)
theorem sortS_sorted (l : List (List UInt8)) : (sortS l).Pairwise (· ≤ ·) := by
  unfold sortS
  have := List.pairwise_mergeSort (le := fun (x y : List UInt8) => decide (x ≤ y)) (fun a b c h1 h2 => by simp only [decide_eq_true_eq] at *; exact List.le_trans h1 h2) (fun a b => by
    simp only [Bool.or_eq_true, decide_eq_true_eq]; exact List.le_total a b) l
  exact this.imp fun h => by simpa using h
/-- the members of a list, in their order, each once -/
def rise (l : List (List UInt8)) : List (List UInt8) := cp (sortS l)
theorem rise_strict (l : List (List UInt8)) : Strict (rise l) := by
  have := (cp_spec (sortS_sorted l) (sortS l).length (Nat.le_refl _)).1
  rwa [List.take_of_length_le (Nat.le_refl _)] at this
theorem rise_mem (l : List (List UInt8)) (x : List UInt8) : x ∈ rise l ↔ x ∈ l := by
  have := (cp_spec (sortS_sorted l) (sortS l).length (Nat.le_refl _)).2 x
  rw [List.take_of_length_le (Nat.le_refl _)] at this
  rw [rise, this]
  unfold sortS
  exact List.mem_mergeSort
theorem rise_eq {l m : List (List UInt8)} (h : Strict m) (hm : ∀ x, x ∈ m ↔ x ∈ l) : m = rise l := strict_ext h (rise_strict l) fun x => (hm x).trans (rise_mem l x).symm
theorem rise_len (l : List (List UInt8)) : (rise l).length ≤ l.length := by
  have := cp_le (sortS l) (sortS l).length
  rw [List.take_of_length_le (Nat.le_refl _), sortS_length] at this
  exact this
theorem rise_congr {l m : List (List UInt8)} (h : ∀ x, x ∈ l ↔ x ∈ m) : rise l = rise m := rise_eq (rise_strict l) fun x => (rise_mem l x).trans (h x)
/-- put in at its place -/
theorem strict_put {os : List (List UInt8)} {p : List UInt8} {lo : Nat} (hs : Strict os) (h1 : ∀ i, i < lo → os.getD i [] < p) (h2 : ∀ i, lo ≤ i → i < os.length → ¬ os.getD i [] < p) (hne : lo < os.length → os.getD lo [] ≠ p) (hlo : lo ≤ os.length) :
    Strict (os.take lo ++ [p] ++ os.drop lo) := by
  have hget : ∀ j, (hj : j < os.length) → os.getD j [] = os[j] := fun j hj => by rw [List.getD_eq_getElem?_getD, List.getElem?_eq_getElem hj]; rfl
  have hgt : ∀ y ∈ os.drop lo, p < y := by
    intro y hy
    obtain ⟨j, hj, rfl⟩ := List.mem_drop_iff_getElem.1 hy
    have h3 := h2 (lo + j) (by omega) (by omega)
    have hne2 : p ≠ os[lo + j] := by
      intro e
      by_cases hj0 : j = 0
      · subst hj0
        exact hne (by omega) (by rw [hget lo (by omega)]; exact e.symm)
      · have hlt : os[lo]'(by omega) < os[lo + j]'(by omega) := List.pairwise_iff_getElem.1 hs lo (lo + j) (by omega) (by omega) (by omega)
        exact h2 lo (Nat.le_refl _) (by omega) (by rw [hget lo (by omega), e]; exact hlt)
    rw [hget _ (by omega)] at h3
    exact lt_of_le_ne (List.not_lt.1 h3) hne2
  have hlt : ∀ x ∈ os.take lo, x < p := by
    intro x hx
    obtain ⟨j, hj, rfl⟩ := List.mem_take_iff_getElem.1 hx
    rw [← hget j (by omega)]
    exact h1 j (by omega)
  unfold Strict at *
  rw [List.append_assoc]
  refine List.pairwise_append.2 ⟨hs.sublist (List.take_sublist _ _), ?_, ?_⟩
  · rw [List.singleton_append]
    exact List.pairwise_cons.2 ⟨hgt, hs.sublist (List.drop_sublist _ _)⟩
  · intro x hx y hy
    rw [List.singleton_append, List.mem_cons] at hy
    rcases hy with rfl | hy
    · exact hlt x hx
    · exact List.lt_trans (hlt x hx) (hgt y hy)
theorem put_mem {os : List (List UInt8)} {p : List UInt8} {lo : Nat} (x : List UInt8) : x ∈ os.take lo ++ [p] ++ os.drop lo ↔ x ∈ os ∨ x = p := by
  have : x ∈ os ↔ x ∈ os.take lo ∨ x ∈ os.drop lo := by rw [← List.mem_append, List.take_append_drop]
  rw [this]
  simp only [List.mem_append, List.mem_singleton]
  constructor
  · rintro ((h | h) | h) <;> simp [h]
  · rintro ((h | h) | h) <;> simp [h]
theorem strict_get {os : List (List UInt8)} (hs : Strict os) {i j : Nat} (h1 : i < j) (h2 : j < os.length) : os.getD i [] < os.getD j [] := by
  have hget : ∀ j, (hj : j < os.length) → os.getD j [] = os[j] := fun j hj => by rw [List.getD_eq_getElem?_getD, List.getElem?_eq_getElem hj]; rfl
  rw [hget _ (by omega), hget _ h2]
  exact List.pairwise_iff_getElem.1 hs i j (by omega) h2 h1
end Go.Proofs.YtkafaodhppikfaaDoor
