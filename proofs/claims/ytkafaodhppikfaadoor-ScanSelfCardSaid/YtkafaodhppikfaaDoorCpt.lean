/- slices.Compact at paths. -/
import Derived.Test.YtkafaodhppikfaaDoorTa
import Derived.Test.YtkafaodhppikfaaDoorSx13
import Derived.Test.YtkafaodhppikfaaDoorSpl
namespace Go.Proofs.YtkafaodhppikfaaDoor
open Go Go.Sx
set_option maxRecDepth 100000
set_option maxHeartbeats 4000000
set_option linter.unusedVariables false
set_option linter.unusedSimpArgs false
attribute [local irreducible] J JQ QS Con W opW


/-- equal neighbours, each once -/
def cps (acc : List (List UInt8)) (y : List UInt8) : List (List UInt8) := if acc.getLast? = some y then acc else acc ++ [y]
def cp (l : List (List UInt8)) : List (List UInt8) := l.foldl cps []
theorem cp_snoc (l : List (List UInt8)) (y : List UInt8) : cp (l ++ [y]) = cps (cp l) y := by simp [cp]
theorem take_snoc {l : List (List UInt8)} {i : Nat} (h : i < l.length) : l.take (i + 1) = l.take i ++ [l.getD i []] := by
  rw [List.take_add_one, List.getD_eq_getElem?_getD, List.getElem?_eq_getElem h]
  rfl
theorem cps_last (acc : List (List UInt8)) (y : List UInt8) : (cps acc y).getLast? = some y := by
  unfold cps
  split
  · assumption
  · simp
theorem cp_last {l : List (List UInt8)} {i : Nat} (h0 : 0 < i) (h : i ≤ l.length) : (cp (l.take i)).getLast? = some (l.getD (i - 1) []) := by
  obtain ⟨j, rfl⟩ : ∃ j, i = j + 1 := ⟨i - 1, by omega⟩
  rw [take_snoc (by omega), cp_snoc, cps_last]
  rfl
theorem cp_step {l : List (List UInt8)} {i : Nat} (h0 : 0 < i) (h : i < l.length) : cp (l.take (i + 1)) = if l.getD (i - 1) [] = l.getD i [] then cp (l.take i) else cp (l.take i) ++ [l.getD i []] := by
  rw [take_snoc h, cp_snoc, cps, cp_last h0 (by omega)]
  simp only [Option.some.injEq]
theorem cp_le (l : List (List UInt8)) (i : Nat) : (cp (l.take i)).length ≤ i := by
  induction i with
  | zero => simp [cp]
  | succ i ih =>
    by_cases h : i < l.length
    · rw [take_snoc h, cp_snoc, cps]
      split
      · omega
      · simp only [List.length_append, List.length_singleton]; omega
    · rw [List.take_of_length_le (by omega)] at ih ⊢
      omega
theorem cp_one {l : List (List UInt8)} (h : 0 < l.length) : cp (l.take 1) = l.take 1 := by
  rw [take_snoc h]
  rfl
theorem cp_short {l : List (List UInt8)} (h : l.length < 2) : cp l = l := by
  match l, h with
  | [], _ => rfl
  | [x], _ => rfl
theorem take_set_next {l : List (List UInt8)} {i : Nat} (h : i < l.length) (x : List UInt8) : (l.set i x).take (i + 1) = l.take i ++ [x] := take_set_succ h x
theorem drop_getD {l m : List (List UInt8)} {i j : Nat} (h : l.drop i = m.drop i) (hij : i ≤ j) : l.getD j [] = m.getD j [] := by
  have e : ∀ (l : List (List UInt8)), l.getD j [] = (l.drop i).getD (j - i) [] := fun l => by
    simp only [List.getD_eq_getElem?_getD, List.getElem?_drop]
    rw [show i + (j - i) = j by omega]
  rw [e, e, h]
theorem drop_mono {l m : List (List UInt8)} {i j : Nat} (h : l.drop i = m.drop i) (hij : i ≤ j) : l.drop j = m.drop j := by
  have e : ∀ (l : List (List UInt8)), l.drop j = (l.drop i).drop (j - i) := fun l => by
    rw [List.drop_drop]
    rw [show i + (j - i) = j by omega]
  rw [e, e, h]
theorem take_prefix {l : List (List UInt8)} {k i : Nat} {m : List (List UInt8)} (h : l.take k = m) (z : List UInt8) (hi : k ≤ i) : (l.set i z).take k = m := by
  rw [List.take_set_of_le hi]
  exact h

end Go.Proofs.YtkafaodhppikfaaDoor
