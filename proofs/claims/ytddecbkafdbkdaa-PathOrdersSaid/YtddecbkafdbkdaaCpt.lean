/- slices.Compact at paths. -/
import Derived.Test.YtddecbkafdbkdaaTa
import Derived.Test.YtddecbkafdbkdaaSx13
import Derived.Test.YtddecbkafdbkdaaBld
namespace Go.Proofs.Ytddecbkafdbkdaa
open Go Go.Sx
set_option maxRecDepth 100000
set_option maxHeartbeats 4000000
set_option linter.unusedVariables false
set_option linter.unusedSimpArgs false
attribute [local irreducible] J JQ QS Con W opW
theorem sz26 : (Try.prog.info? 26).map (·.size) = some 1 := by kernel_rfl
theorem zero26 : zeroL Try.prog 26 = some ([.string (bs [])]) := by kernel_rfl

/-- equal neighbours, each once -/
def cps (acc : List (List UInt8)) (y : List UInt8) : List (List UInt8) := if acc.getLast? = some y then acc else acc ++ [y]
def cp (l : List (List UInt8)) : List (List UInt8) := l.foldl cps []
theorem cp_snoc (l : List (List UInt8)) (y : List UInt8) : cp (l ++ [y]) = cps (cp l) y := by simp [cp]
theorem take_snoc {l : List (List UInt8)} {i : Nat} (h : i < l.length) : l.take (i + 1) = l.take i ++ [l.getD i []] := by
  rw [List.take_add_one, List.getD_eq_getElem?_getD, List.getElem?_eq_getElem h]
  rfl
theorem cps_last (acc : List (List UInt8)) (y : List UInt8) : (cps acc y).getLast? = some y := by
  unfold cps
  split
  · assumption
  · simp
theorem cp_last {l : List (List UInt8)} {i : Nat} (h0 : 0 < i) (h : i ≤ l.length) : (cp (l.take i)).getLast? = some (l.getD (i - 1) []) := by
  obtain ⟨j, rfl⟩ : ∃ j, i = j + 1 := ⟨i - 1, by omega⟩
  rw [take_snoc (by omega), cp_snoc, cps_last]
  rfl
theorem cp_step {l : List (List UInt8)} {i : Nat} (h0 : 0 < i) (h : i < l.length) : cp (l.take (i + 1)) = if l.getD (i - 1) [] = l.getD i [] then cp (l.take i) else cp (l.take i) ++ [l.getD i []] := by
  rw [take_snoc h, cp_snoc, cps, cp_last h0 (by omega)]
  simp only [Option.some.injEq]
theorem cp_le (l : List (List UInt8)) (i : Nat) : (cp (l.take i)).length ≤ i := by
  induction i with
  | zero => simp [cp]
  | succ i ih =>
    by_cases h : i < l.length
    · rw [take_snoc h, cp_snoc, cps]
      split
      · omega
      · simp only [List.length_append, List.length_singleton]; omega
    · rw [List.take_of_length_le (by omega)] at ih ⊢
      omega
theorem cp_one {l : List (List UInt8)} (h : 0 < l.length) : cp (l.take 1) = l.take 1 := by
  rw [take_snoc h]
  rfl
theorem cp_short {l : List (List UInt8)} (h : l.length < 2) : cp l = l := by
  match l, h with
  | [], _ => rfl
  | [x], _ => rfl
theorem take_set_next {l : List (List UInt8)} {i : Nat} (h : i < l.length) (x : List UInt8) : (l.set i x).take (i + 1) = l.take i ++ [x] := take_set_succ h x
theorem drop_getD {l m : List (List UInt8)} {i j : Nat} (h : l.drop i = m.drop i) (hij : i ≤ j) : l.getD j [] = m.getD j [] := by
  have e : ∀ (l : List (List UInt8)), l.getD j [] = (l.drop i).getD (j - i) [] := fun l => by
    simp only [List.getD_eq_getElem?_getD, List.getElem?_drop]
    rw [show i + (j - i) = j by omega]
  rw [e, e, h]
theorem drop_mono {l m : List (List UInt8)} {i j : Nat} (h : l.drop i = m.drop i) (hij : i ≤ j) : l.drop j = m.drop j := by
  have e : ∀ (l : List (List UInt8)), l.drop j = (l.drop i).drop (j - i) := fun l => by
    rw [List.drop_drop]
    rw [show i + (j - i) = j by omega]
  rw [e, e, h]
theorem take_prefix {l : List (List UInt8)} {k i : Nat} {m : List (List UInt8)} (h : l.take k = m) (z : List UInt8) (hi : k ≤ i) : (l.set i z).take k = m := by
  rw [List.take_set_of_le hi]
  exact h
/-- slices.Compact[[]pantry.api.Path,pantry.api.Path] -/
theorem compact_con (ss : List (List UInt8)) (v : Value) (c : SH) (ho : Sx.Own 26 1 (strs ss) v c) (hsz : ss.length < 4611686018427387904) (w : World) : Con Try.prog 48 [v] w c fun u S' => ∃ c', S' = [c'] ∧ Sx.Own 26 1 (strs (cp ss)) u c' := by
  refine con_of_tree mix Try.func48 T48_ok (by kernel_rfl) ?_
  unfold T48
  obtain ⟨n, A, cap, rfl, hn⟩ := own_form ho (by decide)
  rw [strs_length, Nat.mul_one] at hn
  subst hn
  refine j_q (qs_ac) ?_
  refine j_q (qs_lenl Try.underlying38 rfl) ?_
  refine j_q (qs_lss rfl rfl) ?_
  refine j_cond rfl (fun hc0 => ?_) (fun hc0 => ?_)
  · skip
    refine j_ret_con (vs := [_]) (fun w' hw' => ⟨rfl, trivial⟩) ?_
    exact ⟨c, rfl, by rw [cp_short (by simp only [Bool.and_eq_true, Bool.or_eq_true, Bool.and_eq_false_iff, Bool.or_eq_false_iff, Bool.not_eq_true', Bool.not_eq_false', decide_eq_true_eq, decide_eq_false_iff_not, beq_iff_eq, beq_eq_false_iff_ne, bne_iff_ne, bne_eq_false_iff_eq, ne_eq, Int.toNat_natCast] at *; omega)]; exact ho⟩
  · skip
    have h2 : 2 ≤ ss.length := by
      simp only [Bool.and_eq_true, Bool.or_eq_true, Bool.and_eq_false_iff, Bool.or_eq_false_iff, Bool.not_eq_true', Bool.not_eq_false', decide_eq_true_eq, decide_eq_false_iff_not, beq_iff_eq, beq_eq_false_iff_ne, bne_iff_ne, bne_eq_false_iff_eq, ne_eq, Int.toNat_natCast] at *
      omega
    obtain ⟨g, n', cap', hA⟩ := own_some ho (by intro h; have := strs_nil h; rw [this] at h2; simp at h2)
    injection hA with hA hn' hcap
    subst hA
    obtain ⟨rest, fz, rfl, ho1, ho2, ho3, ho4⟩ := own_row ho
    rw [List.length_append, strs_length] at ho2 ho4
    refine j_q (qs_ac) ?_
    refine j_loop (fun m vs S' => ∃ k : Nat, vs = [.int .i64 (k : Int)] ∧ S' = [[(g, .cells (strs ss ++ rest).toArray 26 fz)]] ∧ 1 ≤ k ∧ k ≤ ss.length ∧ cp (ss.take k) = ss.take k ∧ m = ss.length - k) ⟨_, 1, rfl, rfl, Nat.le_refl _, by omega, cp_one (by omega), rfl⟩ ?_
    rintro m vs S' hlen ⟨k, rfl, rfl, hk1, hkn, hcp, rfl⟩
    refine j_q (qs_lenl Try.underlying38 rfl) ?_
    refine j_q (qs_lss rfl rfl) ?_
    refine j_cond rfl (fun hc1 => ?_) (fun hc1 => ?_)
    · skip
      have hk : k < ss.length := by
        simp only [Bool.and_eq_true, Bool.or_eq_true, Bool.and_eq_false_iff, Bool.or_eq_false_iff, Bool.not_eq_true', Bool.not_eq_false', decide_eq_true_eq, decide_eq_false_iff_not, beq_iff_eq, beq_eq_false_iff_ne, bne_iff_ne, bne_eq_false_iff_eq, ne_eq, Int.toNat_natCast] at *
        omega
      refine j_draw ?_
      first
        | refine jq_q (qs_ixg Try.underlying38 sz26 rfl rfl ⟨(by first | omega | (simp only [Bool.and_eq_true, Bool.or_eq_true, Bool.and_eq_false_iff, Bool.or_eq_false_iff, Bool.not_eq_true', Bool.not_eq_false', decide_eq_true_eq, decide_eq_false_iff_not, beq_iff_eq, beq_eq_false_iff_ne, bne_iff_ne, bne_eq_false_iff_eq, ne_eq, Int.toNat_natCast] at *; omega)), (by first | omega | (simp only [Bool.and_eq_true, Bool.or_eq_true, Bool.and_eq_false_iff, Bool.or_eq_false_iff, Bool.not_eq_true', Bool.not_eq_false', decide_eq_true_eq, decide_eq_false_iff_not, beq_iff_eq, beq_eq_false_iff_ne, bne_iff_ne, bne_eq_false_iff_eq, ne_eq, Int.toNat_natCast] at *; omega))⟩) ?_
        | refine jq_q (qs_ixl0 Try.underlying38 sz26 rfl rfl ⟨(by first | omega | (simp only [Bool.and_eq_true, Bool.or_eq_true, Bool.and_eq_false_iff, Bool.or_eq_false_iff, Bool.not_eq_true', Bool.not_eq_false', decide_eq_true_eq, decide_eq_false_iff_not, beq_iff_eq, beq_eq_false_iff_ne, bne_iff_ne, bne_eq_false_iff_eq, ne_eq, Int.toNat_natCast] at *; omega)), (by first | omega | (simp only [Bool.and_eq_true, Bool.or_eq_true, Bool.and_eq_false_iff, Bool.or_eq_false_iff, Bool.not_eq_true', Bool.not_eq_false', decide_eq_true_eq, decide_eq_false_iff_not, beq_iff_eq, beq_eq_false_iff_ne, bne_iff_ne, bne_eq_false_iff_eq, ne_eq, Int.toNat_natCast] at *; omega))⟩) ?_
      refine jq_q (qs_loadst 0 Try.underlying26 rfl rfl (by simp only [Int.toNat_natCast]; omega)) ?_
      simp only [Int.toNat_natCast]
      refine jq_q (qs_sub64 rfl rfl (by first | omega | (simp only [Bool.and_eq_true, Bool.or_eq_true, Bool.and_eq_false_iff, Bool.or_eq_false_iff, Bool.not_eq_true', Bool.not_eq_false', decide_eq_true_eq, decide_eq_false_iff_not, beq_iff_eq, beq_eq_false_iff_ne, bne_iff_ne, bne_eq_false_iff_eq, ne_eq, Int.toNat_natCast] at *; omega))) ?_
      first
        | refine jq_q (qs_ixg Try.underlying38 sz26 rfl rfl ⟨(by first | omega | (simp only [Bool.and_eq_true, Bool.or_eq_true, Bool.and_eq_false_iff, Bool.or_eq_false_iff, Bool.not_eq_true', Bool.not_eq_false', decide_eq_true_eq, decide_eq_false_iff_not, beq_iff_eq, beq_eq_false_iff_ne, bne_iff_ne, bne_eq_false_iff_eq, ne_eq, Int.toNat_natCast] at *; omega)), (by first | omega | (simp only [Bool.and_eq_true, Bool.or_eq_true, Bool.and_eq_false_iff, Bool.or_eq_false_iff, Bool.not_eq_true', Bool.not_eq_false', decide_eq_true_eq, decide_eq_false_iff_not, beq_iff_eq, beq_eq_false_iff_ne, bne_iff_ne, bne_eq_false_iff_eq, ne_eq, Int.toNat_natCast] at *; omega))⟩) ?_
        | refine jq_q (qs_ixl0 Try.underlying38 sz26 rfl rfl ⟨(by first | omega | (simp only [Bool.and_eq_true, Bool.or_eq_true, Bool.and_eq_false_iff, Bool.or_eq_false_iff, Bool.not_eq_true', Bool.not_eq_false', decide_eq_true_eq, decide_eq_false_iff_not, beq_iff_eq, beq_eq_false_iff_ne, bne_iff_ne, bne_eq_false_iff_eq, ne_eq, Int.toNat_natCast] at *; omega)), (by first | omega | (simp only [Bool.and_eq_true, Bool.or_eq_true, Bool.and_eq_false_iff, Bool.or_eq_false_iff, Bool.not_eq_true', Bool.not_eq_false', decide_eq_true_eq, decide_eq_false_iff_not, beq_iff_eq, beq_eq_false_iff_ne, bne_iff_ne, bne_eq_false_iff_eq, ne_eq, Int.toNat_natCast] at *; omega))⟩) ?_
      refine jq_q (qs_loadst (i := k - 1) 0 Try.underlying26 (by show Value.pointer (some ⟨g, ((k : Int) - 1).toNat, none⟩) = _; rw [show ((k : Int) - 1).toNat = k - 1 by omega]) rfl (by omega)) ?_
      refine jq_q (qs_seql rfl rfl) ?_
      refine jq_nil ?_
      refine j_cond rfl (fun hc2 => ?_) (fun hc2 => ?_)
      · skip
        have heq : ss.getD k [] = ss.getD (k - 1) [] := by simpa using hc2
        have hstep := cp_step (l := ss) (i := k) (by omega) hk
        rw [if_pos heq.symm, hcp] at hstep
        refine j_q (qs_cutl (a := k) Try.underlying38 sz26 rfl ⟨_, rfl⟩ rfl (by first | omega | (simp only [Bool.and_eq_true, Bool.or_eq_true, Bool.and_eq_false_iff, Bool.or_eq_false_iff, Bool.not_eq_true', Bool.not_eq_false', decide_eq_true_eq, decide_eq_false_iff_not, beq_iff_eq, beq_eq_false_iff_ne, bne_iff_ne, bne_eq_false_iff_eq, ne_eq, Int.toNat_natCast] at *; omega)) (by first | omega | (simp only [Bool.and_eq_true, Bool.or_eq_true, Bool.and_eq_false_iff, Bool.or_eq_false_iff, Bool.not_eq_true', Bool.not_eq_false', decide_eq_true_eq, decide_eq_false_iff_not, beq_iff_eq, beq_eq_false_iff_ne, bne_iff_ne, bne_eq_false_iff_eq, ne_eq, Int.toNat_natCast] at *; omega))) ?_
        rw [if_neg (show ¬ cap = k by omega)]
        simp only [Option.map_some, add_off, Nat.zero_add, Nat.mul_one]
        refine j_q (qs_ac) ?_
        refine j_loop (fun m vs S' => ∃ (k2 : Nat) (ys : List (List UInt8)), vs = [.int .i64 ((cp (ss.take (k + k2))).length : Int), .int .i64 (k2 : Int)] ∧ S' = [[(g, .cells (strs ys ++ rest).toArray 26 fz)]] ∧ ys.length = ss.length ∧ 1 ≤ k2 ∧ k + k2 ≤ ss.length ∧ ys.take (cp (ss.take (k + k2))).length = cp (ss.take (k + k2)) ∧ ys.drop (k + k2 - 1) = ss.drop (k + k2 - 1) ∧ (cp (ss.take (k + k2))).length ≤ k + k2 - 1 ∧ m = ss.length - k2) ⟨_, 1, ss, by rw [hstep, List.length_take, Nat.min_eq_left (by omega)]; rfl, rfl, rfl, Nat.le_refl _, by omega, by rw [hstep, List.length_take, Nat.min_eq_left (by omega)], rfl, by rw [hstep, List.length_take]; omega, rfl⟩ ?_
        rintro m vs S' hlen ⟨k2, ys, rfl, rfl, hyl, hk21, hk2n, ht, hd, hle, rfl⟩
        refine j_q (qs_lenl Try.underlying38 rfl) ?_
        refine j_q (qs_lss rfl rfl) ?_
        refine j_cond rfl (fun hc3 => ?_) (fun hc3 => ?_)
        · skip
          have hk2 : k + k2 < ss.length := by
            simp only [Bool.and_eq_true, Bool.or_eq_true, Bool.and_eq_false_iff, Bool.or_eq_false_iff, Bool.not_eq_true', Bool.not_eq_false', decide_eq_true_eq, decide_eq_false_iff_not, beq_iff_eq, beq_eq_false_iff_ne, bne_iff_ne, bne_eq_false_iff_eq, ne_eq, Int.toNat_natCast] at *
            omega
          refine j_draw ?_
          first
            | refine jq_q (qs_ixg Try.underlying38 sz26 rfl rfl ⟨(by first | omega | (simp only [Bool.and_eq_true, Bool.or_eq_true, Bool.and_eq_false_iff, Bool.or_eq_false_iff, Bool.not_eq_true', Bool.not_eq_false', decide_eq_true_eq, decide_eq_false_iff_not, beq_iff_eq, beq_eq_false_iff_ne, bne_iff_ne, bne_eq_false_iff_eq, ne_eq, Int.toNat_natCast] at *; omega)), (by first | omega | (simp only [Bool.and_eq_true, Bool.or_eq_true, Bool.and_eq_false_iff, Bool.or_eq_false_iff, Bool.not_eq_true', Bool.not_eq_false', decide_eq_true_eq, decide_eq_false_iff_not, beq_iff_eq, beq_eq_false_iff_ne, bne_iff_ne, bne_eq_false_iff_eq, ne_eq, Int.toNat_natCast] at *; omega))⟩) ?_
            | refine jq_q (qs_ixl0 Try.underlying38 sz26 rfl rfl ⟨(by first | omega | (simp only [Bool.and_eq_true, Bool.or_eq_true, Bool.and_eq_false_iff, Bool.or_eq_false_iff, Bool.not_eq_true', Bool.not_eq_false', decide_eq_true_eq, decide_eq_false_iff_not, beq_iff_eq, beq_eq_false_iff_ne, bne_iff_ne, bne_eq_false_iff_eq, ne_eq, Int.toNat_natCast] at *; omega)), (by first | omega | (simp only [Bool.and_eq_true, Bool.or_eq_true, Bool.and_eq_false_iff, Bool.or_eq_false_iff, Bool.not_eq_true', Bool.not_eq_false', decide_eq_true_eq, decide_eq_false_iff_not, beq_iff_eq, beq_eq_false_iff_ne, bne_iff_ne, bne_eq_false_iff_eq, ne_eq, Int.toNat_natCast] at *; omega))⟩) ?_
          refine jq_q (qs_loadst0 0 Try.underlying26 rfl rfl (by simp only [Int.toNat_natCast]; omega)) ?_
          simp only [Int.toNat_natCast]
          refine jq_q (qs_sub64 rfl rfl (by first | omega | (simp only [Bool.and_eq_true, Bool.or_eq_true, Bool.and_eq_false_iff, Bool.or_eq_false_iff, Bool.not_eq_true', Bool.not_eq_false', decide_eq_true_eq, decide_eq_false_iff_not, beq_iff_eq, beq_eq_false_iff_ne, bne_iff_ne, bne_eq_false_iff_eq, ne_eq, Int.toNat_natCast] at *; omega))) ?_
          first
            | refine jq_q (qs_ixg Try.underlying38 sz26 rfl rfl ⟨(by first | omega | (simp only [Bool.and_eq_true, Bool.or_eq_true, Bool.and_eq_false_iff, Bool.or_eq_false_iff, Bool.not_eq_true', Bool.not_eq_false', decide_eq_true_eq, decide_eq_false_iff_not, beq_iff_eq, beq_eq_false_iff_ne, bne_iff_ne, bne_eq_false_iff_eq, ne_eq, Int.toNat_natCast] at *; omega)), (by first | omega | (simp only [Bool.and_eq_true, Bool.or_eq_true, Bool.and_eq_false_iff, Bool.or_eq_false_iff, Bool.not_eq_true', Bool.not_eq_false', decide_eq_true_eq, decide_eq_false_iff_not, beq_iff_eq, beq_eq_false_iff_ne, bne_iff_ne, bne_eq_false_iff_eq, ne_eq, Int.toNat_natCast] at *; omega))⟩) ?_
            | refine jq_q (qs_ixl0 Try.underlying38 sz26 rfl rfl ⟨(by first | omega | (simp only [Bool.and_eq_true, Bool.or_eq_true, Bool.and_eq_false_iff, Bool.or_eq_false_iff, Bool.not_eq_true', Bool.not_eq_false', decide_eq_true_eq, decide_eq_false_iff_not, beq_iff_eq, beq_eq_false_iff_ne, bne_iff_ne, bne_eq_false_iff_eq, ne_eq, Int.toNat_natCast] at *; omega)), (by first | omega | (simp only [Bool.and_eq_true, Bool.or_eq_true, Bool.and_eq_false_iff, Bool.or_eq_false_iff, Bool.not_eq_true', Bool.not_eq_false', decide_eq_true_eq, decide_eq_false_iff_not, beq_iff_eq, beq_eq_false_iff_ne, bne_iff_ne, bne_eq_false_iff_eq, ne_eq, Int.toNat_natCast] at *; omega))⟩) ?_
          refine jq_q (qs_loadst0 (i := k2 - 1) 0 Try.underlying26 (by show Value.pointer (some ((⟨g, k, none⟩ : Addr).add ((k2 : Int) - 1).toNat)) = _; rw [show ((k2 : Int) - 1).toNat = k2 - 1 by omega]) rfl (by omega)) ?_
          rw [show k + (k2 - 1) = k + k2 - 1 by omega]
          refine jq_q (qs_sneq rfl rfl) ?_
          refine jq_nil ?_
          refine j_cond rfl (fun hc4 => ?_) (fun hc4 => ?_)
          · skip
            have hne : ss.getD (k + k2) [] ≠ ss.getD (k + k2 - 1) [] := by
              rw [← drop_getD hd (Nat.le_refl _), ← drop_getD hd (show k + k2 - 1 ≤ k + k2 by omega)]
              simpa using hc4
            have hst := cp_step (l := ss) (i := k + k2) (by omega) hk2
            rw [if_neg (Ne.symm hne)] at hst
            first
              | refine j_q (qs_ixg Try.underlying38 sz26 rfl rfl ⟨(by first | omega | (simp only [Bool.and_eq_true, Bool.or_eq_true, Bool.and_eq_false_iff, Bool.or_eq_false_iff, Bool.not_eq_true', Bool.not_eq_false', decide_eq_true_eq, decide_eq_false_iff_not, beq_iff_eq, beq_eq_false_iff_ne, bne_iff_ne, bne_eq_false_iff_eq, ne_eq, Int.toNat_natCast] at *; omega)), (by first | omega | (simp only [Bool.and_eq_true, Bool.or_eq_true, Bool.and_eq_false_iff, Bool.or_eq_false_iff, Bool.not_eq_true', Bool.not_eq_false', decide_eq_true_eq, decide_eq_false_iff_not, beq_iff_eq, beq_eq_false_iff_ne, bne_iff_ne, bne_eq_false_iff_eq, ne_eq, Int.toNat_natCast] at *; omega))⟩) ?_
              | refine j_q (qs_ixl0 Try.underlying38 sz26 rfl rfl ⟨(by first | omega | (simp only [Bool.and_eq_true, Bool.or_eq_true, Bool.and_eq_false_iff, Bool.or_eq_false_iff, Bool.not_eq_true', Bool.not_eq_false', decide_eq_true_eq, decide_eq_false_iff_not, beq_iff_eq, beq_eq_false_iff_ne, bne_iff_ne, bne_eq_false_iff_eq, ne_eq, Int.toNat_natCast] at *; omega)), (by first | omega | (simp only [Bool.and_eq_true, Bool.or_eq_true, Bool.and_eq_false_iff, Bool.or_eq_false_iff, Bool.not_eq_true', Bool.not_eq_false', decide_eq_true_eq, decide_eq_false_iff_not, beq_iff_eq, beq_eq_false_iff_ne, bne_iff_ne, bne_eq_false_iff_eq, ne_eq, Int.toNat_natCast] at *; omega))⟩) ?_
            refine j_q (qs_loadst0 0 Try.underlying26 rfl rfl (by simp only [Int.toNat_natCast]; omega)) ?_
            simp only [Int.toNat_natCast]
            first
              | refine j_q (qs_ixg Try.underlying38 sz26 rfl rfl ⟨(by first | omega | (simp only [Bool.and_eq_true, Bool.or_eq_true, Bool.and_eq_false_iff, Bool.or_eq_false_iff, Bool.not_eq_true', Bool.not_eq_false', decide_eq_true_eq, decide_eq_false_iff_not, beq_iff_eq, beq_eq_false_iff_ne, bne_iff_ne, bne_eq_false_iff_eq, ne_eq, Int.toNat_natCast] at *; omega)), (by first | omega | (simp only [Bool.and_eq_true, Bool.or_eq_true, Bool.and_eq_false_iff, Bool.or_eq_false_iff, Bool.not_eq_true', Bool.not_eq_false', decide_eq_true_eq, decide_eq_false_iff_not, beq_iff_eq, beq_eq_false_iff_ne, bne_iff_ne, bne_eq_false_iff_eq, ne_eq, Int.toNat_natCast] at *; omega))⟩) ?_
              | refine j_q (qs_ixl0 Try.underlying38 sz26 rfl rfl ⟨(by first | omega | (simp only [Bool.and_eq_true, Bool.or_eq_true, Bool.and_eq_false_iff, Bool.or_eq_false_iff, Bool.not_eq_true', Bool.not_eq_false', decide_eq_true_eq, decide_eq_false_iff_not, beq_iff_eq, beq_eq_false_iff_ne, bne_iff_ne, bne_eq_false_iff_eq, ne_eq, Int.toNat_natCast] at *; omega)), (by first | omega | (simp only [Bool.and_eq_true, Bool.or_eq_true, Bool.and_eq_false_iff, Bool.or_eq_false_iff, Bool.not_eq_true', Bool.not_eq_false', decide_eq_true_eq, decide_eq_false_iff_not, beq_iff_eq, beq_eq_false_iff_ne, bne_iff_ne, bne_eq_false_iff_eq, ne_eq, Int.toNat_natCast] at *; omega))⟩) ?_
            refine j_storest 0 sz26 rfl rfl rfl (ho4 _ (by simp only [Int.toNat_natCast]; omega)) (by simp only [Int.toNat_natCast]; omega) ?_
            simp only [Int.toNat_natCast]
            refine j_q (qs_add64 rfl rfl (by first | omega | (simp only [Bool.and_eq_true, Bool.or_eq_true, Bool.and_eq_false_iff, Bool.or_eq_false_iff, Bool.not_eq_true', Bool.not_eq_false', decide_eq_true_eq, decide_eq_false_iff_not, beq_iff_eq, beq_eq_false_iff_ne, bne_iff_ne, bne_eq_false_iff_eq, ne_eq, Int.toNat_natCast] at *; omega))) ?_
            refine j_q (qs_add64 rfl rfl (by first | omega | (simp only [Bool.and_eq_true, Bool.or_eq_true, Bool.and_eq_false_iff, Bool.or_eq_false_iff, Bool.not_eq_true', Bool.not_eq_false', decide_eq_true_eq, decide_eq_false_iff_not, beq_iff_eq, beq_eq_false_iff_ne, bne_iff_ne, bne_eq_false_iff_eq, ne_eq, Int.toNat_natCast] at *; omega))) ?_
            refine j_back rfl ?_
            refine ⟨ss.length - (k2 + 1), by omega, k2 + 1, ys.set (cp (ss.take (k + k2))).length (ys.getD (k + k2) []), ?_⟩
            rw [show k + (k2 + 1) = k + k2 + 1 by omega, hst, List.length_append, List.length_singleton]
            refine ⟨rfl, rfl, by rw [List.length_set]; exact hyl, by omega, by omega, ?_, ?_, by omega, rfl⟩
            · rw [take_set_next (by omega), ht, drop_getD hd (show k + k2 - 1 ≤ k + k2 by omega)]
            · rw [List.drop_set_of_lt (by omega)]
              exact drop_mono hd (by omega)
          · skip
            have heq2 : ss.getD (k + k2) [] = ss.getD (k + k2 - 1) [] := by
              rw [← drop_getD hd (Nat.le_refl _), ← drop_getD hd (show k + k2 - 1 ≤ k + k2 by omega)]
              simpa using hc4
            have hst := cp_step (l := ss) (i := k + k2) (by omega) hk2
            rw [if_pos heq2.symm] at hst
            refine j_q (qs_add64 rfl rfl (by first | omega | (simp only [Bool.and_eq_true, Bool.or_eq_true, Bool.and_eq_false_iff, Bool.or_eq_false_iff, Bool.not_eq_true', Bool.not_eq_false', decide_eq_true_eq, decide_eq_false_iff_not, beq_iff_eq, beq_eq_false_iff_ne, bne_iff_ne, bne_eq_false_iff_eq, ne_eq, Int.toNat_natCast] at *; omega))) ?_
            refine j_back rfl ?_
            refine ⟨ss.length - (k2 + 1), by omega, k2 + 1, ys, ?_⟩
            rw [show k + (k2 + 1) = k + k2 + 1 by omega, hst]
            exact ⟨rfl, rfl, hyl, by omega, by omega, ht, drop_mono hd (by omega), by omega, rfl⟩
        · skip
          have hk2 : k + k2 = ss.length := by
            simp only [Bool.and_eq_true, Bool.or_eq_true, Bool.and_eq_false_iff, Bool.or_eq_false_iff, Bool.not_eq_true', Bool.not_eq_false', decide_eq_true_eq, decide_eq_false_iff_not, beq_iff_eq, beq_eq_false_iff_ne, bne_iff_ne, bne_eq_false_iff_eq, ne_eq, Int.toNat_natCast] at *
            omega
          have hcpe : cp (ss.take (k + k2)) = cp ss := by rw [hk2, List.take_of_length_le (Nat.le_refl _)]
          rw [hcpe] at ht hle ⊢
          refine j_q (qs_cutl (a := (cp ss).length) Try.underlying38 sz26 rfl ⟨_, rfl⟩ rfl (by first | omega | (simp only [Bool.and_eq_true, Bool.or_eq_true, Bool.and_eq_false_iff, Bool.or_eq_false_iff, Bool.not_eq_true', Bool.not_eq_false', decide_eq_true_eq, decide_eq_false_iff_not, beq_iff_eq, beq_eq_false_iff_ne, bne_iff_ne, bne_eq_false_iff_eq, ne_eq, Int.toNat_natCast] at *; omega)) (by first | omega | (simp only [Bool.and_eq_true, Bool.or_eq_true, Bool.and_eq_false_iff, Bool.or_eq_false_iff, Bool.not_eq_true', Bool.not_eq_false', decide_eq_true_eq, decide_eq_false_iff_not, beq_iff_eq, beq_eq_false_iff_ne, bne_iff_ne, bne_eq_false_iff_eq, ne_eq, Int.toNat_natCast] at *; omega))) ?_
          rw [if_neg (show ¬ cap = (cp ss).length by omega)]
          simp only [Option.map_some, add_off, Nat.zero_add, Nat.mul_one]
          refine j_clear (z := .string (bs [])) 0 Try.underlying38 zero26 rfl rfl rfl (by simp [strs_length]; omega) (fun j h1 h2 => ho4 j (by omega)) ?_
          refine j_q (qs_cutl (z := (cp ss).length) Try.underlying38 sz26 rfl rfl ⟨_, rfl⟩ (by first | omega | (simp only [Bool.and_eq_true, Bool.or_eq_true, Bool.and_eq_false_iff, Bool.or_eq_false_iff, Bool.not_eq_true', Bool.not_eq_false', decide_eq_true_eq, decide_eq_false_iff_not, beq_iff_eq, beq_eq_false_iff_ne, bne_iff_ne, bne_eq_false_iff_eq, ne_eq, Int.toNat_natCast] at *; omega)) (by first | omega | (simp only [Bool.and_eq_true, Bool.or_eq_true, Bool.and_eq_false_iff, Bool.or_eq_false_iff, Bool.not_eq_true', Bool.not_eq_false', decide_eq_true_eq, decide_eq_false_iff_not, beq_iff_eq, beq_eq_false_iff_ne, bne_iff_ne, bne_eq_false_iff_eq, ne_eq, Int.toNat_natCast] at *; omega))) ?_
          rw [if_neg (show ¬ cap = 0 by omega)]
          simp only [Option.map_some, Nat.zero_mul, add_zero_, Nat.sub_zero]
          refine j_ret_con (vs := [_]) (fun w' hw' => ⟨rfl, trivial⟩) ?_
          refine ⟨_, rfl, .inr ⟨g, (cp ss).length, cap, List.replicate (ss.length - (cp ss).length) (.string (bs [])) ++ rest, fz, rfl, ?_, by rw [strs_length, Nat.mul_one], by simp only [List.length_append, List.length_replicate, strs_length]; omega, by omega, fun j hj => ho4 j (by simp only [List.length_append, List.length_replicate, strs_length] at hj; omega)⟩⟩
          rw [List.take_append_of_le_length (by rw [strs_length]; omega), strs_take, ht, show (cp ss).length + (ss.length - (cp ss).length) = (strs ys).length by rw [strs_length]; omega, List.drop_left, List.append_assoc]
      · skip
        have hne : ss.getD k [] ≠ ss.getD (k - 1) [] := by simpa using hc2
        have hstep := cp_step (l := ss) (i := k) (by omega) hk
        rw [if_neg (Ne.symm hne), hcp, ← take_snoc hk] at hstep
        refine j_q (qs_add64 rfl rfl (by first | omega | (simp only [Bool.and_eq_true, Bool.or_eq_true, Bool.and_eq_false_iff, Bool.or_eq_false_iff, Bool.not_eq_true', Bool.not_eq_false', decide_eq_true_eq, decide_eq_false_iff_not, beq_iff_eq, beq_eq_false_iff_ne, bne_iff_ne, bne_eq_false_iff_eq, ne_eq, Int.toNat_natCast] at *; omega))) ?_
        refine j_back rfl ?_
        exact ⟨_, by omega, k + 1, rfl, rfl, by omega, by omega, hstep, rfl⟩
    · skip
      obtain rfl : k = ss.length := by
        simp only [Bool.and_eq_true, Bool.or_eq_true, Bool.and_eq_false_iff, Bool.or_eq_false_iff, Bool.not_eq_true', Bool.not_eq_false', decide_eq_true_eq, decide_eq_false_iff_not, beq_iff_eq, beq_eq_false_iff_ne, bne_iff_ne, bne_eq_false_iff_eq, ne_eq, Int.toNat_natCast] at *
        omega
      refine j_ret_con (vs := [_]) (fun w' hw' => ⟨rfl, trivial⟩) ?_
      exact ⟨_, rfl, by rw [List.take_of_length_le (Nat.le_refl _)] at hcp; rw [hcp]; exact ho⟩
end Go.Proofs.Ytddecbkafdbkdaa
