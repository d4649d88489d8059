/- Locks by names: Give; what is taken out of a row. -/
import Derived.Test.YtlgfpoelhjlifaaTa
import Derived.Test.YtlgfpoelhjlifaaLk4
namespace Go.Proofs.Ytlgfpoelhjlifaa
open Go Go.Sx
set_option maxRecDepth 100000
set_option maxHeartbeats 4000000
set_option linter.unusedVariables false
set_option linter.unusedSimpArgs false
attribute [local irreducible] J JQ QS Con W opW
theorem ent55 : Sx.Enters Try.prog 55 := ⟨_, Try.func55, by kernel_rfl, by kernel_rfl⟩
theorem ent67 : Sx.Enters Try.prog 67 := ⟨_, Try.func67, by kernel_rfl, by kernel_rfl⟩

open Go.MapKept Go.WideMaps Go.Maps
theorem askers_take (r : List (Int × Bool)) (i : Nat) : askers (r.take i) = (askers r).take (i * 2) := by
  by_cases h : i ≤ r.length
  · conv => rhs; rw [← List.take_append_drop i r, askers_append]
    rw [List.take_left' (by rw [askers_length, List.length_take, Nat.min_eq_left h])]
  · rw [List.take_of_length_le (by omega), List.take_of_length_le (by rw [askers_length]; omega)]
theorem askers_drop (r : List (Int × Bool)) (i : Nat) : askers (r.drop i) = (askers r).drop (i * 2) := by
  by_cases h : i ≤ r.length
  · conv => rhs; rw [← List.take_append_drop i r, askers_append]
    rw [List.drop_left' (by rw [askers_length, List.length_take, Nat.min_eq_left h])]
  · rw [List.drop_of_length_le (by omega), List.drop_of_length_le (by rw [askers_length]; omega)]
    rfl
theorem row_win {pre rest tail : List Value} {r : List (Int × Bool)} {j : Nat} (h : j < r.length) : ((pre ++ (askers r ++ rest) ++ tail).drop (pre.length + j * 2)).take 2 = [.int .i64 (r.getD j (0, false)).1, .bool (r.getD j (0, false)).2] := by
  rw [List.append_assoc, List.append_assoc, ← List.drop_drop, List.drop_left' rfl, List.drop_append_of_le_length (by rw [askers_length]; omega), List.take_append_of_le_length (by rw [List.length_drop, askers_length]; omega)]
  exact askers_get h
theorem row_put {pre rest tail : List Value} {r : List (Int × Bool)} {i : Nat} {x : Int × Bool} (h : i < r.length) : (pre ++ (askers r ++ rest) ++ tail).take (pre.length + i * 2) ++ [.int .i64 x.1, .bool x.2] ++ (pre ++ (askers r ++ rest) ++ tail).drop (pre.length + i * 2 + 2) = pre ++ (askers (r.set i x) ++ rest) ++ tail := by
  have e1 : r.set i x = r.take i ++ x :: r.drop (i + 1) := List.set_eq_take_append_cons_drop.trans (by rw [if_pos h])
  rw [e1, askers_append, askers_cons, askers_take, askers_drop]
  have l1 : (pre ++ (askers r ++ rest) ++ tail).take (pre.length + i * 2) = pre ++ (askers r).take (i * 2) := by
    rw [List.append_assoc, List.append_assoc, List.take_length_add_append, List.take_append_of_le_length (by rw [askers_length]; omega)]
  have l2 : (pre ++ (askers r ++ rest) ++ tail).drop (pre.length + i * 2 + 2) = (askers r).drop ((i + 1) * 2) ++ (rest ++ tail) := by
    rw [List.append_assoc, List.append_assoc, Nat.add_assoc, ← List.drop_drop, List.drop_left' rfl, List.drop_append_of_le_length (by rw [askers_length]; omega), show i * 2 + 2 = (i + 1) * 2 by omega]
  rw [l1, l2]
  simp only [List.append_assoc, List.cons_append, List.nil_append]
theorem row_clear {pre rest tail zs : List Value} {r : List (Int × Bool)} {i n : Nat} (hn : r.length = n) (h : i ≤ n) (hz : zs.length = (n - i) * 2) : (pre ++ (askers r ++ rest) ++ tail).take (pre.length + i * 2) ++ zs ++ (pre ++ (askers r ++ rest) ++ tail).drop (pre.length + i * 2 + (n - i) * 2) = pre ++ (askers (r.take i) ++ (zs ++ rest)) ++ tail := by
  have l1 : (pre ++ (askers r ++ rest) ++ tail).take (pre.length + i * 2) = pre ++ askers (r.take i) := by
    rw [List.append_assoc, List.append_assoc, List.take_length_add_append, List.take_append_of_le_length (by rw [askers_length]; omega), askers_take]
  have l2 : (pre ++ (askers r ++ rest) ++ tail).drop (pre.length + i * 2 + (n - i) * 2) = rest ++ tail := by
    rw [List.append_assoc, List.append_assoc, Nat.add_assoc, ← List.drop_drop, List.drop_left' rfl, List.drop_left' (by rw [askers_length]; omega)]
  rw [l1, l2]
  simp only [List.append_assoc]
def keepB (t : Int) (x : Int × Bool) : Bool := decide (x.1 ≠ t)
theorem filter_all {t : Int} {r : List (Int × Bool)} (h : ∀ x ∈ r, x.1 ≠ t) : r.filter (keepB t) = r := by
  rw [List.filter_eq_self]
  intro x hx
  simpa [keepB] using h x hx
theorem take_succ_getD {r : List (Int × Bool)} {j : Nat} (h : j < r.length) : r.take (j + 1) = r.take j ++ [r.getD j (0, false)] := by
  rw [List.take_add_one, List.getElem?_eq_getElem h, List.getD_eq_getElem?_getD, List.getElem?_eq_getElem h]
  rfl
theorem drop_get {r s : List (Int × Bool)} {j : Nat} (h : r.drop j = s.drop j) : r.getD j (0, false) = s.getD j (0, false) ∧ r.drop (j + 1) = s.drop (j + 1) := by
  constructor
  · have := congrArg (fun l : List (Int × Bool) => l.getD 0 (0, false)) h
    simpa [List.getD_eq_getElem?_getD] using this
  · rw [← List.drop_drop, ← List.drop_drop, h]
abbrev delV (gb : Nat) : Value := .func (.func 55) #[] #[.pointer (some ⟨gb, 0, none⟩)]
/-- (*pantry.locks.Table).Leave$1 -/
theorem del_con (t : Int) (x : Int × Bool) (gb : Nat) (w : World) (hb : w.heap[gb]? = some (.cells [Value.int .i64 t].toArray 3 (0, 0))) : Con Try.prog 55 [.agg [.int .i64 x.1, .bool x.2].toArray, .pointer (some ⟨gb, 0, none⟩)] w [] fun v _ => v = .bool (x.1 == t) := by
  refine con_of_tree mix Try.func55 T55_ok (by kernel_rfl) ?_
  unfold T55
  refine j_box (l := [.int .i64 x.1, .bool x.2]) rfl (fun g0 hg0 hs0 => ?_)
  refine j_q (qs_ac) ?_
  refine j_q (qs_field Try.underlying102 rfl sz3 (by decide) rfl) ?_
  refine j_q (qs_load (l := [.int .i64 x.1, .bool x.2]) 0 Try.underlying3 rfl rfl rfl rfl) ?_
  refine j_q (qs_loadO (rdo_base (o := .cells [Value.int .i64 t].toArray 3 (0, 0)) hb (by simp)) Try.underlying3 rfl rfl rfl) ?_
  refine j_q (qs_eql rfl rfl) ?_
  refine j_ret_con (vs := [_]) (fun w' hw' => ⟨rfl, trivial⟩) ?_
  rfl
/-- slices.IndexFunc[[]pantry.locks.asker,pantry.locks.asker] -/
theorem index_con (t : Int) (row : List (Int × Bool)) (rv : Value) (rc : SH) (gb : Nat) (w : World) (ho : OwnO 102 2 (askers row) rv rc) (hin : In w rc) (hb : w.heap[gb]? = some (.cells [Value.int .i64 t].toArray 3 (0, 0))) (hB : row.length ≤ 1000000) : Con Try.prog 67 [rv, delV gb] w [] fun v S' => ∃ k : Int, v = .int .i64 k ∧ ((k = -1 ∧ ∀ x ∈ row, x.1 ≠ t) ∨ ∃ i : Nat, i < row.length ∧ k = i ∧ (∀ x ∈ row.take i, x.1 ≠ t) ∧ (row.getD i (0, false)).1 = t) := by
  refine con_of_tree mix Try.func67 T67_ok (by kernel_rfl) ?_
  unfold T67
  obtain ⟨n1, A1, cap1, gr, ro, hrv, hn1, hcap1, hA⟩ := row_first ho
  have hrow : row ≠ [] → OwnO 102 2 (askers row) (.slice (some ⟨gr, ro, none⟩) n1 cap1) rc := fun h => by
    rw [← hA h, ← hrv]
    exact ho
  refine j_q (qs_ac) ?_
  refine j_q (qs_lenl Try.underlying104 hrv) ?_
  refine j_q (qs_mc) ?_
  refine j_loop (fun m vs S' => ∃ i : Nat, vs = [.int .i64 (i : Int)] ∧ S' = [[]] ∧ (∀ x ∈ row.take i, x.1 ≠ t) ∧ i ≤ row.length ∧ m = row.length - i) ⟨_, 0, rfl, rfl, (fun x hx => by simp at hx), Nat.zero_le _, rfl⟩ ?_
  rintro m vs S' hlen ⟨i, rfl, rfl, hnt, hi, hmi⟩
  refine j_q (qs_lss rfl rfl) ?_
  refine j_cond rfl (fun hc0 => ?_) (fun hc0 => ?_)
  · skip
    have hi1 : i < row.length := by
      simp only [Bool.and_eq_true, Bool.or_eq_true, Bool.and_eq_false_iff, Bool.or_eq_false_iff, Bool.not_eq_true', Bool.not_eq_false', decide_eq_true_eq, decide_eq_false_iff_not, beq_iff_eq, beq_eq_false_iff_ne, bne_iff_ne, bne_eq_false_iff_eq, ne_eq, Int.toNat_natCast] at *
      omega
    have hne : row ≠ [] := fun e => by rw [e] at hi1; simp at hi1
    refine j_q (qs_ixl (a := ⟨gr, ro, none⟩) (n := n1) (c := cap1) Try.underlying104 sz102 (hrv.trans (by rw [hA hne])) rfl (by omega) (by omega)) ?_
    rw [add_off, Int.toNat_natCast]
    refine j_q (qs_loadwR (rd_win (ownO_base (hrow hne) hin (by simp)) (i * 2) 2) Try.underlying102 rfl sz102 rfl (by rw [askers_get hi1]; rfl)) ?_
    rw [askers_get hi1]
    refine j_q (qs_callf ent55 rfl rfl rfl (fun w' hw' => del_con t (row.getD i (0, false)) gb w' ((hw'.frame gb (lt_of_get hb) (by simp)).trans hb))) ?_
    refine j_cond rfl (fun hc1 => ?_) (fun hc1 => ?_)
    · skip
      refine j_ret_con (vs := [_]) (fun w' hw' => ⟨rfl, trivial⟩) ?_
      exact ⟨_, rfl, .inr ⟨i, hi1, rfl, hnt, by simpa using hc1⟩⟩
    · skip
      have hxt : (row.getD i (0, false)).1 ≠ t := by simpa using hc1
      refine j_q (qs_add64 rfl rfl (by first | omega | (simp only [Bool.and_eq_true, Bool.or_eq_true, Bool.and_eq_false_iff, Bool.or_eq_false_iff, Bool.not_eq_true', Bool.not_eq_false', decide_eq_true_eq, decide_eq_false_iff_not, beq_iff_eq, beq_eq_false_iff_ne, bne_iff_ne, bne_eq_false_iff_eq, ne_eq, Int.toNat_natCast] at *; omega))) ?_
      refine j_back rfl ?_
      exact ⟨row.length - (i + 1), by omega, i + 1, rfl, rfl, fun y hy => by
        rw [take_succ_getD hi1] at hy
        rcases List.mem_append.1 hy with hy | hy
        · exact hnt y hy
        · rw [List.mem_singleton] at hy; rw [hy]; exact hxt, by omega, rfl⟩
  · skip
    obtain rfl : i = row.length := by
      simp only [Bool.and_eq_true, Bool.or_eq_true, Bool.and_eq_false_iff, Bool.or_eq_false_iff, Bool.not_eq_true', Bool.not_eq_false', decide_eq_true_eq, decide_eq_false_iff_not, beq_iff_eq, beq_eq_false_iff_ne, bne_iff_ne, bne_eq_false_iff_eq, ne_eq, Int.toNat_natCast] at *
      omega
    rw [List.take_of_length_le (Nat.le_refl _)] at hnt
    refine j_q (qs_ac) ?_
    refine j_ret_con (vs := [_]) (fun w' hw' => ⟨rfl, trivial⟩) ?_
    exact ⟨_, rfl, .inl ⟨rfl, hnt⟩⟩
/-- slices.DeleteFunc[[]pantry.locks.asker,pantry.locks.asker] -/
theorem delete_con (t : Int) (row : List (Int × Bool)) (rv : Value) (rc : SH) (gb : Nat) (w : World) (ho : OwnO 102 2 (askers row) rv rc) (hb : w.heap[gb]? = some (.cells [Value.int .i64 t].toArray 3 (0, 0))) (hD : gb ∉ dom rc) (hB : row.length ≤ 1000000) : Con Try.prog 54 [rv, delV gb] w rc fun u S' => ∃ c', S' = [c'] ∧ OwnO 102 2 (askers (row.filter (keepB t))) u c' := by
  refine con_of_tree mix Try.func54 T54_ok (by kernel_rfl) ?_
  unfold T54
  refine j_q (qs_ac) ?_
  refine j_call0 ent67 rfl rfl rfl (fun w' hw' => index_con t row rv rc gb w' ho (in_own hw' 0 rfl) ((hw'.frame gb (lt_of_get hb) hD).trans hb) hB) (fun u S2 hu => ?_)
  obtain ⟨k0, rfl, hk0⟩ := hu
  refine j_subl (S' := [rc]) (List.sublist_append_right _ _) ?_
  refine j_q (qs_eql rfl rfl) ?_
  refine j_cond rfl (fun hc0 => ?_) (fun hc0 => ?_)
  · skip
    have hno : ∀ x ∈ row, x.1 ≠ t := by
      rcases hk0 with ⟨_, h⟩ | ⟨i, _, rfl, _⟩
      · exact h
      · simp at hc0
    refine j_ret_con (vs := [_]) (fun w' hw' => ⟨rfl, trivial⟩) ?_
    exact ⟨_, rfl, by rw [filter_all hno]; exact ho⟩
  · skip
    obtain ⟨i0, hi0, rfl, hnt0, hit0⟩ : ∃ i : Nat, i < row.length ∧ k0 = i ∧ (∀ x ∈ row.take i, x.1 ≠ t) ∧ (row.getD i (0, false)).1 = t := by
      rcases hk0 with ⟨rfl, h⟩ | h
      · simp at hc0
      · exact h
    obtain ⟨g, n1, cap1, pre, rest, tail, fz, rfl, rfl, hxl, hcl, hnc, hfz⟩ : ∃ g n cap pre rest tail fz, rv = .slice (some ⟨g, pre.length, none⟩) n cap ∧ rc = [(g, .cells (pre ++ (askers row ++ rest) ++ tail).toArray 102 fz)] ∧ (askers row).length = n * 2 ∧ (askers row ++ rest).length = cap * 2 ∧ n ≤ cap ∧ ∀ j, j < (pre ++ (askers row ++ rest) ++ tail).length → ¬ (fz.1 ≤ j ∧ j < fz.2) := by
      rcases ho with ⟨_, h, _⟩ | h
      · have := congrArg List.length h
        rw [askers_length] at this
        simp at this
        omega
      · exact h
    rw [askers_length] at hxl
    obtain rfl : n1 = row.length := by omega
    rw [List.length_append, askers_length] at hcl
    refine j_q (qs_add64 rfl rfl (by first | omega | (simp only [Bool.and_eq_true, Bool.or_eq_true, Bool.and_eq_false_iff, Bool.or_eq_false_iff, Bool.not_eq_true', Bool.not_eq_false', decide_eq_true_eq, decide_eq_false_iff_not, beq_iff_eq, beq_eq_false_iff_ne, bne_iff_ne, bne_eq_false_iff_eq, ne_eq, Int.toNat_natCast] at *; omega))) ?_
    refine j_loop (fun m vs S' => ∃ (i j : Nat) (cur : List (Int × Bool)), vs = [.int .i64 (i : Int), .int .i64 (j : Int)] ∧ S' = [[(g, .cells (pre ++ (askers cur ++ rest) ++ tail).toArray 102 fz)]] ∧ cur.length = row.length ∧ cur.take i = (row.take j).filter (keepB t) ∧ cur.drop j = row.drop j ∧ i < j ∧ j ≤ row.length ∧ m = row.length - j) ⟨_, i0, i0 + 1, row, rfl, rfl, rfl, by rw [take_succ_getD hi0, List.filter_append, filter_all hnt0, List.filter_cons_of_neg (by unfold keepB; rw [hit0]; simp)]; simp, rfl, Nat.lt_succ_self _, hi0, rfl⟩ ?_
    rintro m vs S' hlen ⟨i, j, cur, rfl, rfl, hcl0, htk, hdr, hij, hj, hmj⟩
    refine j_q (qs_lenl Try.underlying104 rfl) ?_
    refine j_q (qs_lss rfl rfl) ?_
    refine j_cond rfl (fun hc1 => ?_) (fun hc1 => ?_)
    · skip
      have hj1 : j < row.length := by
        simp only [Bool.and_eq_true, Bool.or_eq_true, Bool.and_eq_false_iff, Bool.or_eq_false_iff, Bool.not_eq_true', Bool.not_eq_false', decide_eq_true_eq, decide_eq_false_iff_not, beq_iff_eq, beq_eq_false_iff_ne, bne_iff_ne, bne_eq_false_iff_eq, ne_eq, Int.toNat_natCast] at *
        omega
      obtain ⟨hjg, hjd⟩ := drop_get hdr
      have hll : (pre ++ (askers cur ++ rest) ++ tail).length = pre.length + row.length * 2 + rest.length + tail.length := by simp only [List.length_append, askers_length, hcl0]; omega
      refine j_q (qs_ixl (a := ⟨g, pre.length, none⟩) Try.underlying104 sz102 rfl rfl (by omega) (by omega)) ?_
      rw [add_off, Int.toNat_natCast]
      refine j_q (qs_loadwR (rd_rdo (off := pre.length + j * 2) (n := 2) (rdo_own 0 rfl) rfl) Try.underlying102 rfl sz102 rfl (by rw [row_win (by omega)]; rfl)) ?_
      rw [row_win (by omega), hjg]
      refine j_alloc zero102 (fun g8 hg8 hs8 => ?_)
      refine j_storew 0 sz102 rfl rfl rfl (by simp [oneV]) rfl rfl ?_
      first
        | refine j_q (qs_loadw 0 Try.underlying102 rfl sz102 rfl rfl rfl) ?_
        | refine j_q (qs_loadw 1 Try.underlying102 rfl sz102 rfl rfl rfl) ?_
      refine j_q (qs_callf ent55 rfl rfl rfl (fun w' hw' => del_con t (row.getD j (0, false)) gb w' ((hw'.frame gb (lt_of_get hb) hD).trans hb))) ?_
      refine j_q (qs_not rfl) ?_
      refine j_cond rfl (fun hc2 => ?_) (fun hc2 => ?_)
      · skip
        have hxt : (row.getD j (0, false)).1 ≠ t := by simpa using hc2
        first
          | refine j_q (qs_loadw 0 Try.underlying102 rfl sz102 rfl rfl rfl) ?_
          | refine j_q (qs_loadw 1 Try.underlying102 rfl sz102 rfl rfl rfl) ?_
        refine j_q (qs_ixl (a := ⟨g, pre.length, none⟩) Try.underlying104 sz102 rfl rfl (by omega) (by omega)) ?_
        rw [add_off, Int.toNat_natCast]
        refine j_storea (vs := [.int .i64 (row.getD j (0, false)).1, .bool (row.getD j (0, false)).2]) 1 sz102 rfl rfl rfl (by simp [oneV]) rfl (by rw [hll]; omega) (fun q h1 h2 => by
          have := hfz q (by simp only [List.length_append, askers_length] at hll ⊢; omega)
          exact this) ?_
        rw [row_put (by omega)]
        refine j_q (qs_add64 rfl rfl (by first | omega | (simp only [Bool.and_eq_true, Bool.or_eq_true, Bool.and_eq_false_iff, Bool.or_eq_false_iff, Bool.not_eq_true', Bool.not_eq_false', decide_eq_true_eq, decide_eq_false_iff_not, beq_iff_eq, beq_eq_false_iff_ne, bne_iff_ne, bne_eq_false_iff_eq, ne_eq, Int.toNat_natCast] at *; omega))) ?_
        refine j_q (qs_add64 rfl rfl (by first | omega | (simp only [Bool.and_eq_true, Bool.or_eq_true, Bool.and_eq_false_iff, Bool.or_eq_false_iff, Bool.not_eq_true', Bool.not_eq_false', decide_eq_true_eq, decide_eq_false_iff_not, beq_iff_eq, beq_eq_false_iff_ne, bne_iff_ne, bne_eq_false_iff_eq, ne_eq, Int.toNat_natCast] at *; omega))) ?_
        refine j_subl (S' := [[(g, .cells (pre ++ (askers (cur.set i (row.getD j (0, false))) ++ rest) ++ tail).toArray 102 fz)]]) (by repeat first | exact List.Sublist.refl _ | exact List.nil_sublist _ | apply List.Sublist.cons_cons | apply List.Sublist.cons) ?_
        refine j_back rfl ?_
        exact ⟨row.length - (j + 1), by omega, i + 1, j + 1, _, rfl, rfl, by rw [List.length_set]; exact hcl0, by
          rw [take_succ_getD (by rw [List.length_set]; omega), List.take_set_of_le (Nat.le_refl _), take_succ_getD hj1, List.filter_append, ← htk, List.filter_cons_of_pos (by unfold keepB; simpa using hxt), List.filter_nil, List.getD_eq_getElem?_getD, List.getElem?_set_self (by omega)]
          rfl, by rw [List.drop_set_of_lt (by omega)]; exact hjd, by omega, by omega, rfl⟩
      · skip
        have hxt : (row.getD j (0, false)).1 = t := by simpa using hc2
        refine j_q (qs_add64 rfl rfl (by first | omega | (simp only [Bool.and_eq_true, Bool.or_eq_true, Bool.and_eq_false_iff, Bool.or_eq_false_iff, Bool.not_eq_true', Bool.not_eq_false', decide_eq_true_eq, decide_eq_false_iff_not, beq_iff_eq, beq_eq_false_iff_ne, bne_iff_ne, bne_eq_false_iff_eq, ne_eq, Int.toNat_natCast] at *; omega))) ?_
        refine j_subl (S' := [[(g, .cells (pre ++ (askers cur ++ rest) ++ tail).toArray 102 fz)]]) (by repeat first | exact List.Sublist.refl _ | exact List.nil_sublist _ | apply List.Sublist.cons_cons | apply List.Sublist.cons) ?_
        refine j_back rfl ?_
        exact ⟨row.length - (j + 1), by omega, i, j + 1, cur, rfl, rfl, hcl0, by
          rw [take_succ_getD hj1, List.filter_append, ← htk, List.filter_cons_of_neg (by unfold keepB; simpa using hxt), List.filter_nil, List.append_nil], hjd, by omega, by omega, rfl⟩
    · skip
      obtain rfl : j = row.length := by
        simp only [Bool.and_eq_true, Bool.or_eq_true, Bool.and_eq_false_iff, Bool.or_eq_false_iff, Bool.not_eq_true', Bool.not_eq_false', decide_eq_true_eq, decide_eq_false_iff_not, beq_iff_eq, beq_eq_false_iff_ne, bne_iff_ne, bne_eq_false_iff_eq, ne_eq, Int.toNat_natCast] at *
        omega
      rw [List.take_of_length_le (Nat.le_refl _)] at htk
      have hll : (pre ++ (askers cur ++ rest) ++ tail).length = pre.length + row.length * 2 + rest.length + tail.length := by simp only [List.length_append, askers_length, hcl0]; omega
      refine j_q (qs_cutl (a := i) (z := row.length) Try.underlying104 sz102 rfl ⟨.i64, rfl⟩ rfl (by omega) (by omega)) ?_
      rw [if_neg (show ¬ cap1 = i by omega)]
      simp only [Option.map_some, add_off]
      refine j_clearw (z := [.int .i64 0, .bool false]) (sz := 2) 0 Try.underlying104 zero102 (by simp [oneV]) ⟨rfl, by decide⟩ rfl rfl (by rw [hll]; omega) (fun q h1 h2 => by
        have := hfz q (by simp only [List.length_append, askers_length] at hll ⊢; omega)
        exact this) (fun zs hzs => ?_)
      rw [row_clear hcl0 (by omega) hzs]
      refine j_q (qs_cutl (a := 0) (z := i) Try.underlying104 sz102 rfl rfl ⟨.i64, rfl⟩ (by omega) (by omega)) ?_
      refine j_ret_con (vs := [_]) (fun w' hw' => ⟨rfl, trivial⟩) ?_
      refine ⟨_, rfl, .inr ⟨g, i, cap1, pre, zs ++ rest, tail, fz, ?_, by rw [htk], by rw [askers_length, ← htk, List.length_take]; omega, ?_, by omega, fun q hq => hfz q ?_⟩⟩
      · show Value.slice _ _ _ = _
        rw [if_neg (show ¬ cap1 = 0 by omega)]
        simp only [Option.map_some, Nat.zero_mul, add_zero_, Nat.sub_zero]
      · rw [List.length_append, askers_length, ← htk, List.length_take, List.length_append]
        omega
      · simp only [List.length_append, askers_length, ← htk, List.length_take] at hq ⊢
        omega
end Go.Proofs.Ytlgfpoelhjlifaa
