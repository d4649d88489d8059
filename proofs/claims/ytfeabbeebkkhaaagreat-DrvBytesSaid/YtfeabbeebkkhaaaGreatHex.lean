/- A digest's digits. -/
import Derived.Test.YtfeabbeebkkhaaaGreatTa
import Derived.Test.YtfeabbeebkkhaaaGreatSx9
namespace Go.Proofs.YtfeabbeebkkhaaaGreat
open Go Go.Sx
set_option maxRecDepth 100000
set_option maxHeartbeats 4000000
set_option linter.unusedVariables false
set_option linter.unusedSimpArgs false
attribute [local irreducible] J JQ QS Con W opW
theorem ent103 : Sx.Enters Tryz.prog 103 := ⟨_, Tryz.func103, by kernel_rfl, by kernel_rfl⟩
theorem sb5 : (Tryz.prog.info? 5).map (fun i => (i.size, i.bytes)) = some (1, 1) := by kernel_rfl
theorem sz5 : (Tryz.prog.info? 5).map (·.size) = some 1 := by kernel_rfl
theorem sz51 : (Tryz.prog.info? 51).map (·.size) = some 32 := by kernel_rfl
theorem zero5 : zeroL Tryz.prog 5 = some ([.int .u8 0]) := by kernel_rfl

theorem bk_le {n i : Nat} (h : i < n) : n - (i + 1) < n - i := by omega
theorem digit16 (c : UInt8) : ((c.toNat : Int).fdiv (2 ^ min (Int.toNat 4) IntKind.u8.bits) = ((c.toNat : Int) / 16)) ∧ bw .and .u8 (c.toNat : Int) 15 = (c.toNat : Int) % 16 := by
  have : ∀ k : Fin 256, ((k.val : Int).fdiv (2 ^ min (Int.toNat 4) IntKind.u8.bits) = ((k.val : Int) / 16)) ∧ bw .and .u8 (k.val : Int) 15 = (k.val : Int) % 16 := by decide +kernel
  exact this ⟨c.toNat, c.toNat_lt⟩
theorem digits_cut (k : Nat) (h : k < 16) : ((([48, 49, 50, 51, 52, 53, 54, 55, 56, 57, 97, 98, 99, 100, 101, 102] : List UInt8).take (k + 1)).drop k) = [digit (k : Int)] := by
  have : ∀ k : Fin 16, ((([48, 49, 50, 51, 52, 53, 54, 55, 56, 57, 97, 98, 99, 100, 101, 102] : List UInt8).take (k.val + 1)).drop k.val) = [digit (k.val : Int)] := by decide +kernel
  exact this ⟨k, h⟩

theorem own_take0 {e : TypeId} {p l : List UInt8} {v : Value} {c : SH} (h : Own e 1 (ints p) v c) : Own e 1 (ints (p ++ l.take 0)) v c := by simpa using h
theorem dig16 (c : UInt8) : 0 ≤ (c.toNat : Int) / 16 ∧ (c.toNat : Int) / 16 < 16 ∧ 0 ≤ (c.toNat : Int) % 16 ∧ (c.toNat : Int) % 16 < 16 := by
  have := c.toNat_lt
  omega
theorem hex_in (x y : Int) (k : Nat) (hk : k < 2) : ([digit x, digit y] : List UInt8).take (k + 1) = ([digit x, digit y] : List UInt8).take k ++ [digit ([x, y].getD k 0)] := by
  have : k = 0 ∨ k = 1 := by omega
  rcases this with rfl | rfl <;> rfl
theorem hex_rng (c : UInt8) (k : Nat) (hk : k < 2) : 0 ≤ [(c.toNat : Int) / 16, (c.toNat : Int) % 16].getD k 0 ∧ [(c.toNat : Int) / 16, (c.toNat : Int) % 16].getD k 0 < 16 := by
  have h := dig16 c
  have : k = 0 ∨ k = 1 := by omega
  rcases this with rfl | rfl
  · exact ⟨h.1, h.2.1⟩
  · exact ⟨h.2.2.1, h.2.2.2⟩
/-- pantry.digest.digit -/
theorem digit_con (n : Int) (w : World) (h0 : 0 ≤ n) (h1 : n < 16) : Con Tryz.prog 103 [.int .u8 n] w [] fun v _ => v = .int .u8 ((digit n).toNat : Int) := by
  refine con_of_tree mix Tryz.func103 T103_ok (by kernel_rfl) ?_
  unfold T103
  refine j_q (qs_ac) ?_
  refine j_q (qs_lss rfl rfl) ?_
  refine j_cond rfl (fun hc0 => ?_) (fun hc0 => ?_)
  · skip
    refine j_q (qs_add rfl rfl) ?_
    refine j_ret_con (vs := [_]) (fun w' hw' => ⟨rfl, trivial⟩) ?_
    show Value.int _ _ = _
    congr 1
    have hn : n < 10 := by
      simp only [Bool.and_eq_true, Bool.or_eq_true, Bool.and_eq_false_iff, Bool.or_eq_false_iff, Bool.not_eq_true', Bool.not_eq_false', decide_eq_true_eq, decide_eq_false_iff_not, beq_iff_eq, beq_eq_false_iff_ne, bne_iff_ne, bne_eq_false_iff_eq, ne_eq, Int.toNat_natCast] at *
      omega
    rw [digit, if_pos hn, ← wrap_by8]
  · skip
    refine j_q (qs_add rfl rfl) ?_
    refine j_q (qs_sub rfl rfl) ?_
    refine j_ret_con (vs := [_]) (fun w' hw' => ⟨rfl, trivial⟩) ?_
    show Value.int _ _ = _
    congr 1
    have hn : ¬ n < 10 := by
      simp only [Bool.and_eq_true, Bool.or_eq_true, Bool.and_eq_false_iff, Bool.or_eq_false_iff, Bool.not_eq_true', Bool.not_eq_false', decide_eq_true_eq, decide_eq_false_iff_not, beq_iff_eq, beq_eq_false_iff_ne, bne_iff_ne, bne_eq_false_iff_eq, ne_eq, Int.toNat_natCast] at *
      omega
    rw [digit, if_neg hn, ← wrap_by8]
/-- pantry.digest.Hex -/
theorem hex_con (h : List UInt8) (w : World) (hh : h.length = 32) : Con Tryz.prog 54 [.agg (ints h).toArray] w [] fun v _ => v = .string (bs (hex h)) := by
  refine con_of_tree mix Tryz.func54 T54_ok (by kernel_rfl) ?_
  unfold T54
  refine j_box rfl (fun g0 hg0 hs0 => ?_)
  refine j_q (qs_ac) ?_
  refine j_q (qs_ac) ?_
  first
    | refine j_q (qs_loadw 0 Tryz.underlying51 rfl sz51 rfl rfl (by first | (rw [ints_length]; exact hh) | exact hh | rfl)) ?_
    | refine j_q (qs_loadw 1 Tryz.underlying51 rfl sz51 rfl rfl (by first | (rw [ints_length]; exact hh) | exact hh | rfl)) ?_
    | refine j_q (qs_loadw 2 Tryz.underlying51 rfl sz51 rfl rfl (by first | (rw [ints_length]; exact hh) | exact hh | rfl)) ?_
  refine j_perm (S' := [[], [(g0, .cells (ints h).toArray 51 (0, 0))], []]) (by simp) ?_
  refine j_q (qs_mc) ?_
  refine j_loop (fun m vs S' => ∃ (i : Nat) (v : Value) (c : SH), vs = [v, .int .i64 i] ∧ S' = [c, [(g0, .cells (ints h).toArray 51 (0, 0))], []] ∧ Own 5 1 (ints (hexN h i)) v c ∧ i ≤ 32 ∧ m = 32 - i) ⟨_, 0, _, _, rfl, rfl, own_nil, by omega, rfl⟩ ?_
  rintro m vs S' hlen ⟨i, v, c, rfl, rfl, ho, hi, rfl⟩
  clear hlen
  refine j_q (qs_lss rfl rfl) ?_
  refine j_cond rfl (fun hc0 => ?_) (fun hc0 => ?_)
  · skip
    have hi1 : i < 32 := by
      simp only [Bool.and_eq_true, Bool.or_eq_true, Bool.and_eq_false_iff, Bool.or_eq_false_iff, Bool.not_eq_true', Bool.not_eq_false', decide_eq_true_eq, decide_eq_false_iff_not, beq_iff_eq, beq_eq_false_iff_ne, bne_iff_ne, bne_eq_false_iff_eq, ne_eq, Int.toNat_natCast] at *
      omega
    refine j_q (qs_ixvi Tryz.underlying51 Tryz.underlying5 sz5 rfl rfl ⟨(by first | omega | (simp only [Bool.and_eq_true, Bool.or_eq_true, Bool.and_eq_false_iff, Bool.or_eq_false_iff, Bool.not_eq_true', Bool.not_eq_false', decide_eq_true_eq, decide_eq_false_iff_not, beq_iff_eq, beq_eq_false_iff_ne, bne_iff_ne, bne_eq_false_iff_eq, ne_eq, Int.toNat_natCast] at *; omega)), (by first | omega | (simp only [Bool.and_eq_true, Bool.or_eq_true, Bool.and_eq_false_iff, Bool.or_eq_false_iff, Bool.not_eq_true', Bool.not_eq_false', decide_eq_true_eq, decide_eq_false_iff_not, beq_iff_eq, beq_eq_false_iff_ne, bne_iff_ne, bne_eq_false_iff_eq, ne_eq, Int.toNat_natCast] at *; omega))⟩ (by first | (rw [ints_length]; exact hh) | exact hh | rfl)) ?_
    try rw [Int.toNat_natCast]
    refine j_q (qs_shr rfl rfl (by first | omega | (simp only [Bool.and_eq_true, Bool.or_eq_true, Bool.and_eq_false_iff, Bool.or_eq_false_iff, Bool.not_eq_true', Bool.not_eq_false', decide_eq_true_eq, decide_eq_false_iff_not, beq_iff_eq, beq_eq_false_iff_ne, bne_iff_ne, bne_eq_false_iff_eq, ne_eq, Int.toNat_natCast] at *; omega))) ?_
    rw [(digit16 _).1]
    refine j_q (qs_and_ rfl rfl) ?_
    rw [(digit16 _).2]
    refine j_q (qs_run (v := .agg (ks .u8 [((h.getD i 0).toNat : Int) / 16, ((h.getD i 0).toNat : Int) % 16]).toArray) (fun w => by kernel_rfl)) ?_
    refine j_q (qs_mc) ?_
    refine j_loop (fun m vs S' => ∃ (k : Nat) (v : Value) (c : SH), vs = [v, .int .i64 k] ∧ S' = [c, [(g0, .cells (ints h).toArray 51 (0, 0))], []] ∧ Own 5 1 (ints (hexN h i ++ ([digit (((h.getD i 0).toNat : Int) / 16), digit (((h.getD i 0).toNat : Int) % 16)] : List UInt8).take k)) v c ∧ k ≤ 2 ∧ m = 2 - k) ⟨_, 0, _, _, rfl, rfl, own_take0 ho, by omega, rfl⟩ ?_
    rintro m vs S' hlen ⟨k, v, c, rfl, rfl, ho, hk, rfl⟩
    clear hlen
    refine j_q (qs_lss rfl rfl) ?_
    refine j_cond rfl (fun hc1 => ?_) (fun hc1 => ?_)
    · skip
      have hk1 : k < 2 := by
        simp only [Bool.and_eq_true, Bool.or_eq_true, Bool.and_eq_false_iff, Bool.or_eq_false_iff, Bool.not_eq_true', Bool.not_eq_false', decide_eq_true_eq, decide_eq_false_iff_not, beq_iff_eq, beq_eq_false_iff_ne, bne_iff_ne, bne_eq_false_iff_eq, ne_eq, Int.toNat_natCast] at *
        omega
      refine j_q (qs_ixvk Tryz.underlying153 Tryz.underlying5 sz5 rfl rfl ⟨by omega, by omega⟩ rfl) ?_
      try rw [Int.toNat_natCast]
      refine j_q (qs_call ent103 rfl rfl rfl (fun w' hw' => digit_con _ w' (hex_rng _ k hk1).1 (hex_rng _ k hk1).2)) ?_
      refine j_lit (vs := [.int .u8 _]) Tryz.underlying46 sz5 zero5 rfl (by simp [oneV]) ⟨rfl, by decide⟩ (fun g14 v14 c14 hv14 hc14 ho14 => ?_)
      subst hv14 hc14
      refine j_append 1 Tryz.underlying46 Tryz.underlying46 (.inr ⟨_, rfl⟩) sb5 zero5 rfl ho rfl (src_sl (rd_own 0 rfl (n := 1) rfl) rfl) (by simp [oneV]) ⟨(by simp [ints_length, hexN_length]; omega), (by decide)⟩ (fun v15 c15 ho15 => ?_)
      have ho15' : Own 5 1 (ints (hexN h i ++ ([digit (((h.getD i 0).toNat : Int) / 16), digit (((h.getD i 0).toNat : Int) % 16)] : List UInt8).take (k + 1))) v15 c15 := by
        rw [hex_in _ _ k hk1, ← List.append_assoc, ints_append]
        exact ho15
      refine j_drop ?_
      refine j_q (qs_add64 rfl rfl (by first | omega | (simp only [Bool.and_eq_true, Bool.or_eq_true, Bool.and_eq_false_iff, Bool.or_eq_false_iff, Bool.not_eq_true', Bool.not_eq_false', decide_eq_true_eq, decide_eq_false_iff_not, beq_iff_eq, beq_eq_false_iff_ne, bne_iff_ne, bne_eq_false_iff_eq, ne_eq, Int.toNat_natCast] at *; omega))) ?_
      refine j_back rfl ?_
      exact ⟨_, bk_le hk1, k + 1, _, _, rfl, rfl, ho15', by omega, rfl⟩
    · skip
      have hk1 : k = 2 := by
        simp only [Bool.and_eq_true, Bool.or_eq_true, Bool.and_eq_false_iff, Bool.or_eq_false_iff, Bool.not_eq_true', Bool.not_eq_false', decide_eq_true_eq, decide_eq_false_iff_not, beq_iff_eq, beq_eq_false_iff_ne, bne_iff_ne, bne_eq_false_iff_eq, ne_eq, Int.toNat_natCast] at *
        omega
      subst hk1
      refine j_q (qs_add64 rfl rfl (by first | omega | (simp only [Bool.and_eq_true, Bool.or_eq_true, Bool.and_eq_false_iff, Bool.or_eq_false_iff, Bool.not_eq_true', Bool.not_eq_false', decide_eq_true_eq, decide_eq_false_iff_not, beq_iff_eq, beq_eq_false_iff_ne, bne_iff_ne, bne_eq_false_iff_eq, ne_eq, Int.toNat_natCast] at *; omega))) ?_
      refine j_back rfl ?_
      exact ⟨_, bk_le hi1, i + 1, _, _, rfl, rfl, ho, by omega, rfl⟩
  · skip
    have hi1 : i = 32 := by
      simp only [Bool.and_eq_true, Bool.or_eq_true, Bool.and_eq_false_iff, Bool.or_eq_false_iff, Bool.not_eq_true', Bool.not_eq_false', decide_eq_true_eq, decide_eq_false_iff_not, beq_iff_eq, beq_eq_false_iff_ne, bne_iff_ne, bne_eq_false_iff_eq, ne_eq, Int.toNat_natCast] at *
      omega
    subst hi1
    first
      | refine j_q (qs_stro 0 Tryz.underlying46 Tryz.underlying5 Tryz.underlying9 ho rfl) ?_
      | refine j_q (qs_stro 1 Tryz.underlying46 Tryz.underlying5 Tryz.underlying9 ho rfl) ?_
      | refine j_q (qs_stro 2 Tryz.underlying46 Tryz.underlying5 Tryz.underlying9 ho rfl) ?_
    refine j_ret_con (vs := [_]) (fun w' hw' => ⟨rfl, trivial⟩) ?_
    rfl
/-- pantry.pantryref1.Hex -/
theorem rhex_con (h : List UInt8) (w : World) (hh : h.length = 32) : Con Tryz.prog 62 [.agg (ints h).toArray] w [] fun v _ => v = .string (bs (hex h)) := by
  refine con_of_tree mix Tryz.func62 T62_ok (by kernel_rfl) ?_
  unfold T62
  refine j_box rfl (fun g0 hg0 hs0 => ?_)
  refine j_q (qs_ac) ?_
  refine j_q (qs_ac) ?_
  refine j_q (qs_ac) ?_
  refine j_loop (fun m vs S' => ∃ (i : Nat), vs = [.string (bs (hexN h i)), .int .i64 i] ∧ S' = [[(g0, .cells (ints h).toArray 51 (0, 0))], []] ∧ i ≤ 32 ∧ m = 32 - i) ⟨_, 0, rfl, rfl, by omega, rfl⟩ ?_
  rintro m vs S' hlen ⟨i, rfl, rfl, hi, rfl⟩
  clear hlen
  refine j_q (qs_lss rfl rfl) ?_
  refine j_cond rfl (fun hc0 => ?_) (fun hc0 => ?_)
  · skip
    have hi1 : i < 32 := by
      simp only [Bool.and_eq_true, Bool.or_eq_true, Bool.and_eq_false_iff, Bool.or_eq_false_iff, Bool.not_eq_true', Bool.not_eq_false', decide_eq_true_eq, decide_eq_false_iff_not, beq_iff_eq, beq_eq_false_iff_ne, bne_iff_ne, bne_eq_false_iff_eq, ne_eq, Int.toNat_natCast] at *
      omega
    have hcl := (h.getD i 0).toNat_lt
    refine j_draw ?_
    refine jq_q (qs_ix0 Tryz.underlying51 sz5 rfl rfl ⟨(by first | omega | (simp only [Bool.and_eq_true, Bool.or_eq_true, Bool.and_eq_false_iff, Bool.or_eq_false_iff, Bool.not_eq_true', Bool.not_eq_false', decide_eq_true_eq, decide_eq_false_iff_not, beq_iff_eq, beq_eq_false_iff_ne, bne_iff_ne, bne_eq_false_iff_eq, ne_eq, Int.toNat_natCast] at *; omega)), (by first | omega | (simp only [Bool.and_eq_true, Bool.or_eq_true, Bool.and_eq_false_iff, Bool.or_eq_false_iff, Bool.not_eq_true', Bool.not_eq_false', decide_eq_true_eq, decide_eq_false_iff_not, beq_iff_eq, beq_eq_false_iff_ne, bne_iff_ne, bne_eq_false_iff_eq, ne_eq, Int.toNat_natCast] at *; omega))⟩) ?_
    first
      | refine jq_q (qs_loadk 0 Tryz.underlying5 rfl rfl (by first | omega | (simp only [Bool.and_eq_true, Bool.or_eq_true, Bool.and_eq_false_iff, Bool.or_eq_false_iff, Bool.not_eq_true', Bool.not_eq_false', decide_eq_true_eq, decide_eq_false_iff_not, beq_iff_eq, beq_eq_false_iff_ne, bne_iff_ne, bne_eq_false_iff_eq, ne_eq, Int.toNat_natCast] at *; omega))) ?_
      | refine jq_q (qs_loadk 1 Tryz.underlying5 rfl rfl (by first | omega | (simp only [Bool.and_eq_true, Bool.or_eq_true, Bool.and_eq_false_iff, Bool.or_eq_false_iff, Bool.not_eq_true', Bool.not_eq_false', decide_eq_true_eq, decide_eq_false_iff_not, beq_iff_eq, beq_eq_false_iff_ne, bne_iff_ne, bne_eq_false_iff_eq, ne_eq, Int.toNat_natCast] at *; omega))) ?_
      | refine jq_q (qs_loadi 0 Tryz.underlying5 rfl rfl (by first | omega | (simp only [Bool.and_eq_true, Bool.or_eq_true, Bool.and_eq_false_iff, Bool.or_eq_false_iff, Bool.not_eq_true', Bool.not_eq_false', decide_eq_true_eq, decide_eq_false_iff_not, beq_iff_eq, beq_eq_false_iff_ne, bne_iff_ne, bne_eq_false_iff_eq, ne_eq, Int.toNat_natCast] at *; omega))) ?_
      | refine jq_q (qs_loadi 1 Tryz.underlying5 rfl rfl (by first | omega | (simp only [Bool.and_eq_true, Bool.or_eq_true, Bool.and_eq_false_iff, Bool.or_eq_false_iff, Bool.not_eq_true', Bool.not_eq_false', decide_eq_true_eq, decide_eq_false_iff_not, beq_iff_eq, beq_eq_false_iff_ne, bne_iff_ne, bne_eq_false_iff_eq, ne_eq, Int.toNat_natCast] at *; omega))) ?_
      | refine jq_q (qs_load 0 Tryz.underlying5 rfl rfl rfl rfl) ?_
      | refine jq_q (qs_load 1 Tryz.underlying5 rfl rfl rfl rfl) ?_
    try rw [Int.toNat_natCast]
    refine jq_q (qs_quou rfl rfl (by first | omega | (simp only [Bool.and_eq_true, Bool.or_eq_true, Bool.and_eq_false_iff, Bool.or_eq_false_iff, Bool.not_eq_true', Bool.not_eq_false', decide_eq_true_eq, decide_eq_false_iff_not, beq_iff_eq, beq_eq_false_iff_ne, bne_iff_ne, bne_eq_false_iff_eq, ne_eq, Int.toNat_natCast] at *; omega)) (by first | omega | (simp only [Bool.and_eq_true, Bool.or_eq_true, Bool.and_eq_false_iff, Bool.or_eq_false_iff, Bool.not_eq_true', Bool.not_eq_false', decide_eq_true_eq, decide_eq_false_iff_not, beq_iff_eq, beq_eq_false_iff_ne, bne_iff_ne, bne_eq_false_iff_eq, ne_eq, Int.toNat_natCast] at *; omega)) (wrap8_div _ _ (by omega))) ?_
    refine jq_q (qs_ix0 Tryz.underlying51 sz5 rfl rfl ⟨(by first | omega | (simp only [Bool.and_eq_true, Bool.or_eq_true, Bool.and_eq_false_iff, Bool.or_eq_false_iff, Bool.not_eq_true', Bool.not_eq_false', decide_eq_true_eq, decide_eq_false_iff_not, beq_iff_eq, beq_eq_false_iff_ne, bne_iff_ne, bne_eq_false_iff_eq, ne_eq, Int.toNat_natCast] at *; omega)), (by first | omega | (simp only [Bool.and_eq_true, Bool.or_eq_true, Bool.and_eq_false_iff, Bool.or_eq_false_iff, Bool.not_eq_true', Bool.not_eq_false', decide_eq_true_eq, decide_eq_false_iff_not, beq_iff_eq, beq_eq_false_iff_ne, bne_iff_ne, bne_eq_false_iff_eq, ne_eq, Int.toNat_natCast] at *; omega))⟩) ?_
    first
      | refine jq_q (qs_loadk 0 Tryz.underlying5 rfl rfl (by first | omega | (simp only [Bool.and_eq_true, Bool.or_eq_true, Bool.and_eq_false_iff, Bool.or_eq_false_iff, Bool.not_eq_true', Bool.not_eq_false', decide_eq_true_eq, decide_eq_false_iff_not, beq_iff_eq, beq_eq_false_iff_ne, bne_iff_ne, bne_eq_false_iff_eq, ne_eq, Int.toNat_natCast] at *; omega))) ?_
      | refine jq_q (qs_loadk 1 Tryz.underlying5 rfl rfl (by first | omega | (simp only [Bool.and_eq_true, Bool.or_eq_true, Bool.and_eq_false_iff, Bool.or_eq_false_iff, Bool.not_eq_true', Bool.not_eq_false', decide_eq_true_eq, decide_eq_false_iff_not, beq_iff_eq, beq_eq_false_iff_ne, bne_iff_ne, bne_eq_false_iff_eq, ne_eq, Int.toNat_natCast] at *; omega))) ?_
      | refine jq_q (qs_loadi 0 Tryz.underlying5 rfl rfl (by first | omega | (simp only [Bool.and_eq_true, Bool.or_eq_true, Bool.and_eq_false_iff, Bool.or_eq_false_iff, Bool.not_eq_true', Bool.not_eq_false', decide_eq_true_eq, decide_eq_false_iff_not, beq_iff_eq, beq_eq_false_iff_ne, bne_iff_ne, bne_eq_false_iff_eq, ne_eq, Int.toNat_natCast] at *; omega))) ?_
      | refine jq_q (qs_loadi 1 Tryz.underlying5 rfl rfl (by first | omega | (simp only [Bool.and_eq_true, Bool.or_eq_true, Bool.and_eq_false_iff, Bool.or_eq_false_iff, Bool.not_eq_true', Bool.not_eq_false', decide_eq_true_eq, decide_eq_false_iff_not, beq_iff_eq, beq_eq_false_iff_ne, bne_iff_ne, bne_eq_false_iff_eq, ne_eq, Int.toNat_natCast] at *; omega))) ?_
      | refine jq_q (qs_load 0 Tryz.underlying5 rfl rfl rfl rfl) ?_
      | refine jq_q (qs_load 1 Tryz.underlying5 rfl rfl rfl rfl) ?_
    try rw [Int.toNat_natCast]
    refine jq_q (qs_quou rfl rfl (by first | omega | (simp only [Bool.and_eq_true, Bool.or_eq_true, Bool.and_eq_false_iff, Bool.or_eq_false_iff, Bool.not_eq_true', Bool.not_eq_false', decide_eq_true_eq, decide_eq_false_iff_not, beq_iff_eq, beq_eq_false_iff_ne, bne_iff_ne, bne_eq_false_iff_eq, ne_eq, Int.toNat_natCast] at *; omega)) (by first | omega | (simp only [Bool.and_eq_true, Bool.or_eq_true, Bool.and_eq_false_iff, Bool.or_eq_false_iff, Bool.not_eq_true', Bool.not_eq_false', decide_eq_true_eq, decide_eq_false_iff_not, beq_iff_eq, beq_eq_false_iff_ne, bne_iff_ne, bne_eq_false_iff_eq, ne_eq, Int.toNat_natCast] at *; omega)) (wrap8_div _ _ (by omega))) ?_
    refine jq_q (qs_add rfl rfl) ?_
    refine jq_q (qs_cuts (l := ([48, 49, 50, 51, 52, 53, 54, 55, 56, 57, 97, 98, 99, 100, 101, 102] : List UInt8)) (a := (h.getD i 0).toNat / 16) (z := (h.getD i 0).toNat / 16 + 1) Tryz.underlying9 rfl ⟨.u8, rfl⟩ ⟨.u8, by show Value.int _ _ = _; congr 1; rw [IntKind.wrap_u8]; omega⟩ (by omega) (by show _ ≤ 16; omega)) ?_
    rw [digits_cut _ (by omega)]
    refine jq_q (qs_sadd rfl rfl (by simp [hexN_length]; omega)) ?_
    refine jq_q (qs_ix0 Tryz.underlying51 sz5 rfl rfl ⟨(by first | omega | (simp only [Bool.and_eq_true, Bool.or_eq_true, Bool.and_eq_false_iff, Bool.or_eq_false_iff, Bool.not_eq_true', Bool.not_eq_false', decide_eq_true_eq, decide_eq_false_iff_not, beq_iff_eq, beq_eq_false_iff_ne, bne_iff_ne, bne_eq_false_iff_eq, ne_eq, Int.toNat_natCast] at *; omega)), (by first | omega | (simp only [Bool.and_eq_true, Bool.or_eq_true, Bool.and_eq_false_iff, Bool.or_eq_false_iff, Bool.not_eq_true', Bool.not_eq_false', decide_eq_true_eq, decide_eq_false_iff_not, beq_iff_eq, beq_eq_false_iff_ne, bne_iff_ne, bne_eq_false_iff_eq, ne_eq, Int.toNat_natCast] at *; omega))⟩) ?_
    first
      | refine jq_q (qs_loadk 0 Tryz.underlying5 rfl rfl (by first | omega | (simp only [Bool.and_eq_true, Bool.or_eq_true, Bool.and_eq_false_iff, Bool.or_eq_false_iff, Bool.not_eq_true', Bool.not_eq_false', decide_eq_true_eq, decide_eq_false_iff_not, beq_iff_eq, beq_eq_false_iff_ne, bne_iff_ne, bne_eq_false_iff_eq, ne_eq, Int.toNat_natCast] at *; omega))) ?_
      | refine jq_q (qs_loadk 1 Tryz.underlying5 rfl rfl (by first | omega | (simp only [Bool.and_eq_true, Bool.or_eq_true, Bool.and_eq_false_iff, Bool.or_eq_false_iff, Bool.not_eq_true', Bool.not_eq_false', decide_eq_true_eq, decide_eq_false_iff_not, beq_iff_eq, beq_eq_false_iff_ne, bne_iff_ne, bne_eq_false_iff_eq, ne_eq, Int.toNat_natCast] at *; omega))) ?_
      | refine jq_q (qs_loadi 0 Tryz.underlying5 rfl rfl (by first | omega | (simp only [Bool.and_eq_true, Bool.or_eq_true, Bool.and_eq_false_iff, Bool.or_eq_false_iff, Bool.not_eq_true', Bool.not_eq_false', decide_eq_true_eq, decide_eq_false_iff_not, beq_iff_eq, beq_eq_false_iff_ne, bne_iff_ne, bne_eq_false_iff_eq, ne_eq, Int.toNat_natCast] at *; omega))) ?_
      | refine jq_q (qs_loadi 1 Tryz.underlying5 rfl rfl (by first | omega | (simp only [Bool.and_eq_true, Bool.or_eq_true, Bool.and_eq_false_iff, Bool.or_eq_false_iff, Bool.not_eq_true', Bool.not_eq_false', decide_eq_true_eq, decide_eq_false_iff_not, beq_iff_eq, beq_eq_false_iff_ne, bne_iff_ne, bne_eq_false_iff_eq, ne_eq, Int.toNat_natCast] at *; omega))) ?_
      | refine jq_q (qs_load 0 Tryz.underlying5 rfl rfl rfl rfl) ?_
      | refine jq_q (qs_load 1 Tryz.underlying5 rfl rfl rfl rfl) ?_
    try rw [Int.toNat_natCast]
    refine jq_q (qs_rem64 rfl rfl (by first | omega | (simp only [Bool.and_eq_true, Bool.or_eq_true, Bool.and_eq_false_iff, Bool.or_eq_false_iff, Bool.not_eq_true', Bool.not_eq_false', decide_eq_true_eq, decide_eq_false_iff_not, beq_iff_eq, beq_eq_false_iff_ne, bne_iff_ne, bne_eq_false_iff_eq, ne_eq, Int.toNat_natCast] at *; omega)) (by first | omega | (simp only [Bool.and_eq_true, Bool.or_eq_true, Bool.and_eq_false_iff, Bool.or_eq_false_iff, Bool.not_eq_true', Bool.not_eq_false', decide_eq_true_eq, decide_eq_false_iff_not, beq_iff_eq, beq_eq_false_iff_ne, bne_iff_ne, bne_eq_false_iff_eq, ne_eq, Int.toNat_natCast] at *; omega))) ?_
    refine jq_q (qs_ix0 Tryz.underlying51 sz5 rfl rfl ⟨(by first | omega | (simp only [Bool.and_eq_true, Bool.or_eq_true, Bool.and_eq_false_iff, Bool.or_eq_false_iff, Bool.not_eq_true', Bool.not_eq_false', decide_eq_true_eq, decide_eq_false_iff_not, beq_iff_eq, beq_eq_false_iff_ne, bne_iff_ne, bne_eq_false_iff_eq, ne_eq, Int.toNat_natCast] at *; omega)), (by first | omega | (simp only [Bool.and_eq_true, Bool.or_eq_true, Bool.and_eq_false_iff, Bool.or_eq_false_iff, Bool.not_eq_true', Bool.not_eq_false', decide_eq_true_eq, decide_eq_false_iff_not, beq_iff_eq, beq_eq_false_iff_ne, bne_iff_ne, bne_eq_false_iff_eq, ne_eq, Int.toNat_natCast] at *; omega))⟩) ?_
    first
      | refine jq_q (qs_loadk 0 Tryz.underlying5 rfl rfl (by first | omega | (simp only [Bool.and_eq_true, Bool.or_eq_true, Bool.and_eq_false_iff, Bool.or_eq_false_iff, Bool.not_eq_true', Bool.not_eq_false', decide_eq_true_eq, decide_eq_false_iff_not, beq_iff_eq, beq_eq_false_iff_ne, bne_iff_ne, bne_eq_false_iff_eq, ne_eq, Int.toNat_natCast] at *; omega))) ?_
      | refine jq_q (qs_loadk 1 Tryz.underlying5 rfl rfl (by first | omega | (simp only [Bool.and_eq_true, Bool.or_eq_true, Bool.and_eq_false_iff, Bool.or_eq_false_iff, Bool.not_eq_true', Bool.not_eq_false', decide_eq_true_eq, decide_eq_false_iff_not, beq_iff_eq, beq_eq_false_iff_ne, bne_iff_ne, bne_eq_false_iff_eq, ne_eq, Int.toNat_natCast] at *; omega))) ?_
      | refine jq_q (qs_loadi 0 Tryz.underlying5 rfl rfl (by first | omega | (simp only [Bool.and_eq_true, Bool.or_eq_true, Bool.and_eq_false_iff, Bool.or_eq_false_iff, Bool.not_eq_true', Bool.not_eq_false', decide_eq_true_eq, decide_eq_false_iff_not, beq_iff_eq, beq_eq_false_iff_ne, bne_iff_ne, bne_eq_false_iff_eq, ne_eq, Int.toNat_natCast] at *; omega))) ?_
      | refine jq_q (qs_loadi 1 Tryz.underlying5 rfl rfl (by first | omega | (simp only [Bool.and_eq_true, Bool.or_eq_true, Bool.and_eq_false_iff, Bool.or_eq_false_iff, Bool.not_eq_true', Bool.not_eq_false', decide_eq_true_eq, decide_eq_false_iff_not, beq_iff_eq, beq_eq_false_iff_ne, bne_iff_ne, bne_eq_false_iff_eq, ne_eq, Int.toNat_natCast] at *; omega))) ?_
      | refine jq_q (qs_load 0 Tryz.underlying5 rfl rfl rfl rfl) ?_
      | refine jq_q (qs_load 1 Tryz.underlying5 rfl rfl rfl rfl) ?_
    try rw [Int.toNat_natCast]
    refine jq_q (qs_rem64 rfl rfl (by first | omega | (simp only [Bool.and_eq_true, Bool.or_eq_true, Bool.and_eq_false_iff, Bool.or_eq_false_iff, Bool.not_eq_true', Bool.not_eq_false', decide_eq_true_eq, decide_eq_false_iff_not, beq_iff_eq, beq_eq_false_iff_ne, bne_iff_ne, bne_eq_false_iff_eq, ne_eq, Int.toNat_natCast] at *; omega)) (by first | omega | (simp only [Bool.and_eq_true, Bool.or_eq_true, Bool.and_eq_false_iff, Bool.or_eq_false_iff, Bool.not_eq_true', Bool.not_eq_false', decide_eq_true_eq, decide_eq_false_iff_not, beq_iff_eq, beq_eq_false_iff_ne, bne_iff_ne, bne_eq_false_iff_eq, ne_eq, Int.toNat_natCast] at *; omega))) ?_
    refine jq_q (qs_add rfl rfl) ?_
    refine jq_q (qs_cuts (l := ([48, 49, 50, 51, 52, 53, 54, 55, 56, 57, 97, 98, 99, 100, 101, 102] : List UInt8)) (a := (h.getD i 0).toNat % 16) (z := (h.getD i 0).toNat % 16 + 1) Tryz.underlying9 rfl ⟨.u8, rfl⟩ ⟨.u8, by show Value.int _ _ = _; congr 1; rw [IntKind.wrap_u8]; omega⟩ (by omega) (by show _ ≤ 16; omega)) ?_
    rw [digits_cut _ (by omega)]
    refine jq_q (qs_sadd rfl rfl (by simp [hexN_length]; omega)) ?_
    refine jq_nil ?_
    refine j_q (qs_add64 rfl rfl (by first | omega | (simp only [Bool.and_eq_true, Bool.or_eq_true, Bool.and_eq_false_iff, Bool.or_eq_false_iff, Bool.not_eq_true', Bool.not_eq_false', decide_eq_true_eq, decide_eq_false_iff_not, beq_iff_eq, beq_eq_false_iff_ne, bne_iff_ne, bne_eq_false_iff_eq, ne_eq, Int.toNat_natCast] at *; omega))) ?_
    refine j_back rfl ?_
    refine ⟨_, bk_le hi1, i + 1, ?_, rfl, by omega, rfl⟩
    rw [hexN]
    simp only [List.append_assoc, List.cons_append, List.nil_append]
    rfl
  · skip
    have hi1 : i = 32 := by
      simp only [Bool.and_eq_true, Bool.or_eq_true, Bool.and_eq_false_iff, Bool.or_eq_false_iff, Bool.not_eq_true', Bool.not_eq_false', decide_eq_true_eq, decide_eq_false_iff_not, beq_iff_eq, beq_eq_false_iff_ne, bne_iff_ne, bne_eq_false_iff_eq, ne_eq, Int.toNat_natCast] at *
      omega
    subst hi1
    refine j_ret_con (vs := [_]) (fun w' hw' => ⟨rfl, trivial⟩) ?_
    rfl
end Go.Proofs.YtfeabbeebkkhaaaGreat
