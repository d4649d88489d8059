/- The path of a kind, a digest and a name. -/
import Derived.Test.YtddecbkafdbkdaaTa
import Derived.Test.YtddecbkafdbkdaaPath1
import Derived.Test.YtddecbkafdbkdaaB32
import Derived.Test.YtddecbkafdbkdaaSha6
namespace Go.Proofs.Ytddecbkafdbkdaa
open Go Go.Sx
set_option maxRecDepth 100000
set_option maxHeartbeats 4000000
set_option linter.unusedVariables false
set_option linter.unusedSimpArgs false
attribute [local irreducible] J JQ QS Con W opW
theorem ent8 : Sx.Enters Try.prog 8 := ⟨_, Try.func8, by kernel_rfl, by kernel_rfl⟩
theorem ent9 : Sx.Enters Try.prog 9 := ⟨_, Try.func9, by kernel_rfl, by kernel_rfl⟩
theorem ent24 : Sx.Enters Try.prog 24 := ⟨_, Try.func24, by kernel_rfl, by kernel_rfl⟩
theorem ent25 : Sx.Enters Try.prog 25 := ⟨_, Try.func25, by kernel_rfl, by kernel_rfl⟩
theorem ent26 : Sx.Enters Try.prog 26 := ⟨_, Try.func26, by kernel_rfl, by kernel_rfl⟩
theorem ent27 : Sx.Enters Try.prog 27 := ⟨_, Try.func27, by kernel_rfl, by kernel_rfl⟩
theorem ent28 : Sx.Enters Try.prog 28 := ⟨_, Try.func28, by kernel_rfl, by kernel_rfl⟩
theorem ent29 : Sx.Enters Try.prog 29 := ⟨_, Try.func29, by kernel_rfl, by kernel_rfl⟩
theorem ent30 : Sx.Enters Try.prog 30 := ⟨_, Try.func30, by kernel_rfl, by kernel_rfl⟩
theorem ent31 : Sx.Enters Try.prog 31 := ⟨_, Try.func31, by kernel_rfl, by kernel_rfl⟩

/-- the path of a kind, a digest and a name -/
def pathOf (kind h name : List UInt8) : List UInt8 := text32 (fold (sum (kind ++ [58] ++ hex h ++ [58] ++ name))) ++ [45] ++ name
theorem fold_length (h : List UInt8) : (fold h).length = 20 := foldN_length h 32
theorem hex_length (h : List UInt8) : (hex h).length = 64 := hexN_length h 32
theorem text_fold (h : List UInt8) : (text32 (fold h)).length = 32 := by rw [text32_length, fold_length]; rfl
theorem pathOf_length (kind h name : List UInt8) : (pathOf kind h name).length = 33 + name.length := by
  unfold pathOf
  simp only [List.length_append, text_fold, List.length_cons, List.length_nil]
/-- what Make answers -/
def mk (kind h name : List UInt8) : Value := if isName name then .tuple #[.string (bs (pathOf kind h name)), .int .i64 0] else .tuple #[.string (bs []), .int .i64 9]
attribute [local irreducible] fold sum hex text32 pathOf
/-- pantry.path.Make -/
theorem make_con (kind h name : List UInt8) (w : World) (hh : h.length = 32) (hk : kind.length + name.length ≤ 1099511627776) : Con Try.prog 11 [.string (bs kind), .agg (ints h).toArray, .string (bs name)] w [] fun v _ => v = mk kind h name := by
  refine con_of_tree mix Try.func11 T11_ok (by kernel_rfl) ?_
  unfold T11
  refine j_box rfl (fun g0 hg0 hs0 => ?_)
  refine j_q (qs_ac) ?_
  refine j_q (qs_ac) ?_
  refine j_q (qs_call ent8 rfl rfl rfl (fun w' hw' => isName_con name w' (by omega))) ?_
  refine j_q (qs_not rfl) ?_
  refine j_cond rfl (fun hc0 => ?_) (fun hc0 => ?_)
  · skip
    have hnm : isName name = false := by
      simp only [Bool.and_eq_true, Bool.or_eq_true, Bool.and_eq_false_iff, Bool.or_eq_false_iff, Bool.not_eq_true', Bool.not_eq_false', decide_eq_true_eq, decide_eq_false_iff_not, beq_iff_eq, beq_eq_false_iff_ne, bne_iff_ne, bne_eq_false_iff_eq, ne_eq, Int.toNat_natCast] at *
      exact hc0
    refine j_q (qs_ac) ?_
    refine j_q (qs_ac) ?_
    refine j_ret_con (vs := [_, _]) (fun w' hw' => ⟨rfl, rfl, trivial⟩) ?_
    show Value.tuple #[_, _] = _
    rw [mk, if_neg (by rw [hnm]; decide)]
    rfl
  · skip
    have hnm : isName name = true := by
      simp only [Bool.and_eq_true, Bool.or_eq_true, Bool.and_eq_false_iff, Bool.or_eq_false_iff, Bool.not_eq_true', Bool.not_eq_false', decide_eq_true_eq, decide_eq_false_iff_not, beq_iff_eq, beq_eq_false_iff_ne, bne_iff_ne, bne_eq_false_iff_eq, ne_eq, Int.toNat_natCast] at *
      exact hc0
    refine j_q (qs_sadd rfl rfl (by simp; omega)) ?_
    first
      | refine j_q (qs_loadw 0 Try.underlying25 rfl sz25 rfl rfl (by first | (rw [ints_length]; exact fold_length _) | (rw [ints_length]; exact hh) | rfl)) ?_
      | refine j_q (qs_loadw 1 Try.underlying25 rfl sz25 rfl rfl (by first | (rw [ints_length]; exact fold_length _) | (rw [ints_length]; exact hh) | rfl)) ?_
      | refine j_q (qs_loadw 2 Try.underlying25 rfl sz25 rfl rfl (by first | (rw [ints_length]; exact fold_length _) | (rw [ints_length]; exact hh) | rfl)) ?_
    refine j_q (qs_call ent26 rfl rfl rfl (fun w' hw' => hex_con h w' hh)) ?_
    refine j_q (qs_sadd rfl rfl (by simp [hex_length]; omega)) ?_
    refine j_q (qs_sadd rfl rfl (by simp [hex_length]; omega)) ?_
    refine j_q (qs_sadd rfl rfl (by simp [hex_length]; omega)) ?_
    refine j_bytes Try.underlying9 Try.underlying48 Try.underlying5 rfl (fun v13 c13 ho13 hv13 => ?_)
    obtain ⟨g13, cap13, rfl⟩ := hv13
    obtain ⟨row, fz, hrow, hl1, hl2, hl3, hl4⟩ := own_row ho13
    refine j_q (qs_call ent25 rfl rfl rfl (fun w' hw' => sum_con (kind ++ [58] ++ hex h ++ [58] ++ name) _ _ w' (by simp [hex_length]; omega) hl3 (rd_w (own_rd ho13 0 rfl) hw'))) ?_
    refine j_q (qs_call ent24 rfl rfl rfl (fun w' hw' => fold_con _ w' (sum_length _))) ?_
    refine j_alloc zero49 (fun g16 hg16 hs16 => ?_)
    first
      | refine j_storew 0 sz49 rfl rfl (by first | (rw [ints_length]; exact fold_length _) | (rw [ints_length]; exact hh) | rfl) ints_one rfl (by first | (rw [ints_length]; exact fold_length _) | (rw [ints_length]; exact hh) | rfl) ?_
      | refine j_storew 1 sz49 rfl rfl (by first | (rw [ints_length]; exact fold_length _) | (rw [ints_length]; exact hh) | rfl) ints_one rfl (by first | (rw [ints_length]; exact fold_length _) | (rw [ints_length]; exact hh) | rfl) ?_
      | refine j_storew 2 sz49 rfl rfl (by first | (rw [ints_length]; exact fold_length _) | (rw [ints_length]; exact hh) | rfl) ints_one rfl (by first | (rw [ints_length]; exact fold_length _) | (rw [ints_length]; exact hh) | rfl) ?_
    refine j_q (qs_cuta  Try.underlying49 sz5 rfl rfl rfl (by first | omega | (simp only [Bool.and_eq_true, Bool.or_eq_true, Bool.and_eq_false_iff, Bool.or_eq_false_iff, Bool.not_eq_true', Bool.not_eq_false', decide_eq_true_eq, decide_eq_false_iff_not, beq_iff_eq, beq_eq_false_iff_ne, bne_iff_ne, bne_eq_false_iff_eq, ne_eq, Int.toNat_natCast] at *; omega)) (by first | omega | (simp only [Bool.and_eq_true, Bool.or_eq_true, Bool.and_eq_false_iff, Bool.or_eq_false_iff, Bool.not_eq_true', Bool.not_eq_false', decide_eq_true_eq, decide_eq_false_iff_not, beq_iff_eq, beq_eq_false_iff_ne, bne_iff_ne, bne_eq_false_iff_eq, ne_eq, Int.toNat_natCast] at *; omega))) ?_
    show J _ _ _ (Value.slice (some ⟨g16, 0, none⟩) 20 20 :: _) _ _ _
    have e20 : Value.slice (some ⟨g16, 0, none⟩) 20 20 = Value.slice (some ⟨g16, 0, none⟩) (fold (sum (kind ++ [58] ++ hex h ++ [58] ++ name))).length 20 := by rw [fold_length]
    rw [e20]
    refine j_q (qs_call ent27 rfl rfl rfl (fun w' hw' => text_con _ _ _ w' (by rw [fold_length]; decide) (rd_w (rd_own 0 rfl (n := 20) (by rw [List.drop_zero, List.take_of_length_le (by rw [ints_length, fold_length]; exact Nat.le_refl _)])) hw'))) ?_
    refine j_q (qs_sadd rfl rfl (by simp [text_fold])) ?_
    refine j_q (qs_sadd rfl rfl (by simp [text_fold]; omega)) ?_
    refine j_q (qs_ac) ?_
    refine j_ret_con (vs := [_, _]) (fun w' hw' => ⟨rfl, rfl, trivial⟩) ?_
    show Value.tuple #[_, _] = _
    rw [mk, if_pos hnm, pathOf]
    rfl
/-- pantry.pantryref3.Make -/
theorem rmake_con (kind h name : List UInt8) (w : World) (hh : h.length = 32) (hk : kind.length + name.length ≤ 1099511627776) : Con Try.prog 12 [.string (bs kind), .agg (ints h).toArray, .string (bs name)] w [] fun v _ => v = mk kind h name := by
  refine con_of_tree mix Try.func12 T12_ok (by kernel_rfl) ?_
  unfold T12
  refine j_box rfl (fun g0 hg0 hs0 => ?_)
  refine j_q (qs_ac) ?_
  refine j_q (qs_ac) ?_
  refine j_q (qs_call ent9 rfl rfl rfl (fun w' hw' => risName_con name w' (by omega))) ?_
  refine j_q (qs_not rfl) ?_
  refine j_cond rfl (fun hc0 => ?_) (fun hc0 => ?_)
  · skip
    have hnm : isName name = false := by
      simp only [Bool.and_eq_true, Bool.or_eq_true, Bool.and_eq_false_iff, Bool.or_eq_false_iff, Bool.not_eq_true', Bool.not_eq_false', decide_eq_true_eq, decide_eq_false_iff_not, beq_iff_eq, beq_eq_false_iff_ne, bne_iff_ne, bne_eq_false_iff_eq, ne_eq, Int.toNat_natCast] at *
      exact hc0
    refine j_q (qs_ac) ?_
    refine j_q (qs_ac) ?_
    refine j_ret_con (vs := [_, _]) (fun w' hw' => ⟨rfl, rfl, trivial⟩) ?_
    show Value.tuple #[_, _] = _
    rw [mk, if_neg (by rw [hnm]; decide)]
    rfl
  · skip
    have hnm : isName name = true := by
      simp only [Bool.and_eq_true, Bool.or_eq_true, Bool.and_eq_false_iff, Bool.or_eq_false_iff, Bool.not_eq_true', Bool.not_eq_false', decide_eq_true_eq, decide_eq_false_iff_not, beq_iff_eq, beq_eq_false_iff_ne, bne_iff_ne, bne_eq_false_iff_eq, ne_eq, Int.toNat_natCast] at *
      exact hc0
    refine j_q (qs_sadd rfl rfl (by simp; omega)) ?_
    first
      | refine j_q (qs_loadw 0 Try.underlying25 rfl sz25 rfl rfl (by first | (rw [ints_length]; exact fold_length _) | (rw [ints_length]; exact hh) | rfl)) ?_
      | refine j_q (qs_loadw 1 Try.underlying25 rfl sz25 rfl rfl (by first | (rw [ints_length]; exact fold_length _) | (rw [ints_length]; exact hh) | rfl)) ?_
      | refine j_q (qs_loadw 2 Try.underlying25 rfl sz25 rfl rfl (by first | (rw [ints_length]; exact fold_length _) | (rw [ints_length]; exact hh) | rfl)) ?_
    refine j_q (qs_call ent30 rfl rfl rfl (fun w' hw' => rhex_con h w' hh)) ?_
    refine j_q (qs_sadd rfl rfl (by simp [hex_length]; omega)) ?_
    refine j_q (qs_sadd rfl rfl (by simp [hex_length]; omega)) ?_
    refine j_q (qs_sadd rfl rfl (by simp [hex_length]; omega)) ?_
    refine j_bytes Try.underlying9 Try.underlying48 Try.underlying5 rfl (fun v13 c13 ho13 hv13 => ?_)
    obtain ⟨g13, cap13, rfl⟩ := hv13
    obtain ⟨row, fz, hrow, hl1, hl2, hl3, hl4⟩ := own_row ho13
    refine j_q (qs_call ent29 rfl rfl rfl (fun w' hw' => rsum_con (kind ++ [58] ++ hex h ++ [58] ++ name) _ _ w' (by simp [hex_length]; omega) (rd_w (own_rd ho13 0 rfl) hw'))) ?_
    refine j_q (qs_call ent28 rfl rfl rfl (fun w' hw' => rfold_con _ w' (sum_length _))) ?_
    refine j_alloc zero49 (fun g16 hg16 hs16 => ?_)
    first
      | refine j_storew 0 sz49 rfl rfl (by first | (rw [ints_length]; exact fold_length _) | (rw [ints_length]; exact hh) | rfl) ints_one rfl (by first | (rw [ints_length]; exact fold_length _) | (rw [ints_length]; exact hh) | rfl) ?_
      | refine j_storew 1 sz49 rfl rfl (by first | (rw [ints_length]; exact fold_length _) | (rw [ints_length]; exact hh) | rfl) ints_one rfl (by first | (rw [ints_length]; exact fold_length _) | (rw [ints_length]; exact hh) | rfl) ?_
      | refine j_storew 2 sz49 rfl rfl (by first | (rw [ints_length]; exact fold_length _) | (rw [ints_length]; exact hh) | rfl) ints_one rfl (by first | (rw [ints_length]; exact fold_length _) | (rw [ints_length]; exact hh) | rfl) ?_
    refine j_q (qs_cuta  Try.underlying49 sz5 rfl rfl rfl (by first | omega | (simp only [Bool.and_eq_true, Bool.or_eq_true, Bool.and_eq_false_iff, Bool.or_eq_false_iff, Bool.not_eq_true', Bool.not_eq_false', decide_eq_true_eq, decide_eq_false_iff_not, beq_iff_eq, beq_eq_false_iff_ne, bne_iff_ne, bne_eq_false_iff_eq, ne_eq, Int.toNat_natCast] at *; omega)) (by first | omega | (simp only [Bool.and_eq_true, Bool.or_eq_true, Bool.and_eq_false_iff, Bool.or_eq_false_iff, Bool.not_eq_true', Bool.not_eq_false', decide_eq_true_eq, decide_eq_false_iff_not, beq_iff_eq, beq_eq_false_iff_ne, bne_iff_ne, bne_eq_false_iff_eq, ne_eq, Int.toNat_natCast] at *; omega))) ?_
    show J _ _ _ (Value.slice (some ⟨g16, 0, none⟩) 20 20 :: _) _ _ _
    have e20 : Value.slice (some ⟨g16, 0, none⟩) 20 20 = Value.slice (some ⟨g16, 0, none⟩) (fold (sum (kind ++ [58] ++ hex h ++ [58] ++ name))).length 20 := by rw [fold_length]
    rw [e20]
    refine j_q (qs_call ent31 rfl rfl rfl (fun w' hw' => rtext_con _ _ _ w' (by rw [fold_length]; decide) (rd_w (rd_own 0 rfl (n := 20) (by rw [List.drop_zero, List.take_of_length_le (by rw [ints_length, fold_length]; exact Nat.le_refl _)])) hw'))) ?_
    refine j_q (qs_sadd rfl rfl (by simp [text_fold])) ?_
    refine j_q (qs_sadd rfl rfl (by simp [text_fold]; omega)) ?_
    refine j_q (qs_ac) ?_
    refine j_ret_con (vs := [_, _]) (fun w' hw' => ⟨rfl, rfl, trivial⟩) ?_
    show Value.tuple #[_, _] = _
    rw [mk, if_pos hnm, pathOf]
    rfl
end Go.Proofs.Ytddecbkafdbkdaa
