/- SHA-256: what the program's and the document's functions answer. -/
import Derived.Test.YtkafaodhppikfaaDoorTa
import Derived.Test.YtkafaodhppikfaaDoorSx8
namespace Go.Proofs.YtkafaodhppikfaaDoor
open Go Go.Sx
set_option maxRecDepth 100000
set_option maxHeartbeats 4000000
set_option linter.unusedVariables false
set_option linter.unusedSimpArgs false
attribute [local irreducible] J JQ QS Con W opW
theorem ent54 : Sx.Enters Tryd.prog 54 := ⟨_, Tryd.func54, by kernel_rfl, by kernel_rfl⟩
theorem sz61 : (Tryd.prog.info? 61).map (·.size) = some 8 := by kernel_rfl
theorem sz69 : (Tryd.prog.info? 69).map (·.size) = some 64 := by kernel_rfl
theorem zero61 : zeroL Tryd.prog 61 = some (ks .u32 (List.replicate 8 0)) := by kernel_rfl
theorem zero69 : zeroL Tryd.prog 69 = some (ks .u32 (List.replicate 64 0)) := by kernel_rfl

theorem bw_or_comm (k : IntKind) (m n : Int) : bw .or k m n = bw .or k n m := by
  unfold bw
  rw [BitVec.or_comm]
theorem and31 (n : Int) (h0 : 0 < n) (h1 : n < 32) : bw .and .u64 (IntKind.u64.wrap (-n)) 31 = 32 - n := by
  have : ∀ k : Fin 32, 0 < k.val → bw .and .u64 (IntKind.u64.wrap (-(k.val : Int))) 31 = 32 - (k.val : Int) := by decide +kernel
  have := this ⟨n.toNat, by omega⟩ (by show 0 < n.toNat; omega)
  simp only [Int.toNat_of_nonneg (Int.le_of_lt h0)] at this
  exact this
/-- math.bits.RotateLeft32 -/
theorem rot_con (a n : Int) (w : World) (h0 : 0 < n) (h1 : n < 32) : Con Tryd.prog 54 [.int .u32 a, .int .i64 (-n)] w [] fun v _ => v = .int .u32 (rotr a n) := by
  refine con_of_tree mix Tryd.func54 T54_ok (by kernel_rfl) ?_
  unfold T54
  refine j_q (qs_ac) ?_
  refine j_q (qs_conv Tryd.underlying3 Tryd.underlying68 rfl) ?_
  refine j_q (qs_and_ rfl rfl) ?_
  rw [and31 n h0 h1]
  refine j_q (qs_shl rfl rfl (by first | omega | (simp only [Bool.and_eq_true, Bool.or_eq_true, Bool.and_eq_false_iff, Bool.or_eq_false_iff, Bool.not_eq_true', Bool.not_eq_false', decide_eq_true_eq, decide_eq_false_iff_not, beq_iff_eq, beq_eq_false_iff_ne, bne_iff_ne, bne_eq_false_iff_eq, ne_eq, Int.toNat_natCast] at *; omega))) ?_
  refine j_q (qs_sub rfl rfl) ?_
  rw [IntWalk.u64_in _ (by omega)]
  have e32 : 32 - (32 - n) = n := by omega
  rw [e32]
  refine j_q (qs_shr rfl rfl (by first | omega | (simp only [Bool.and_eq_true, Bool.or_eq_true, Bool.and_eq_false_iff, Bool.or_eq_false_iff, Bool.not_eq_true', Bool.not_eq_false', decide_eq_true_eq, decide_eq_false_iff_not, beq_iff_eq, beq_eq_false_iff_ne, bne_iff_ne, bne_eq_false_iff_eq, ne_eq, Int.toNat_natCast] at *; omega))) ?_
  refine j_q (qs_or_ rfl rfl) ?_
  refine j_ret_con (vs := [_]) (fun w' hw' => ⟨rfl, trivial⟩) ?_
  rfl
/-- pantry.digest.turn -/
theorem turn_con (a n : Int) (w : World) (h0 : 0 < n) (h1 : n < 32) : Con Tryd.prog 40 [.int .u32 a, .int .i64 n] w [] fun v _ => v = .int .u32 (rotr a n) := by
  refine con_of_tree mix Tryd.func40 T40_ok (by kernel_rfl) ?_
  unfold T40
  refine j_q (qs_ac) ?_
  refine j_q (qs_neg rfl) ?_
  rw [IntWalk.i64_in _ (by omega), Int.zero_sub]
  refine j_q (qs_call ent54 rfl rfl rfl (fun w' hw' => rot_con a n w' h0 h1)) ?_
  refine j_ret_con (vs := [_]) (fun w' hw' => ⟨rfl, trivial⟩) ?_
  rfl
/-- pantry.pantryref1.r -/
theorem r_con (a n : Int) (w : World) (h0 : 0 < n) (h1 : n < 32) : Con Tryd.prog 44 [.int .u32 a, .int .u64 n] w [] fun v _ => v = .int .u32 (rotr a n) := by
  refine con_of_tree mix Tryd.func44 T44_ok (by kernel_rfl) ?_
  unfold T44
  refine j_q (qs_ac) ?_
  refine j_q (qs_shr rfl rfl (by first | omega | (simp only [Bool.and_eq_true, Bool.or_eq_true, Bool.and_eq_false_iff, Bool.or_eq_false_iff, Bool.not_eq_true', Bool.not_eq_false', decide_eq_true_eq, decide_eq_false_iff_not, beq_iff_eq, beq_eq_false_iff_ne, bne_iff_ne, bne_eq_false_iff_eq, ne_eq, Int.toNat_natCast] at *; omega))) ?_
  refine j_q (qs_sub rfl rfl) ?_
  rw [IntWalk.u64_in _ (by omega)]
  refine j_q (qs_shl rfl rfl (by first | omega | (simp only [Bool.and_eq_true, Bool.or_eq_true, Bool.and_eq_false_iff, Bool.or_eq_false_iff, Bool.not_eq_true', Bool.not_eq_false', decide_eq_true_eq, decide_eq_false_iff_not, beq_iff_eq, beq_eq_false_iff_ne, bne_iff_ne, bne_eq_false_iff_eq, ne_eq, Int.toNat_natCast] at *; omega))) ?_
  refine j_q (qs_or_ rfl rfl) ?_
  refine j_ret_con (vs := [_]) (fun w' hw' => ⟨rfl, trivial⟩) ?_
  show Value.int _ _ = _
  congr 1
  exact bw_or_comm _ _ _
/-- pantry.digest.numbers -/
theorem numbers_con (w : World) : Con Tryd.prog 39 [] w [] fun v _ => v = .agg (ks .u32 kk64).toArray := by
  refine con_of_tree mix Tryd.func39 T39_ok (by kernel_rfl) ?_
  unfold T39
  refine j_alloc zero69 (fun g0 hg0 hs0 => ?_)
  refine j_q (qs_run (v := .agg (ks .u32 kk64).toArray) (fun w => by kernel_rfl)) ?_
  refine j_storew 0 sz69 rfl rfl rfl ks_one rfl rfl ?_
  refine j_ret_con (vs := [_]) (fun w' hw' => ⟨rv_agg 0 Tryd.underlying69 rfl sz69 rfl rfl rfl hw', trivial⟩) ?_
  rfl
/-- pantry.pantryref1.k -/
theorem k_con (w : World) : Con Tryd.prog 31 [] w [] fun v _ => v = .agg (ks .u32 kk64).toArray := by
  refine con_of_tree mix Tryd.func31 T31_ok (by kernel_rfl) ?_
  unfold T31
  refine j_alloc zero69 (fun g0 hg0 hs0 => ?_)
  refine j_q (qs_run (v := .agg (ks .u32 kk64).toArray) (fun w => by kernel_rfl)) ?_
  refine j_storew 0 sz69 rfl rfl rfl ks_one rfl rfl ?_
  refine j_ret_con (vs := [_]) (fun w' hw' => ⟨rv_agg 0 Tryd.underlying69 rfl sz69 rfl rfl rfl hw', trivial⟩) ?_
  rfl
/-- pantry.digest.begun -/
theorem begun_con (w : World) : Con Tryd.prog 26 [] w [] fun v _ => v = .agg (ks .u32 init8).toArray := by
  refine con_of_tree mix Tryd.func26 T26_ok (by kernel_rfl) ?_
  unfold T26
  refine j_alloc zero61 (fun g0 hg0 hs0 => ?_)
  refine j_q (qs_run (v := .agg (ks .u32 init8).toArray) (fun w => by kernel_rfl)) ?_
  refine j_storew 0 sz61 rfl rfl rfl ks_one rfl rfl ?_
  refine j_ret_con (vs := [_]) (fun w' hw' => ⟨rv_agg 0 Tryd.underlying61 rfl sz61 rfl rfl rfl hw', trivial⟩) ?_
  rfl
end Go.Proofs.YtkafaodhppikfaaDoor
