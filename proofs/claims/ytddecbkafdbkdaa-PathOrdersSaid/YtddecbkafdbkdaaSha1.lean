/- SHA-256: what the program's and the document's functions answer. -/
import Derived.Test.YtddecbkafdbkdaaTa
import Derived.Test.YtddecbkafdbkdaaSx8
namespace Go.Proofs.Ytddecbkafdbkdaa
open Go Go.Sx
set_option maxRecDepth 100000
set_option maxHeartbeats 4000000
set_option linter.unusedVariables false
set_option linter.unusedSimpArgs false
attribute [local irreducible] J JQ QS Con W opW
theorem ent64 : Sx.Enters Try.prog 64 := ⟨_, Try.func64, by kernel_rfl, by kernel_rfl⟩
theorem sz62 : (Try.prog.info? 62).map (·.size) = some 8 := by kernel_rfl
theorem sz71 : (Try.prog.info? 71).map (·.size) = some 64 := by kernel_rfl
theorem zero62 : zeroL Try.prog 62 = some (ks .u32 (List.replicate 8 0)) := by kernel_rfl
theorem zero71 : zeroL Try.prog 71 = some (ks .u32 (List.replicate 64 0)) := by kernel_rfl

theorem bw_or_comm (k : IntKind) (m n : Int) : bw .or k m n = bw .or k n m := by
  unfold bw
  rw [BitVec.or_comm]
theorem and31 (n : Int) (h0 : 0 < n) (h1 : n < 32) : bw .and .u64 (IntKind.u64.wrap (-n)) 31 = 32 - n := by
  have : ∀ k : Fin 32, 0 < k.val → bw .and .u64 (IntKind.u64.wrap (-(k.val : Int))) 31 = 32 - (k.val : Int) := by decide +kernel
  have := this ⟨n.toNat, by omega⟩ (by show 0 < n.toNat; omega)
  simp only [Int.toNat_of_nonneg (Int.le_of_lt h0)] at this
  exact this
/-- math.bits.RotateLeft32 -/
theorem rot_con (a n : Int) (w : World) (h0 : 0 < n) (h1 : n < 32) : Con Try.prog 64 [.int .u32 a, .int .i64 (-n)] w [] fun v _ => v = .int .u32 (rotr a n) := by
  refine con_of_tree mix Try.func64 T64_ok (by kernel_rfl) ?_
  unfold T64
  refine j_q (qs_ac) ?_
  refine j_q (qs_conv Try.underlying3 Try.underlying67 rfl) ?_
  refine j_q (qs_and_ rfl rfl) ?_
  rw [and31 n h0 h1]
  refine j_q (qs_shl rfl rfl (by first | omega | (simp only [Bool.and_eq_true, Bool.or_eq_true, Bool.and_eq_false_iff, Bool.or_eq_false_iff, Bool.not_eq_true', Bool.not_eq_false', decide_eq_true_eq, decide_eq_false_iff_not, beq_iff_eq, beq_eq_false_iff_ne, bne_iff_ne, bne_eq_false_iff_eq, ne_eq, Int.toNat_natCast] at *; omega))) ?_
  refine j_q (qs_sub rfl rfl) ?_
  rw [IntWalk.u64_in _ (by omega)]
  have e32 : 32 - (32 - n) = n := by omega
  rw [e32]
  refine j_q (qs_shr rfl rfl (by first | omega | (simp only [Bool.and_eq_true, Bool.or_eq_true, Bool.and_eq_false_iff, Bool.or_eq_false_iff, Bool.not_eq_true', Bool.not_eq_false', decide_eq_true_eq, decide_eq_false_iff_not, beq_iff_eq, beq_eq_false_iff_ne, bne_iff_ne, bne_eq_false_iff_eq, ne_eq, Int.toNat_natCast] at *; omega))) ?_
  refine j_q (qs_or_ rfl rfl) ?_
  refine j_ret_con (vs := [_]) (fun w' hw' => ⟨rfl, trivial⟩) ?_
  rfl
/-- pantry.digest.turn -/
theorem turn_con (a n : Int) (w : World) (h0 : 0 < n) (h1 : n < 32) : Con Try.prog 55 [.int .u32 a, .int .i64 n] w [] fun v _ => v = .int .u32 (rotr a n) := by
  refine con_of_tree mix Try.func55 T55_ok (by kernel_rfl) ?_
  unfold T55
  refine j_q (qs_ac) ?_
  refine j_q (qs_neg rfl) ?_
  rw [IntWalk.i64_in _ (by omega), Int.zero_sub]
  refine j_q (qs_call ent64 rfl rfl rfl (fun w' hw' => rot_con a n w' h0 h1)) ?_
  refine j_ret_con (vs := [_]) (fun w' hw' => ⟨rfl, trivial⟩) ?_
  rfl
/-- pantry.pantryref1.r -/
theorem r_con (a n : Int) (w : World) (h0 : 0 < n) (h1 : n < 32) : Con Try.prog 57 [.int .u32 a, .int .u64 n] w [] fun v _ => v = .int .u32 (rotr a n) := by
  refine con_of_tree mix Try.func57 T57_ok (by kernel_rfl) ?_
  unfold T57
  refine j_q (qs_ac) ?_
  refine j_q (qs_shr rfl rfl (by first | omega | (simp only [Bool.and_eq_true, Bool.or_eq_true, Bool.and_eq_false_iff, Bool.or_eq_false_iff, Bool.not_eq_true', Bool.not_eq_false', decide_eq_true_eq, decide_eq_false_iff_not, beq_iff_eq, beq_eq_false_iff_ne, bne_iff_ne, bne_eq_false_iff_eq, ne_eq, Int.toNat_natCast] at *; omega))) ?_
  refine j_q (qs_sub rfl rfl) ?_
  rw [IntWalk.u64_in _ (by omega)]
  refine j_q (qs_shl rfl rfl (by first | omega | (simp only [Bool.and_eq_true, Bool.or_eq_true, Bool.and_eq_false_iff, Bool.or_eq_false_iff, Bool.not_eq_true', Bool.not_eq_false', decide_eq_true_eq, decide_eq_false_iff_not, beq_iff_eq, beq_eq_false_iff_ne, bne_iff_ne, bne_eq_false_iff_eq, ne_eq, Int.toNat_natCast] at *; omega))) ?_
  refine j_q (qs_or_ rfl rfl) ?_
  refine j_ret_con (vs := [_]) (fun w' hw' => ⟨rfl, trivial⟩) ?_
  show Value.int _ _ = _
  congr 1
  exact bw_or_comm _ _ _
/-- pantry.digest.numbers -/
theorem numbers_con (w : World) : Con Try.prog 54 [] w [] fun v _ => v = .agg (ks .u32 kk64).toArray := by
  refine con_of_tree mix Try.func54 T54_ok (by kernel_rfl) ?_
  unfold T54
  refine j_alloc zero71 (fun g0 hg0 hs0 => ?_)
  refine j_q (qs_run (v := .agg (ks .u32 kk64).toArray) (fun w => by kernel_rfl)) ?_
  refine j_storew 0 sz71 rfl rfl rfl ks_one rfl rfl ?_
  refine j_ret_con (vs := [_]) (fun w' hw' => ⟨rv_agg 0 Try.underlying71 rfl sz71 rfl rfl rfl hw', trivial⟩) ?_
  rfl
/-- pantry.pantryref1.k -/
theorem k_con (w : World) : Con Try.prog 41 [] w [] fun v _ => v = .agg (ks .u32 kk64).toArray := by
  refine con_of_tree mix Try.func41 T41_ok (by kernel_rfl) ?_
  unfold T41
  refine j_alloc zero71 (fun g0 hg0 hs0 => ?_)
  refine j_q (qs_run (v := .agg (ks .u32 kk64).toArray) (fun w => by kernel_rfl)) ?_
  refine j_storew 0 sz71 rfl rfl rfl ks_one rfl rfl ?_
  refine j_ret_con (vs := [_]) (fun w' hw' => ⟨rv_agg 0 Try.underlying71 rfl sz71 rfl rfl rfl hw', trivial⟩) ?_
  rfl
/-- pantry.digest.begun -/
theorem begun_con (w : World) : Con Try.prog 36 [] w [] fun v _ => v = .agg (ks .u32 init8).toArray := by
  refine con_of_tree mix Try.func36 T36_ok (by kernel_rfl) ?_
  unfold T36
  refine j_alloc zero62 (fun g0 hg0 hs0 => ?_)
  refine j_q (qs_run (v := .agg (ks .u32 init8).toArray) (fun w => by kernel_rfl)) ?_
  refine j_storew 0 sz62 rfl rfl rfl ks_one rfl rfl ?_
  refine j_ret_con (vs := [_]) (fun w' hw' => ⟨rv_agg 0 Try.underlying62 rfl sz62 rfl rfl rfl hw', trivial⟩) ?_
  rfl
end Go.Proofs.Ytddecbkafdbkdaa
