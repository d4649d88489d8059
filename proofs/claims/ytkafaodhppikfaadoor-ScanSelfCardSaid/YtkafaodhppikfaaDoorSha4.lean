/- SHA-256 of any bytes, as the program and the document have it. -/
import Derived.Test.YtkafaodhppikfaaDoorTa
import Derived.Test.YtkafaodhppikfaaDoorSha3
namespace Go.Proofs.YtkafaodhppikfaaDoor
open Go Go.Sx
set_option maxRecDepth 100000
set_option maxHeartbeats 4000000
set_option linter.unusedVariables false
set_option linter.unusedSimpArgs false
attribute [local irreducible] J JQ QS Con W opW
theorem ent26 : Sx.Enters Tryd.prog 26 := ⟨_, Tryd.func26, by kernel_rfl, by kernel_rfl⟩
theorem ent28 : Sx.Enters Tryd.prog 28 := ⟨_, Tryd.func28, by kernel_rfl, by kernel_rfl⟩
/-- pantry.digest.Sum -/
theorem sum_con (p : List UInt8) (a : Addr) (c : Nat) (w : World) (hpm : p.length ≤ 17592186044416) (hc : p.length ≤ c) (hpc : Cells w a (ints p)) : Con Tryd.prog 16 [.slice (some a) p.length c] w [] fun v _ => v = .agg (ints (sum p)).toArray := by
  refine con_of_tree mix Tryd.func16 T16_ok (by kernel_rfl) ?_
  unfold T16
  refine j_alloc zero25 (fun g0 hg0 hs0 => ?_)
  refine j_q (qs_call ent26 rfl rfl rfl (fun w' hw' => begun_con w')) ?_
  refine j_alloc zero61 (fun g2 hg2 hs2 => ?_)
  first
    | refine j_storew 0 sz61 rfl rfl (by first | (rw [ks_length]; exact blocks_length rfl) | (rw [ints_length]; exact outs_length _ _) | rfl) ks_one rfl (by first | (rw [ks_length]; exact blocks_length rfl) | (rw [ints_length]; exact outs_length _ _) | rfl) ?_
    | refine j_storew 1 sz61 rfl rfl (by first | (rw [ks_length]; exact blocks_length rfl) | (rw [ints_length]; exact outs_length _ _) | rfl) ks_one rfl (by first | (rw [ks_length]; exact blocks_length rfl) | (rw [ints_length]; exact outs_length _ _) | rfl) ?_
    | refine j_storew 2 sz61 rfl rfl (by first | (rw [ks_length]; exact blocks_length rfl) | (rw [ints_length]; exact outs_length _ _) | rfl) ks_one rfl (by first | (rw [ks_length]; exact blocks_length rfl) | (rw [ints_length]; exact outs_length _ _) | rfl) ?_
  refine j_call 0 ent27 rfl rfl rfl rfl (fun w' hw' => take_con init8 p a c g2 _ w' rfl (by omega) hc (rd_w (rd_cells hpc (by simp)) hw') (fun hp => ne_own hpc hg2 hp)) (fun u S2 hu => ?_)
  obtain ⟨rfl, rfl⟩ := hu
  refine j_draw ?_
  first
    | refine jq_q (qs_loadw 0 Tryd.underlying61 rfl sz61 rfl rfl (by first | (rw [ks_length]; exact blocks_length rfl) | (rw [ints_length]; exact outs_length _ _) | rfl)) ?_
    | refine jq_q (qs_loadw 1 Tryd.underlying61 rfl sz61 rfl rfl (by first | (rw [ks_length]; exact blocks_length rfl) | (rw [ints_length]; exact outs_length _ _) | rfl)) ?_
    | refine jq_q (qs_loadw 2 Tryd.underlying61 rfl sz61 rfl rfl (by first | (rw [ks_length]; exact blocks_length rfl) | (rw [ints_length]; exact outs_length _ _) | rfl)) ?_
  refine jq_q (qs_lenl Tryd.underlying22 rfl) ?_
  refine jq_q (qs_quo64 rfl rfl (by first | omega | (simp only [Bool.and_eq_true, Bool.or_eq_true, Bool.and_eq_false_iff, Bool.or_eq_false_iff, Bool.not_eq_true', Bool.not_eq_false', decide_eq_true_eq, decide_eq_false_iff_not, beq_iff_eq, beq_eq_false_iff_ne, bne_iff_ne, bne_eq_false_iff_eq, ne_eq, Int.toNat_natCast] at *; omega)) (by first | omega | (simp only [Bool.and_eq_true, Bool.or_eq_true, Bool.and_eq_false_iff, Bool.or_eq_false_iff, Bool.not_eq_true', Bool.not_eq_false', decide_eq_true_eq, decide_eq_false_iff_not, beq_iff_eq, beq_eq_false_iff_ne, bne_iff_ne, bne_eq_false_iff_eq, ne_eq, Int.toNat_natCast] at *; omega)) (by first | omega | (simp only [Bool.and_eq_true, Bool.or_eq_true, Bool.and_eq_false_iff, Bool.or_eq_false_iff, Bool.not_eq_true', Bool.not_eq_false', decide_eq_true_eq, decide_eq_false_iff_not, beq_iff_eq, beq_eq_false_iff_ne, bne_iff_ne, bne_eq_false_iff_eq, ne_eq, Int.toNat_natCast] at *; omega))) ?_
  refine jq_q (qs_mul64 rfl rfl (by first | omega | (simp only [Bool.and_eq_true, Bool.or_eq_true, Bool.and_eq_false_iff, Bool.or_eq_false_iff, Bool.not_eq_true', Bool.not_eq_false', decide_eq_true_eq, decide_eq_false_iff_not, beq_iff_eq, beq_eq_false_iff_ne, bne_iff_ne, bne_eq_false_iff_eq, ne_eq, Int.toNat_natCast] at *; omega))) ?_
  refine jq_q (qs_cutl (a := 64 * (p.length / 64)) (z := p.length) Tryd.underlying22 sz5 rfl ⟨.i64, by show Value.int _ _ = _; congr 1; omega⟩ rfl (by omega) (by omega)) ?_
  rw [show (if c = 64 * (p.length / 64) then some a else (some a).map (·.add (64 * (p.length / 64) * 1))) = some (if c = 64 * (p.length / 64) then a else a.add (64 * (p.length / 64))) by split <;> simp]
  have hcell : ∀ (S : List SH) w', Sig ⟨w, dom []⟩ S w' → Cells w' (if c = 64 * (p.length / 64) then a else a.add (64 * (p.length / 64))) ((ints p).drop (64 * (p.length / 64))) := by
    intro S w' hw'
    have h0 := rd_w (rd_cells hpc (by simp)) hw'
    split
    · rw [List.drop_of_length_le (by rw [ints_length]; omega)]
      intro j u hu
      simp at hu
    · exact cells_drop h0 _
  rw [show p.length - 64 * (p.length / 64) = (p.drop (64 * (p.length / 64))).length by rw [List.length_drop]]
  refine jq_q (qs_lenl Tryd.underlying22 rfl) ?_
  refine jq_q (qs_conv Tryd.underlying3 Tryd.underlying65 rfl) ?_
  refine jq_q (qs_call ent28 rfl rfl rfl (fun w' hw' => ended_con _ (p.drop (64 * (p.length / 64))) _ _ _ (bits8 p.length) w' (blocks_length rfl) (by rw [List.length_drop]; omega) (by rw [← ints_drop]; exact hcell _ w' hw') rfl)) ?_
  refine jq_nil ?_
  first
    | refine j_storew 0 sz25 rfl rfl (by first | (rw [ks_length]; exact blocks_length rfl) | (rw [ints_length]; exact outs_length _ _) | rfl) ints_one rfl (by first | (rw [ks_length]; exact blocks_length rfl) | (rw [ints_length]; exact outs_length _ _) | rfl) ?_
    | refine j_storew 1 sz25 rfl rfl (by first | (rw [ks_length]; exact blocks_length rfl) | (rw [ints_length]; exact outs_length _ _) | rfl) ints_one rfl (by first | (rw [ks_length]; exact blocks_length rfl) | (rw [ints_length]; exact outs_length _ _) | rfl) ?_
    | refine j_storew 2 sz25 rfl rfl (by first | (rw [ks_length]; exact blocks_length rfl) | (rw [ints_length]; exact outs_length _ _) | rfl) ints_one rfl (by first | (rw [ks_length]; exact blocks_length rfl) | (rw [ints_length]; exact outs_length _ _) | rfl) ?_
  first
    | refine j_ret_con (vs := [_]) (fun w' hw' => ⟨rv_agg 0 Tryd.underlying25 rfl sz25 rfl rfl (by first | (rw [ks_length]; exact blocks_length rfl) | (rw [ints_length]; exact outs_length _ _) | rfl) hw', trivial⟩) ?_
    | refine j_ret_con (vs := [_]) (fun w' hw' => ⟨rv_agg 1 Tryd.underlying25 rfl sz25 rfl rfl (by first | (rw [ks_length]; exact blocks_length rfl) | (rw [ints_length]; exact outs_length _ _) | rfl) hw', trivial⟩) ?_
    | refine j_ret_con (vs := [_]) (fun w' hw' => ⟨rv_agg 2 Tryd.underlying25 rfl sz25 rfl rfl (by first | (rw [ks_length]; exact blocks_length rfl) | (rw [ints_length]; exact outs_length _ _) | rfl) hw', trivial⟩) ?_
  show Value.agg _ = _
  rw [sum_split]
end Go.Proofs.YtkafaodhppikfaaDoor
