/- SHA-256 as the document has it; twenty bytes; digits. -/
import Derived.Test.YtkafaodhppikfaaDoorTa
import Derived.Test.YtkafaodhppikfaaDoorSha4
namespace Go.Proofs.YtkafaodhppikfaaDoor
open Go Go.Sx
set_option maxRecDepth 100000
set_option maxHeartbeats 4000000
set_option linter.unusedVariables false
set_option linter.unusedSimpArgs false
attribute [local irreducible] J JQ QS Con W opW
theorem ent31 : Sx.Enters Tryd.prog 31 := ⟨_, Tryd.func31, by kernel_rfl, by kernel_rfl⟩
theorem ent32 : Sx.Enters Tryd.prog 32 := ⟨_, Tryd.func32, by kernel_rfl, by kernel_rfl⟩

theorem shift56v (i : Nat) (h : i < 8) : min (8 * (7 - (i : Int))).toNat IntKind.u64.bits = 56 - 8 * i := by
  show min _ 64 = _
  omega
theorem digit16 (c : UInt8) : ((c.toNat : Int).fdiv (2 ^ min (Int.toNat 4) IntKind.u8.bits) = ((c.toNat : Int) / 16)) ∧ bw .and .u8 (c.toNat : Int) 15 = (c.toNat : Int) % 16 := by
  have : ∀ k : Fin 256, ((k.val : Int).fdiv (2 ^ min (Int.toNat 4) IntKind.u8.bits) = ((k.val : Int) / 16)) ∧ bw .and .u8 (k.val : Int) 15 = (k.val : Int) % 16 := by decide +kernel
  exact this ⟨c.toNat, c.toNat_lt⟩
theorem digits_cut (k : Nat) (h : k < 16) : ((([48, 49, 50, 51, 52, 53, 54, 55, 56, 57, 97, 98, 99, 100, 101, 102] : List UInt8).take (k + 1)).drop k) = [digit (k : Int)] := by
  have : ∀ k : Fin 16, ((([48, 49, 50, 51, 52, 53, 54, 55, 56, 57, 97, 98, 99, 100, 101, 102] : List UInt8).take (k.val + 1)).drop k.val) = [digit (k.val : Int)] := by decide +kernel
  exact this ⟨k, h⟩
/-- pantry.pantryref1.Sum -/
theorem rsum_con (p : List UInt8) (a : Addr) (c : Nat) (w : World) (hpm : p.length ≤ 17592186044416) (hpc : Cells w a (ints p)) : Con Tryd.prog 21 [.slice (some a) p.length c] w [] fun v _ => v = .agg (ints (sum p)).toArray := by
  refine con_of_tree mix Tryd.func21 T21_ok (by kernel_rfl) ?_
  unfold T21
  have hz64 := zc_lt p.length
  refine j_alloc zero25 (fun g0 hg0 hs0 => ?_)
  refine j_lit (vs := []) Tryd.underlying22 sz5 zero5 rfl (by simp [oneV]) ⟨rfl, by decide⟩ (fun g1 v1 c1 hv1 hc1 ho1 => ?_)
  subst hv1 hc1
  refine j_append 0 Tryd.underlying22 Tryd.underlying22 (.inr ⟨_, rfl⟩) sb5 zero5 rfl ho1 rfl (src_sl (rd_cells hpc (by simp)) (by simp [ints_length])) ints_one ⟨(by simp [ints_length]; omega), (by decide)⟩ (fun v2 c2 ho2 => ?_)
  refine j_lit (vs := [.int .u8 _]) Tryd.underlying22 sz5 zero5 rfl (by simp [oneV]) ⟨rfl, by decide⟩ (fun g3 v3 c3 hv3 hc3 ho3 => ?_)
  subst hv3 hc3
  refine j_append 1 Tryd.underlying22 Tryd.underlying22 (.inr ⟨_, rfl⟩) sb5 zero5 rfl ho2 rfl (src_sl (rd_own 0 rfl (n := 1) rfl) rfl) (by simp [oneV]) ⟨(by simp [ints_length, len8_length]; omega), (by decide)⟩ (fun v4 c4 ho4 => ?_)
  have ho4' : Own 5 1 (ints (p ++ [128] ++ List.replicate 0 0)) v4 c4 := by simpa using own128 (l := [128]) ho4
  refine j_drop ?_
  refine j_loop (fun m vs S' => ∃ (j : Nat) (v : Value) (c : SH), vs = [v] ∧ S' = [c, [(g0, .cells (ints (List.replicate 32 0)).toArray 25 (0, 0))], []] ∧ Own 5 1 (ints (p ++ [128] ++ List.replicate j 0)) v c ∧ j ≤ zc p.length ∧ m = zc p.length - j) ⟨_, 0, _, _, rfl, rfl, ho4', by omega, rfl⟩ ?_
  rintro m vs S' hlen ⟨j, v, c', rfl, rfl, ho, hj, rfl⟩
  obtain ⟨n, A, cap, rfl, hn⟩ := own_form ho (by decide)
  simp only [ints_length, List.length_append, List.length_replicate, List.length_cons, List.length_nil] at hn
  clear hlen
  refine j_q (qs_lenl Tryd.underlying22 rfl) ?_
  refine j_q (qs_rem64 rfl rfl (by first | omega | (simp only [Bool.and_eq_true, Bool.or_eq_true, Bool.and_eq_false_iff, Bool.or_eq_false_iff, Bool.not_eq_true', Bool.not_eq_false', decide_eq_true_eq, decide_eq_false_iff_not, beq_iff_eq, beq_eq_false_iff_ne, bne_iff_ne, bne_eq_false_iff_eq, ne_eq, Int.toNat_natCast] at *; omega)) (by first | omega | (simp only [Bool.and_eq_true, Bool.or_eq_true, Bool.and_eq_false_iff, Bool.or_eq_false_iff, Bool.not_eq_true', Bool.not_eq_false', decide_eq_true_eq, decide_eq_false_iff_not, beq_iff_eq, beq_eq_false_iff_ne, bne_iff_ne, bne_eq_false_iff_eq, ne_eq, Int.toNat_natCast] at *; omega))) ?_
  refine j_q (qs_neq rfl rfl) ?_
  refine j_cond rfl (fun hc0 => ?_) (fun hc0 => ?_)
  · skip
    have hj1 : j < zc p.length := by
      refine zc_back hj ?_
      simp only [Bool.and_eq_true, Bool.or_eq_true, Bool.and_eq_false_iff, Bool.or_eq_false_iff, Bool.not_eq_true', Bool.not_eq_false', decide_eq_true_eq, decide_eq_false_iff_not, beq_iff_eq, beq_eq_false_iff_ne, bne_iff_ne, bne_eq_false_iff_eq, ne_eq, Int.toNat_natCast] at *
      omega
    refine j_lit (vs := [.int .u8 _]) Tryd.underlying22 sz5 zero5 rfl (by simp [oneV]) ⟨rfl, by decide⟩ (fun g8 v8 c8 hv8 hc8 ho8 => ?_)
    subst hv8 hc8
    refine j_append 1 Tryd.underlying22 Tryd.underlying22 (.inr ⟨_, rfl⟩) sb5 zero5 rfl ho rfl (src_sl (rd_own 0 rfl (n := 1) rfl) rfl) (by simp [oneV]) ⟨(by simp [ints_length, len8_length]; omega), (by decide)⟩ (fun v9 c9 ho9 => ?_)
    have ho9' : Own 5 1 (ints (p ++ [128] ++ List.replicate (j + 1) 0)) v9 c9 := by rw [← rep_succ]; exact own128 (l := [0]) ho9
    refine j_drop ?_
    refine j_back rfl ?_
    exact ⟨_, back_le hj1, j + 1, _, _, rfl, rfl, ho9', by omega, rfl⟩
  · skip
    have hje : j = zc p.length := by
      refine zc_end hj ?_
      simp only [Bool.and_eq_true, Bool.or_eq_true, Bool.and_eq_false_iff, Bool.or_eq_false_iff, Bool.not_eq_true', Bool.not_eq_false', decide_eq_true_eq, decide_eq_false_iff_not, beq_iff_eq, beq_eq_false_iff_ne, bne_iff_ne, bne_eq_false_iff_eq, ne_eq, Int.toNat_natCast] at *
      omega
    refine j_q (qs_lenl Tryd.underlying22 rfl) ?_
    refine j_q (qs_conv Tryd.underlying3 Tryd.underlying65 rfl) ?_
    refine j_q (qs_mul rfl rfl) ?_
    refine j_q (qs_ac) ?_
    refine j_loop (fun m vs S' => ∃ (i : Nat) (v : Value) (c : SH), vs = [v, .int .i64 (7 - (i : Int))] ∧ S' = [c, [(g0, .cells (ints (List.replicate 32 0)).toArray 25 (0, 0))], []] ∧ Own 5 1 (ints (p ++ [128] ++ List.replicate (zc p.length) 0 ++ len8 (bits8 p.length) i)) v c ∧ i ≤ 8 ∧ m = 8 - i) ⟨_, 0, _, _, rfl, rfl, ho_len8 (hje ▸ ho), by omega, rfl⟩ ?_
    rintro m vs S' hlen ⟨i, v, c', rfl, rfl, ho, hi, rfl⟩
    clear hlen
    refine j_q (qs_geq rfl rfl) ?_
    refine j_cond rfl (fun hc1 => ?_) (fun hc1 => ?_)
    · skip
      have hi1 : i < 8 := by
        simp only [Bool.and_eq_true, Bool.or_eq_true, Bool.and_eq_false_iff, Bool.or_eq_false_iff, Bool.not_eq_true', Bool.not_eq_false', decide_eq_true_eq, decide_eq_false_iff_not, beq_iff_eq, beq_eq_false_iff_ne, bne_iff_ne, bne_eq_false_iff_eq, ne_eq, Int.toNat_natCast] at *
        omega
      refine j_q (qs_mul64 rfl rfl (by first | omega | (simp only [Bool.and_eq_true, Bool.or_eq_true, Bool.and_eq_false_iff, Bool.or_eq_false_iff, Bool.not_eq_true', Bool.not_eq_false', decide_eq_true_eq, decide_eq_false_iff_not, beq_iff_eq, beq_eq_false_iff_ne, bne_iff_ne, bne_eq_false_iff_eq, ne_eq, Int.toNat_natCast] at *; omega))) ?_
      refine j_q (qs_conv Tryd.underlying3 Tryd.underlying68 rfl) ?_
      rw [IntWalk.u64_in _ (by omega)]
      refine j_q (qs_shr rfl rfl (by first | omega | (simp only [Bool.and_eq_true, Bool.or_eq_true, Bool.and_eq_false_iff, Bool.or_eq_false_iff, Bool.not_eq_true', Bool.not_eq_false', decide_eq_true_eq, decide_eq_false_iff_not, beq_iff_eq, beq_eq_false_iff_ne, bne_iff_ne, bne_eq_false_iff_eq, ne_eq, Int.toNat_natCast] at *; omega))) ?_
      rw [shift56v i hi1]
      refine j_q (qs_conv8 Tryd.underlying65 Tryd.underlying5 rfl) ?_
      refine j_lit (vs := [.int .u8 _]) Tryd.underlying22 sz5 zero5 rfl (by simp [oneV]) ⟨rfl, by decide⟩ (fun g19 v19 c19 hv19 hc19 ho19 => ?_)
      subst hv19 hc19
      refine j_append 1 Tryd.underlying22 Tryd.underlying22 (.inr ⟨_, rfl⟩) sb5 zero5 rfl ho rfl (src_sl (rd_own 0 rfl (n := 1) rfl) rfl) (by simp [oneV]) ⟨(by simp [ints_length, len8_length]; omega), (by decide)⟩ (fun v20 c20 ho20 => ?_)
      have ho20' : Own 5 1 (ints (p ++ [128] ++ List.replicate (zc p.length) 0 ++ len8 (bits8 p.length) (i + 1))) v20 c20 := by rw [← len8_succ]; exact own128 (l := [_]) ho20
      refine j_drop ?_
      refine j_q (qs_sub64 rfl rfl (by first | omega | (simp only [Bool.and_eq_true, Bool.or_eq_true, Bool.and_eq_false_iff, Bool.or_eq_false_iff, Bool.not_eq_true', Bool.not_eq_false', decide_eq_true_eq, decide_eq_false_iff_not, beq_iff_eq, beq_eq_false_iff_ne, bne_iff_ne, bne_eq_false_iff_eq, ne_eq, Int.toNat_natCast] at *; omega))) ?_
      refine j_back rfl ?_
      exact ⟨_, back_le hi1, i + 1, _, _, by show [_, Value.int _ _] = _; congr 3; omega, rfl, ho20', by omega, rfl⟩
    · skip
      have hi1 : i = 8 := by
        simp only [Bool.and_eq_true, Bool.or_eq_true, Bool.and_eq_false_iff, Bool.or_eq_false_iff, Bool.not_eq_true', Bool.not_eq_false', decide_eq_true_eq, decide_eq_false_iff_not, beq_iff_eq, beq_eq_false_iff_ne, bne_iff_ne, bne_eq_false_iff_eq, ne_eq, Int.toNat_natCast] at *
        omega
      subst hi1
      obtain ⟨g, n, cap, rfl⟩ := own_some ho (by simp [ints])
      obtain ⟨row, fz, hrow, hl1, hl2, hl3, hl4⟩ := own_row ho
      obtain ⟨mm, hmm⟩ : ∃ mm, mm = p ++ [128] ++ List.replicate (zc p.length) 0 ++ len8 (bits8 p.length) 8 := ⟨_, rfl⟩
      have hml : mm.length = p.length + zc p.length + 9 := by rw [hmm]; simp [len8_length]; omega
      rw [← hmm] at ho hl1
      simp only [ints_length] at hl1
      obtain rfl : n = mm.length := by omega
      have hm64 := zc_mod p.length
      refine j_q (qs_run (v := .agg (ks .u32 init8).toArray) (fun w => by kernel_rfl)) ?_
      refine j_alloc zero60 (fun g23 hg23 hs23 => ?_)
      first
        | refine j_storew 0 sz60 rfl rfl (by first | (rw [ks_length]; exact hsl) | (rw [ks_length]; exact block_length hsl) | (rw [ints_length]; exact hhl) | rfl) ks_one rfl (by first | (rw [ks_length]; exact hsl) | (rw [ks_length]; exact block_length hsl) | (rw [ints_length]; exact hhl) | rfl) ?_
        | refine j_storew 1 sz60 rfl rfl (by first | (rw [ks_length]; exact hsl) | (rw [ks_length]; exact block_length hsl) | (rw [ints_length]; exact hhl) | rfl) ks_one rfl (by first | (rw [ks_length]; exact hsl) | (rw [ks_length]; exact block_length hsl) | (rw [ints_length]; exact hhl) | rfl) ?_
        | refine j_storew 2 sz60 rfl rfl (by first | (rw [ks_length]; exact hsl) | (rw [ks_length]; exact block_length hsl) | (rw [ints_length]; exact hhl) | rfl) ks_one rfl (by first | (rw [ks_length]; exact hsl) | (rw [ks_length]; exact block_length hsl) | (rw [ints_length]; exact hhl) | rfl) ?_
        | refine j_storew 3 sz60 rfl rfl (by first | (rw [ks_length]; exact hsl) | (rw [ks_length]; exact block_length hsl) | (rw [ints_length]; exact hhl) | rfl) ks_one rfl (by first | (rw [ks_length]; exact hsl) | (rw [ks_length]; exact block_length hsl) | (rw [ints_length]; exact hhl) | rfl) ?_
        | refine j_storew 4 sz60 rfl rfl (by first | (rw [ks_length]; exact hsl) | (rw [ks_length]; exact block_length hsl) | (rw [ints_length]; exact hhl) | rfl) ks_one rfl (by first | (rw [ks_length]; exact hsl) | (rw [ks_length]; exact block_length hsl) | (rw [ints_length]; exact hhl) | rfl) ?_
        | refine j_storew 5 sz60 rfl rfl (by first | (rw [ks_length]; exact hsl) | (rw [ks_length]; exact block_length hsl) | (rw [ints_length]; exact hhl) | rfl) ks_one rfl (by first | (rw [ks_length]; exact hsl) | (rw [ks_length]; exact block_length hsl) | (rw [ints_length]; exact hhl) | rfl) ?_
      refine j_q (qs_call ent31 rfl rfl rfl (fun w' hw' => k_con w')) ?_
      refine j_alloc zero69 (fun g26 hg26 hs26 => ?_)
      first
        | refine j_storew 0 sz69 rfl rfl (by first | (rw [ks_length]; exact hsl) | (rw [ks_length]; exact block_length hsl) | (rw [ints_length]; exact hhl) | rfl) ks_one rfl (by first | (rw [ks_length]; exact hsl) | (rw [ks_length]; exact block_length hsl) | (rw [ints_length]; exact hhl) | rfl) ?_
        | refine j_storew 1 sz69 rfl rfl (by first | (rw [ks_length]; exact hsl) | (rw [ks_length]; exact block_length hsl) | (rw [ints_length]; exact hhl) | rfl) ks_one rfl (by first | (rw [ks_length]; exact hsl) | (rw [ks_length]; exact block_length hsl) | (rw [ints_length]; exact hhl) | rfl) ?_
        | refine j_storew 2 sz69 rfl rfl (by first | (rw [ks_length]; exact hsl) | (rw [ks_length]; exact block_length hsl) | (rw [ints_length]; exact hhl) | rfl) ks_one rfl (by first | (rw [ks_length]; exact hsl) | (rw [ks_length]; exact block_length hsl) | (rw [ints_length]; exact hhl) | rfl) ?_
        | refine j_storew 3 sz69 rfl rfl (by first | (rw [ks_length]; exact hsl) | (rw [ks_length]; exact block_length hsl) | (rw [ints_length]; exact hhl) | rfl) ks_one rfl (by first | (rw [ks_length]; exact hsl) | (rw [ks_length]; exact block_length hsl) | (rw [ints_length]; exact hhl) | rfl) ?_
        | refine j_storew 4 sz69 rfl rfl (by first | (rw [ks_length]; exact hsl) | (rw [ks_length]; exact block_length hsl) | (rw [ints_length]; exact hhl) | rfl) ks_one rfl (by first | (rw [ks_length]; exact hsl) | (rw [ks_length]; exact block_length hsl) | (rw [ints_length]; exact hhl) | rfl) ?_
        | refine j_storew 5 sz69 rfl rfl (by first | (rw [ks_length]; exact hsl) | (rw [ks_length]; exact block_length hsl) | (rw [ints_length]; exact hhl) | rfl) ks_one rfl (by first | (rw [ks_length]; exact hsl) | (rw [ks_length]; exact block_length hsl) | (rw [ints_length]; exact hhl) | rfl) ?_
      refine j_q (qs_ac) ?_
      refine j_loop (fun m vs S' => ∃ (t : Nat) (s : List Int), vs = [.int .i64 (64 * (t : Int))] ∧ S' = [[(g26, .cells (ks .u32 kk64).toArray 69 (0, 0))], [(g23, .cells (ks .u32 s).toArray 60 (0, 0))], c', [(g0, .cells (ints (List.replicate 32 0)).toArray 25 (0, 0))], []] ∧ s = blocks t mm init8 ∧ 64 * t ≤ mm.length ∧ m = mm.length - 64 * t) ⟨_, 0, _, rfl, rfl, rfl, by omega, rfl⟩ ?_
      rintro m vs S' hlen ⟨t, s, rfl, rfl, hs, ht, rfl⟩
      have hsl : s.length = 8 := by rw [hs]; exact blocks_length rfl
      clear hlen
      refine j_q (qs_lenl Tryd.underlying22 rfl) ?_
      refine j_q (qs_lss rfl rfl) ?_
      refine j_cond rfl (fun hc2 => ?_) (fun hc2 => ?_)
      · skip
        have ht1 : 64 * t + 64 ≤ mm.length := by
          simp only [Bool.and_eq_true, Bool.or_eq_true, Bool.and_eq_false_iff, Bool.or_eq_false_iff, Bool.not_eq_true', Bool.not_eq_false', decide_eq_true_eq, decide_eq_false_iff_not, beq_iff_eq, beq_eq_false_iff_ne, bne_iff_ne, bne_eq_false_iff_eq, ne_eq, Int.toNat_natCast] at *
          omega
        refine j_draw ?_
        first
          | refine jq_q (qs_loadw 0 Tryd.underlying60 rfl sz60 rfl rfl (by first | (rw [ks_length]; exact hsl) | (rw [ks_length]; exact block_length hsl) | (rw [ints_length]; exact hhl) | rfl)) ?_
          | refine jq_q (qs_loadw 1 Tryd.underlying60 rfl sz60 rfl rfl (by first | (rw [ks_length]; exact hsl) | (rw [ks_length]; exact block_length hsl) | (rw [ints_length]; exact hhl) | rfl)) ?_
          | refine jq_q (qs_loadw 2 Tryd.underlying60 rfl sz60 rfl rfl (by first | (rw [ks_length]; exact hsl) | (rw [ks_length]; exact block_length hsl) | (rw [ints_length]; exact hhl) | rfl)) ?_
          | refine jq_q (qs_loadw 3 Tryd.underlying60 rfl sz60 rfl rfl (by first | (rw [ks_length]; exact hsl) | (rw [ks_length]; exact block_length hsl) | (rw [ints_length]; exact hhl) | rfl)) ?_
          | refine jq_q (qs_loadw 4 Tryd.underlying60 rfl sz60 rfl rfl (by first | (rw [ks_length]; exact hsl) | (rw [ks_length]; exact block_length hsl) | (rw [ints_length]; exact hhl) | rfl)) ?_
          | refine jq_q (qs_loadw 5 Tryd.underlying60 rfl sz60 rfl rfl (by first | (rw [ks_length]; exact hsl) | (rw [ks_length]; exact block_length hsl) | (rw [ints_length]; exact hhl) | rfl)) ?_
        refine jq_q (qs_add64 rfl rfl (by first | omega | (simp only [Bool.and_eq_true, Bool.or_eq_true, Bool.and_eq_false_iff, Bool.or_eq_false_iff, Bool.not_eq_true', Bool.not_eq_false', decide_eq_true_eq, decide_eq_false_iff_not, beq_iff_eq, beq_eq_false_iff_ne, bne_iff_ne, bne_eq_false_iff_eq, ne_eq, Int.toNat_natCast] at *; omega))) ?_
        refine jq_q (qs_cutl (a := 64 * t) (z := 64 * t + 64) Tryd.underlying22 sz5 rfl ⟨.i64, by show Value.int _ _ = _; congr 1⟩ ⟨.i64, by show Value.int _ _ = _; congr 1⟩ (by omega) (by omega)) ?_
        rw [if_neg (by omega : ¬ cap = 64 * t), show 64 * t + 64 - 64 * t = 64 by omega, Nat.mul_one]
        refine jq_q (qs_call ent32 rfl rfl rfl (fun w' hw' => block_con s ((mm.drop (64 * t)).take 64) _ _ g26 w' hsl (by rw [List.length_take, List.length_drop]; omega) (by rw [← ints_take, ← ints_drop]; exact cells_take (cells_drop (rd_w (own_rd ho 2 rfl) hw') _) _) (rd_w (rd_own 0 rfl (n := 64) rfl) hw'))) ?_
        refine jq_nil ?_
        first
          | refine j_storew 0 sz60 rfl rfl (by first | (rw [ks_length]; exact hsl) | (rw [ks_length]; exact block_length hsl) | (rw [ints_length]; exact hhl) | rfl) ks_one rfl (by first | (rw [ks_length]; exact hsl) | (rw [ks_length]; exact block_length hsl) | (rw [ints_length]; exact hhl) | rfl) ?_
          | refine j_storew 1 sz60 rfl rfl (by first | (rw [ks_length]; exact hsl) | (rw [ks_length]; exact block_length hsl) | (rw [ints_length]; exact hhl) | rfl) ks_one rfl (by first | (rw [ks_length]; exact hsl) | (rw [ks_length]; exact block_length hsl) | (rw [ints_length]; exact hhl) | rfl) ?_
          | refine j_storew 2 sz60 rfl rfl (by first | (rw [ks_length]; exact hsl) | (rw [ks_length]; exact block_length hsl) | (rw [ints_length]; exact hhl) | rfl) ks_one rfl (by first | (rw [ks_length]; exact hsl) | (rw [ks_length]; exact block_length hsl) | (rw [ints_length]; exact hhl) | rfl) ?_
          | refine j_storew 3 sz60 rfl rfl (by first | (rw [ks_length]; exact hsl) | (rw [ks_length]; exact block_length hsl) | (rw [ints_length]; exact hhl) | rfl) ks_one rfl (by first | (rw [ks_length]; exact hsl) | (rw [ks_length]; exact block_length hsl) | (rw [ints_length]; exact hhl) | rfl) ?_
          | refine j_storew 4 sz60 rfl rfl (by first | (rw [ks_length]; exact hsl) | (rw [ks_length]; exact block_length hsl) | (rw [ints_length]; exact hhl) | rfl) ks_one rfl (by first | (rw [ks_length]; exact hsl) | (rw [ks_length]; exact block_length hsl) | (rw [ints_length]; exact hhl) | rfl) ?_
          | refine j_storew 5 sz60 rfl rfl (by first | (rw [ks_length]; exact hsl) | (rw [ks_length]; exact block_length hsl) | (rw [ints_length]; exact hhl) | rfl) ks_one rfl (by first | (rw [ks_length]; exact hsl) | (rw [ks_length]; exact block_length hsl) | (rw [ints_length]; exact hhl) | rfl) ?_
        refine j_q (qs_add64 rfl rfl (by first | omega | (simp only [Bool.and_eq_true, Bool.or_eq_true, Bool.and_eq_false_iff, Bool.or_eq_false_iff, Bool.not_eq_true', Bool.not_eq_false', decide_eq_true_eq, decide_eq_false_iff_not, beq_iff_eq, beq_eq_false_iff_ne, bne_iff_ne, bne_eq_false_iff_eq, ne_eq, Int.toNat_natCast] at *; omega))) ?_
        refine j_back rfl ?_
        refine ⟨_, (by omega : mm.length - 64 * (t + 1) < mm.length - 64 * t), t + 1, _, by first | rfl | (show [Value.int _ _] = _; congr 2; omega), rfl, ?_, by omega, rfl⟩
        rw [blocks_succ, ← hs]
        refine block_congr (fun j hj => ?_) _
        rw [List.getD_eq_getElem?_getD, List.getElem?_take_of_lt hj, ← List.getD_eq_getElem?_getD]
      · skip
        have ht1 : t = (p.length + zc p.length + 9) / 64 := by
          simp only [Bool.and_eq_true, Bool.or_eq_true, Bool.and_eq_false_iff, Bool.or_eq_false_iff, Bool.not_eq_true', Bool.not_eq_false', decide_eq_true_eq, decide_eq_false_iff_not, beq_iff_eq, beq_eq_false_iff_ne, bne_iff_ne, bne_eq_false_iff_eq, ne_eq, Int.toNat_natCast] at *
          omega
        refine j_alloc zero25 (fun g37 hg37 hs37 => ?_)
        refine j_q (qs_ac) ?_
        refine j_loop (fun m vs S' => ∃ (i : Nat) (h : List UInt8), vs = [.int .i64 i] ∧ S' = [[(g37, .cells (ints h).toArray 25 (0, 0))], [(g26, .cells (ks .u32 kk64).toArray 69 (0, 0))], [(g23, .cells (ks .u32 s).toArray 60 (0, 0))], c', [(g0, .cells (ints (List.replicate 32 0)).toArray 25 (0, 0))], []] ∧ h.length = 32 ∧ h.take i = outs s i ∧ i ≤ 32 ∧ m = 32 - i) ⟨_, 0, _, rfl, rfl, by simp, rfl, by omega, rfl⟩ ?_
        rintro m vs S' hlen ⟨i, h, rfl, rfl, hhl, ht, hi, rfl⟩
        clear hlen
        refine j_q (qs_lss rfl rfl) ?_
        refine j_cond rfl (fun hc3 => ?_) (fun hc3 => ?_)
        · skip
          have hi1 : i < 32 := by
            simp only [Bool.and_eq_true, Bool.or_eq_true, Bool.and_eq_false_iff, Bool.or_eq_false_iff, Bool.not_eq_true', Bool.not_eq_false', decide_eq_true_eq, decide_eq_false_iff_not, beq_iff_eq, beq_eq_false_iff_ne, bne_iff_ne, bne_eq_false_iff_eq, ne_eq, Int.toNat_natCast] at *
            omega
          refine j_q (qs_quo64 rfl rfl (by first | omega | (simp only [Bool.and_eq_true, Bool.or_eq_true, Bool.and_eq_false_iff, Bool.or_eq_false_iff, Bool.not_eq_true', Bool.not_eq_false', decide_eq_true_eq, decide_eq_false_iff_not, beq_iff_eq, beq_eq_false_iff_ne, bne_iff_ne, bne_eq_false_iff_eq, ne_eq, Int.toNat_natCast] at *; omega)) (by first | omega | (simp only [Bool.and_eq_true, Bool.or_eq_true, Bool.and_eq_false_iff, Bool.or_eq_false_iff, Bool.not_eq_true', Bool.not_eq_false', decide_eq_true_eq, decide_eq_false_iff_not, beq_iff_eq, beq_eq_false_iff_ne, bne_iff_ne, bne_eq_false_iff_eq, ne_eq, Int.toNat_natCast] at *; omega)) (by first | omega | (simp only [Bool.and_eq_true, Bool.or_eq_true, Bool.and_eq_false_iff, Bool.or_eq_false_iff, Bool.not_eq_true', Bool.not_eq_false', decide_eq_true_eq, decide_eq_false_iff_not, beq_iff_eq, beq_eq_false_iff_ne, bne_iff_ne, bne_eq_false_iff_eq, ne_eq, Int.toNat_natCast] at *; omega))) ?_
          refine j_q (qs_ix0 Tryd.underlying60 sz59 rfl rfl ⟨(by first | omega | (simp only [Bool.and_eq_true, Bool.or_eq_true, Bool.and_eq_false_iff, Bool.or_eq_false_iff, Bool.not_eq_true', Bool.not_eq_false', decide_eq_true_eq, decide_eq_false_iff_not, beq_iff_eq, beq_eq_false_iff_ne, bne_iff_ne, bne_eq_false_iff_eq, ne_eq, Int.toNat_natCast] at *; omega)), (by first | omega | (simp only [Bool.and_eq_true, Bool.or_eq_true, Bool.and_eq_false_iff, Bool.or_eq_false_iff, Bool.not_eq_true', Bool.not_eq_false', decide_eq_true_eq, decide_eq_false_iff_not, beq_iff_eq, beq_eq_false_iff_ne, bne_iff_ne, bne_eq_false_iff_eq, ne_eq, Int.toNat_natCast] at *; omega))⟩) ?_
          first
            | refine j_q (qs_loadk 0 Tryd.underlying59 rfl rfl (by first | omega | (simp only [Bool.and_eq_true, Bool.or_eq_true, Bool.and_eq_false_iff, Bool.or_eq_false_iff, Bool.not_eq_true', Bool.not_eq_false', decide_eq_true_eq, decide_eq_false_iff_not, beq_iff_eq, beq_eq_false_iff_ne, bne_iff_ne, bne_eq_false_iff_eq, ne_eq, Int.toNat_natCast] at *; omega))) ?_
            | refine j_q (qs_loadk 1 Tryd.underlying59 rfl rfl (by first | omega | (simp only [Bool.and_eq_true, Bool.or_eq_true, Bool.and_eq_false_iff, Bool.or_eq_false_iff, Bool.not_eq_true', Bool.not_eq_false', decide_eq_true_eq, decide_eq_false_iff_not, beq_iff_eq, beq_eq_false_iff_ne, bne_iff_ne, bne_eq_false_iff_eq, ne_eq, Int.toNat_natCast] at *; omega))) ?_
            | refine j_q (qs_loadk 2 Tryd.underlying59 rfl rfl (by first | omega | (simp only [Bool.and_eq_true, Bool.or_eq_true, Bool.and_eq_false_iff, Bool.or_eq_false_iff, Bool.not_eq_true', Bool.not_eq_false', decide_eq_true_eq, decide_eq_false_iff_not, beq_iff_eq, beq_eq_false_iff_ne, bne_iff_ne, bne_eq_false_iff_eq, ne_eq, Int.toNat_natCast] at *; omega))) ?_
            | refine j_q (qs_loadk 3 Tryd.underlying59 rfl rfl (by first | omega | (simp only [Bool.and_eq_true, Bool.or_eq_true, Bool.and_eq_false_iff, Bool.or_eq_false_iff, Bool.not_eq_true', Bool.not_eq_false', decide_eq_true_eq, decide_eq_false_iff_not, beq_iff_eq, beq_eq_false_iff_ne, bne_iff_ne, bne_eq_false_iff_eq, ne_eq, Int.toNat_natCast] at *; omega))) ?_
            | refine j_q (qs_loadk 4 Tryd.underlying59 rfl rfl (by first | omega | (simp only [Bool.and_eq_true, Bool.or_eq_true, Bool.and_eq_false_iff, Bool.or_eq_false_iff, Bool.not_eq_true', Bool.not_eq_false', decide_eq_true_eq, decide_eq_false_iff_not, beq_iff_eq, beq_eq_false_iff_ne, bne_iff_ne, bne_eq_false_iff_eq, ne_eq, Int.toNat_natCast] at *; omega))) ?_
            | refine j_q (qs_loadk 5 Tryd.underlying59 rfl rfl (by first | omega | (simp only [Bool.and_eq_true, Bool.or_eq_true, Bool.and_eq_false_iff, Bool.or_eq_false_iff, Bool.not_eq_true', Bool.not_eq_false', decide_eq_true_eq, decide_eq_false_iff_not, beq_iff_eq, beq_eq_false_iff_ne, bne_iff_ne, bne_eq_false_iff_eq, ne_eq, Int.toNat_natCast] at *; omega))) ?_
            | refine j_q (qs_load 0 Tryd.underlying59 rfl rfl rfl rfl) ?_
            | refine j_q (qs_load 1 Tryd.underlying59 rfl rfl rfl rfl) ?_
            | refine j_q (qs_load 2 Tryd.underlying59 rfl rfl rfl rfl) ?_
            | refine j_q (qs_load 3 Tryd.underlying59 rfl rfl rfl rfl) ?_
            | refine j_q (qs_load 4 Tryd.underlying59 rfl rfl rfl rfl) ?_
            | refine j_q (qs_load 5 Tryd.underlying59 rfl rfl rfl rfl) ?_
          refine j_q (qs_rem64 rfl rfl (by first | omega | (simp only [Bool.and_eq_true, Bool.or_eq_true, Bool.and_eq_false_iff, Bool.or_eq_false_iff, Bool.not_eq_true', Bool.not_eq_false', decide_eq_true_eq, decide_eq_false_iff_not, beq_iff_eq, beq_eq_false_iff_ne, bne_iff_ne, bne_eq_false_iff_eq, ne_eq, Int.toNat_natCast] at *; omega)) (by first | omega | (simp only [Bool.and_eq_true, Bool.or_eq_true, Bool.and_eq_false_iff, Bool.or_eq_false_iff, Bool.not_eq_true', Bool.not_eq_false', decide_eq_true_eq, decide_eq_false_iff_not, beq_iff_eq, beq_eq_false_iff_ne, bne_iff_ne, bne_eq_false_iff_eq, ne_eq, Int.toNat_natCast] at *; omega))) ?_
          refine j_q (qs_mul64 rfl rfl (by first | omega | (simp only [Bool.and_eq_true, Bool.or_eq_true, Bool.and_eq_false_iff, Bool.or_eq_false_iff, Bool.not_eq_true', Bool.not_eq_false', decide_eq_true_eq, decide_eq_false_iff_not, beq_iff_eq, beq_eq_false_iff_ne, bne_iff_ne, bne_eq_false_iff_eq, ne_eq, Int.toNat_natCast] at *; omega))) ?_
          refine j_q (qs_sub64 rfl rfl (by first | omega | (simp only [Bool.and_eq_true, Bool.or_eq_true, Bool.and_eq_false_iff, Bool.or_eq_false_iff, Bool.not_eq_true', Bool.not_eq_false', decide_eq_true_eq, decide_eq_false_iff_not, beq_iff_eq, beq_eq_false_iff_ne, bne_iff_ne, bne_eq_false_iff_eq, ne_eq, Int.toNat_natCast] at *; omega))) ?_
          refine j_q (qs_conv Tryd.underlying3 Tryd.underlying68 rfl) ?_
          rw [IntWalk.u64_in _ (by omega)]
          refine j_q (qs_shr rfl rfl (by first | omega | (simp only [Bool.and_eq_true, Bool.or_eq_true, Bool.and_eq_false_iff, Bool.or_eq_false_iff, Bool.not_eq_true', Bool.not_eq_false', decide_eq_true_eq, decide_eq_false_iff_not, beq_iff_eq, beq_eq_false_iff_ne, bne_iff_ne, bne_eq_false_iff_eq, ne_eq, Int.toNat_natCast] at *; omega))) ?_
          refine j_q (qs_conv8 Tryd.underlying59 Tryd.underlying5 rfl) ?_
          rw [div4, shift24]
          refine j_q (qs_ix0 Tryd.underlying25 sz5 rfl rfl ⟨(by first | omega | (simp only [Bool.and_eq_true, Bool.or_eq_true, Bool.and_eq_false_iff, Bool.or_eq_false_iff, Bool.not_eq_true', Bool.not_eq_false', decide_eq_true_eq, decide_eq_false_iff_not, beq_iff_eq, beq_eq_false_iff_ne, bne_iff_ne, bne_eq_false_iff_eq, ne_eq, Int.toNat_natCast] at *; omega)), (by first | omega | (simp only [Bool.and_eq_true, Bool.or_eq_true, Bool.and_eq_false_iff, Bool.or_eq_false_iff, Bool.not_eq_true', Bool.not_eq_false', decide_eq_true_eq, decide_eq_false_iff_not, beq_iff_eq, beq_eq_false_iff_ne, bne_iff_ne, bne_eq_false_iff_eq, ne_eq, Int.toNat_natCast] at *; omega))⟩) ?_
          first
            | refine j_storek 0 sz5 rfl rfl rfl (by first | omega | (simp only [Bool.and_eq_true, Bool.or_eq_true, Bool.and_eq_false_iff, Bool.or_eq_false_iff, Bool.not_eq_true', Bool.not_eq_false', decide_eq_true_eq, decide_eq_false_iff_not, beq_iff_eq, beq_eq_false_iff_ne, bne_iff_ne, bne_eq_false_iff_eq, ne_eq, Int.toNat_natCast] at *; omega)) ?_
            | refine j_storek 1 sz5 rfl rfl rfl (by first | omega | (simp only [Bool.and_eq_true, Bool.or_eq_true, Bool.and_eq_false_iff, Bool.or_eq_false_iff, Bool.not_eq_true', Bool.not_eq_false', decide_eq_true_eq, decide_eq_false_iff_not, beq_iff_eq, beq_eq_false_iff_ne, bne_iff_ne, bne_eq_false_iff_eq, ne_eq, Int.toNat_natCast] at *; omega)) ?_
            | refine j_storek 2 sz5 rfl rfl rfl (by first | omega | (simp only [Bool.and_eq_true, Bool.or_eq_true, Bool.and_eq_false_iff, Bool.or_eq_false_iff, Bool.not_eq_true', Bool.not_eq_false', decide_eq_true_eq, decide_eq_false_iff_not, beq_iff_eq, beq_eq_false_iff_ne, bne_iff_ne, bne_eq_false_iff_eq, ne_eq, Int.toNat_natCast] at *; omega)) ?_
            | refine j_storek 3 sz5 rfl rfl rfl (by first | omega | (simp only [Bool.and_eq_true, Bool.or_eq_true, Bool.and_eq_false_iff, Bool.or_eq_false_iff, Bool.not_eq_true', Bool.not_eq_false', decide_eq_true_eq, decide_eq_false_iff_not, beq_iff_eq, beq_eq_false_iff_ne, bne_iff_ne, bne_eq_false_iff_eq, ne_eq, Int.toNat_natCast] at *; omega)) ?_
            | refine j_storek 4 sz5 rfl rfl rfl (by first | omega | (simp only [Bool.and_eq_true, Bool.or_eq_true, Bool.and_eq_false_iff, Bool.or_eq_false_iff, Bool.not_eq_true', Bool.not_eq_false', decide_eq_true_eq, decide_eq_false_iff_not, beq_iff_eq, beq_eq_false_iff_ne, bne_iff_ne, bne_eq_false_iff_eq, ne_eq, Int.toNat_natCast] at *; omega)) ?_
            | refine j_storek 5 sz5 rfl rfl rfl (by first | omega | (simp only [Bool.and_eq_true, Bool.or_eq_true, Bool.and_eq_false_iff, Bool.or_eq_false_iff, Bool.not_eq_true', Bool.not_eq_false', decide_eq_true_eq, decide_eq_false_iff_not, beq_iff_eq, beq_eq_false_iff_ne, bne_iff_ne, bne_eq_false_iff_eq, ne_eq, Int.toNat_natCast] at *; omega)) ?_
            | refine j_storei 0 sz5 rfl rfl rfl (by first | omega | (simp only [Bool.and_eq_true, Bool.or_eq_true, Bool.and_eq_false_iff, Bool.or_eq_false_iff, Bool.not_eq_true', Bool.not_eq_false', decide_eq_true_eq, decide_eq_false_iff_not, beq_iff_eq, beq_eq_false_iff_ne, bne_iff_ne, bne_eq_false_iff_eq, ne_eq, Int.toNat_natCast] at *; omega)) ?_
            | refine j_storei 1 sz5 rfl rfl rfl (by first | omega | (simp only [Bool.and_eq_true, Bool.or_eq_true, Bool.and_eq_false_iff, Bool.or_eq_false_iff, Bool.not_eq_true', Bool.not_eq_false', decide_eq_true_eq, decide_eq_false_iff_not, beq_iff_eq, beq_eq_false_iff_ne, bne_iff_ne, bne_eq_false_iff_eq, ne_eq, Int.toNat_natCast] at *; omega)) ?_
            | refine j_storei 2 sz5 rfl rfl rfl (by first | omega | (simp only [Bool.and_eq_true, Bool.or_eq_true, Bool.and_eq_false_iff, Bool.or_eq_false_iff, Bool.not_eq_true', Bool.not_eq_false', decide_eq_true_eq, decide_eq_false_iff_not, beq_iff_eq, beq_eq_false_iff_ne, bne_iff_ne, bne_eq_false_iff_eq, ne_eq, Int.toNat_natCast] at *; omega)) ?_
            | refine j_storei 3 sz5 rfl rfl rfl (by first | omega | (simp only [Bool.and_eq_true, Bool.or_eq_true, Bool.and_eq_false_iff, Bool.or_eq_false_iff, Bool.not_eq_true', Bool.not_eq_false', decide_eq_true_eq, decide_eq_false_iff_not, beq_iff_eq, beq_eq_false_iff_ne, bne_iff_ne, bne_eq_false_iff_eq, ne_eq, Int.toNat_natCast] at *; omega)) ?_
            | refine j_storei 4 sz5 rfl rfl rfl (by first | omega | (simp only [Bool.and_eq_true, Bool.or_eq_true, Bool.and_eq_false_iff, Bool.or_eq_false_iff, Bool.not_eq_true', Bool.not_eq_false', decide_eq_true_eq, decide_eq_false_iff_not, beq_iff_eq, beq_eq_false_iff_ne, bne_iff_ne, bne_eq_false_iff_eq, ne_eq, Int.toNat_natCast] at *; omega)) ?_
            | refine j_storei 5 sz5 rfl rfl rfl (by first | omega | (simp only [Bool.and_eq_true, Bool.or_eq_true, Bool.and_eq_false_iff, Bool.or_eq_false_iff, Bool.not_eq_true', Bool.not_eq_false', decide_eq_true_eq, decide_eq_false_iff_not, beq_iff_eq, beq_eq_false_iff_ne, bne_iff_ne, bne_eq_false_iff_eq, ne_eq, Int.toNat_natCast] at *; omega)) ?_
            | refine j_store 0 sz5 rfl rfl rfl rfl (by simp) (by first | omega | (simp only [Bool.and_eq_true, Bool.or_eq_true, Bool.and_eq_false_iff, Bool.or_eq_false_iff, Bool.not_eq_true', Bool.not_eq_false', decide_eq_true_eq, decide_eq_false_iff_not, beq_iff_eq, beq_eq_false_iff_ne, bne_iff_ne, bne_eq_false_iff_eq, ne_eq, Int.toNat_natCast] at *; omega)) ?_
            | refine j_store 1 sz5 rfl rfl rfl rfl (by simp) (by first | omega | (simp only [Bool.and_eq_true, Bool.or_eq_true, Bool.and_eq_false_iff, Bool.or_eq_false_iff, Bool.not_eq_true', Bool.not_eq_false', decide_eq_true_eq, decide_eq_false_iff_not, beq_iff_eq, beq_eq_false_iff_ne, bne_iff_ne, bne_eq_false_iff_eq, ne_eq, Int.toNat_natCast] at *; omega)) ?_
            | refine j_store 2 sz5 rfl rfl rfl rfl (by simp) (by first | omega | (simp only [Bool.and_eq_true, Bool.or_eq_true, Bool.and_eq_false_iff, Bool.or_eq_false_iff, Bool.not_eq_true', Bool.not_eq_false', decide_eq_true_eq, decide_eq_false_iff_not, beq_iff_eq, beq_eq_false_iff_ne, bne_iff_ne, bne_eq_false_iff_eq, ne_eq, Int.toNat_natCast] at *; omega)) ?_
            | refine j_store 3 sz5 rfl rfl rfl rfl (by simp) (by first | omega | (simp only [Bool.and_eq_true, Bool.or_eq_true, Bool.and_eq_false_iff, Bool.or_eq_false_iff, Bool.not_eq_true', Bool.not_eq_false', decide_eq_true_eq, decide_eq_false_iff_not, beq_iff_eq, beq_eq_false_iff_ne, bne_iff_ne, bne_eq_false_iff_eq, ne_eq, Int.toNat_natCast] at *; omega)) ?_
            | refine j_store 4 sz5 rfl rfl rfl rfl (by simp) (by first | omega | (simp only [Bool.and_eq_true, Bool.or_eq_true, Bool.and_eq_false_iff, Bool.or_eq_false_iff, Bool.not_eq_true', Bool.not_eq_false', decide_eq_true_eq, decide_eq_false_iff_not, beq_iff_eq, beq_eq_false_iff_ne, bne_iff_ne, bne_eq_false_iff_eq, ne_eq, Int.toNat_natCast] at *; omega)) ?_
            | refine j_store 5 sz5 rfl rfl rfl rfl (by simp) (by first | omega | (simp only [Bool.and_eq_true, Bool.or_eq_true, Bool.and_eq_false_iff, Bool.or_eq_false_iff, Bool.not_eq_true', Bool.not_eq_false', decide_eq_true_eq, decide_eq_false_iff_not, beq_iff_eq, beq_eq_false_iff_ne, bne_iff_ne, bne_eq_false_iff_eq, ne_eq, Int.toNat_natCast] at *; omega)) ?_
          refine j_q (qs_add64 rfl rfl (by first | omega | (simp only [Bool.and_eq_true, Bool.or_eq_true, Bool.and_eq_false_iff, Bool.or_eq_false_iff, Bool.not_eq_true', Bool.not_eq_false', decide_eq_true_eq, decide_eq_false_iff_not, beq_iff_eq, beq_eq_false_iff_ne, bne_iff_ne, bne_eq_false_iff_eq, ne_eq, Int.toNat_natCast] at *; omega))) ?_
          refine j_back rfl ?_
          exact ⟨_, back_le hi1, i + 1, _, rfl, rfl, by simpa using hhl, outs_step ht (by omega), by omega, rfl⟩
        · skip
          have hi1 : i = 32 := by
            simp only [Bool.and_eq_true, Bool.or_eq_true, Bool.and_eq_false_iff, Bool.or_eq_false_iff, Bool.not_eq_true', Bool.not_eq_false', decide_eq_true_eq, decide_eq_false_iff_not, beq_iff_eq, beq_eq_false_iff_ne, bne_iff_ne, bne_eq_false_iff_eq, ne_eq, Int.toNat_natCast] at *
            omega
          subst hi1
          first
            | refine j_q (qs_loadw 0 Tryd.underlying25 rfl sz25 rfl rfl (by first | (rw [ks_length]; exact hsl) | (rw [ks_length]; exact block_length hsl) | (rw [ints_length]; exact hhl) | rfl)) ?_
            | refine j_q (qs_loadw 1 Tryd.underlying25 rfl sz25 rfl rfl (by first | (rw [ks_length]; exact hsl) | (rw [ks_length]; exact block_length hsl) | (rw [ints_length]; exact hhl) | rfl)) ?_
            | refine j_q (qs_loadw 2 Tryd.underlying25 rfl sz25 rfl rfl (by first | (rw [ks_length]; exact hsl) | (rw [ks_length]; exact block_length hsl) | (rw [ints_length]; exact hhl) | rfl)) ?_
            | refine j_q (qs_loadw 3 Tryd.underlying25 rfl sz25 rfl rfl (by first | (rw [ks_length]; exact hsl) | (rw [ks_length]; exact block_length hsl) | (rw [ints_length]; exact hhl) | rfl)) ?_
            | refine j_q (qs_loadw 4 Tryd.underlying25 rfl sz25 rfl rfl (by first | (rw [ks_length]; exact hsl) | (rw [ks_length]; exact block_length hsl) | (rw [ints_length]; exact hhl) | rfl)) ?_
            | refine j_q (qs_loadw 5 Tryd.underlying25 rfl sz25 rfl rfl (by first | (rw [ks_length]; exact hsl) | (rw [ks_length]; exact block_length hsl) | (rw [ints_length]; exact hhl) | rfl)) ?_
          first
            | refine j_storew 0 sz25 rfl rfl (by first | (rw [ks_length]; exact hsl) | (rw [ks_length]; exact block_length hsl) | (rw [ints_length]; exact hhl) | rfl) ints_one rfl (by first | (rw [ks_length]; exact hsl) | (rw [ks_length]; exact block_length hsl) | (rw [ints_length]; exact hhl) | rfl) ?_
            | refine j_storew 1 sz25 rfl rfl (by first | (rw [ks_length]; exact hsl) | (rw [ks_length]; exact block_length hsl) | (rw [ints_length]; exact hhl) | rfl) ints_one rfl (by first | (rw [ks_length]; exact hsl) | (rw [ks_length]; exact block_length hsl) | (rw [ints_length]; exact hhl) | rfl) ?_
            | refine j_storew 2 sz25 rfl rfl (by first | (rw [ks_length]; exact hsl) | (rw [ks_length]; exact block_length hsl) | (rw [ints_length]; exact hhl) | rfl) ints_one rfl (by first | (rw [ks_length]; exact hsl) | (rw [ks_length]; exact block_length hsl) | (rw [ints_length]; exact hhl) | rfl) ?_
            | refine j_storew 3 sz25 rfl rfl (by first | (rw [ks_length]; exact hsl) | (rw [ks_length]; exact block_length hsl) | (rw [ints_length]; exact hhl) | rfl) ints_one rfl (by first | (rw [ks_length]; exact hsl) | (rw [ks_length]; exact block_length hsl) | (rw [ints_length]; exact hhl) | rfl) ?_
            | refine j_storew 4 sz25 rfl rfl (by first | (rw [ks_length]; exact hsl) | (rw [ks_length]; exact block_length hsl) | (rw [ints_length]; exact hhl) | rfl) ints_one rfl (by first | (rw [ks_length]; exact hsl) | (rw [ks_length]; exact block_length hsl) | (rw [ints_length]; exact hhl) | rfl) ?_
            | refine j_storew 5 sz25 rfl rfl (by first | (rw [ks_length]; exact hsl) | (rw [ks_length]; exact block_length hsl) | (rw [ints_length]; exact hhl) | rfl) ints_one rfl (by first | (rw [ks_length]; exact hsl) | (rw [ks_length]; exact block_length hsl) | (rw [ints_length]; exact hhl) | rfl) ?_
          first
            | refine j_ret_con (vs := [_]) (fun w' hw' => ⟨rv_agg 0 Tryd.underlying25 rfl sz25 rfl rfl (by first | (rw [ks_length]; exact hsl) | (rw [ks_length]; exact block_length hsl) | (rw [ints_length]; exact hhl) | rfl) hw', trivial⟩) ?_
            | refine j_ret_con (vs := [_]) (fun w' hw' => ⟨rv_agg 1 Tryd.underlying25 rfl sz25 rfl rfl (by first | (rw [ks_length]; exact hsl) | (rw [ks_length]; exact block_length hsl) | (rw [ints_length]; exact hhl) | rfl) hw', trivial⟩) ?_
            | refine j_ret_con (vs := [_]) (fun w' hw' => ⟨rv_agg 2 Tryd.underlying25 rfl sz25 rfl rfl (by first | (rw [ks_length]; exact hsl) | (rw [ks_length]; exact block_length hsl) | (rw [ints_length]; exact hhl) | rfl) hw', trivial⟩) ?_
            | refine j_ret_con (vs := [_]) (fun w' hw' => ⟨rv_agg 3 Tryd.underlying25 rfl sz25 rfl rfl (by first | (rw [ks_length]; exact hsl) | (rw [ks_length]; exact block_length hsl) | (rw [ints_length]; exact hhl) | rfl) hw', trivial⟩) ?_
            | refine j_ret_con (vs := [_]) (fun w' hw' => ⟨rv_agg 4 Tryd.underlying25 rfl sz25 rfl rfl (by first | (rw [ks_length]; exact hsl) | (rw [ks_length]; exact block_length hsl) | (rw [ints_length]; exact hhl) | rfl) hw', trivial⟩) ?_
            | refine j_ret_con (vs := [_]) (fun w' hw' => ⟨rv_agg 5 Tryd.underlying25 rfl sz25 rfl rfl (by first | (rw [ks_length]; exact hsl) | (rw [ks_length]; exact block_length hsl) | (rw [ints_length]; exact hhl) | rfl) hw', trivial⟩) ?_
          show Value.agg _ = _
          rw [List.take_of_length_le (by omega)] at ht
          rw [ht, hs, ht1, sum_eq, ← hmm]
end Go.Proofs.YtkafaodhppikfaaDoor
