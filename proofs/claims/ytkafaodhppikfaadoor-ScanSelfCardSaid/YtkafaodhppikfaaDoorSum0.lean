/- SHA-256 of no byte at all, in a slice that is nil; of any readable slice. -/
import Derived.Test.YtkafaodhppikfaaDoorTa
import Derived.Test.YtkafaodhppikfaaDoorNum
namespace Go.Proofs.YtkafaodhppikfaaDoor
open Go Go.Sx
set_option maxRecDepth 100000
set_option maxHeartbeats 4000000
set_option linter.unusedVariables false
set_option linter.unusedSimpArgs false
attribute [local irreducible] J JQ QS Con W opW


attribute [local irreducible] isName isPath spA spB spE cp sortS rise dg PT ofDig Fnd RunOk Win isDig standsB rew over rwB rwN rwE rwOk
/-- (*pantry.digest.state).take -/
theorem take0_con (s : List Int) (gs : Nat) (e : TypeId) (w : World) : Con Tryd.prog 27 [.pointer (some ⟨gs, 0, none⟩), .slice none 0 0] w [(gs, .cells (ks .u32 s).toArray e (0, 0))] fun v S' => v = .tuple #[] ∧ S' = [[(gs, .cells (ks .u32 s).toArray e (0, 0))]] := by
  refine con_of_tree mix Tryd.func27 T27_ok (by kernel_rfl) ?_
  unfold T27
  refine j_q (qs_call ent39 rfl rfl rfl (fun w' hw' => numbers_con w')) ?_
  refine j_alloc zero69 (fun g1 hg1 hs1 => ?_)
  first
    | refine j_storew 0 sz69 rfl rfl (by first | rfl | simp [ks_length]) ks_one rfl (by first | rfl | simp [ks_length]) ?_
    | refine j_storew 1 sz69 rfl rfl (by first | rfl | simp [ks_length]) ks_one rfl (by first | rfl | simp [ks_length]) ?_
    | refine j_storew 2 sz69 rfl rfl (by first | rfl | simp [ks_length]) ks_one rfl (by first | rfl | simp [ks_length]) ?_
  refine j_alloc zero69 (fun g3 hg3 hs3 => ?_)
  refine j_loop (fun m vs S' => vs = [.slice none 0 0] ∧ S' = [[(g3, .cells (ks .u32 (List.replicate 64 0)).toArray 69 (0, 0))], [(g1, .cells (ks .u32 kk64).toArray 69 (0, 0))], [(gs, .cells (ks .u32 s).toArray e (0, 0))]] ∧ m = 0) ⟨_, rfl, rfl, rfl⟩ ?_
  rintro m vs S' hlen ⟨rfl, rfl, rfl⟩
  refine j_q (qs_lenl Tryd.underlying22 rfl) ?_
  refine j_q (qs_geq rfl rfl) ?_
  refine j_cond rfl (fun hc0 => ?_) (fun hc0 => ?_)
  · skip
    simp at hc0
  · skip
    refine j_subl (S' := [[(gs, .cells (ks .u32 s).toArray e (0, 0))]]) (by repeat first | exact List.Sublist.refl _ | exact List.nil_sublist _ | apply List.Sublist.cons_cons | apply List.Sublist.cons) ?_
    refine j_ret_con (vs := []) (fun w' hw' => trivial) ?_
    exact ⟨rfl, rfl⟩
/-- bytes.Clone -/
theorem clone0_con (w : World) : Con Tryd.prog 41 [.slice none 0 0] w [] fun v S' => v = .slice none 0 0 ∧ S' = [] := by
  refine con_of_tree mix Tryd.func41 T41_ok (by kernel_rfl) ?_
  unfold T41
  refine j_q (qs_ac) ?_
  refine j_q (qs_slnil Tryd.underlying22 rfl) ?_
  refine j_cond rfl (fun hc0 => ?_) (fun hc0 => ?_)
  · skip
    refine j_q (qs_ac) ?_
    refine j_subl (S' := []) (by repeat first | exact List.Sublist.refl _ | exact List.nil_sublist _ | apply List.Sublist.cons_cons | apply List.Sublist.cons) ?_
    refine j_ret_con (vs := [_]) (fun w' hw' => ⟨rfl, trivial⟩) ?_
    exact ⟨rfl, rfl⟩
  · skip
    simp at hc0
/-- (pantry.digest.state).ended -/
theorem ended0_con (s : List Int) (rest : List UInt8) (hr0 : rest = []) (n0 x : Int) (w : World) (hs : s.length = 8) (hx : x = IntKind.u64.wrap (n0 * 8)) : Con Tryd.prog 28 [.agg (ks .u32 s).toArray, .slice none 0 0, .int .u64 n0] w [] fun v _ => v = .agg (ints (ended s rest x)).toArray := by
  refine con_of_tree mix Tryd.func28 T28_ok (by kernel_rfl) ?_
  unfold T28
  have hrm : rest.length ≤ 17592186044416 := by rw [hr0]; decide
  have hz64 := zc_lt rest.length
  refine j_box rfl (fun g0 hg0 hs0 => ?_)
  refine j_alloc zero25 (fun g1 hg1 hs1 => ?_)
  refine j_call0 ent41 rfl rfl rfl (fun w' hw' => clone0_con w') (fun u S2 hu => ?_)
  obtain ⟨rfl, rfl⟩ := hu
  obtain ⟨c2, ho2, hc2⟩ : ∃ c2, Sx.Own 5 1 (ints rest) (.slice none 0 0) c2 ∧ c2 = [] := ⟨[], by rw [hr0]; exact own_nil, rfl⟩
  refine j_perm (S' := [c2, [(g1, .cells (ints (List.replicate 32 0)).toArray 25 (0, 0))], [(g0, .cells (ks .u32 s).toArray 61 (0, 0))], []]) (by rw [hc2]; simp) ?_
  refine j_lit (vs := [.int .u8 _]) Tryd.underlying22 sz5 zero5 rfl (by simp [oneV]) ⟨rfl, by decide⟩ (fun g3 v3 c3 hv3 hc3 ho3 => ?_)
  subst hv3 hc3
  refine j_append 1 Tryd.underlying22 Tryd.underlying22 (.inr ⟨_, rfl⟩) sb5 zero5 rfl ho2 rfl (src_sl (rd_own 0 rfl (n := 1) rfl) rfl) (by simp [oneV]) ⟨(by simp [ints_length]; omega), (by decide)⟩ (fun v4 c4 ho4 => ?_)
  have ho4' : Own 5 1 (ints (rest ++ [128] ++ List.replicate 0 0)) v4 c4 := by simpa using own128 (l := [128]) ho4
  refine j_loop (fun m vs S' => ∃ (j : Nat) (v : Value) (c : SH), vs = [v] ∧ S' = [[(g3, .cells [.int .u8 128].toArray 5 (0, 0))], c, [(g1, .cells (ints (List.replicate 32 0)).toArray 25 (0, 0))], [(g0, .cells (ks .u32 s).toArray 61 (0, 0))], []] ∧ Own 5 1 (ints (rest ++ [128] ++ List.replicate j 0)) v c ∧ j ≤ zc rest.length ∧ m = zc rest.length - j) ⟨_, 0, _, _, rfl, rfl, ho4', by omega, rfl⟩ ?_
  rintro m vs S' hlen ⟨j, v, c', rfl, rfl, ho, hj, rfl⟩
  obtain ⟨n, A, cap, rfl, hn⟩ := own_form ho (by decide)
  simp only [ints_length, List.length_append, List.length_replicate, List.length_cons, List.length_nil] at hn
  clear hlen
  refine j_q (qs_lenl Tryd.underlying22 rfl) ?_
  refine j_q (qs_rem64 rfl rfl (by first | omega | (simp only [Bool.and_eq_true, Bool.or_eq_true, Bool.and_eq_false_iff, Bool.or_eq_false_iff, Bool.not_eq_true', Bool.not_eq_false', decide_eq_true_eq, decide_eq_false_iff_not, beq_iff_eq, beq_eq_false_iff_ne, bne_iff_ne, bne_eq_false_iff_eq, ne_eq, Int.toNat_natCast] at *; omega)) (by first | omega | (simp only [Bool.and_eq_true, Bool.or_eq_true, Bool.and_eq_false_iff, Bool.or_eq_false_iff, Bool.not_eq_true', Bool.not_eq_false', decide_eq_true_eq, decide_eq_false_iff_not, beq_iff_eq, beq_eq_false_iff_ne, bne_iff_ne, bne_eq_false_iff_eq, ne_eq, Int.toNat_natCast] at *; omega))) ?_
  refine j_q (qs_neq rfl rfl) ?_
  refine j_cond rfl (fun hc0 => ?_) (fun hc0 => ?_)
  · skip
    have hj1 : j < zc rest.length := by
      refine zc_back hj ?_
      simp only [Bool.and_eq_true, Bool.or_eq_true, Bool.and_eq_false_iff, Bool.or_eq_false_iff, Bool.not_eq_true', Bool.not_eq_false', decide_eq_true_eq, decide_eq_false_iff_not, beq_iff_eq, beq_eq_false_iff_ne, bne_iff_ne, bne_eq_false_iff_eq, ne_eq, Int.toNat_natCast] at *
      omega
    refine j_lit (vs := [.int .u8 _]) Tryd.underlying22 sz5 zero5 rfl (by simp [oneV]) ⟨rfl, by decide⟩ (fun g8 v8 c8 hv8 hc8 ho8 => ?_)
    subst hv8 hc8
    refine j_append 2 Tryd.underlying22 Tryd.underlying22 (.inr ⟨_, rfl⟩) sb5 zero5 rfl ho rfl (src_sl (rd_own 0 rfl (n := 1) rfl) rfl) (by simp [oneV]) ⟨(by simp [ints_length]; omega), (by decide)⟩ (fun v9 c9 ho9 => ?_)
    have ho9' : Own 5 1 (ints (rest ++ [128] ++ List.replicate (j + 1) 0)) v9 c9 := by rw [← rep_succ]; exact own128 (l := [0]) ho9
    refine j_drop ?_
    refine j_back rfl ?_
    exact ⟨_, back_le hj1, j + 1, _, _, rfl, rfl, ho9', by omega, rfl⟩
  · skip
    have hje : j = zc rest.length := by
      refine zc_end hj ?_
      simp only [Bool.and_eq_true, Bool.or_eq_true, Bool.and_eq_false_iff, Bool.or_eq_false_iff, Bool.not_eq_true', Bool.not_eq_false', decide_eq_true_eq, decide_eq_false_iff_not, beq_iff_eq, beq_eq_false_iff_ne, bne_iff_ne, bne_eq_false_iff_eq, ne_eq, Int.toNat_natCast] at *
      omega
    refine j_q (qs_mc) ?_
    refine j_loop (fun m vs S' => ∃ (i : Nat) (v : Value) (c : SH), vs = [v, .int .i64 i] ∧ S' = [[(g3, .cells [.int .u8 128].toArray 5 (0, 0))], c, [(g1, .cells (ints (List.replicate 32 0)).toArray 25 (0, 0))], [(g0, .cells (ks .u32 s).toArray 61 (0, 0))], []] ∧ Own 5 1 (ints (rest ++ [128] ++ List.replicate (zc rest.length) 0 ++ len8 x i)) v c ∧ i ≤ 8 ∧ m = 8 - i) ⟨_, 0, _, _, rfl, rfl, (ho_len8 (hje ▸ ho)), by omega, rfl⟩ ?_
    rintro m vs S' hlen ⟨i, v, c', rfl, rfl, ho, hi, rfl⟩
    clear hlen
    refine j_q (qs_lss rfl rfl) ?_
    refine j_cond rfl (fun hc1 => ?_) (fun hc1 => ?_)
    · skip
      have hi1 : i < 8 := by
        simp only [Bool.and_eq_true, Bool.or_eq_true, Bool.and_eq_false_iff, Bool.or_eq_false_iff, Bool.not_eq_true', Bool.not_eq_false', decide_eq_true_eq, decide_eq_false_iff_not, beq_iff_eq, beq_eq_false_iff_ne, bne_iff_ne, bne_eq_false_iff_eq, ne_eq, Int.toNat_natCast] at *
        omega
      refine j_q (qs_shl rfl rfl (by first | omega | (simp only [Bool.and_eq_true, Bool.or_eq_true, Bool.and_eq_false_iff, Bool.or_eq_false_iff, Bool.not_eq_true', Bool.not_eq_false', decide_eq_true_eq, decide_eq_false_iff_not, beq_iff_eq, beq_eq_false_iff_ne, bne_iff_ne, bne_eq_false_iff_eq, ne_eq, Int.toNat_natCast] at *; omega))) ?_
      refine j_q (qs_mul64 rfl rfl (by first | omega | (simp only [Bool.and_eq_true, Bool.or_eq_true, Bool.and_eq_false_iff, Bool.or_eq_false_iff, Bool.not_eq_true', Bool.not_eq_false', decide_eq_true_eq, decide_eq_false_iff_not, beq_iff_eq, beq_eq_false_iff_ne, bne_iff_ne, bne_eq_false_iff_eq, ne_eq, Int.toNat_natCast] at *; omega))) ?_
      refine j_q (qs_sub64 rfl rfl (by first | omega | (simp only [Bool.and_eq_true, Bool.or_eq_true, Bool.and_eq_false_iff, Bool.or_eq_false_iff, Bool.not_eq_true', Bool.not_eq_false', decide_eq_true_eq, decide_eq_false_iff_not, beq_iff_eq, beq_eq_false_iff_ne, bne_iff_ne, bne_eq_false_iff_eq, ne_eq, Int.toNat_natCast] at *; omega))) ?_
      refine j_q (qs_shr rfl rfl (by first | omega | (simp only [Bool.and_eq_true, Bool.or_eq_true, Bool.and_eq_false_iff, Bool.or_eq_false_iff, Bool.not_eq_true', Bool.not_eq_false', decide_eq_true_eq, decide_eq_false_iff_not, beq_iff_eq, beq_eq_false_iff_ne, bne_iff_ne, bne_eq_false_iff_eq, ne_eq, Int.toNat_natCast] at *; omega))) ?_
      refine j_q (qs_conv8 Tryd.underlying65 Tryd.underlying5 rfl) ?_
      rw [show (n0 * 2 ^ min (Int.toNat 3) IntKind.u64.bits : Int) = n0 * 8 from rfl, ← hx, shift56 i hi1]
      refine j_lit (vs := [.int .u8 _]) Tryd.underlying22 sz5 zero5 rfl (by simp [oneV]) ⟨rfl, by decide⟩ (fun g17 v17 c17 hv17 hc17 ho17 => ?_)
      subst hv17 hc17
      refine j_append 2 Tryd.underlying22 Tryd.underlying22 (.inr ⟨_, rfl⟩) sb5 zero5 rfl ho rfl (src_sl (rd_own 0 rfl (n := 1) rfl) rfl) (by simp [oneV]) ⟨(by simp [ints_length, len8_length]; omega), (by decide)⟩ (fun v18 c18 ho18 => ?_)
      have ho18' : Own 5 1 (ints (rest ++ [128] ++ List.replicate (zc rest.length) 0 ++ len8 x (i + 1))) v18 c18 := by rw [← len8_succ]; exact own128 (l := [_]) ho18
      refine j_drop ?_
      refine j_q (qs_add64 rfl rfl (by first | omega | (simp only [Bool.and_eq_true, Bool.or_eq_true, Bool.and_eq_false_iff, Bool.or_eq_false_iff, Bool.not_eq_true', Bool.not_eq_false', decide_eq_true_eq, decide_eq_false_iff_not, beq_iff_eq, beq_eq_false_iff_ne, bne_iff_ne, bne_eq_false_iff_eq, ne_eq, Int.toNat_natCast] at *; omega))) ?_
      refine j_back rfl ?_
      exact ⟨_, back_le hi1, i + 1, _, _, rfl, rfl, ho18', by omega, rfl⟩
    · skip
      have hi1 : i = 8 := by
        simp only [Bool.and_eq_true, Bool.or_eq_true, Bool.and_eq_false_iff, Bool.or_eq_false_iff, Bool.not_eq_true', Bool.not_eq_false', decide_eq_true_eq, decide_eq_false_iff_not, beq_iff_eq, beq_eq_false_iff_ne, bne_iff_ne, bne_eq_false_iff_eq, ne_eq, Int.toNat_natCast] at *
        omega
      subst hi1
      obtain ⟨g, n, cap, rfl⟩ := own_some ho (by simp [ints])
      obtain ⟨row, fz, hrow, hl1, hl2, hl3, hl4⟩ := own_row ho
      simp only [ints_length] at hl1
      have hmm : (rest ++ [128] ++ List.replicate (zc rest.length) 0 ++ len8 x 8).length = rest.length + zc rest.length + 9 := by simp [len8_length]; omega
      obtain rfl : n = (rest ++ [128] ++ List.replicate (zc rest.length) 0 ++ len8 x 8).length := by omega
      refine j_call 3 ent27 rfl rfl rfl rfl (fun w' hw' => take_con s (rest ++ [128] ++ List.replicate (zc rest.length) 0 ++ len8 x 8) ⟨g, 0, none⟩ cap g0 _ w' hs (by omega) hl3 (rd_w (own_rd ho 1 rfl) hw') (fun _ => by subst hrow; exact hw'.ne (i := 1) (j := 3) rfl rfl (by decide))) (fun u S2 hu => ?_)
      obtain ⟨rfl, rfl⟩ := hu
      rw [hmm]
      obtain ⟨s', hs'⟩ : ∃ s', s' = blocks ((rest.length + zc rest.length + 9) / 64) (rest ++ [128] ++ List.replicate (zc rest.length) 0 ++ len8 x 8) s := ⟨_, rfl⟩
      have hsl : s'.length = 8 := by rw [hs']; exact blocks_length hs
      rw [← hs']
      refine j_q (qs_mc) ?_
      refine j_loop (fun m vs S' => ∃ (i : Nat) (h : List UInt8), vs = [.int .i64 i] ∧ S' = [[(g0, .cells (ks .u32 s').toArray 61 (0, 0))], [(g3, .cells [.int .u8 128].toArray 5 (0, 0))], c', [(g1, .cells (ints h).toArray 25 (0, 0))], [], []] ∧ h.length = 32 ∧ h.take i = outs s' i ∧ i ≤ 32 ∧ m = 32 - i) ⟨_, 0, _, rfl, rfl, by simp, rfl, by omega, rfl⟩ ?_
      rintro m vs S' hlen ⟨i, h, rfl, rfl, hhl, ht, hi, rfl⟩
      clear hlen
      refine j_q (qs_lss rfl rfl) ?_
      refine j_cond rfl (fun hc2 => ?_) (fun hc2 => ?_)
      · skip
        have hi1 : i < 32 := by
          simp only [Bool.and_eq_true, Bool.or_eq_true, Bool.and_eq_false_iff, Bool.or_eq_false_iff, Bool.not_eq_true', Bool.not_eq_false', decide_eq_true_eq, decide_eq_false_iff_not, beq_iff_eq, beq_eq_false_iff_ne, bne_iff_ne, bne_eq_false_iff_eq, ne_eq, Int.toNat_natCast] at *
          omega
        refine j_q (qs_quo64 rfl rfl (by first | omega | (simp only [Bool.and_eq_true, Bool.or_eq_true, Bool.and_eq_false_iff, Bool.or_eq_false_iff, Bool.not_eq_true', Bool.not_eq_false', decide_eq_true_eq, decide_eq_false_iff_not, beq_iff_eq, beq_eq_false_iff_ne, bne_iff_ne, bne_eq_false_iff_eq, ne_eq, Int.toNat_natCast] at *; omega)) (by first | omega | (simp only [Bool.and_eq_true, Bool.or_eq_true, Bool.and_eq_false_iff, Bool.or_eq_false_iff, Bool.not_eq_true', Bool.not_eq_false', decide_eq_true_eq, decide_eq_false_iff_not, beq_iff_eq, beq_eq_false_iff_ne, bne_iff_ne, bne_eq_false_iff_eq, ne_eq, Int.toNat_natCast] at *; omega)) (by first | omega | (simp only [Bool.and_eq_true, Bool.or_eq_true, Bool.and_eq_false_iff, Bool.or_eq_false_iff, Bool.not_eq_true', Bool.not_eq_false', decide_eq_true_eq, decide_eq_false_iff_not, beq_iff_eq, beq_eq_false_iff_ne, bne_iff_ne, bne_eq_false_iff_eq, ne_eq, Int.toNat_natCast] at *; omega))) ?_
        refine j_q (qs_ix0 Tryd.underlying61 sz59 rfl rfl ⟨(by first | omega | (simp only [Bool.and_eq_true, Bool.or_eq_true, Bool.and_eq_false_iff, Bool.or_eq_false_iff, Bool.not_eq_true', Bool.not_eq_false', decide_eq_true_eq, decide_eq_false_iff_not, beq_iff_eq, beq_eq_false_iff_ne, bne_iff_ne, bne_eq_false_iff_eq, ne_eq, Int.toNat_natCast] at *; omega)), (by first | omega | (simp only [Bool.and_eq_true, Bool.or_eq_true, Bool.and_eq_false_iff, Bool.or_eq_false_iff, Bool.not_eq_true', Bool.not_eq_false', decide_eq_true_eq, decide_eq_false_iff_not, beq_iff_eq, beq_eq_false_iff_ne, bne_iff_ne, bne_eq_false_iff_eq, ne_eq, Int.toNat_natCast] at *; omega))⟩) ?_
        first
          | refine j_q (qs_loadk 0 Tryd.underlying59 rfl rfl (by first | omega | (simp only [Bool.and_eq_true, Bool.or_eq_true, Bool.and_eq_false_iff, Bool.or_eq_false_iff, Bool.not_eq_true', Bool.not_eq_false', decide_eq_true_eq, decide_eq_false_iff_not, beq_iff_eq, beq_eq_false_iff_ne, bne_iff_ne, bne_eq_false_iff_eq, ne_eq, Int.toNat_natCast] at *; omega))) ?_
          | refine j_q (qs_loadk 1 Tryd.underlying59 rfl rfl (by first | omega | (simp only [Bool.and_eq_true, Bool.or_eq_true, Bool.and_eq_false_iff, Bool.or_eq_false_iff, Bool.not_eq_true', Bool.not_eq_false', decide_eq_true_eq, decide_eq_false_iff_not, beq_iff_eq, beq_eq_false_iff_ne, bne_iff_ne, bne_eq_false_iff_eq, ne_eq, Int.toNat_natCast] at *; omega))) ?_
          | refine j_q (qs_loadk 2 Tryd.underlying59 rfl rfl (by first | omega | (simp only [Bool.and_eq_true, Bool.or_eq_true, Bool.and_eq_false_iff, Bool.or_eq_false_iff, Bool.not_eq_true', Bool.not_eq_false', decide_eq_true_eq, decide_eq_false_iff_not, beq_iff_eq, beq_eq_false_iff_ne, bne_iff_ne, bne_eq_false_iff_eq, ne_eq, Int.toNat_natCast] at *; omega))) ?_
          | refine j_q (qs_loadk 3 Tryd.underlying59 rfl rfl (by first | omega | (simp only [Bool.and_eq_true, Bool.or_eq_true, Bool.and_eq_false_iff, Bool.or_eq_false_iff, Bool.not_eq_true', Bool.not_eq_false', decide_eq_true_eq, decide_eq_false_iff_not, beq_iff_eq, beq_eq_false_iff_ne, bne_iff_ne, bne_eq_false_iff_eq, ne_eq, Int.toNat_natCast] at *; omega))) ?_
          | refine j_q (qs_loadk 4 Tryd.underlying59 rfl rfl (by first | omega | (simp only [Bool.and_eq_true, Bool.or_eq_true, Bool.and_eq_false_iff, Bool.or_eq_false_iff, Bool.not_eq_true', Bool.not_eq_false', decide_eq_true_eq, decide_eq_false_iff_not, beq_iff_eq, beq_eq_false_iff_ne, bne_iff_ne, bne_eq_false_iff_eq, ne_eq, Int.toNat_natCast] at *; omega))) ?_
          | refine j_q (qs_load 0 Tryd.underlying59 rfl rfl rfl rfl) ?_
          | refine j_q (qs_load 1 Tryd.underlying59 rfl rfl rfl rfl) ?_
          | refine j_q (qs_load 2 Tryd.underlying59 rfl rfl rfl rfl) ?_
          | refine j_q (qs_load 3 Tryd.underlying59 rfl rfl rfl rfl) ?_
          | refine j_q (qs_load 4 Tryd.underlying59 rfl rfl rfl rfl) ?_
        refine j_q (qs_rem64 rfl rfl (by first | omega | (simp only [Bool.and_eq_true, Bool.or_eq_true, Bool.and_eq_false_iff, Bool.or_eq_false_iff, Bool.not_eq_true', Bool.not_eq_false', decide_eq_true_eq, decide_eq_false_iff_not, beq_iff_eq, beq_eq_false_iff_ne, bne_iff_ne, bne_eq_false_iff_eq, ne_eq, Int.toNat_natCast] at *; omega)) (by first | omega | (simp only [Bool.and_eq_true, Bool.or_eq_true, Bool.and_eq_false_iff, Bool.or_eq_false_iff, Bool.not_eq_true', Bool.not_eq_false', decide_eq_true_eq, decide_eq_false_iff_not, beq_iff_eq, beq_eq_false_iff_ne, bne_iff_ne, bne_eq_false_iff_eq, ne_eq, Int.toNat_natCast] at *; omega))) ?_
        refine j_q (qs_mul64 rfl rfl (by first | omega | (simp only [Bool.and_eq_true, Bool.or_eq_true, Bool.and_eq_false_iff, Bool.or_eq_false_iff, Bool.not_eq_true', Bool.not_eq_false', decide_eq_true_eq, decide_eq_false_iff_not, beq_iff_eq, beq_eq_false_iff_ne, bne_iff_ne, bne_eq_false_iff_eq, ne_eq, Int.toNat_natCast] at *; omega))) ?_
        refine j_q (qs_sub64 rfl rfl (by first | omega | (simp only [Bool.and_eq_true, Bool.or_eq_true, Bool.and_eq_false_iff, Bool.or_eq_false_iff, Bool.not_eq_true', Bool.not_eq_false', decide_eq_true_eq, decide_eq_false_iff_not, beq_iff_eq, beq_eq_false_iff_ne, bne_iff_ne, bne_eq_false_iff_eq, ne_eq, Int.toNat_natCast] at *; omega))) ?_
        refine j_q (qs_shr rfl rfl (by first | omega | (simp only [Bool.and_eq_true, Bool.or_eq_true, Bool.and_eq_false_iff, Bool.or_eq_false_iff, Bool.not_eq_true', Bool.not_eq_false', decide_eq_true_eq, decide_eq_false_iff_not, beq_iff_eq, beq_eq_false_iff_ne, bne_iff_ne, bne_eq_false_iff_eq, ne_eq, Int.toNat_natCast] at *; omega))) ?_
        refine j_q (qs_conv8 Tryd.underlying59 Tryd.underlying5 rfl) ?_
        rw [div4, shift24]
        refine j_q (qs_ix0 Tryd.underlying25 sz5 rfl rfl ⟨(by first | omega | (simp only [Bool.and_eq_true, Bool.or_eq_true, Bool.and_eq_false_iff, Bool.or_eq_false_iff, Bool.not_eq_true', Bool.not_eq_false', decide_eq_true_eq, decide_eq_false_iff_not, beq_iff_eq, beq_eq_false_iff_ne, bne_iff_ne, bne_eq_false_iff_eq, ne_eq, Int.toNat_natCast] at *; omega)), (by first | omega | (simp only [Bool.and_eq_true, Bool.or_eq_true, Bool.and_eq_false_iff, Bool.or_eq_false_iff, Bool.not_eq_true', Bool.not_eq_false', decide_eq_true_eq, decide_eq_false_iff_not, beq_iff_eq, beq_eq_false_iff_ne, bne_iff_ne, bne_eq_false_iff_eq, ne_eq, Int.toNat_natCast] at *; omega))⟩) ?_
        first
          | refine j_storek 0 sz5 rfl rfl rfl (by first | omega | (simp only [Bool.and_eq_true, Bool.or_eq_true, Bool.and_eq_false_iff, Bool.or_eq_false_iff, Bool.not_eq_true', Bool.not_eq_false', decide_eq_true_eq, decide_eq_false_iff_not, beq_iff_eq, beq_eq_false_iff_ne, bne_iff_ne, bne_eq_false_iff_eq, ne_eq, Int.toNat_natCast] at *; omega)) ?_
          | refine j_storek 1 sz5 rfl rfl rfl (by first | omega | (simp only [Bool.and_eq_true, Bool.or_eq_true, Bool.and_eq_false_iff, Bool.or_eq_false_iff, Bool.not_eq_true', Bool.not_eq_false', decide_eq_true_eq, decide_eq_false_iff_not, beq_iff_eq, beq_eq_false_iff_ne, bne_iff_ne, bne_eq_false_iff_eq, ne_eq, Int.toNat_natCast] at *; omega)) ?_
          | refine j_storek 2 sz5 rfl rfl rfl (by first | omega | (simp only [Bool.and_eq_true, Bool.or_eq_true, Bool.and_eq_false_iff, Bool.or_eq_false_iff, Bool.not_eq_true', Bool.not_eq_false', decide_eq_true_eq, decide_eq_false_iff_not, beq_iff_eq, beq_eq_false_iff_ne, bne_iff_ne, bne_eq_false_iff_eq, ne_eq, Int.toNat_natCast] at *; omega)) ?_
          | refine j_storek 3 sz5 rfl rfl rfl (by first | omega | (simp only [Bool.and_eq_true, Bool.or_eq_true, Bool.and_eq_false_iff, Bool.or_eq_false_iff, Bool.not_eq_true', Bool.not_eq_false', decide_eq_true_eq, decide_eq_false_iff_not, beq_iff_eq, beq_eq_false_iff_ne, bne_iff_ne, bne_eq_false_iff_eq, ne_eq, Int.toNat_natCast] at *; omega)) ?_
          | refine j_storek 4 sz5 rfl rfl rfl (by first | omega | (simp only [Bool.and_eq_true, Bool.or_eq_true, Bool.and_eq_false_iff, Bool.or_eq_false_iff, Bool.not_eq_true', Bool.not_eq_false', decide_eq_true_eq, decide_eq_false_iff_not, beq_iff_eq, beq_eq_false_iff_ne, bne_iff_ne, bne_eq_false_iff_eq, ne_eq, Int.toNat_natCast] at *; omega)) ?_
          | refine j_storei 0 sz5 rfl rfl rfl (by first | omega | (simp only [Bool.and_eq_true, Bool.or_eq_true, Bool.and_eq_false_iff, Bool.or_eq_false_iff, Bool.not_eq_true', Bool.not_eq_false', decide_eq_true_eq, decide_eq_false_iff_not, beq_iff_eq, beq_eq_false_iff_ne, bne_iff_ne, bne_eq_false_iff_eq, ne_eq, Int.toNat_natCast] at *; omega)) ?_
          | refine j_storei 1 sz5 rfl rfl rfl (by first | omega | (simp only [Bool.and_eq_true, Bool.or_eq_true, Bool.and_eq_false_iff, Bool.or_eq_false_iff, Bool.not_eq_true', Bool.not_eq_false', decide_eq_true_eq, decide_eq_false_iff_not, beq_iff_eq, beq_eq_false_iff_ne, bne_iff_ne, bne_eq_false_iff_eq, ne_eq, Int.toNat_natCast] at *; omega)) ?_
          | refine j_storei 2 sz5 rfl rfl rfl (by first | omega | (simp only [Bool.and_eq_true, Bool.or_eq_true, Bool.and_eq_false_iff, Bool.or_eq_false_iff, Bool.not_eq_true', Bool.not_eq_false', decide_eq_true_eq, decide_eq_false_iff_not, beq_iff_eq, beq_eq_false_iff_ne, bne_iff_ne, bne_eq_false_iff_eq, ne_eq, Int.toNat_natCast] at *; omega)) ?_
          | refine j_storei 3 sz5 rfl rfl rfl (by first | omega | (simp only [Bool.and_eq_true, Bool.or_eq_true, Bool.and_eq_false_iff, Bool.or_eq_false_iff, Bool.not_eq_true', Bool.not_eq_false', decide_eq_true_eq, decide_eq_false_iff_not, beq_iff_eq, beq_eq_false_iff_ne, bne_iff_ne, bne_eq_false_iff_eq, ne_eq, Int.toNat_natCast] at *; omega)) ?_
          | refine j_storei 4 sz5 rfl rfl rfl (by first | omega | (simp only [Bool.and_eq_true, Bool.or_eq_true, Bool.and_eq_false_iff, Bool.or_eq_false_iff, Bool.not_eq_true', Bool.not_eq_false', decide_eq_true_eq, decide_eq_false_iff_not, beq_iff_eq, beq_eq_false_iff_ne, bne_iff_ne, bne_eq_false_iff_eq, ne_eq, Int.toNat_natCast] at *; omega)) ?_
          | refine j_store 0 sz5 rfl rfl rfl rfl (by simp) (by first | omega | (simp only [Bool.and_eq_true, Bool.or_eq_true, Bool.and_eq_false_iff, Bool.or_eq_false_iff, Bool.not_eq_true', Bool.not_eq_false', decide_eq_true_eq, decide_eq_false_iff_not, beq_iff_eq, beq_eq_false_iff_ne, bne_iff_ne, bne_eq_false_iff_eq, ne_eq, Int.toNat_natCast] at *; omega)) ?_
          | refine j_store 1 sz5 rfl rfl rfl rfl (by simp) (by first | omega | (simp only [Bool.and_eq_true, Bool.or_eq_true, Bool.and_eq_false_iff, Bool.or_eq_false_iff, Bool.not_eq_true', Bool.not_eq_false', decide_eq_true_eq, decide_eq_false_iff_not, beq_iff_eq, beq_eq_false_iff_ne, bne_iff_ne, bne_eq_false_iff_eq, ne_eq, Int.toNat_natCast] at *; omega)) ?_
          | refine j_store 2 sz5 rfl rfl rfl rfl (by simp) (by first | omega | (simp only [Bool.and_eq_true, Bool.or_eq_true, Bool.and_eq_false_iff, Bool.or_eq_false_iff, Bool.not_eq_true', Bool.not_eq_false', decide_eq_true_eq, decide_eq_false_iff_not, beq_iff_eq, beq_eq_false_iff_ne, bne_iff_ne, bne_eq_false_iff_eq, ne_eq, Int.toNat_natCast] at *; omega)) ?_
          | refine j_store 3 sz5 rfl rfl rfl rfl (by simp) (by first | omega | (simp only [Bool.and_eq_true, Bool.or_eq_true, Bool.and_eq_false_iff, Bool.or_eq_false_iff, Bool.not_eq_true', Bool.not_eq_false', decide_eq_true_eq, decide_eq_false_iff_not, beq_iff_eq, beq_eq_false_iff_ne, bne_iff_ne, bne_eq_false_iff_eq, ne_eq, Int.toNat_natCast] at *; omega)) ?_
          | refine j_store 4 sz5 rfl rfl rfl rfl (by simp) (by first | omega | (simp only [Bool.and_eq_true, Bool.or_eq_true, Bool.and_eq_false_iff, Bool.or_eq_false_iff, Bool.not_eq_true', Bool.not_eq_false', decide_eq_true_eq, decide_eq_false_iff_not, beq_iff_eq, beq_eq_false_iff_ne, bne_iff_ne, bne_eq_false_iff_eq, ne_eq, Int.toNat_natCast] at *; omega)) ?_
        refine j_q (qs_add64 rfl rfl (by first | omega | (simp only [Bool.and_eq_true, Bool.or_eq_true, Bool.and_eq_false_iff, Bool.or_eq_false_iff, Bool.not_eq_true', Bool.not_eq_false', decide_eq_true_eq, decide_eq_false_iff_not, beq_iff_eq, beq_eq_false_iff_ne, bne_iff_ne, bne_eq_false_iff_eq, ne_eq, Int.toNat_natCast] at *; omega))) ?_
        refine j_back rfl ?_
        exact ⟨_, back_le hi1, i + 1, _, rfl, rfl, by simpa using hhl, outs_step ht (by omega), by omega, rfl⟩
      · skip
        have hi1 : i = 32 := by
          simp only [Bool.and_eq_true, Bool.or_eq_true, Bool.and_eq_false_iff, Bool.or_eq_false_iff, Bool.not_eq_true', Bool.not_eq_false', decide_eq_true_eq, decide_eq_false_iff_not, beq_iff_eq, beq_eq_false_iff_ne, bne_iff_ne, bne_eq_false_iff_eq, ne_eq, Int.toNat_natCast] at *
          omega
        subst hi1
        first
          | refine j_q (qs_loadw 0 Tryd.underlying25 rfl sz25 rfl rfl (by first | rfl | (rw [ints_length]; exact hhl))) ?_
          | refine j_q (qs_loadw 1 Tryd.underlying25 rfl sz25 rfl rfl (by first | rfl | (rw [ints_length]; exact hhl))) ?_
          | refine j_q (qs_loadw 2 Tryd.underlying25 rfl sz25 rfl rfl (by first | rfl | (rw [ints_length]; exact hhl))) ?_
          | refine j_q (qs_loadw 3 Tryd.underlying25 rfl sz25 rfl rfl (by first | rfl | (rw [ints_length]; exact hhl))) ?_
          | refine j_q (qs_loadw 4 Tryd.underlying25 rfl sz25 rfl rfl (by first | rfl | (rw [ints_length]; exact hhl))) ?_
        first
          | refine j_storew 0 sz25 rfl rfl (by first | rfl | (rw [ints_length]; exact hhl)) ints_one rfl (by first | rfl | (rw [ints_length]; exact hhl)) ?_
          | refine j_storew 1 sz25 rfl rfl (by first | rfl | (rw [ints_length]; exact hhl)) ints_one rfl (by first | rfl | (rw [ints_length]; exact hhl)) ?_
          | refine j_storew 2 sz25 rfl rfl (by first | rfl | (rw [ints_length]; exact hhl)) ints_one rfl (by first | rfl | (rw [ints_length]; exact hhl)) ?_
          | refine j_storew 3 sz25 rfl rfl (by first | rfl | (rw [ints_length]; exact hhl)) ints_one rfl (by first | rfl | (rw [ints_length]; exact hhl)) ?_
          | refine j_storew 4 sz25 rfl rfl (by first | rfl | (rw [ints_length]; exact hhl)) ints_one rfl (by first | rfl | (rw [ints_length]; exact hhl)) ?_
        first
          | refine j_ret_con (vs := [_]) (fun w' hw' => ⟨rv_agg 0 Tryd.underlying25 rfl sz25 rfl rfl (by first | rfl | (rw [ints_length]; exact hhl)) hw', trivial⟩) ?_
          | refine j_ret_con (vs := [_]) (fun w' hw' => ⟨rv_agg 1 Tryd.underlying25 rfl sz25 rfl rfl (by first | rfl | (rw [ints_length]; exact hhl)) hw', trivial⟩) ?_
          | refine j_ret_con (vs := [_]) (fun w' hw' => ⟨rv_agg 2 Tryd.underlying25 rfl sz25 rfl rfl (by first | rfl | (rw [ints_length]; exact hhl)) hw', trivial⟩) ?_
          | refine j_ret_con (vs := [_]) (fun w' hw' => ⟨rv_agg 3 Tryd.underlying25 rfl sz25 rfl rfl (by first | rfl | (rw [ints_length]; exact hhl)) hw', trivial⟩) ?_
          | refine j_ret_con (vs := [_]) (fun w' hw' => ⟨rv_agg 4 Tryd.underlying25 rfl sz25 rfl rfl (by first | rfl | (rw [ints_length]; exact hhl)) hw', trivial⟩) ?_
        show Value.agg _ = _
        rw [List.take_of_length_le (by omega)] at ht
        rw [ht, hs', ended_eq]
/-- pantry.digest.Sum -/
theorem sum0_con (p : List UInt8) (hp0 : p = []) (w : World) : Con Tryd.prog 16 [.slice none 0 0] w [] fun v _ => v = .agg (ints (sum p)).toArray := by
  refine con_of_tree mix Tryd.func16 T16_ok (by kernel_rfl) ?_
  unfold T16
  refine j_alloc zero25 (fun g0 hg0 hs0 => ?_)
  refine j_q (qs_call ent26 rfl rfl rfl (fun w' hw' => begun_con w')) ?_
  refine j_alloc zero61 (fun g2 hg2 hs2 => ?_)
  first
    | refine j_storew 0 sz61 rfl rfl (by first | (rw [ks_length]; exact blocks_length rfl) | (rw [ints_length]; exact outs_length _ _) | rfl) ks_one rfl (by first | (rw [ks_length]; exact blocks_length rfl) | (rw [ints_length]; exact outs_length _ _) | rfl) ?_
    | refine j_storew 1 sz61 rfl rfl (by first | (rw [ks_length]; exact blocks_length rfl) | (rw [ints_length]; exact outs_length _ _) | rfl) ks_one rfl (by first | (rw [ks_length]; exact blocks_length rfl) | (rw [ints_length]; exact outs_length _ _) | rfl) ?_
    | refine j_storew 2 sz61 rfl rfl (by first | (rw [ks_length]; exact blocks_length rfl) | (rw [ints_length]; exact outs_length _ _) | rfl) ks_one rfl (by first | (rw [ks_length]; exact blocks_length rfl) | (rw [ints_length]; exact outs_length _ _) | rfl) ?_
  refine j_call 0 ent27 rfl rfl rfl rfl (fun w' hw' => take0_con init8 g2 _ w') (fun u S2 hu => ?_)
  obtain ⟨rfl, rfl⟩ := hu
  refine j_draw ?_
  first
    | refine jq_q (qs_loadw 0 Tryd.underlying61 rfl sz61 rfl rfl (by first | (rw [ks_length]; exact blocks_length rfl) | (rw [ints_length]; exact outs_length _ _) | rfl)) ?_
    | refine jq_q (qs_loadw 1 Tryd.underlying61 rfl sz61 rfl rfl (by first | (rw [ks_length]; exact blocks_length rfl) | (rw [ints_length]; exact outs_length _ _) | rfl)) ?_
    | refine jq_q (qs_loadw 2 Tryd.underlying61 rfl sz61 rfl rfl (by first | (rw [ks_length]; exact blocks_length rfl) | (rw [ints_length]; exact outs_length _ _) | rfl)) ?_
  refine jq_q (qs_lenl Tryd.underlying22 rfl) ?_
  refine jq_q (qs_quo64 rfl rfl (by first | omega | (simp only [Bool.and_eq_true, Bool.or_eq_true, Bool.and_eq_false_iff, Bool.or_eq_false_iff, Bool.not_eq_true', Bool.not_eq_false', decide_eq_true_eq, decide_eq_false_iff_not, beq_iff_eq, beq_eq_false_iff_ne, bne_iff_ne, bne_eq_false_iff_eq, ne_eq, Int.toNat_natCast] at *; omega)) (by first | omega | (simp only [Bool.and_eq_true, Bool.or_eq_true, Bool.and_eq_false_iff, Bool.or_eq_false_iff, Bool.not_eq_true', Bool.not_eq_false', decide_eq_true_eq, decide_eq_false_iff_not, beq_iff_eq, beq_eq_false_iff_ne, bne_iff_ne, bne_eq_false_iff_eq, ne_eq, Int.toNat_natCast] at *; omega)) (by first | omega | (simp only [Bool.and_eq_true, Bool.or_eq_true, Bool.and_eq_false_iff, Bool.or_eq_false_iff, Bool.not_eq_true', Bool.not_eq_false', decide_eq_true_eq, decide_eq_false_iff_not, beq_iff_eq, beq_eq_false_iff_ne, bne_iff_ne, bne_eq_false_iff_eq, ne_eq, Int.toNat_natCast] at *; omega))) ?_
  refine jq_q (qs_mul64 rfl rfl (by first | omega | (simp only [Bool.and_eq_true, Bool.or_eq_true, Bool.and_eq_false_iff, Bool.or_eq_false_iff, Bool.not_eq_true', Bool.not_eq_false', decide_eq_true_eq, decide_eq_false_iff_not, beq_iff_eq, beq_eq_false_iff_ne, bne_iff_ne, bne_eq_false_iff_eq, ne_eq, Int.toNat_natCast] at *; omega))) ?_
  refine jq_q (qs_cutl (a := 0) (z := 0) Tryd.underlying22 sz5 rfl ⟨.i64, rfl⟩ rfl (by omega) (by omega)) ?_
  rw [if_pos rfl]
  refine jq_q (qs_lenl Tryd.underlying22 rfl) ?_
  refine jq_q (qs_conv Tryd.underlying3 Tryd.underlying65 rfl) ?_
  refine jq_q (qs_call ent28 rfl rfl rfl (fun w' hw' => ended0_con _ [] rfl 0 (bits8 0) w' rfl rfl)) ?_
  refine jq_nil ?_
  first
    | refine j_storew 0 sz25 rfl rfl (by first | (rw [ks_length]; exact blocks_length rfl) | (rw [ints_length]; exact outs_length _ _) | rfl) ints_one rfl (by first | (rw [ks_length]; exact blocks_length rfl) | (rw [ints_length]; exact outs_length _ _) | rfl) ?_
    | refine j_storew 1 sz25 rfl rfl (by first | (rw [ks_length]; exact blocks_length rfl) | (rw [ints_length]; exact outs_length _ _) | rfl) ints_one rfl (by first | (rw [ks_length]; exact blocks_length rfl) | (rw [ints_length]; exact outs_length _ _) | rfl) ?_
    | refine j_storew 2 sz25 rfl rfl (by first | (rw [ks_length]; exact blocks_length rfl) | (rw [ints_length]; exact outs_length _ _) | rfl) ints_one rfl (by first | (rw [ks_length]; exact blocks_length rfl) | (rw [ints_length]; exact outs_length _ _) | rfl) ?_
  first
    | refine j_ret_con (vs := [_]) (fun w' hw' => ⟨rv_agg 0 Tryd.underlying25 rfl sz25 rfl rfl (by first | (rw [ks_length]; exact blocks_length rfl) | (rw [ints_length]; exact outs_length _ _) | rfl) hw', trivial⟩) ?_
    | refine j_ret_con (vs := [_]) (fun w' hw' => ⟨rv_agg 1 Tryd.underlying25 rfl sz25 rfl rfl (by first | (rw [ks_length]; exact blocks_length rfl) | (rw [ints_length]; exact outs_length _ _) | rfl) hw', trivial⟩) ?_
    | refine j_ret_con (vs := [_]) (fun w' hw' => ⟨rv_agg 2 Tryd.underlying25 rfl sz25 rfl rfl (by first | (rw [ks_length]; exact blocks_length rfl) | (rw [ints_length]; exact outs_length _ _) | rfl) hw', trivial⟩) ?_
  show Value.agg _ = _
  subst hp0
  exact congrArg (fun l => Value.agg (ints l).toArray) (sum_split [])
/-- pantry.pantryref1.Sum -/
theorem rsums_con (p : List UInt8) (pv : Value) (w : World) (hpm : p.length ≤ 17592186044416) (hpv : RSl w pv (ints p)) : Con Tryd.prog 21 [pv] w [] fun v _ => v = .agg (ints (sum p)).toArray := by
  refine con_of_tree mix Tryd.func21 T21_ok (by kernel_rfl) ?_
  unfold T21
  obtain ⟨A, c0, rfl, hcap⟩ := rsl_form hpv
  rw [ints_length] at hpv hcap ⊢
  have hz64 := zc_lt p.length
  refine j_alloc zero25 (fun g0 hg0 hs0 => ?_)
  refine j_lit (vs := []) Tryd.underlying22 sz5 zero5 rfl (by simp [oneV]) ⟨rfl, by decide⟩ (fun g1 v1 c1 hv1 hc1 ho1 => ?_)
  subst hv1 hc1
  refine j_append 0 Tryd.underlying22 Tryd.underlying22 (.inr ⟨_, rfl⟩) sb5 zero5 rfl ho1 rfl (src_rsl hpv (fun _ _ => by simp)) ints_one ⟨(by simp [ints_length]; omega), (by decide)⟩ (fun v2 c2 ho2 => ?_)
  refine j_lit (vs := [.int .u8 _]) Tryd.underlying22 sz5 zero5 rfl (by simp [oneV]) ⟨rfl, by decide⟩ (fun g3 v3 c3 hv3 hc3 ho3 => ?_)
  subst hv3 hc3
  refine j_append 1 Tryd.underlying22 Tryd.underlying22 (.inr ⟨_, rfl⟩) sb5 zero5 rfl ho2 rfl (src_sl (rd_own 0 rfl (n := 1) rfl) rfl) (by simp [oneV]) ⟨(by simp [ints_length, len8_length]; omega), (by decide)⟩ (fun v4 c4 ho4 => ?_)
  have ho4' : Own 5 1 (ints (p ++ [128] ++ List.replicate 0 0)) v4 c4 := by simpa using own128 (l := [128]) ho4
  refine j_drop ?_
  refine j_loop (fun m vs S' => ∃ (j : Nat) (v : Value) (c : SH), vs = [v] ∧ S' = [c, [(g0, .cells (ints (List.replicate 32 0)).toArray 25 (0, 0))], []] ∧ Own 5 1 (ints (p ++ [128] ++ List.replicate j 0)) v c ∧ j ≤ zc p.length ∧ m = zc p.length - j) ⟨_, 0, _, _, rfl, rfl, ho4', by omega, rfl⟩ ?_
  rintro m vs S' hlen ⟨j, v, c', rfl, rfl, ho, hj, rfl⟩
  obtain ⟨n, A, cap, rfl, hn⟩ := own_form ho (by decide)
  simp only [ints_length, List.length_append, List.length_replicate, List.length_cons, List.length_nil] at hn
  clear hlen
  refine j_q (qs_lenl Tryd.underlying22 rfl) ?_
  refine j_q (qs_rem64 rfl rfl (by first | omega | (simp only [Bool.and_eq_true, Bool.or_eq_true, Bool.and_eq_false_iff, Bool.or_eq_false_iff, Bool.not_eq_true', Bool.not_eq_false', decide_eq_true_eq, decide_eq_false_iff_not, beq_iff_eq, beq_eq_false_iff_ne, bne_iff_ne, bne_eq_false_iff_eq, ne_eq, Int.toNat_natCast] at *; omega)) (by first | omega | (simp only [Bool.and_eq_true, Bool.or_eq_true, Bool.and_eq_false_iff, Bool.or_eq_false_iff, Bool.not_eq_true', Bool.not_eq_false', decide_eq_true_eq, decide_eq_false_iff_not, beq_iff_eq, beq_eq_false_iff_ne, bne_iff_ne, bne_eq_false_iff_eq, ne_eq, Int.toNat_natCast] at *; omega))) ?_
  refine j_q (qs_neq rfl rfl) ?_
  refine j_cond rfl (fun hc0 => ?_) (fun hc0 => ?_)
  · skip
    have hj1 : j < zc p.length := by
      refine zc_back hj ?_
      simp only [Bool.and_eq_true, Bool.or_eq_true, Bool.and_eq_false_iff, Bool.or_eq_false_iff, Bool.not_eq_true', Bool.not_eq_false', decide_eq_true_eq, decide_eq_false_iff_not, beq_iff_eq, beq_eq_false_iff_ne, bne_iff_ne, bne_eq_false_iff_eq, ne_eq, Int.toNat_natCast] at *
      omega
    refine j_lit (vs := [.int .u8 _]) Tryd.underlying22 sz5 zero5 rfl (by simp [oneV]) ⟨rfl, by decide⟩ (fun g8 v8 c8 hv8 hc8 ho8 => ?_)
    subst hv8 hc8
    refine j_append 1 Tryd.underlying22 Tryd.underlying22 (.inr ⟨_, rfl⟩) sb5 zero5 rfl ho rfl (src_sl (rd_own 0 rfl (n := 1) rfl) rfl) (by simp [oneV]) ⟨(by simp [ints_length, len8_length]; omega), (by decide)⟩ (fun v9 c9 ho9 => ?_)
    have ho9' : Own 5 1 (ints (p ++ [128] ++ List.replicate (j + 1) 0)) v9 c9 := by rw [← rep_succ]; exact own128 (l := [0]) ho9
    refine j_drop ?_
    refine j_back rfl ?_
    exact ⟨_, back_le hj1, j + 1, _, _, rfl, rfl, ho9', by omega, rfl⟩
  · skip
    have hje : j = zc p.length := by
      refine zc_end hj ?_
      simp only [Bool.and_eq_true, Bool.or_eq_true, Bool.and_eq_false_iff, Bool.or_eq_false_iff, Bool.not_eq_true', Bool.not_eq_false', decide_eq_true_eq, decide_eq_false_iff_not, beq_iff_eq, beq_eq_false_iff_ne, bne_iff_ne, bne_eq_false_iff_eq, ne_eq, Int.toNat_natCast] at *
      omega
    refine j_q (qs_lenl Tryd.underlying22 rfl) ?_
    refine j_q (qs_conv Tryd.underlying3 Tryd.underlying65 rfl) ?_
    refine j_q (qs_mul rfl rfl) ?_
    refine j_q (qs_ac) ?_
    refine j_loop (fun m vs S' => ∃ (i : Nat) (v : Value) (c : SH), vs = [v, .int .i64 (7 - (i : Int))] ∧ S' = [c, [(g0, .cells (ints (List.replicate 32 0)).toArray 25 (0, 0))], []] ∧ Own 5 1 (ints (p ++ [128] ++ List.replicate (zc p.length) 0 ++ len8 (bits8 p.length) i)) v c ∧ i ≤ 8 ∧ m = 8 - i) ⟨_, 0, _, _, rfl, rfl, ho_len8 (hje ▸ ho), by omega, rfl⟩ ?_
    rintro m vs S' hlen ⟨i, v, c', rfl, rfl, ho, hi, rfl⟩
    clear hlen
    refine j_q (qs_geq rfl rfl) ?_
    refine j_cond rfl (fun hc1 => ?_) (fun hc1 => ?_)
    · skip
      have hi1 : i < 8 := by
        simp only [Bool.and_eq_true, Bool.or_eq_true, Bool.and_eq_false_iff, Bool.or_eq_false_iff, Bool.not_eq_true', Bool.not_eq_false', decide_eq_true_eq, decide_eq_false_iff_not, beq_iff_eq, beq_eq_false_iff_ne, bne_iff_ne, bne_eq_false_iff_eq, ne_eq, Int.toNat_natCast] at *
        omega
      refine j_q (qs_mul64 rfl rfl (by first | omega | (simp only [Bool.and_eq_true, Bool.or_eq_true, Bool.and_eq_false_iff, Bool.or_eq_false_iff, Bool.not_eq_true', Bool.not_eq_false', decide_eq_true_eq, decide_eq_false_iff_not, beq_iff_eq, beq_eq_false_iff_ne, bne_iff_ne, bne_eq_false_iff_eq, ne_eq, Int.toNat_natCast] at *; omega))) ?_
      refine j_q (qs_conv Tryd.underlying3 Tryd.underlying68 rfl) ?_
      rw [IntWalk.u64_in _ (by omega)]
      refine j_q (qs_shr rfl rfl (by first | omega | (simp only [Bool.and_eq_true, Bool.or_eq_true, Bool.and_eq_false_iff, Bool.or_eq_false_iff, Bool.not_eq_true', Bool.not_eq_false', decide_eq_true_eq, decide_eq_false_iff_not, beq_iff_eq, beq_eq_false_iff_ne, bne_iff_ne, bne_eq_false_iff_eq, ne_eq, Int.toNat_natCast] at *; omega))) ?_
      rw [shift56v i hi1]
      refine j_q (qs_conv8 Tryd.underlying65 Tryd.underlying5 rfl) ?_
      refine j_lit (vs := [.int .u8 _]) Tryd.underlying22 sz5 zero5 rfl (by simp [oneV]) ⟨rfl, by decide⟩ (fun g19 v19 c19 hv19 hc19 ho19 => ?_)
      subst hv19 hc19
      refine j_append 1 Tryd.underlying22 Tryd.underlying22 (.inr ⟨_, rfl⟩) sb5 zero5 rfl ho rfl (src_sl (rd_own 0 rfl (n := 1) rfl) rfl) (by simp [oneV]) ⟨(by simp [ints_length, len8_length]; omega), (by decide)⟩ (fun v20 c20 ho20 => ?_)
      have ho20' : Own 5 1 (ints (p ++ [128] ++ List.replicate (zc p.length) 0 ++ len8 (bits8 p.length) (i + 1))) v20 c20 := by rw [← len8_succ]; exact own128 (l := [_]) ho20
      refine j_drop ?_
      refine j_q (qs_sub64 rfl rfl (by first | omega | (simp only [Bool.and_eq_true, Bool.or_eq_true, Bool.and_eq_false_iff, Bool.or_eq_false_iff, Bool.not_eq_true', Bool.not_eq_false', decide_eq_true_eq, decide_eq_false_iff_not, beq_iff_eq, beq_eq_false_iff_ne, bne_iff_ne, bne_eq_false_iff_eq, ne_eq, Int.toNat_natCast] at *; omega))) ?_
      refine j_back rfl ?_
      exact ⟨_, back_le hi1, i + 1, _, _, by show [_, Value.int _ _] = _; congr 3; omega, rfl, ho20', by omega, rfl⟩
    · skip
      have hi1 : i = 8 := by
        simp only [Bool.and_eq_true, Bool.or_eq_true, Bool.and_eq_false_iff, Bool.or_eq_false_iff, Bool.not_eq_true', Bool.not_eq_false', decide_eq_true_eq, decide_eq_false_iff_not, beq_iff_eq, beq_eq_false_iff_ne, bne_iff_ne, bne_eq_false_iff_eq, ne_eq, Int.toNat_natCast] at *
        omega
      subst hi1
      obtain ⟨g, n, cap, rfl⟩ := own_some ho (by simp [ints])
      obtain ⟨row, fz, hrow, hl1, hl2, hl3, hl4⟩ := own_row ho
      obtain ⟨mm, hmm⟩ : ∃ mm, mm = p ++ [128] ++ List.replicate (zc p.length) 0 ++ len8 (bits8 p.length) 8 := ⟨_, rfl⟩
      have hml : mm.length = p.length + zc p.length + 9 := by rw [hmm]; simp [len8_length]; omega
      rw [← hmm] at ho hl1
      simp only [ints_length] at hl1
      obtain rfl : n = mm.length := by omega
      have hm64 := zc_mod p.length
      refine j_q (qs_run (v := .agg (ks .u32 init8).toArray) (fun w => by kernel_rfl)) ?_
      refine j_alloc zero60 (fun g23 hg23 hs23 => ?_)
      first
        | refine j_storew 0 sz60 rfl rfl (by first | (rw [ks_length]; exact hsl) | (rw [ks_length]; exact block_length hsl) | (rw [ints_length]; exact hhl) | rfl) ks_one rfl (by first | (rw [ks_length]; exact hsl) | (rw [ks_length]; exact block_length hsl) | (rw [ints_length]; exact hhl) | rfl) ?_
        | refine j_storew 1 sz60 rfl rfl (by first | (rw [ks_length]; exact hsl) | (rw [ks_length]; exact block_length hsl) | (rw [ints_length]; exact hhl) | rfl) ks_one rfl (by first | (rw [ks_length]; exact hsl) | (rw [ks_length]; exact block_length hsl) | (rw [ints_length]; exact hhl) | rfl) ?_
        | refine j_storew 2 sz60 rfl rfl (by first | (rw [ks_length]; exact hsl) | (rw [ks_length]; exact block_length hsl) | (rw [ints_length]; exact hhl) | rfl) ks_one rfl (by first | (rw [ks_length]; exact hsl) | (rw [ks_length]; exact block_length hsl) | (rw [ints_length]; exact hhl) | rfl) ?_
        | refine j_storew 3 sz60 rfl rfl (by first | (rw [ks_length]; exact hsl) | (rw [ks_length]; exact block_length hsl) | (rw [ints_length]; exact hhl) | rfl) ks_one rfl (by first | (rw [ks_length]; exact hsl) | (rw [ks_length]; exact block_length hsl) | (rw [ints_length]; exact hhl) | rfl) ?_
        | refine j_storew 4 sz60 rfl rfl (by first | (rw [ks_length]; exact hsl) | (rw [ks_length]; exact block_length hsl) | (rw [ints_length]; exact hhl) | rfl) ks_one rfl (by first | (rw [ks_length]; exact hsl) | (rw [ks_length]; exact block_length hsl) | (rw [ints_length]; exact hhl) | rfl) ?_
        | refine j_storew 5 sz60 rfl rfl (by first | (rw [ks_length]; exact hsl) | (rw [ks_length]; exact block_length hsl) | (rw [ints_length]; exact hhl) | rfl) ks_one rfl (by first | (rw [ks_length]; exact hsl) | (rw [ks_length]; exact block_length hsl) | (rw [ints_length]; exact hhl) | rfl) ?_
      refine j_q (qs_call ent31 rfl rfl rfl (fun w' hw' => k_con w')) ?_
      refine j_alloc zero69 (fun g26 hg26 hs26 => ?_)
      first
        | refine j_storew 0 sz69 rfl rfl (by first | (rw [ks_length]; exact hsl) | (rw [ks_length]; exact block_length hsl) | (rw [ints_length]; exact hhl) | rfl) ks_one rfl (by first | (rw [ks_length]; exact hsl) | (rw [ks_length]; exact block_length hsl) | (rw [ints_length]; exact hhl) | rfl) ?_
        | refine j_storew 1 sz69 rfl rfl (by first | (rw [ks_length]; exact hsl) | (rw [ks_length]; exact block_length hsl) | (rw [ints_length]; exact hhl) | rfl) ks_one rfl (by first | (rw [ks_length]; exact hsl) | (rw [ks_length]; exact block_length hsl) | (rw [ints_length]; exact hhl) | rfl) ?_
        | refine j_storew 2 sz69 rfl rfl (by first | (rw [ks_length]; exact hsl) | (rw [ks_length]; exact block_length hsl) | (rw [ints_length]; exact hhl) | rfl) ks_one rfl (by first | (rw [ks_length]; exact hsl) | (rw [ks_length]; exact block_length hsl) | (rw [ints_length]; exact hhl) | rfl) ?_
        | refine j_storew 3 sz69 rfl rfl (by first | (rw [ks_length]; exact hsl) | (rw [ks_length]; exact block_length hsl) | (rw [ints_length]; exact hhl) | rfl) ks_one rfl (by first | (rw [ks_length]; exact hsl) | (rw [ks_length]; exact block_length hsl) | (rw [ints_length]; exact hhl) | rfl) ?_
        | refine j_storew 4 sz69 rfl rfl (by first | (rw [ks_length]; exact hsl) | (rw [ks_length]; exact block_length hsl) | (rw [ints_length]; exact hhl) | rfl) ks_one rfl (by first | (rw [ks_length]; exact hsl) | (rw [ks_length]; exact block_length hsl) | (rw [ints_length]; exact hhl) | rfl) ?_
        | refine j_storew 5 sz69 rfl rfl (by first | (rw [ks_length]; exact hsl) | (rw [ks_length]; exact block_length hsl) | (rw [ints_length]; exact hhl) | rfl) ks_one rfl (by first | (rw [ks_length]; exact hsl) | (rw [ks_length]; exact block_length hsl) | (rw [ints_length]; exact hhl) | rfl) ?_
      refine j_q (qs_ac) ?_
      refine j_loop (fun m vs S' => ∃ (t : Nat) (s : List Int), vs = [.int .i64 (64 * (t : Int))] ∧ S' = [[(g26, .cells (ks .u32 kk64).toArray 69 (0, 0))], [(g23, .cells (ks .u32 s).toArray 60 (0, 0))], c', [(g0, .cells (ints (List.replicate 32 0)).toArray 25 (0, 0))], []] ∧ s = blocks t mm init8 ∧ 64 * t ≤ mm.length ∧ m = mm.length - 64 * t) ⟨_, 0, _, rfl, rfl, rfl, by omega, rfl⟩ ?_
      rintro m vs S' hlen ⟨t, s, rfl, rfl, hs, ht, rfl⟩
      have hsl : s.length = 8 := by rw [hs]; exact blocks_length rfl
      clear hlen
      refine j_q (qs_lenl Tryd.underlying22 rfl) ?_
      refine j_q (qs_lss rfl rfl) ?_
      refine j_cond rfl (fun hc2 => ?_) (fun hc2 => ?_)
      · skip
        have ht1 : 64 * t + 64 ≤ mm.length := by
          simp only [Bool.and_eq_true, Bool.or_eq_true, Bool.and_eq_false_iff, Bool.or_eq_false_iff, Bool.not_eq_true', Bool.not_eq_false', decide_eq_true_eq, decide_eq_false_iff_not, beq_iff_eq, beq_eq_false_iff_ne, bne_iff_ne, bne_eq_false_iff_eq, ne_eq, Int.toNat_natCast] at *
          omega
        refine j_draw ?_
        first
          | refine jq_q (qs_loadw 0 Tryd.underlying60 rfl sz60 rfl rfl (by first | (rw [ks_length]; exact hsl) | (rw [ks_length]; exact block_length hsl) | (rw [ints_length]; exact hhl) | rfl)) ?_
          | refine jq_q (qs_loadw 1 Tryd.underlying60 rfl sz60 rfl rfl (by first | (rw [ks_length]; exact hsl) | (rw [ks_length]; exact block_length hsl) | (rw [ints_length]; exact hhl) | rfl)) ?_
          | refine jq_q (qs_loadw 2 Tryd.underlying60 rfl sz60 rfl rfl (by first | (rw [ks_length]; exact hsl) | (rw [ks_length]; exact block_length hsl) | (rw [ints_length]; exact hhl) | rfl)) ?_
          | refine jq_q (qs_loadw 3 Tryd.underlying60 rfl sz60 rfl rfl (by first | (rw [ks_length]; exact hsl) | (rw [ks_length]; exact block_length hsl) | (rw [ints_length]; exact hhl) | rfl)) ?_
          | refine jq_q (qs_loadw 4 Tryd.underlying60 rfl sz60 rfl rfl (by first | (rw [ks_length]; exact hsl) | (rw [ks_length]; exact block_length hsl) | (rw [ints_length]; exact hhl) | rfl)) ?_
          | refine jq_q (qs_loadw 5 Tryd.underlying60 rfl sz60 rfl rfl (by first | (rw [ks_length]; exact hsl) | (rw [ks_length]; exact block_length hsl) | (rw [ints_length]; exact hhl) | rfl)) ?_
        refine jq_q (qs_add64 rfl rfl (by first | omega | (simp only [Bool.and_eq_true, Bool.or_eq_true, Bool.and_eq_false_iff, Bool.or_eq_false_iff, Bool.not_eq_true', Bool.not_eq_false', decide_eq_true_eq, decide_eq_false_iff_not, beq_iff_eq, beq_eq_false_iff_ne, bne_iff_ne, bne_eq_false_iff_eq, ne_eq, Int.toNat_natCast] at *; omega))) ?_
        refine jq_q (qs_cutl (a := 64 * t) (z := 64 * t + 64) Tryd.underlying22 sz5 rfl ⟨.i64, by show Value.int _ _ = _; congr 1⟩ ⟨.i64, by show Value.int _ _ = _; congr 1⟩ (by omega) (by omega)) ?_
        rw [if_neg (by omega : ¬ cap = 64 * t), show 64 * t + 64 - 64 * t = 64 by omega, Nat.mul_one]
        refine jq_q (qs_call ent32 rfl rfl rfl (fun w' hw' => block_con s ((mm.drop (64 * t)).take 64) _ _ g26 w' hsl (by rw [List.length_take, List.length_drop]; omega) (by rw [← ints_take, ← ints_drop]; exact cells_take (cells_drop (rd_w (own_rd ho 2 rfl) hw') _) _) (rd_w (rd_own 0 rfl (n := 64) rfl) hw'))) ?_
        refine jq_nil ?_
        first
          | refine j_storew 0 sz60 rfl rfl (by first | (rw [ks_length]; exact hsl) | (rw [ks_length]; exact block_length hsl) | (rw [ints_length]; exact hhl) | rfl) ks_one rfl (by first | (rw [ks_length]; exact hsl) | (rw [ks_length]; exact block_length hsl) | (rw [ints_length]; exact hhl) | rfl) ?_
          | refine j_storew 1 sz60 rfl rfl (by first | (rw [ks_length]; exact hsl) | (rw [ks_length]; exact block_length hsl) | (rw [ints_length]; exact hhl) | rfl) ks_one rfl (by first | (rw [ks_length]; exact hsl) | (rw [ks_length]; exact block_length hsl) | (rw [ints_length]; exact hhl) | rfl) ?_
          | refine j_storew 2 sz60 rfl rfl (by first | (rw [ks_length]; exact hsl) | (rw [ks_length]; exact block_length hsl) | (rw [ints_length]; exact hhl) | rfl) ks_one rfl (by first | (rw [ks_length]; exact hsl) | (rw [ks_length]; exact block_length hsl) | (rw [ints_length]; exact hhl) | rfl) ?_
          | refine j_storew 3 sz60 rfl rfl (by first | (rw [ks_length]; exact hsl) | (rw [ks_length]; exact block_length hsl) | (rw [ints_length]; exact hhl) | rfl) ks_one rfl (by first | (rw [ks_length]; exact hsl) | (rw [ks_length]; exact block_length hsl) | (rw [ints_length]; exact hhl) | rfl) ?_
          | refine j_storew 4 sz60 rfl rfl (by first | (rw [ks_length]; exact hsl) | (rw [ks_length]; exact block_length hsl) | (rw [ints_length]; exact hhl) | rfl) ks_one rfl (by first | (rw [ks_length]; exact hsl) | (rw [ks_length]; exact block_length hsl) | (rw [ints_length]; exact hhl) | rfl) ?_
          | refine j_storew 5 sz60 rfl rfl (by first | (rw [ks_length]; exact hsl) | (rw [ks_length]; exact block_length hsl) | (rw [ints_length]; exact hhl) | rfl) ks_one rfl (by first | (rw [ks_length]; exact hsl) | (rw [ks_length]; exact block_length hsl) | (rw [ints_length]; exact hhl) | rfl) ?_
        refine j_q (qs_add64 rfl rfl (by first | omega | (simp only [Bool.and_eq_true, Bool.or_eq_true, Bool.and_eq_false_iff, Bool.or_eq_false_iff, Bool.not_eq_true', Bool.not_eq_false', decide_eq_true_eq, decide_eq_false_iff_not, beq_iff_eq, beq_eq_false_iff_ne, bne_iff_ne, bne_eq_false_iff_eq, ne_eq, Int.toNat_natCast] at *; omega))) ?_
        refine j_back rfl ?_
        refine ⟨_, (by omega : mm.length - 64 * (t + 1) < mm.length - 64 * t), t + 1, _, by first | rfl | (show [Value.int _ _] = _; congr 2; omega), rfl, ?_, by omega, rfl⟩
        rw [blocks_succ, ← hs]
        refine block_congr (fun j hj => ?_) _
        rw [List.getD_eq_getElem?_getD, List.getElem?_take_of_lt hj, ← List.getD_eq_getElem?_getD]
      · skip
        have ht1 : t = (p.length + zc p.length + 9) / 64 := by
          simp only [Bool.and_eq_true, Bool.or_eq_true, Bool.and_eq_false_iff, Bool.or_eq_false_iff, Bool.not_eq_true', Bool.not_eq_false', decide_eq_true_eq, decide_eq_false_iff_not, beq_iff_eq, beq_eq_false_iff_ne, bne_iff_ne, bne_eq_false_iff_eq, ne_eq, Int.toNat_natCast] at *
          omega
        refine j_alloc zero25 (fun g37 hg37 hs37 => ?_)
        refine j_q (qs_ac) ?_
        refine j_loop (fun m vs S' => ∃ (i : Nat) (h : List UInt8), vs = [.int .i64 i] ∧ S' = [[(g37, .cells (ints h).toArray 25 (0, 0))], [(g26, .cells (ks .u32 kk64).toArray 69 (0, 0))], [(g23, .cells (ks .u32 s).toArray 60 (0, 0))], c', [(g0, .cells (ints (List.replicate 32 0)).toArray 25 (0, 0))], []] ∧ h.length = 32 ∧ h.take i = outs s i ∧ i ≤ 32 ∧ m = 32 - i) ⟨_, 0, _, rfl, rfl, by simp, rfl, by omega, rfl⟩ ?_
        rintro m vs S' hlen ⟨i, h, rfl, rfl, hhl, ht, hi, rfl⟩
        clear hlen
        refine j_q (qs_lss rfl rfl) ?_
        refine j_cond rfl (fun hc3 => ?_) (fun hc3 => ?_)
        · skip
          have hi1 : i < 32 := by
            simp only [Bool.and_eq_true, Bool.or_eq_true, Bool.and_eq_false_iff, Bool.or_eq_false_iff, Bool.not_eq_true', Bool.not_eq_false', decide_eq_true_eq, decide_eq_false_iff_not, beq_iff_eq, beq_eq_false_iff_ne, bne_iff_ne, bne_eq_false_iff_eq, ne_eq, Int.toNat_natCast] at *
            omega
          refine j_q (qs_quo64 rfl rfl (by first | omega | (simp only [Bool.and_eq_true, Bool.or_eq_true, Bool.and_eq_false_iff, Bool.or_eq_false_iff, Bool.not_eq_true', Bool.not_eq_false', decide_eq_true_eq, decide_eq_false_iff_not, beq_iff_eq, beq_eq_false_iff_ne, bne_iff_ne, bne_eq_false_iff_eq, ne_eq, Int.toNat_natCast] at *; omega)) (by first | omega | (simp only [Bool.and_eq_true, Bool.or_eq_true, Bool.and_eq_false_iff, Bool.or_eq_false_iff, Bool.not_eq_true', Bool.not_eq_false', decide_eq_true_eq, decide_eq_false_iff_not, beq_iff_eq, beq_eq_false_iff_ne, bne_iff_ne, bne_eq_false_iff_eq, ne_eq, Int.toNat_natCast] at *; omega)) (by first | omega | (simp only [Bool.and_eq_true, Bool.or_eq_true, Bool.and_eq_false_iff, Bool.or_eq_false_iff, Bool.not_eq_true', Bool.not_eq_false', decide_eq_true_eq, decide_eq_false_iff_not, beq_iff_eq, beq_eq_false_iff_ne, bne_iff_ne, bne_eq_false_iff_eq, ne_eq, Int.toNat_natCast] at *; omega))) ?_
          refine j_q (qs_ix0 Tryd.underlying60 sz59 rfl rfl ⟨(by first | omega | (simp only [Bool.and_eq_true, Bool.or_eq_true, Bool.and_eq_false_iff, Bool.or_eq_false_iff, Bool.not_eq_true', Bool.not_eq_false', decide_eq_true_eq, decide_eq_false_iff_not, beq_iff_eq, beq_eq_false_iff_ne, bne_iff_ne, bne_eq_false_iff_eq, ne_eq, Int.toNat_natCast] at *; omega)), (by first | omega | (simp only [Bool.and_eq_true, Bool.or_eq_true, Bool.and_eq_false_iff, Bool.or_eq_false_iff, Bool.not_eq_true', Bool.not_eq_false', decide_eq_true_eq, decide_eq_false_iff_not, beq_iff_eq, beq_eq_false_iff_ne, bne_iff_ne, bne_eq_false_iff_eq, ne_eq, Int.toNat_natCast] at *; omega))⟩) ?_
          first
            | refine j_q (qs_loadk 0 Tryd.underlying59 rfl rfl (by first | omega | (simp only [Bool.and_eq_true, Bool.or_eq_true, Bool.and_eq_false_iff, Bool.or_eq_false_iff, Bool.not_eq_true', Bool.not_eq_false', decide_eq_true_eq, decide_eq_false_iff_not, beq_iff_eq, beq_eq_false_iff_ne, bne_iff_ne, bne_eq_false_iff_eq, ne_eq, Int.toNat_natCast] at *; omega))) ?_
            | refine j_q (qs_loadk 1 Tryd.underlying59 rfl rfl (by first | omega | (simp only [Bool.and_eq_true, Bool.or_eq_true, Bool.and_eq_false_iff, Bool.or_eq_false_iff, Bool.not_eq_true', Bool.not_eq_false', decide_eq_true_eq, decide_eq_false_iff_not, beq_iff_eq, beq_eq_false_iff_ne, bne_iff_ne, bne_eq_false_iff_eq, ne_eq, Int.toNat_natCast] at *; omega))) ?_
            | refine j_q (qs_loadk 2 Tryd.underlying59 rfl rfl (by first | omega | (simp only [Bool.and_eq_true, Bool.or_eq_true, Bool.and_eq_false_iff, Bool.or_eq_false_iff, Bool.not_eq_true', Bool.not_eq_false', decide_eq_true_eq, decide_eq_false_iff_not, beq_iff_eq, beq_eq_false_iff_ne, bne_iff_ne, bne_eq_false_iff_eq, ne_eq, Int.toNat_natCast] at *; omega))) ?_
            | refine j_q (qs_loadk 3 Tryd.underlying59 rfl rfl (by first | omega | (simp only [Bool.and_eq_true, Bool.or_eq_true, Bool.and_eq_false_iff, Bool.or_eq_false_iff, Bool.not_eq_true', Bool.not_eq_false', decide_eq_true_eq, decide_eq_false_iff_not, beq_iff_eq, beq_eq_false_iff_ne, bne_iff_ne, bne_eq_false_iff_eq, ne_eq, Int.toNat_natCast] at *; omega))) ?_
            | refine j_q (qs_loadk 4 Tryd.underlying59 rfl rfl (by first | omega | (simp only [Bool.and_eq_true, Bool.or_eq_true, Bool.and_eq_false_iff, Bool.or_eq_false_iff, Bool.not_eq_true', Bool.not_eq_false', decide_eq_true_eq, decide_eq_false_iff_not, beq_iff_eq, beq_eq_false_iff_ne, bne_iff_ne, bne_eq_false_iff_eq, ne_eq, Int.toNat_natCast] at *; omega))) ?_
            | refine j_q (qs_loadk 5 Tryd.underlying59 rfl rfl (by first | omega | (simp only [Bool.and_eq_true, Bool.or_eq_true, Bool.and_eq_false_iff, Bool.or_eq_false_iff, Bool.not_eq_true', Bool.not_eq_false', decide_eq_true_eq, decide_eq_false_iff_not, beq_iff_eq, beq_eq_false_iff_ne, bne_iff_ne, bne_eq_false_iff_eq, ne_eq, Int.toNat_natCast] at *; omega))) ?_
            | refine j_q (qs_load 0 Tryd.underlying59 rfl rfl rfl rfl) ?_
            | refine j_q (qs_load 1 Tryd.underlying59 rfl rfl rfl rfl) ?_
            | refine j_q (qs_load 2 Tryd.underlying59 rfl rfl rfl rfl) ?_
            | refine j_q (qs_load 3 Tryd.underlying59 rfl rfl rfl rfl) ?_
            | refine j_q (qs_load 4 Tryd.underlying59 rfl rfl rfl rfl) ?_
            | refine j_q (qs_load 5 Tryd.underlying59 rfl rfl rfl rfl) ?_
          refine j_q (qs_rem64 rfl rfl (by first | omega | (simp only [Bool.and_eq_true, Bool.or_eq_true, Bool.and_eq_false_iff, Bool.or_eq_false_iff, Bool.not_eq_true', Bool.not_eq_false', decide_eq_true_eq, decide_eq_false_iff_not, beq_iff_eq, beq_eq_false_iff_ne, bne_iff_ne, bne_eq_false_iff_eq, ne_eq, Int.toNat_natCast] at *; omega)) (by first | omega | (simp only [Bool.and_eq_true, Bool.or_eq_true, Bool.and_eq_false_iff, Bool.or_eq_false_iff, Bool.not_eq_true', Bool.not_eq_false', decide_eq_true_eq, decide_eq_false_iff_not, beq_iff_eq, beq_eq_false_iff_ne, bne_iff_ne, bne_eq_false_iff_eq, ne_eq, Int.toNat_natCast] at *; omega))) ?_
          refine j_q (qs_mul64 rfl rfl (by first | omega | (simp only [Bool.and_eq_true, Bool.or_eq_true, Bool.and_eq_false_iff, Bool.or_eq_false_iff, Bool.not_eq_true', Bool.not_eq_false', decide_eq_true_eq, decide_eq_false_iff_not, beq_iff_eq, beq_eq_false_iff_ne, bne_iff_ne, bne_eq_false_iff_eq, ne_eq, Int.toNat_natCast] at *; omega))) ?_
          refine j_q (qs_sub64 rfl rfl (by first | omega | (simp only [Bool.and_eq_true, Bool.or_eq_true, Bool.and_eq_false_iff, Bool.or_eq_false_iff, Bool.not_eq_true', Bool.not_eq_false', decide_eq_true_eq, decide_eq_false_iff_not, beq_iff_eq, beq_eq_false_iff_ne, bne_iff_ne, bne_eq_false_iff_eq, ne_eq, Int.toNat_natCast] at *; omega))) ?_
          refine j_q (qs_conv Tryd.underlying3 Tryd.underlying68 rfl) ?_
          rw [IntWalk.u64_in _ (by omega)]
          refine j_q (qs_shr rfl rfl (by first | omega | (simp only [Bool.and_eq_true, Bool.or_eq_true, Bool.and_eq_false_iff, Bool.or_eq_false_iff, Bool.not_eq_true', Bool.not_eq_false', decide_eq_true_eq, decide_eq_false_iff_not, beq_iff_eq, beq_eq_false_iff_ne, bne_iff_ne, bne_eq_false_iff_eq, ne_eq, Int.toNat_natCast] at *; omega))) ?_
          refine j_q (qs_conv8 Tryd.underlying59 Tryd.underlying5 rfl) ?_
          rw [div4, shift24]
          refine j_q (qs_ix0 Tryd.underlying25 sz5 rfl rfl ⟨(by first | omega | (simp only [Bool.and_eq_true, Bool.or_eq_true, Bool.and_eq_false_iff, Bool.or_eq_false_iff, Bool.not_eq_true', Bool.not_eq_false', decide_eq_true_eq, decide_eq_false_iff_not, beq_iff_eq, beq_eq_false_iff_ne, bne_iff_ne, bne_eq_false_iff_eq, ne_eq, Int.toNat_natCast] at *; omega)), (by first | omega | (simp only [Bool.and_eq_true, Bool.or_eq_true, Bool.and_eq_false_iff, Bool.or_eq_false_iff, Bool.not_eq_true', Bool.not_eq_false', decide_eq_true_eq, decide_eq_false_iff_not, beq_iff_eq, beq_eq_false_iff_ne, bne_iff_ne, bne_eq_false_iff_eq, ne_eq, Int.toNat_natCast] at *; omega))⟩) ?_
          first
            | refine j_storek 0 sz5 rfl rfl rfl (by first | omega | (simp only [Bool.and_eq_true, Bool.or_eq_true, Bool.and_eq_false_iff, Bool.or_eq_false_iff, Bool.not_eq_true', Bool.not_eq_false', decide_eq_true_eq, decide_eq_false_iff_not, beq_iff_eq, beq_eq_false_iff_ne, bne_iff_ne, bne_eq_false_iff_eq, ne_eq, Int.toNat_natCast] at *; omega)) ?_
            | refine j_storek 1 sz5 rfl rfl rfl (by first | omega | (simp only [Bool.and_eq_true, Bool.or_eq_true, Bool.and_eq_false_iff, Bool.or_eq_false_iff, Bool.not_eq_true', Bool.not_eq_false', decide_eq_true_eq, decide_eq_false_iff_not, beq_iff_eq, beq_eq_false_iff_ne, bne_iff_ne, bne_eq_false_iff_eq, ne_eq, Int.toNat_natCast] at *; omega)) ?_
            | refine j_storek 2 sz5 rfl rfl rfl (by first | omega | (simp only [Bool.and_eq_true, Bool.or_eq_true, Bool.and_eq_false_iff, Bool.or_eq_false_iff, Bool.not_eq_true', Bool.not_eq_false', decide_eq_true_eq, decide_eq_false_iff_not, beq_iff_eq, beq_eq_false_iff_ne, bne_iff_ne, bne_eq_false_iff_eq, ne_eq, Int.toNat_natCast] at *; omega)) ?_
            | refine j_storek 3 sz5 rfl rfl rfl (by first | omega | (simp only [Bool.and_eq_true, Bool.or_eq_true, Bool.and_eq_false_iff, Bool.or_eq_false_iff, Bool.not_eq_true', Bool.not_eq_false', decide_eq_true_eq, decide_eq_false_iff_not, beq_iff_eq, beq_eq_false_iff_ne, bne_iff_ne, bne_eq_false_iff_eq, ne_eq, Int.toNat_natCast] at *; omega)) ?_
            | refine j_storek 4 sz5 rfl rfl rfl (by first | omega | (simp only [Bool.and_eq_true, Bool.or_eq_true, Bool.and_eq_false_iff, Bool.or_eq_false_iff, Bool.not_eq_true', Bool.not_eq_false', decide_eq_true_eq, decide_eq_false_iff_not, beq_iff_eq, beq_eq_false_iff_ne, bne_iff_ne, bne_eq_false_iff_eq, ne_eq, Int.toNat_natCast] at *; omega)) ?_
            | refine j_storek 5 sz5 rfl rfl rfl (by first | omega | (simp only [Bool.and_eq_true, Bool.or_eq_true, Bool.and_eq_false_iff, Bool.or_eq_false_iff, Bool.not_eq_true', Bool.not_eq_false', decide_eq_true_eq, decide_eq_false_iff_not, beq_iff_eq, beq_eq_false_iff_ne, bne_iff_ne, bne_eq_false_iff_eq, ne_eq, Int.toNat_natCast] at *; omega)) ?_
            | refine j_storei 0 sz5 rfl rfl rfl (by first | omega | (simp only [Bool.and_eq_true, Bool.or_eq_true, Bool.and_eq_false_iff, Bool.or_eq_false_iff, Bool.not_eq_true', Bool.not_eq_false', decide_eq_true_eq, decide_eq_false_iff_not, beq_iff_eq, beq_eq_false_iff_ne, bne_iff_ne, bne_eq_false_iff_eq, ne_eq, Int.toNat_natCast] at *; omega)) ?_
            | refine j_storei 1 sz5 rfl rfl rfl (by first | omega | (simp only [Bool.and_eq_true, Bool.or_eq_true, Bool.and_eq_false_iff, Bool.or_eq_false_iff, Bool.not_eq_true', Bool.not_eq_false', decide_eq_true_eq, decide_eq_false_iff_not, beq_iff_eq, beq_eq_false_iff_ne, bne_iff_ne, bne_eq_false_iff_eq, ne_eq, Int.toNat_natCast] at *; omega)) ?_
            | refine j_storei 2 sz5 rfl rfl rfl (by first | omega | (simp only [Bool.and_eq_true, Bool.or_eq_true, Bool.and_eq_false_iff, Bool.or_eq_false_iff, Bool.not_eq_true', Bool.not_eq_false', decide_eq_true_eq, decide_eq_false_iff_not, beq_iff_eq, beq_eq_false_iff_ne, bne_iff_ne, bne_eq_false_iff_eq, ne_eq, Int.toNat_natCast] at *; omega)) ?_
            | refine j_storei 3 sz5 rfl rfl rfl (by first | omega | (simp only [Bool.and_eq_true, Bool.or_eq_true, Bool.and_eq_false_iff, Bool.or_eq_false_iff, Bool.not_eq_true', Bool.not_eq_false', decide_eq_true_eq, decide_eq_false_iff_not, beq_iff_eq, beq_eq_false_iff_ne, bne_iff_ne, bne_eq_false_iff_eq, ne_eq, Int.toNat_natCast] at *; omega)) ?_
            | refine j_storei 4 sz5 rfl rfl rfl (by first | omega | (simp only [Bool.and_eq_true, Bool.or_eq_true, Bool.and_eq_false_iff, Bool.or_eq_false_iff, Bool.not_eq_true', Bool.not_eq_false', decide_eq_true_eq, decide_eq_false_iff_not, beq_iff_eq, beq_eq_false_iff_ne, bne_iff_ne, bne_eq_false_iff_eq, ne_eq, Int.toNat_natCast] at *; omega)) ?_
            | refine j_storei 5 sz5 rfl rfl rfl (by first | omega | (simp only [Bool.and_eq_true, Bool.or_eq_true, Bool.and_eq_false_iff, Bool.or_eq_false_iff, Bool.not_eq_true', Bool.not_eq_false', decide_eq_true_eq, decide_eq_false_iff_not, beq_iff_eq, beq_eq_false_iff_ne, bne_iff_ne, bne_eq_false_iff_eq, ne_eq, Int.toNat_natCast] at *; omega)) ?_
            | refine j_store 0 sz5 rfl rfl rfl rfl (by simp) (by first | omega | (simp only [Bool.and_eq_true, Bool.or_eq_true, Bool.and_eq_false_iff, Bool.or_eq_false_iff, Bool.not_eq_true', Bool.not_eq_false', decide_eq_true_eq, decide_eq_false_iff_not, beq_iff_eq, beq_eq_false_iff_ne, bne_iff_ne, bne_eq_false_iff_eq, ne_eq, Int.toNat_natCast] at *; omega)) ?_
            | refine j_store 1 sz5 rfl rfl rfl rfl (by simp) (by first | omega | (simp only [Bool.and_eq_true, Bool.or_eq_true, Bool.and_eq_false_iff, Bool.or_eq_false_iff, Bool.not_eq_true', Bool.not_eq_false', decide_eq_true_eq, decide_eq_false_iff_not, beq_iff_eq, beq_eq_false_iff_ne, bne_iff_ne, bne_eq_false_iff_eq, ne_eq, Int.toNat_natCast] at *; omega)) ?_
            | refine j_store 2 sz5 rfl rfl rfl rfl (by simp) (by first | omega | (simp only [Bool.and_eq_true, Bool.or_eq_true, Bool.and_eq_false_iff, Bool.or_eq_false_iff, Bool.not_eq_true', Bool.not_eq_false', decide_eq_true_eq, decide_eq_false_iff_not, beq_iff_eq, beq_eq_false_iff_ne, bne_iff_ne, bne_eq_false_iff_eq, ne_eq, Int.toNat_natCast] at *; omega)) ?_
            | refine j_store 3 sz5 rfl rfl rfl rfl (by simp) (by first | omega | (simp only [Bool.and_eq_true, Bool.or_eq_true, Bool.and_eq_false_iff, Bool.or_eq_false_iff, Bool.not_eq_true', Bool.not_eq_false', decide_eq_true_eq, decide_eq_false_iff_not, beq_iff_eq, beq_eq_false_iff_ne, bne_iff_ne, bne_eq_false_iff_eq, ne_eq, Int.toNat_natCast] at *; omega)) ?_
            | refine j_store 4 sz5 rfl rfl rfl rfl (by simp) (by first | omega | (simp only [Bool.and_eq_true, Bool.or_eq_true, Bool.and_eq_false_iff, Bool.or_eq_false_iff, Bool.not_eq_true', Bool.not_eq_false', decide_eq_true_eq, decide_eq_false_iff_not, beq_iff_eq, beq_eq_false_iff_ne, bne_iff_ne, bne_eq_false_iff_eq, ne_eq, Int.toNat_natCast] at *; omega)) ?_
            | refine j_store 5 sz5 rfl rfl rfl rfl (by simp) (by first | omega | (simp only [Bool.and_eq_true, Bool.or_eq_true, Bool.and_eq_false_iff, Bool.or_eq_false_iff, Bool.not_eq_true', Bool.not_eq_false', decide_eq_true_eq, decide_eq_false_iff_not, beq_iff_eq, beq_eq_false_iff_ne, bne_iff_ne, bne_eq_false_iff_eq, ne_eq, Int.toNat_natCast] at *; omega)) ?_
          refine j_q (qs_add64 rfl rfl (by first | omega | (simp only [Bool.and_eq_true, Bool.or_eq_true, Bool.and_eq_false_iff, Bool.or_eq_false_iff, Bool.not_eq_true', Bool.not_eq_false', decide_eq_true_eq, decide_eq_false_iff_not, beq_iff_eq, beq_eq_false_iff_ne, bne_iff_ne, bne_eq_false_iff_eq, ne_eq, Int.toNat_natCast] at *; omega))) ?_
          refine j_back rfl ?_
          exact ⟨_, back_le hi1, i + 1, _, rfl, rfl, by simpa using hhl, outs_step ht (by omega), by omega, rfl⟩
        · skip
          have hi1 : i = 32 := by
            simp only [Bool.and_eq_true, Bool.or_eq_true, Bool.and_eq_false_iff, Bool.or_eq_false_iff, Bool.not_eq_true', Bool.not_eq_false', decide_eq_true_eq, decide_eq_false_iff_not, beq_iff_eq, beq_eq_false_iff_ne, bne_iff_ne, bne_eq_false_iff_eq, ne_eq, Int.toNat_natCast] at *
            omega
          subst hi1
          first
            | refine j_q (qs_loadw 0 Tryd.underlying25 rfl sz25 rfl rfl (by first | (rw [ks_length]; exact hsl) | (rw [ks_length]; exact block_length hsl) | (rw [ints_length]; exact hhl) | rfl)) ?_
            | refine j_q (qs_loadw 1 Tryd.underlying25 rfl sz25 rfl rfl (by first | (rw [ks_length]; exact hsl) | (rw [ks_length]; exact block_length hsl) | (rw [ints_length]; exact hhl) | rfl)) ?_
            | refine j_q (qs_loadw 2 Tryd.underlying25 rfl sz25 rfl rfl (by first | (rw [ks_length]; exact hsl) | (rw [ks_length]; exact block_length hsl) | (rw [ints_length]; exact hhl) | rfl)) ?_
            | refine j_q (qs_loadw 3 Tryd.underlying25 rfl sz25 rfl rfl (by first | (rw [ks_length]; exact hsl) | (rw [ks_length]; exact block_length hsl) | (rw [ints_length]; exact hhl) | rfl)) ?_
            | refine j_q (qs_loadw 4 Tryd.underlying25 rfl sz25 rfl rfl (by first | (rw [ks_length]; exact hsl) | (rw [ks_length]; exact block_length hsl) | (rw [ints_length]; exact hhl) | rfl)) ?_
            | refine j_q (qs_loadw 5 Tryd.underlying25 rfl sz25 rfl rfl (by first | (rw [ks_length]; exact hsl) | (rw [ks_length]; exact block_length hsl) | (rw [ints_length]; exact hhl) | rfl)) ?_
          first
            | refine j_storew 0 sz25 rfl rfl (by first | (rw [ks_length]; exact hsl) | (rw [ks_length]; exact block_length hsl) | (rw [ints_length]; exact hhl) | rfl) ints_one rfl (by first | (rw [ks_length]; exact hsl) | (rw [ks_length]; exact block_length hsl) | (rw [ints_length]; exact hhl) | rfl) ?_
            | refine j_storew 1 sz25 rfl rfl (by first | (rw [ks_length]; exact hsl) | (rw [ks_length]; exact block_length hsl) | (rw [ints_length]; exact hhl) | rfl) ints_one rfl (by first | (rw [ks_length]; exact hsl) | (rw [ks_length]; exact block_length hsl) | (rw [ints_length]; exact hhl) | rfl) ?_
            | refine j_storew 2 sz25 rfl rfl (by first | (rw [ks_length]; exact hsl) | (rw [ks_length]; exact block_length hsl) | (rw [ints_length]; exact hhl) | rfl) ints_one rfl (by first | (rw [ks_length]; exact hsl) | (rw [ks_length]; exact block_length hsl) | (rw [ints_length]; exact hhl) | rfl) ?_
            | refine j_storew 3 sz25 rfl rfl (by first | (rw [ks_length]; exact hsl) | (rw [ks_length]; exact block_length hsl) | (rw [ints_length]; exact hhl) | rfl) ints_one rfl (by first | (rw [ks_length]; exact hsl) | (rw [ks_length]; exact block_length hsl) | (rw [ints_length]; exact hhl) | rfl) ?_
            | refine j_storew 4 sz25 rfl rfl (by first | (rw [ks_length]; exact hsl) | (rw [ks_length]; exact block_length hsl) | (rw [ints_length]; exact hhl) | rfl) ints_one rfl (by first | (rw [ks_length]; exact hsl) | (rw [ks_length]; exact block_length hsl) | (rw [ints_length]; exact hhl) | rfl) ?_
            | refine j_storew 5 sz25 rfl rfl (by first | (rw [ks_length]; exact hsl) | (rw [ks_length]; exact block_length hsl) | (rw [ints_length]; exact hhl) | rfl) ints_one rfl (by first | (rw [ks_length]; exact hsl) | (rw [ks_length]; exact block_length hsl) | (rw [ints_length]; exact hhl) | rfl) ?_
          first
            | refine j_ret_con (vs := [_]) (fun w' hw' => ⟨rv_agg 0 Tryd.underlying25 rfl sz25 rfl rfl (by first | (rw [ks_length]; exact hsl) | (rw [ks_length]; exact block_length hsl) | (rw [ints_length]; exact hhl) | rfl) hw', trivial⟩) ?_
            | refine j_ret_con (vs := [_]) (fun w' hw' => ⟨rv_agg 1 Tryd.underlying25 rfl sz25 rfl rfl (by first | (rw [ks_length]; exact hsl) | (rw [ks_length]; exact block_length hsl) | (rw [ints_length]; exact hhl) | rfl) hw', trivial⟩) ?_
            | refine j_ret_con (vs := [_]) (fun w' hw' => ⟨rv_agg 2 Tryd.underlying25 rfl sz25 rfl rfl (by first | (rw [ks_length]; exact hsl) | (rw [ks_length]; exact block_length hsl) | (rw [ints_length]; exact hhl) | rfl) hw', trivial⟩) ?_
            | refine j_ret_con (vs := [_]) (fun w' hw' => ⟨rv_agg 3 Tryd.underlying25 rfl sz25 rfl rfl (by first | (rw [ks_length]; exact hsl) | (rw [ks_length]; exact block_length hsl) | (rw [ints_length]; exact hhl) | rfl) hw', trivial⟩) ?_
            | refine j_ret_con (vs := [_]) (fun w' hw' => ⟨rv_agg 4 Tryd.underlying25 rfl sz25 rfl rfl (by first | (rw [ks_length]; exact hsl) | (rw [ks_length]; exact block_length hsl) | (rw [ints_length]; exact hhl) | rfl) hw', trivial⟩) ?_
            | refine j_ret_con (vs := [_]) (fun w' hw' => ⟨rv_agg 5 Tryd.underlying25 rfl sz25 rfl rfl (by first | (rw [ks_length]; exact hsl) | (rw [ks_length]; exact block_length hsl) | (rw [ints_length]; exact hhl) | rfl) hw', trivial⟩) ?_
          show Value.agg _ = _
          rw [List.take_of_length_le (by omega)] at ht
          rw [ht, hs, ht1, sum_eq, ← hmm]
theorem sums_con (p : List UInt8) (pv : Value) (w : World) (hpm : p.length ≤ 17592186044416) (hpv : RSl w pv (ints p)) : Con Tryd.prog 16 [pv] w [] fun v _ => v = .agg (ints (sum p)).toArray := by
  rcases hpv with ⟨rfl, h0⟩ | ⟨g, off, cap, rfl, h1, h2, h3⟩
  · exact sum0_con p (by cases p with | nil => rfl | cons a l => cases h0) w
  · rw [ints_length] at h2 ⊢
    exact sum_con p ⟨g, off, none⟩ cap w hpm h2 h3
end Go.Proofs.YtkafaodhppikfaaDoor
