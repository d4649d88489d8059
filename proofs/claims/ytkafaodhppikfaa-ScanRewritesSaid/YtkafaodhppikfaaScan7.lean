/- The law ScanRewrites. -/
import Derived.Test.YtkafaodhppikfaaTa
import Derived.Test.YtkafaodhppikfaaScan6
namespace Go.Proofs.Ytkafaodhppikfaa
open Go Go.Sx
set_option maxRecDepth 100000
set_option maxHeartbeats 4000000
set_option linter.unusedVariables false
set_option linter.unusedSimpArgs false
attribute [local irreducible] J JQ QS Con W opW
theorem ent18 : Sx.Enters Try.prog 18 := ⟨_, Try.func18, by kernel_rfl, by kernel_rfl⟩
theorem ent19 : Sx.Enters Try.prog 19 := ⟨_, Try.func19, by kernel_rfl, by kernel_rfl⟩
theorem ent21 : Sx.Enters Try.prog 21 := ⟨_, Try.func21, by kernel_rfl, by kernel_rfl⟩
theorem ent35 : Sx.Enters Try.prog 35 := ⟨_, Try.func35, by kernel_rfl, by kernel_rfl⟩
theorem ent36 : Sx.Enters Try.prog 36 := ⟨_, Try.func36, by kernel_rfl, by kernel_rfl⟩

theorem rwOk_of {f t : List UInt8} (h : (!isPath f || !isPath t) = false) : isPath f = true ∧ isPath t = true ∧ rwOk f t = true := by
  simp only [Bool.or_eq_false_iff, Bool.not_eq_false'] at h
  exact ⟨h.1, h.2, by unfold rwOk; rw [h.1, h.2]; rfl⟩
theorem rwOk_not {f t : List UInt8} (h : (!isPath f || !isPath t) = true) : rwOk f t = false := by
  unfold rwOk
  cases h1 : isPath f <;> cases h2 : isPath t <;> simp [h1, h2] at h ⊢
theorem spE_ne (p : List UInt8) : (spE p != 0) = !isPath p := by
  have := spE_eq p
  rw [← this]
  rfl
attribute [local irreducible] isName isPath spA spB spE cp sortS rise dg PT ofDig Fnd RunOk Win isDig standsB rew over rwB rwN rwE rwOk
/-- pantry.scan.Rewrite -/
theorem prewrite_con (l f t : List UInt8) (v : Value) (w : World) (hv : RSl w v (ints l)) (hf : f.length ≤ 9223372036854775807) (ht : t.length ≤ 9223372036854775807) (hl : l.length ≤ 100000) : Con Try.prog 18 [v, .string (bs f), .string (bs t)] w [] fun u S' => ∃ ov c, u = .tuple #[ov, .int .i64 (rwN l f t : Int), .int .i64 (rwE f t)] ∧ S' = [c] ∧ Sx.Own 5 1 (ints (rwB l f t)) ov c := by
  refine con_of_tree mix Try.func18 T18_ok (by kernel_rfl) ?_
  unfold T18
  refine j_q (qs_ac) ?_
  refine j_q (qs_ac) ?_
  refine j_q (qs_ac) ?_
  refine j_q (qs_call ent34 rfl rfl rfl (fun w' hw' => of_con f w' hf)) ?_
  refine j_q (qs_ext (vs := [.agg (ints (dg f)).toArray, .bool (isPath f)]) rfl rfl) ?_
  refine j_q (qs_ext (vs := [.agg (ints (dg f)).toArray, .bool (isPath f)]) rfl rfl) ?_
  refine j_alloc zero64 (fun g6 hg6 hs6 => ?_)
  first
    | refine j_storew 0 sz64 rfl rfl (by first | (rw [ints_length]; exact dg_length _) | rfl) ints_one rfl (by first | (rw [ints_length]; exact dg_length _) | rfl) ?_
    | refine j_storew 1 sz64 rfl rfl (by first | (rw [ints_length]; exact dg_length _) | rfl) ints_one rfl (by first | (rw [ints_length]; exact dg_length _) | rfl) ?_
    | refine j_storew 2 sz64 rfl rfl (by first | (rw [ints_length]; exact dg_length _) | rfl) ints_one rfl (by first | (rw [ints_length]; exact dg_length _) | rfl) ?_
  refine j_q (qs_call ent34 rfl rfl rfl (fun w' hw' => of_con t w' ht)) ?_
  refine j_q (qs_ext (vs := [.agg (ints (dg t)).toArray, .bool (isPath t)]) rfl rfl) ?_
  refine j_q (qs_ext (vs := [.agg (ints (dg t)).toArray, .bool (isPath t)]) rfl rfl) ?_
  refine j_alloc zero64 (fun g11 hg11 hs11 => ?_)
  first
    | refine j_storew 0 sz64 rfl rfl (by first | (rw [ints_length]; exact dg_length _) | rfl) ints_one rfl (by first | (rw [ints_length]; exact dg_length _) | rfl) ?_
    | refine j_storew 1 sz64 rfl rfl (by first | (rw [ints_length]; exact dg_length _) | rfl) ints_one rfl (by first | (rw [ints_length]; exact dg_length _) | rfl) ?_
    | refine j_storew 2 sz64 rfl rfl (by first | (rw [ints_length]; exact dg_length _) | rfl) ints_one rfl (by first | (rw [ints_length]; exact dg_length _) | rfl) ?_
  refine j_q (qs_not rfl) ?_
  refine j_g rfl (fun hb => qs_mt rfl) ?_
  refine j_g rfl (fun hb => qs_not (gd_eq hb)) ?_
  refine j_q (qs_or rfl rfl) ?_
  refine j_cond rfl (fun hc0 => ?_) (fun hc0 => ?_)
  · skip
    have hno := rwOk_not hc0
    obtain ⟨e1, e2, e3⟩ := rw_no (l := l) hno
    refine j_q (qs_ac) ?_
    refine j_q (qs_ac) ?_
    refine j_q (qs_ac) ?_
    refine j_subl (S' := [[]]) (by repeat first | exact List.Sublist.refl _ | exact List.nil_sublist _ | apply List.Sublist.cons_cons | apply List.Sublist.cons) ?_
    refine j_ret_con (vs := [_, _, _]) (fun w' hw' => ⟨rfl, rfl, rfl, trivial⟩) ?_
    exact ⟨_, [], by rw [e2, e3]; rfl, rfl, by rw [e1]; exact own_nil⟩
  · skip
    obtain ⟨hpf, hpt, hok⟩ := rwOk_of hc0
    obtain ⟨e1, e2, e3⟩ := rw_yes (l := l) hok
    first
      | refine j_q (qs_loadw 0 Try.underlying64 rfl sz64 rfl rfl (by first | (rw [ints_length]; exact dg_length _) | rfl)) ?_
      | refine j_q (qs_loadw 1 Try.underlying64 rfl sz64 rfl rfl (by first | (rw [ints_length]; exact dg_length _) | rfl)) ?_
      | refine j_q (qs_loadw 2 Try.underlying64 rfl sz64 rfl rfl (by first | (rw [ints_length]; exact dg_length _) | rfl)) ?_
    first
      | refine j_q (qs_loadw 0 Try.underlying64 rfl sz64 rfl rfl (by first | (rw [ints_length]; exact dg_length _) | rfl)) ?_
      | refine j_q (qs_loadw 1 Try.underlying64 rfl sz64 rfl rfl (by first | (rw [ints_length]; exact dg_length _) | rfl)) ?_
      | refine j_q (qs_loadw 2 Try.underlying64 rfl sz64 rfl rfl (by first | (rw [ints_length]; exact dg_length _) | rfl)) ?_
    rw [dg_path hpf, dg_path hpt]
    refine j_call0 ent35 rfl rfl rfl (fun w' hw' => rewrite_con l (f.take 32) (t.take 32) _ w' (rsl_keep hv hw') (path_take_len hpf) (path_take_len hpt) hl) (fun u S2 hu => ?_)
    obtain ⟨ov22, c22, rfl, rfl, ho22⟩ := hu
    refine j_subl (S' := [c22]) (by repeat first | exact List.Sublist.refl _ | exact List.nil_sublist _ | apply List.Sublist.cons_cons | apply List.Sublist.cons) ?_
    refine j_q (qs_ext (vs := [ov22, .int .i64 ((plc l (f.take 32) 0).length : Int)]) rfl rfl) ?_
    refine j_q (qs_ext (vs := [ov22, .int .i64 ((plc l (f.take 32) 0).length : Int)]) rfl rfl) ?_
    refine j_q (qs_ac) ?_
    refine j_ret_con (vs := [_, _, _]) (fun w' hw' => ⟨rfl, rfl, rfl, trivial⟩) ?_
    exact ⟨ov22, c22, by rw [e2, e3]; rfl, rfl, by rw [e1]; exact ho22⟩
/-- pantry.pantryref6.Rewrite -/
theorem rrewrite_con (l f t : List UInt8) (v : Value) (w : World) (hv : RSl w v (ints l)) (hf : f.length ≤ 9223372036854775807) (ht : t.length ≤ 9223372036854775807) (hl : l.length ≤ 100000) : Con Try.prog 19 [v, .string (bs f), .string (bs t)] w [] fun u S' => ∃ ov c, u = .tuple #[ov, .int .i64 (rwN l f t : Int), .int .i64 (rwE f t)] ∧ S' = [c] ∧ Sx.Own 5 1 (ints (rwB l f t)) ov c := by
  refine con_of_tree mix Try.func19 T19_ok (by kernel_rfl) ?_
  unfold T19
  refine j_q (qs_ac) ?_
  refine j_q (qs_ac) ?_
  refine j_q (qs_ac) ?_
  refine j_q (qs_call ent32 rfl rfl rfl (fun w' hw' => rsplit_con f w' hf)) ?_
  unfold spl
  refine j_q (qs_ext (vs := [.string (bs (spA f)), .string (bs (spB f)), .int .i64 (spE f)]) rfl rfl) ?_
  refine j_q (qs_ext (vs := [.string (bs (spA f)), .string (bs (spB f)), .int .i64 (spE f)]) rfl rfl) ?_
  refine j_q (qs_ext (vs := [.string (bs (spA f)), .string (bs (spB f)), .int .i64 (spE f)]) rfl rfl) ?_
  refine j_q (qs_call ent32 rfl rfl rfl (fun w' hw' => rsplit_con t w' ht)) ?_
  unfold spl
  refine j_q (qs_ext (vs := [.string (bs (spA t)), .string (bs (spB t)), .int .i64 (spE t)]) rfl rfl) ?_
  refine j_q (qs_ext (vs := [.string (bs (spA t)), .string (bs (spB t)), .int .i64 (spE t)]) rfl rfl) ?_
  refine j_q (qs_ext (vs := [.string (bs (spA t)), .string (bs (spB t)), .int .i64 (spE t)]) rfl rfl) ?_
  refine j_q (qs_neq rfl rfl) ?_
  refine j_g rfl (fun hb => qs_mt rfl) ?_
  refine j_g rfl (fun hb => qs_neq (gd_eq hb) rfl) ?_
  refine j_q (qs_or rfl rfl) ?_
  refine j_cond rfl (fun hc0 => ?_) (fun hc0 => ?_)
  · skip
    rw [spE_ne, spE_ne] at hc0
    have hno := rwOk_not hc0
    obtain ⟨e1, e2, e3⟩ := rw_no (l := l) hno
    refine j_q (qs_ac) ?_
    refine j_q (qs_ac) ?_
    refine j_q (qs_ac) ?_
    refine j_subl (S' := [[]]) (by repeat first | exact List.Sublist.refl _ | exact List.nil_sublist _ | apply List.Sublist.cons_cons | apply List.Sublist.cons) ?_
    refine j_ret_con (vs := [_, _, _]) (fun w' hw' => ⟨rfl, rfl, rfl, trivial⟩) ?_
    exact ⟨_, [], by rw [e2, e3]; rfl, rfl, by rw [e1]; exact own_nil⟩
  · skip
    rw [spE_ne, spE_ne] at hc0
    obtain ⟨hpf, hpt, hok⟩ := rwOk_of hc0
    obtain ⟨e1, e2, e3⟩ := rw_yes (l := l) hok
    rw [spA_yes hpf, spA_yes hpt]
    refine j_call0 ent36 rfl rfl rfl (fun w' hw' => replace_con l (f.take 32) (t.take 32) _ w' (rsl_keep hv hw') (path_take_len hpf) (path_take_len hpt) hl) (fun u S2 hu => ?_)
    obtain ⟨ov18, c18, rfl, rfl, ho18⟩ := hu
    refine j_subl (S' := [c18]) (by repeat first | exact List.Sublist.refl _ | exact List.nil_sublist _ | apply List.Sublist.cons_cons | apply List.Sublist.cons) ?_
    refine j_q (qs_ext (vs := [ov18, .int .i64 ((plc l (f.take 32) 0).length : Int)]) rfl rfl) ?_
    refine j_q (qs_ext (vs := [ov18, .int .i64 ((plc l (f.take 32) 0).length : Int)]) rfl rfl) ?_
    refine j_q (qs_ac) ?_
    refine j_ret_con (vs := [_, _, _]) (fun w' hw' => ⟨rfl, rfl, rfl, trivial⟩) ?_
    exact ⟨ov18, c18, by rw [e2, e3]; rfl, rfl, by rw [e1]; exact ho18⟩
/-- pantry.pantrylaw6.spoil -/
theorem spoil_con (o : List UInt8) (ov : Value) (c : SH) (ho : Sx.Own 5 1 (ints o) ov c) (hl : o.length ≤ 100000) (w : World) : Con Try.prog 21 [ov] w c fun u S' => u = .tuple #[] ∧ S' = [] := by
  refine con_of_tree mix Try.func21 T21_ok (by kernel_rfl) ?_
  unfold T21
  refine j_lit (vs := [.int .u8 _]) Try.underlying22 sz5 zero5 rfl (by simp [oneV]) ⟨rfl, by decide⟩ (fun g0 v0 c0 hv0 hc0 ho0 => ?_)
  subst hv0 hc0
  refine j_append 1 Try.underlying22 Try.underlying22 (.inr ⟨_, rfl⟩) sb5 zero5 rfl ho rfl (.inl ⟨_, _, rfl, own_rd ho0 0 rfl, rfl⟩) (by intro u hu; rw [List.mem_singleton] at hu; rw [hu]; rfl) ⟨(by simp [ints_length]; omega), (by decide)⟩ (fun v1 c1 ho1 => ?_)
  obtain ⟨n1, A1, cap1, rfl, hn1⟩ := own_form ho1 (by decide)
  rw [List.length_append, ints_length, Nat.mul_one, List.length_singleton] at hn1
  obtain ⟨g1, rfl⟩ := own_addr ho1 (by simp)
  obtain ⟨rest, fz, rfl, ho1a, ho1b, ho1c, ho1d⟩ := own_row ho1
  refine j_subl (S' := [[(g1, .cells (ints o ++ [Value.int .u8 99] ++ rest).toArray 5 fz)]]) (by repeat first | exact List.Sublist.refl _ | exact List.nil_sublist _ | apply List.Sublist.cons_cons | apply List.Sublist.cons) ?_
  generalize hxs : ints o ++ [Value.int .u8 99] ++ rest = xs at *
  have hxl : n1 ≤ xs.length := by omega
  refine j_q (qs_ac) ?_
  refine j_loop (fun m vs S' => ∃ (i : Nat) (ys : List Value), vs = [.int .i64 (i : Int)] ∧ S' = [[(g1, .cells ys.toArray 5 fz)]] ∧ ys.length = xs.length ∧ i ≤ n1 ∧ m = n1 - i) ⟨_, 0, xs, rfl, rfl, rfl, Nat.zero_le _, rfl⟩ ?_
  rintro m vs S' hlen ⟨i, ys, rfl, rfl, hyl, hin, rfl⟩
  refine j_q (qs_lenl Try.underlying22 rfl) ?_
  refine j_q (qs_lss rfl rfl) ?_
  refine j_cond rfl (fun hc0 => ?_) (fun hc0 => ?_)
  · skip
    have hi : i < n1 := by
      simp only [Bool.and_eq_true, Bool.or_eq_true, Bool.and_eq_false_iff, Bool.or_eq_false_iff, Bool.not_eq_true', Bool.not_eq_false', decide_eq_true_eq, decide_eq_false_iff_not, beq_iff_eq, beq_eq_false_iff_ne, bne_iff_ne, bne_eq_false_iff_eq, ne_eq, Int.toNat_natCast] at *
      omega
    first
      | refine j_q (qs_ixg Try.underlying22 sz5 rfl rfl ⟨(by first | omega | (simp only [Bool.and_eq_true, Bool.or_eq_true, Bool.and_eq_false_iff, Bool.or_eq_false_iff, Bool.not_eq_true', Bool.not_eq_false', decide_eq_true_eq, decide_eq_false_iff_not, beq_iff_eq, beq_eq_false_iff_ne, bne_iff_ne, bne_eq_false_iff_eq, ne_eq, Int.toNat_natCast] at *; omega)), (by first | omega | (simp only [Bool.and_eq_true, Bool.or_eq_true, Bool.and_eq_false_iff, Bool.or_eq_false_iff, Bool.not_eq_true', Bool.not_eq_false', decide_eq_true_eq, decide_eq_false_iff_not, beq_iff_eq, beq_eq_false_iff_ne, bne_iff_ne, bne_eq_false_iff_eq, ne_eq, Int.toNat_natCast] at *; omega))⟩) ?_
      | refine j_q (qs_ixl0 Try.underlying22 sz5 rfl rfl ⟨(by first | omega | (simp only [Bool.and_eq_true, Bool.or_eq_true, Bool.and_eq_false_iff, Bool.or_eq_false_iff, Bool.not_eq_true', Bool.not_eq_false', decide_eq_true_eq, decide_eq_false_iff_not, beq_iff_eq, beq_eq_false_iff_ne, bne_iff_ne, bne_eq_false_iff_eq, ne_eq, Int.toNat_natCast] at *; omega)), (by first | omega | (simp only [Bool.and_eq_true, Bool.or_eq_true, Bool.and_eq_false_iff, Bool.or_eq_false_iff, Bool.not_eq_true', Bool.not_eq_false', decide_eq_true_eq, decide_eq_false_iff_not, beq_iff_eq, beq_eq_false_iff_ne, bne_iff_ne, bne_eq_false_iff_eq, ne_eq, Int.toNat_natCast] at *; omega))⟩) ?_
    refine j_store 0 sz5 rfl rfl rfl rfl (by simp only [Int.toNat_natCast]; omega) (ho1d _ (by simp only [Int.toNat_natCast]; omega)) ?_
    refine j_q (qs_add64 rfl rfl (by first | omega | (simp only [Bool.and_eq_true, Bool.or_eq_true, Bool.and_eq_false_iff, Bool.or_eq_false_iff, Bool.not_eq_true', Bool.not_eq_false', decide_eq_true_eq, decide_eq_false_iff_not, beq_iff_eq, beq_eq_false_iff_ne, bne_iff_ne, bne_eq_false_iff_eq, ne_eq, Int.toNat_natCast] at *; omega))) ?_
    refine j_back rfl ?_
    exact ⟨n1 - (i + 1), by omega, i + 1, _, rfl, rfl, by rw [List.length_set]; exact hyl, by omega, rfl⟩
  · skip
    refine j_subl (S' := []) (by repeat first | exact List.Sublist.refl _ | exact List.nil_sublist _ | apply List.Sublist.cons_cons | apply List.Sublist.cons) ?_
    refine j_ret_con (vs := []) (fun w' hw' => trivial) ?_
    exact ⟨rfl, rfl⟩
/-- pantry.pantrylaw6.ScanRewrites -/
theorem scanRewrites_con (l : List UInt8) (vb : Value) (f t : List UInt8) (w : World) (hvb : RSl w vb (ints l)) (hf : f.length ≤ 4611686018427387903) (ht : t.length ≤ 4611686018427387903) : Con Try.prog 6 [vb, .string (bs f), .string (bs t)] w [] fun u _ => u = .bool true := by
  refine con_of_tree mix Try.func6 T6_ok (by kernel_rfl) ?_
  unfold T6
  obtain ⟨A1, cap1, rfl, hcap1⟩ := rsl_form hvb
  rw [ints_length] at hvb hcap1 ⊢
  refine j_q (qs_ac) ?_
  refine j_q (qs_lenl Try.underlying22 rfl) ?_
  refine j_q (qs_gtr rfl rfl) ?_
  refine j_g rfl (fun hb => qs_mt rfl) ?_
  refine j_g rfl (fun hb => qs_lens Try.underlying25 (gd_eq hb)) ?_
  refine j_g rfl (fun hb => qs_mt rfl) ?_
  refine j_g rfl (fun hb => qs_lens Try.underlying25 (gd_eq hb)) ?_
  refine j_g rfl (fun hb => qs_add64 (gd_eq hb) (gd_eq hb) (by first | omega | (simp only [Bool.and_eq_true, Bool.or_eq_true, Bool.and_eq_false_iff, Bool.or_eq_false_iff, Bool.not_eq_true', Bool.not_eq_false', decide_eq_true_eq, decide_eq_false_iff_not, beq_iff_eq, beq_eq_false_iff_ne, bne_iff_ne, bne_eq_false_iff_eq, ne_eq, Int.toNat_natCast] at *; omega))) ?_
  refine j_g rfl (fun hb => qs_gtr (gd_eq hb) rfl) ?_
  refine j_q (qs_or rfl rfl) ?_
  refine j_cond rfl (fun hc0 => ?_) (fun hc0 => ?_)
  · skip
    refine j_q (qs_ac) ?_
    refine j_ret_con (vs := [_]) (fun w' hw' => ⟨rfl, trivial⟩) ?_
    rfl
  · skip
    have hb : l.length ≤ 4000 ∧ f.length + t.length ≤ 300 := by
      simp only [Bool.and_eq_true, Bool.or_eq_true, Bool.and_eq_false_iff, Bool.or_eq_false_iff, Bool.not_eq_true', Bool.not_eq_false', decide_eq_true_eq, decide_eq_false_iff_not, beq_iff_eq, beq_eq_false_iff_ne, bne_iff_ne, bne_eq_false_iff_eq, ne_eq, Int.toNat_natCast] at *
      omega
    refine j_call0 ent9 rfl rfl rfl (fun w' hw' => roomy_con l _ w' (rsl_keep hvb hw') (by omega)) (fun u S2 hu => ?_)
    obtain ⟨g8, cap8, c8, rfl, rfl, hcap8, ho8⟩ := hu
    refine j_q (qs_lenl Try.underlying22 rfl) ?_
    refine j_q (qs_cutl (z := l.length) Try.underlying22 sz5 rfl rfl ⟨_, rfl⟩ (by first | omega | (simp only [Bool.and_eq_true, Bool.or_eq_true, Bool.and_eq_false_iff, Bool.or_eq_false_iff, Bool.not_eq_true', Bool.not_eq_false', decide_eq_true_eq, decide_eq_false_iff_not, beq_iff_eq, beq_eq_false_iff_ne, bne_iff_ne, bne_eq_false_iff_eq, ne_eq, Int.toNat_natCast] at *; omega)) (by first | omega | (simp only [Bool.and_eq_true, Bool.or_eq_true, Bool.and_eq_false_iff, Bool.or_eq_false_iff, Bool.not_eq_true', Bool.not_eq_false', decide_eq_true_eq, decide_eq_false_iff_not, beq_iff_eq, beq_eq_false_iff_ne, bne_iff_ne, bne_eq_false_iff_eq, ne_eq, Int.toNat_natCast] at *; omega))) ?_
    rw [if_neg (show ¬ cap8 = 0 by omega)]
    simp only [Option.map_some, Nat.zero_mul, add_zero_, Nat.sub_zero]
    refine j_call0 ent18 rfl rfl rfl (fun w' hw' => prewrite_con l f t _ w' (rsl_pre (rsl_own ho8 0 rfl hw') (by simp) (by omega) (by omega) (by simp)) (by omega) (by omega) (by omega)) (fun u S2 hu => ?_)
    obtain ⟨ov14, c14, rfl, rfl, ho14⟩ := hu
    refine j_q (qs_ext (vs := [ov14, .int .i64 (rwN l f t : Int), .int .i64 (rwE f t)]) rfl rfl) ?_
    refine j_q (qs_ext (vs := [ov14, .int .i64 (rwN l f t : Int), .int .i64 (rwE f t)]) rfl rfl) ?_
    refine j_q (qs_ext (vs := [ov14, .int .i64 (rwN l f t : Int), .int .i64 (rwE f t)]) rfl rfl) ?_
    refine j_call0 ent19 rfl rfl rfl (fun w' hw' => rrewrite_con l f t _ w' (rsl_keep hvb hw') (by omega) (by omega) (by omega)) (fun u S2 hu => ?_)
    obtain ⟨ov18, c18, rfl, rfl, ho18⟩ := hu
    refine j_subl (S' := [c18, c14, c8]) (by repeat first | exact List.Sublist.refl _ | exact List.nil_sublist _ | apply List.Sublist.cons_cons | apply List.Sublist.cons) ?_
    have hrl := rwB_len l f t
    refine j_q (qs_ext (vs := [ov18, .int .i64 (rwN l f t : Int), .int .i64 (rwE f t)]) rfl rfl) ?_
    refine j_q (qs_ext (vs := [ov18, .int .i64 (rwN l f t : Int), .int .i64 (rwE f t)]) rfl rfl) ?_
    refine j_q (qs_ext (vs := [ov18, .int .i64 (rwN l f t : Int), .int .i64 (rwE f t)]) rfl rfl) ?_
    refine j_q (qs_call ent20 rfl rfl rfl (fun w' hw' => same_con (rwB l f t) (rwB l f t) _ _ w' (rsl_own ho14 1 rfl hw') (rsl_own ho18 0 rfl hw') (by omega))) ?_
    refine j_q (qs_not rfl) ?_
    refine j_g rfl (fun hb => qs_mt rfl) ?_
    refine j_g rfl (fun hb => qs_mt rfl) ?_
    refine j_g rfl (fun hb => qs_neq (gd_eq hb) (gd_eq hb)) ?_
    refine j_q (qs_or rfl rfl) ?_
    refine j_g rfl (fun hb => qs_mt rfl) ?_
    refine j_g rfl (fun hb => qs_mt rfl) ?_
    refine j_g rfl (fun hb => qs_neq (gd_eq hb) (gd_eq hb)) ?_
    refine j_q (qs_or rfl rfl) ?_
    refine j_cond rfl (fun hc1 => ?_) (fun hc1 => ?_)
    · skip
      simp at hc1
    · skip
      refine j_call 1 ent21 rfl rfl rfl rfl (fun w' hw' => spoil_con _ ov14 c14 ho14 (by omega) w') (fun u S2 hu => ?_)
      obtain ⟨rfl, rfl⟩ := hu
      refine j_subl (S' := [c8]) (by repeat first | exact List.Sublist.refl _ | exact List.nil_sublist _ | apply List.Sublist.cons_cons | apply List.Sublist.cons) ?_
      refine j_q (qs_call ent13 rfl rfl rfl (fun w' hw' => lstands_con l g8 cap8 _ w' (rsl_pre (rsl_own ho8 0 rfl hw') (by simp) (by omega) (by omega) (by rw [List.take_append, List.take_of_length_le (by omega)]; simp)) (rsl_keep hvb hw') (by omega) (by omega))) ?_
      refine j_g rfl (fun hb => qs_call ent14 rfl rfl (args0) (fun w' hw' => known_con w')) ?_
      refine j_q (qs_and rfl rfl) ?_
      refine j_ret_con (vs := [_]) (fun w' hw' => ⟨rfl, trivial⟩) ?_
      show Value.bool _ = _
      congr 1
end Go.Proofs.Ytkafaodhppikfaa
