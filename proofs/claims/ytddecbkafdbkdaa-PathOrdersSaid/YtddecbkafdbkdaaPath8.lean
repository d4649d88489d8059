/- The laws PathSources and PathOrders. -/
import Derived.Test.YtddecbkafdbkdaaTa
import Derived.Test.YtddecbkafdbkdaaPath7
namespace Go.Proofs.Ytddecbkafdbkdaa
open Go Go.Sx
set_option maxRecDepth 100000
set_option maxHeartbeats 4000000
set_option linter.unusedVariables false
set_option linter.unusedSimpArgs false
attribute [local irreducible] J JQ QS Con W opW
theorem ent15 : Sx.Enters Try.prog 15 := ⟨_, Try.func15, by kernel_rfl, by kernel_rfl⟩
theorem ent16 : Sx.Enters Try.prog 16 := ⟨_, Try.func16, by kernel_rfl, by kernel_rfl⟩
theorem ent17 : Sx.Enters Try.prog 17 := ⟨_, Try.func17, by kernel_rfl, by kernel_rfl⟩
theorem ent18 : Sx.Enters Try.prog 18 := ⟨_, Try.func18, by kernel_rfl, by kernel_rfl⟩
theorem ent19 : Sx.Enters Try.prog 19 := ⟨_, Try.func19, by kernel_rfl, by kernel_rfl⟩
theorem ent20 : Sx.Enters Try.prog 20 := ⟨_, Try.func20, by kernel_rfl, by kernel_rfl⟩
theorem ent21 : Sx.Enters Try.prog 21 := ⟨_, Try.func21, by kernel_rfl, by kernel_rfl⟩
theorem ent22 : Sx.Enters Try.prog 22 := ⟨_, Try.func22, by kernel_rfl, by kernel_rfl⟩
theorem ent23 : Sx.Enters Try.prog 23 := ⟨_, Try.func23, by kernel_rfl, by kernel_rfl⟩

theorem withP_congr {k h n : List UInt8} {l m : List (List UInt8)} (hm : ∀ x, x ∈ l ↔ x ∈ m) (h1 : l.length ≤ 1024) (h2 : m.length ≤ 1024) : withP k h l n = withP k h m n ∧ withE l n = withE m n := by
  have ha : l.all isPath = m.all isPath := by
    rw [Bool.eq_iff_iff, List.all_eq_true, List.all_eq_true]
    exact ⟨fun h x hx => h x ((hm x).2 hx), fun h x hx => h x ((hm x).1 hx)⟩
  unfold withP withE
  rw [ha, rise_congr hm]
  simp [h1, h2]
theorem turn_mem {rs : List (List UInt8)} {k : Nat} (h : 0 < rs.length) (x : List UInt8) : x ∈ rs ↔ x ∈ rs.drop k ++ rs.take k ++ [rs.getD 0 []] := by
  have h0 : rs.getD 0 [] ∈ rs := by rw [List.getD_eq_getElem?_getD, List.getElem?_eq_getElem h]; exact List.getElem_mem h
  have : x ∈ rs ↔ x ∈ rs.take k ∨ x ∈ rs.drop k := by rw [← List.mem_append, List.take_append_drop]
  simp only [List.mem_append, List.mem_singleton]
  constructor
  · intro hx
    rcases this.1 hx with h | h <;> simp [h]
  · rintro ((h | h) | h)
    · exact this.2 (.inr h)
    · exact this.2 (.inl h)
    · rw [h]; exact h0
attribute [local irreducible] fold sum hex text32 pathOf allDig isName isPath spA spB spE cp sortS rise refsOf withP withE mkP mkE outP outE
/-- pantry.pantrylaw3.PathSources -/
theorem pathSources_con (h : List UInt8) (rs : List (List UInt8)) (v : Value) (out name : List UInt8) (w : World) (hh : h.length = 32) (hv : StrSl w v rs) (hl : ∀ r ∈ rs, r.length ≤ 9223372036854775807) (ho : out.length ≤ 4611686018427387903) (hnm : name.length ≤ 4611686018427387903) : Con Try.prog 7 [.agg (ints h).toArray, v, .string (bs out), .string (bs name)] w [] fun u _ => u = .bool true := by
  refine con_of_tree mix Try.func7 T7_ok (by kernel_rfl) ?_
  unfold T7
  obtain ⟨A, cap, rfl, hcap⟩ := strsl_form hv
  refine j_box rfl (fun g0 hg0 hs0 => ?_)
  refine j_q (qs_ac) ?_
  refine j_q (qs_lenl Try.underlying38 rfl) ?_
  refine j_q (qs_gtr rfl rfl) ?_
  refine j_g rfl (fun hb => qs_mt rfl) ?_
  refine j_g rfl (fun hb => qs_lens Try.underlying9 (gd_eq hb)) ?_
  refine j_g rfl (fun hb => qs_mt rfl) ?_
  refine j_g rfl (fun hb => qs_lens Try.underlying9 (gd_eq hb)) ?_
  refine j_g rfl (fun hb => qs_add64 (gd_eq hb) (gd_eq hb) (by first | omega | (simp only [Bool.and_eq_true, Bool.or_eq_true, Bool.and_eq_false_iff, Bool.or_eq_false_iff, Bool.not_eq_true', Bool.not_eq_false', decide_eq_true_eq, decide_eq_false_iff_not, beq_iff_eq, beq_eq_false_iff_ne, bne_iff_ne, bne_eq_false_iff_eq, ne_eq, Int.toNat_natCast] at *; omega))) ?_
  refine j_g rfl (fun hb => qs_gtr (gd_eq hb) rfl) ?_
  refine j_q (qs_or rfl rfl) ?_
  refine j_cond rfl (fun hc0 => ?_) (fun hc0 => ?_)
  · skip
    refine j_q (qs_ac) ?_
    refine j_ret_con (vs := [_]) (fun w' hw' => ⟨rfl, trivial⟩) ?_
    rfl
  · skip
    have hb : rs.length ≤ 600 ∧ out.length + name.length ≤ 600 := by
      simp only [Bool.and_eq_true, Bool.or_eq_true, Bool.and_eq_false_iff, Bool.or_eq_false_iff, Bool.not_eq_true', Bool.not_eq_false', decide_eq_true_eq, decide_eq_false_iff_not, beq_iff_eq, beq_eq_false_iff_ne, bne_iff_ne, bne_eq_false_iff_eq, ne_eq, Int.toNat_natCast] at *
      omega
    refine j_lit (vs := []) Try.underlying38 sz26 zero26 rfl (by simp [oneV]) ⟨rfl, by decide⟩ (fun g12 v12 c12 hv12 hc12 ho12 => ?_)
    subst hv12 hc12
    refine j_append 0 Try.underlying38 Try.underlying38 (.inr ⟨_, rfl⟩) sb26 zero26 rfl ho12 rfl (src_strsl hv) strs_one ⟨(by simp [strs_length]; omega), (by decide)⟩ (fun v13 c13 ho13 => ?_)
    refine j_lit (vs := [.string (bs _)]) Try.underlying38 sz26 zero26 rfl (by simp [oneV]) ⟨rfl, by decide⟩ (fun g14 v14 c14 hv14 hc14 ho14 => ?_)
    subst hv14 hc14
    refine j_append 1 Try.underlying38 Try.underlying38 (.inr ⟨_, rfl⟩) sb26 zero26 rfl ho13 rfl (.inl ⟨_, _, rfl, own_rd ho14 0 rfl, rfl⟩) (fun u hu => one_of hu) ⟨(by simp [strs_length]; omega), (by decide)⟩ (fun v15 c15 ho15 => ?_)
    rw [List.nil_append, show [Value.string (bs [120])] = strs [[120]] from rfl, ← strs_append] at ho15
    obtain ⟨n15, A15, cap15, rfl, hn15⟩ := own_form ho15 (by decide)
    rw [strs_length, List.length_append, List.length_singleton, Nat.mul_one] at hn15
    have hc15 := own_cap ho15
    obtain ⟨g15, rfl⟩ := own_addr ho15 (by rw [strs_length, List.length_append, List.length_singleton]; omega)
    refine j_q (qs_lenl Try.underlying38 rfl) ?_
    refine j_q (qs_cutl (z := rs.length) Try.underlying38 sz26 rfl rfl ⟨_, rfl⟩ (by first | omega | (simp only [Bool.and_eq_true, Bool.or_eq_true, Bool.and_eq_false_iff, Bool.or_eq_false_iff, Bool.not_eq_true', Bool.not_eq_false', decide_eq_true_eq, decide_eq_false_iff_not, beq_iff_eq, beq_eq_false_iff_ne, bne_iff_ne, bne_eq_false_iff_eq, ne_eq, Int.toNat_natCast] at *; omega)) (by first | omega | (simp only [Bool.and_eq_true, Bool.or_eq_true, Bool.and_eq_false_iff, Bool.or_eq_false_iff, Bool.not_eq_true', Bool.not_eq_false', decide_eq_true_eq, decide_eq_false_iff_not, beq_iff_eq, beq_eq_false_iff_ne, bne_iff_ne, bne_eq_false_iff_eq, ne_eq, Int.toNat_natCast] at *; omega))) ?_
    rw [if_neg (show ¬ cap15 = 0 by omega)]
    simp only [Option.map_some, Nat.zero_mul, add_zero_, Nat.sub_zero]
    refine j_subl (S' := [c15, [(g0, .cells (ints h).toArray 25 (0, 0))]]) (by repeat first | exact List.Sublist.refl _ | exact List.nil_sublist _ | apply List.Sublist.cons_cons | apply List.Sublist.cons) ?_
    have hgv : ∀ w', Sig ⟨w, dom []⟩ [c15, [(g0, .cells (ints h).toArray 25 (0, 0))]] w' → StrSl w' (.slice (some ⟨g15, 0, none⟩) rs.length cap15) rs := fun w' hw' => by
      have h1 := strsl_cut (strsl_own ho15 0 rfl hw') (Nat.zero_le rs.length) (show rs.length ≤ n15 by omega) (by rw [List.length_append, List.length_singleton]; omega)
      rw [if_neg (show ¬ cap15 = 0 by omega)] at h1
      simp only [Option.map_some, Nat.zero_mul, add_zero_, Nat.sub_zero, List.drop_zero, List.take_left'] at h1
      exact h1
    first
      | refine j_q (qs_loadw 0 Try.underlying25 rfl sz25 rfl rfl (by first | (rw [ints_length]; exact hh) | rfl)) ?_
      | refine j_q (qs_loadw 1 Try.underlying25 rfl sz25 rfl rfl (by first | (rw [ints_length]; exact hh) | rfl)) ?_
    refine j_q (qs_call ent15 rfl rfl rfl (fun w' hw' => psource_con h rs name _ w' (hgv w' hw') hh (by omega) hl (by omega))) ?_
    unfold withV
    refine j_q (qs_ext (vs := [.string (bs (withP kSource h rs name)), .int .i64 (withE rs name)]) rfl rfl) ?_
    refine j_q (qs_ext (vs := [.string (bs (withP kSource h rs name)), .int .i64 (withE rs name)]) rfl rfl) ?_
    first
      | refine j_q (qs_loadw 0 Try.underlying25 rfl sz25 rfl rfl (by first | (rw [ints_length]; exact hh) | rfl)) ?_
      | refine j_q (qs_loadw 1 Try.underlying25 rfl sz25 rfl rfl (by first | (rw [ints_length]; exact hh) | rfl)) ?_
    refine j_q (qs_call ent16 rfl rfl rfl (fun w' hw' => rpsource_con h rs name _ w' (strsl_keep hv hw') hh (by omega) hl (by omega))) ?_
    unfold withV
    refine j_q (qs_ext (vs := [.string (bs (withP kSource h rs name)), .int .i64 (withE rs name)]) rfl rfl) ?_
    refine j_q (qs_ext (vs := [.string (bs (withP kSource h rs name)), .int .i64 (withE rs name)]) rfl rfl) ?_
    first
      | refine j_q (qs_loadw 0 Try.underlying25 rfl sz25 rfl rfl (by first | (rw [ints_length]; exact hh) | rfl)) ?_
      | refine j_q (qs_loadw 1 Try.underlying25 rfl sz25 rfl rfl (by first | (rw [ints_length]; exact hh) | rfl)) ?_
    refine j_q (qs_call ent17 rfl rfl rfl (fun w' hw' => ptext_con h rs name _ w' (hgv w' hw') hh (by omega) hl (by omega))) ?_
    unfold withV
    refine j_q (qs_ext (vs := [.string (bs (withP kText h rs name)), .int .i64 (withE rs name)]) rfl rfl) ?_
    refine j_q (qs_ext (vs := [.string (bs (withP kText h rs name)), .int .i64 (withE rs name)]) rfl rfl) ?_
    first
      | refine j_q (qs_loadw 0 Try.underlying25 rfl sz25 rfl rfl (by first | (rw [ints_length]; exact hh) | rfl)) ?_
      | refine j_q (qs_loadw 1 Try.underlying25 rfl sz25 rfl rfl (by first | (rw [ints_length]; exact hh) | rfl)) ?_
    refine j_q (qs_call ent18 rfl rfl rfl (fun w' hw' => rptext_con h rs name _ w' (strsl_keep hv hw') hh (by omega) hl (by omega))) ?_
    unfold withV
    refine j_q (qs_ext (vs := [.string (bs (withP kText h rs name)), .int .i64 (withE rs name)]) rfl rfl) ?_
    refine j_q (qs_ext (vs := [.string (bs (withP kText h rs name)), .int .i64 (withE rs name)]) rfl rfl) ?_
    first
      | refine j_q (qs_loadw 0 Try.underlying25 rfl sz25 rfl rfl (by first | (rw [ints_length]; exact hh) | rfl)) ?_
      | refine j_q (qs_loadw 1 Try.underlying25 rfl sz25 rfl rfl (by first | (rw [ints_length]; exact hh) | rfl)) ?_
    refine j_q (qs_call ent19 rfl rfl rfl (fun w' hw' => fixed_con h name w' hh (by omega))) ?_
    refine j_q (qs_ext (vs := [.string (bs (mkP kFixed h name)), .int .i64 (mkE name)]) rfl rfl) ?_
    refine j_q (qs_ext (vs := [.string (bs (mkP kFixed h name)), .int .i64 (mkE name)]) rfl rfl) ?_
    first
      | refine j_q (qs_loadw 0 Try.underlying25 rfl sz25 rfl rfl (by first | (rw [ints_length]; exact hh) | rfl)) ?_
      | refine j_q (qs_loadw 1 Try.underlying25 rfl sz25 rfl rfl (by first | (rw [ints_length]; exact hh) | rfl)) ?_
    refine j_q (qs_call ent20 rfl rfl rfl (fun w' hw' => rfixed_con h name w' hh (by omega))) ?_
    refine j_q (qs_ext (vs := [.string (bs (mkP kFixed h name)), .int .i64 (mkE name)]) rfl rfl) ?_
    refine j_q (qs_ext (vs := [.string (bs (mkP kFixed h name)), .int .i64 (mkE name)]) rfl rfl) ?_
    first
      | refine j_q (qs_loadw 0 Try.underlying25 rfl sz25 rfl rfl (by first | (rw [ints_length]; exact hh) | rfl)) ?_
      | refine j_q (qs_loadw 1 Try.underlying25 rfl sz25 rfl rfl (by first | (rw [ints_length]; exact hh) | rfl)) ?_
    refine j_q (qs_call ent21 rfl rfl rfl (fun w' hw' => output_con h out name w' hh (by omega) (by omega))) ?_
    refine j_q (qs_ext (vs := [.string (bs (outP h out name)), .int .i64 (outE out name)]) rfl rfl) ?_
    refine j_q (qs_ext (vs := [.string (bs (outP h out name)), .int .i64 (outE out name)]) rfl rfl) ?_
    first
      | refine j_q (qs_loadw 0 Try.underlying25 rfl sz25 rfl rfl (by first | (rw [ints_length]; exact hh) | rfl)) ?_
      | refine j_q (qs_loadw 1 Try.underlying25 rfl sz25 rfl rfl (by first | (rw [ints_length]; exact hh) | rfl)) ?_
    refine j_q (qs_call ent22 rfl rfl rfl (fun w' hw' => routput_con h out name w' hh (by omega) (by omega))) ?_
    refine j_q (qs_ext (vs := [.string (bs (outP h out name)), .int .i64 (outE out name)]) rfl rfl) ?_
    refine j_q (qs_ext (vs := [.string (bs (outP h out name)), .int .i64 (outE out name)]) rfl rfl) ?_
    refine j_q (qs_seql rfl rfl) ?_
    refine j_g rfl (fun hb => qs_mt rfl) ?_
    refine j_g rfl (fun hb => qs_mt rfl) ?_
    refine j_g rfl (fun hb => qs_eql (gd_eq hb) (gd_eq hb)) ?_
    refine j_q (qs_and rfl rfl) ?_
    refine j_g rfl (fun hb => qs_mt rfl) ?_
    refine j_g rfl (fun hb => qs_mt rfl) ?_
    refine j_g rfl (fun hb => qs_seql (gd_eq hb) (gd_eq hb)) ?_
    refine j_q (qs_and rfl rfl) ?_
    refine j_g rfl (fun hb => qs_mt rfl) ?_
    refine j_g rfl (fun hb => qs_mt rfl) ?_
    refine j_g rfl (fun hb => qs_eql (gd_eq hb) (gd_eq hb)) ?_
    refine j_q (qs_and rfl rfl) ?_
    refine j_g rfl (fun hb => qs_mt rfl) ?_
    refine j_g rfl (fun hb => qs_mt rfl) ?_
    refine j_g rfl (fun hb => qs_seql (gd_eq hb) (gd_eq hb)) ?_
    refine j_q (qs_and rfl rfl) ?_
    refine j_g rfl (fun hb => qs_mt rfl) ?_
    refine j_g rfl (fun hb => qs_mt rfl) ?_
    refine j_g rfl (fun hb => qs_eql (gd_eq hb) (gd_eq hb)) ?_
    refine j_q (qs_and rfl rfl) ?_
    refine j_g rfl (fun hb => qs_mt rfl) ?_
    refine j_g rfl (fun hb => qs_mt rfl) ?_
    refine j_g rfl (fun hb => qs_seql (gd_eq hb) (gd_eq hb)) ?_
    refine j_q (qs_and rfl rfl) ?_
    refine j_g rfl (fun hb => qs_mt rfl) ?_
    refine j_g rfl (fun hb => qs_mt rfl) ?_
    refine j_g rfl (fun hb => qs_eql (gd_eq hb) (gd_eq hb)) ?_
    refine j_q (qs_and rfl rfl) ?_
    refine j_g rfl (fun hb => qs_mt rfl) ?_
    refine j_g rfl (fun hb => qs_mt rfl) ?_
    refine j_g rfl (fun hb => qs_call ent23 rfl rfl (args2 (gd_eq hb) (gd_eq hb)) (fun w' hw' => paths_con rs _ _ w' (hgv w' hw') (strsl_keep hv hw') (by omega))) ?_
    refine j_q (qs_and rfl rfl) ?_
    refine j_g rfl (fun hb => qs_call ent10 rfl rfl (args0) (fun w' hw' => known_con w')) ?_
    refine j_q (qs_and rfl rfl) ?_
    refine j_ret_con (vs := [_]) (fun w' hw' => ⟨rfl, trivial⟩) ?_
    show Value.bool _ = _
    congr 1
    simp
/-- pantry.pantrylaw3.PathOrders -/
theorem pathOrders_con (h : List UInt8) (rs : List (List UInt8)) (v : Value) (name : List UInt8) (turn : Int) (w : World) (hh : h.length = 32) (hv : StrSl w v rs) (hl : ∀ r ∈ rs, r.length ≤ 9223372036854775807) (hnm : name.length ≤ 4611686018427387903) : Con Try.prog 6 [.agg (ints h).toArray, v, .string (bs name), .int .i64 turn] w [] fun u _ => u = .bool true := by
  refine con_of_tree mix Try.func6 T6_ok (by kernel_rfl) ?_
  unfold T6
  obtain ⟨A, cap, rfl, hcap⟩ := strsl_form hv
  refine j_box rfl (fun g0 hg0 hs0 => ?_)
  refine j_q (qs_ac) ?_
  refine j_q (qs_lenl Try.underlying38 rfl) ?_
  refine j_q (qs_gtr rfl rfl) ?_
  refine j_g rfl (fun hb => qs_mt rfl) ?_
  refine j_g rfl (fun hb => qs_lenl Try.underlying38 (gd_eq hb)) ?_
  refine j_g rfl (fun hb => qs_eql (gd_eq hb) rfl) ?_
  refine j_q (qs_or rfl rfl) ?_
  refine j_g rfl (fun hb => qs_mt rfl) ?_
  refine j_g rfl (fun hb => qs_lens Try.underlying9 (gd_eq hb)) ?_
  refine j_g rfl (fun hb => qs_gtr (gd_eq hb) rfl) ?_
  refine j_q (qs_or rfl rfl) ?_
  refine j_cond rfl (fun hc0 => ?_) (fun hc0 => ?_)
  · skip
    refine j_q (qs_ac) ?_
    refine j_ret_con (vs := [_]) (fun w' hw' => ⟨rfl, trivial⟩) ?_
    rfl
  · skip
    have hb : rs.length ≤ 200 ∧ 0 < rs.length ∧ name.length ≤ 600 := by
      simp only [Bool.and_eq_true, Bool.or_eq_true, Bool.and_eq_false_iff, Bool.or_eq_false_iff, Bool.not_eq_true', Bool.not_eq_false', decide_eq_true_eq, decide_eq_false_iff_not, beq_iff_eq, beq_eq_false_iff_ne, bne_iff_ne, bne_eq_false_iff_eq, ne_eq, Int.toNat_natCast] at *
      omega
    have hb255 := bw255 turn
    refine j_q (qs_and_ rfl rfl) ?_
    refine j_q (qs_lenl Try.underlying38 rfl) ?_
    refine j_q (qs_rem64 rfl rfl (by first | omega | (simp only [Bool.and_eq_true, Bool.or_eq_true, Bool.and_eq_false_iff, Bool.or_eq_false_iff, Bool.not_eq_true', Bool.not_eq_false', decide_eq_true_eq, decide_eq_false_iff_not, beq_iff_eq, beq_eq_false_iff_ne, bne_iff_ne, bne_eq_false_iff_eq, ne_eq, Int.toNat_natCast] at *; omega)) (by first | omega | (simp only [Bool.and_eq_true, Bool.or_eq_true, Bool.and_eq_false_iff, Bool.or_eq_false_iff, Bool.not_eq_true', Bool.not_eq_false', decide_eq_true_eq, decide_eq_false_iff_not, beq_iff_eq, beq_eq_false_iff_ne, bne_iff_ne, bne_eq_false_iff_eq, ne_eq, Int.toNat_natCast] at *; omega))) ?_
    obtain ⟨k, hk, hkl⟩ : ∃ k : Nat, bw .and .i64 turn 255 % (rs.length : Int) = (k : Int) ∧ k < rs.length := ⟨(bw .and .i64 turn 255 % (rs.length : Int)).toNat, by have := Int.emod_nonneg (bw .and .i64 turn 255) (show (rs.length : Int) ≠ 0 by omega); omega, by have := Int.emod_lt_of_pos (bw .and .i64 turn 255) (show 0 < (rs.length : Int) by omega); have := Int.emod_nonneg (bw .and .i64 turn 255) (show (rs.length : Int) ≠ 0 by omega); omega⟩
    rw [hk]
    refine j_mix _ (.refl _) ?_
    refine j_mq (qs_cutl (a := k) (z := rs.length) Try.underlying38 sz26 rfl ⟨_, rfl⟩ rfl (by first | omega | (simp only [Bool.and_eq_true, Bool.or_eq_true, Bool.and_eq_false_iff, Bool.or_eq_false_iff, Bool.not_eq_true', Bool.not_eq_false', decide_eq_true_eq, decide_eq_false_iff_not, beq_iff_eq, beq_eq_false_iff_ne, bne_iff_ne, bne_eq_false_iff_eq, ne_eq, Int.toNat_natCast] at *; omega)) (by first | omega | (simp only [Bool.and_eq_true, Bool.or_eq_true, Bool.and_eq_false_iff, Bool.or_eq_false_iff, Bool.not_eq_true', Bool.not_eq_false', decide_eq_true_eq, decide_eq_false_iff_not, beq_iff_eq, beq_eq_false_iff_ne, bne_iff_ne, bne_eq_false_iff_eq, ne_eq, Int.toNat_natCast] at *; omega))) ?_
    refine j_mq (qs_cutl (a := 0) (z := k) Try.underlying38 sz26 rfl rfl ⟨_, rfl⟩ (by first | omega | (simp only [Bool.and_eq_true, Bool.or_eq_true, Bool.and_eq_false_iff, Bool.or_eq_false_iff, Bool.not_eq_true', Bool.not_eq_false', decide_eq_true_eq, decide_eq_false_iff_not, beq_iff_eq, beq_eq_false_iff_ne, bne_iff_ne, bne_eq_false_iff_eq, ne_eq, Int.toNat_natCast] at *; omega)) (by first | omega | (simp only [Bool.and_eq_true, Bool.or_eq_true, Bool.and_eq_false_iff, Bool.or_eq_false_iff, Bool.not_eq_true', Bool.not_eq_false', decide_eq_true_eq, decide_eq_false_iff_not, beq_iff_eq, beq_eq_false_iff_ne, bne_iff_ne, bne_eq_false_iff_eq, ne_eq, Int.toNat_natCast] at *; omega))) ?_
    refine j_lit (vs := []) Try.underlying38 sz26 zero26 rfl (by simp [oneV]) ⟨rfl, by decide⟩ (fun g18 v18 c18 hv18 hc18 ho18 => ?_)
    subst hv18 hc18
    refine j_mD0 (Le.of_sub (by repeat first | exact List.Sublist.refl _ | exact List.nil_sublist _ | apply List.Sublist.cons_cons | apply List.Sublist.cons)) ?_
    refine j_append 0 Try.underlying38 Try.underlying38 (.inr ⟨_, rfl⟩) sb26 zero26 rfl ho18 rfl (src_strsl (strsl_cut hv (by omega) (Nat.le_refl _) rfl)) strs_one ⟨(by simp [strs_length]; omega), (by decide)⟩ (fun v19 c19 ho19 => ?_)
    refine j_mD0 (Le.of_sub (by repeat first | exact List.Sublist.refl _ | exact List.nil_sublist _ | apply List.Sublist.cons_cons | apply List.Sublist.cons)) ?_
    refine j_append 0 Try.underlying38 Try.underlying38 (.inr ⟨_, rfl⟩) sb26 zero26 rfl ho19 rfl (src_strsl (strsl_cut hv (Nat.zero_le _) (by omega) rfl)) strs_one ⟨(by simp [strs_length]; omega), (by decide)⟩ (fun v20 c20 ho20 => ?_)
    rw [List.nil_append, List.drop_zero, List.take_of_length_le (Nat.le_refl rs.length), ← strs_append] at ho20
    refine j_mD0 (Le.of_sub (by repeat first | exact List.Sublist.refl _ | exact List.nil_sublist _ | apply List.Sublist.cons_cons | apply List.Sublist.cons)) ?_
    refine j_mend ?_
    obtain ⟨ga, off, rfl, hga, hcells⟩ := strsl_addr hv (by omega)
    refine j_q (qs_ixl0 Try.underlying38 sz26 rfl rfl (by omega)) ?_
    refine j_q (qs_loadrs (rd_cells hcells (by simp)) Try.underlying26 rfl (by show 0 < _; omega)) ?_
    rw [show (0 : Int).toNat = 0 from rfl]
    refine j_lit (vs := [.string (bs _)]) Try.underlying38 sz26 zero26 rfl (by simp [oneV]) ⟨rfl, by decide⟩ (fun g23 v23 c23 hv23 hc23 ho23 => ?_)
    subst hv23 hc23
    refine j_append 1 Try.underlying38 Try.underlying38 (.inr ⟨_, rfl⟩) sb26 zero26 rfl ho20 rfl (.inl ⟨_, _, rfl, own_rd ho23 0 rfl, rfl⟩) (fun u hu => one_of hu) ⟨(by simp [strs_length]; omega), (by decide)⟩ (fun v24 c24 ho24 => ?_)
    rw [show [Value.string (bs (rs.getD 0 []))] = strs [rs.getD 0 []] from rfl, ← strs_append] at ho24
    obtain ⟨n24, A24, cap24, rfl, hn24⟩ := own_form ho24 (by decide)
    first
      | refine j_q (qs_loadw 0 Try.underlying25 rfl sz25 rfl rfl (by first | (rw [ints_length]; exact hh) | rfl)) ?_
      | refine j_q (qs_loadw 1 Try.underlying25 rfl sz25 rfl rfl (by first | (rw [ints_length]; exact hh) | rfl)) ?_
      | refine j_q (qs_loadw 2 Try.underlying25 rfl sz25 rfl rfl (by first | (rw [ints_length]; exact hh) | rfl)) ?_
      | refine j_q (qs_loadw 3 Try.underlying25 rfl sz25 rfl rfl (by first | (rw [ints_length]; exact hh) | rfl)) ?_
    refine j_q (qs_call ent15 rfl rfl rfl (fun w' hw' => psource_con h rs name _ w' (strsl_keep hv hw') hh (by omega) hl (by omega))) ?_
    unfold withV
    refine j_q (qs_ext (vs := [.string (bs (withP kSource h rs name)), .int .i64 (withE rs name)]) rfl rfl) ?_
    refine j_q (qs_ext (vs := [.string (bs (withP kSource h rs name)), .int .i64 (withE rs name)]) rfl rfl) ?_
    first
      | refine j_q (qs_loadw 0 Try.underlying25 rfl sz25 rfl rfl (by first | (rw [ints_length]; exact hh) | rfl)) ?_
      | refine j_q (qs_loadw 1 Try.underlying25 rfl sz25 rfl rfl (by first | (rw [ints_length]; exact hh) | rfl)) ?_
      | refine j_q (qs_loadw 2 Try.underlying25 rfl sz25 rfl rfl (by first | (rw [ints_length]; exact hh) | rfl)) ?_
      | refine j_q (qs_loadw 3 Try.underlying25 rfl sz25 rfl rfl (by first | (rw [ints_length]; exact hh) | rfl)) ?_
    refine j_q (qs_call ent15 rfl rfl rfl (fun w' hw' => psource_con h (rs.drop k ++ rs.take k ++ [rs.getD 0 []]) name _ w' (strsl_own ho24 1 rfl hw') hh (by simp; omega) (fun r hr => hl r ((turn_mem (by omega) r).2 hr)) (by omega))) ?_
    unfold withV
    refine j_q (qs_ext (vs := [.string (bs (withP kSource h (rs.drop k ++ rs.take k ++ [rs.getD 0 []]) name)), .int .i64 (withE (rs.drop k ++ rs.take k ++ [rs.getD 0 []]) name)]) rfl rfl) ?_
    refine j_q (qs_ext (vs := [.string (bs (withP kSource h (rs.drop k ++ rs.take k ++ [rs.getD 0 []]) name)), .int .i64 (withE (rs.drop k ++ rs.take k ++ [rs.getD 0 []]) name)]) rfl rfl) ?_
    refine j_q (qs_seql rfl rfl) ?_
    refine j_g rfl (fun hb => qs_mt rfl) ?_
    refine j_g rfl (fun hb => qs_mt rfl) ?_
    refine j_g rfl (fun hb => qs_eql (gd_eq hb) (gd_eq hb)) ?_
    refine j_q (qs_and rfl rfl) ?_
    refine j_g rfl (fun hb => qs_call ent10 rfl rfl (args0) (fun w' hw' => known_con w')) ?_
    refine j_q (qs_and rfl rfl) ?_
    refine j_ret_con (vs := [_]) (fun w' hw' => ⟨rfl, trivial⟩) ?_
    show Value.bool _ = _
    congr 1
    obtain ⟨e1, e2⟩ := withP_congr (k := kSource) (h := h) (n := name) (l := rs) (m := rs.drop k ++ rs.take k ++ [rs.getD 0 []]) (turn_mem (by omega)) (by omega) (by simp; omega)
    rw [← e1, ← e2]
    simp
end Go.Proofs.Ytddecbkafdbkdaa
