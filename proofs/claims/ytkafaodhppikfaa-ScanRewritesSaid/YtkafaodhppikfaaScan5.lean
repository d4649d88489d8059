/- The laws ScanFinds, ScanAll and ScanParts. -/
import Derived.Test.YtkafaodhppikfaaTa
import Derived.Test.YtkafaodhppikfaaScan4
namespace Go.Proofs.Ytkafaodhppikfaa
open Go Go.Sx
set_option maxRecDepth 100000
set_option maxHeartbeats 4000000
set_option linter.unusedVariables false
set_option linter.unusedSimpArgs false
attribute [local irreducible] J JQ QS Con W opW
theorem ent9 : Sx.Enters Try.prog 9 := ⟨_, Try.func9, by kernel_rfl, by kernel_rfl⟩
theorem ent10 : Sx.Enters Try.prog 10 := ⟨_, Try.func10, by kernel_rfl, by kernel_rfl⟩
theorem ent11 : Sx.Enters Try.prog 11 := ⟨_, Try.func11, by kernel_rfl, by kernel_rfl⟩
theorem ent12 : Sx.Enters Try.prog 12 := ⟨_, Try.func12, by kernel_rfl, by kernel_rfl⟩
theorem ent13 : Sx.Enters Try.prog 13 := ⟨_, Try.func13, by kernel_rfl, by kernel_rfl⟩
theorem ent14 : Sx.Enters Try.prog 14 := ⟨_, Try.func14, by kernel_rfl, by kernel_rfl⟩
theorem ent15 : Sx.Enters Try.prog 15 := ⟨_, Try.func15, by kernel_rfl, by kernel_rfl⟩
theorem ent17 : Sx.Enters Try.prog 17 := ⟨_, Try.func17, by kernel_rfl, by kernel_rfl⟩
theorem ent20 : Sx.Enters Try.prog 20 := ⟨_, Try.func20, by kernel_rfl, by kernel_rfl⟩

open Go.MapKept Go.WideMaps Go.Maps
theorem strict_len {zs rs : List (List UInt8)} (h : Strict zs) (hm : ∀ x ∈ zs, x ∈ rs) : zs.length ≤ rs.length := by
  refine nodup_le ?_ hm
  unfold Strict at h
  unfold List.Nodup
  exact h.imp lt_ne
theorem known_eq {zs : List (List UInt8)} (h : Strict zs) (hm : ∀ x, x ∈ zs ↔ x ∈ [kP, kQ] ∧ isPath x = true ∧ Win ([120] ++ kP) ([120] ++ kP).length (x.take 32)) : zs = [kP] := by
  refine strict_ext h (by simp [Strict]) fun x => ?_
  rw [hm x]
  simp only [List.mem_cons, List.not_mem_nil, or_false]
  constructor
  · rintro ⟨rfl | rfl, _, hw⟩
    · rfl
    · have := standsB_iff.2 hw
      rw [kQ_win] at this
      cases this
  · rintro rfl
    exact ⟨.inl rfl, kP_path, standsB_iff.1 kP_win⟩
theorem win_left {a b d : List UInt8} (h : Win a a.length d) : Win (a ++ b) (a ++ b).length d := by
  unfold Win at *
  obtain ⟨j, h1, h2⟩ := h
  refine ⟨j, by rw [List.length_append]; omega, ?_⟩
  rw [List.drop_append_of_le_length (by omega), List.take_append_of_le_length (by rw [List.length_drop]; omega)]
  exact h2
theorem win_right {a b d : List UInt8} (h : Win b b.length d) : Win (a ++ b) (a ++ b).length d := by
  unfold Win at *
  obtain ⟨j, h1, h2⟩ := h
  refine ⟨a.length + j, by rw [List.length_append]; omega, ?_⟩
  rw [← List.drop_drop, List.drop_left]
  exact h2
theorem win_self {p : List UInt8} (hp : isPath p = true) : Win p p.length (p.take 32) := by
  have := path_min hp
  exact ⟨0, by omega, rfl⟩
theorem path_max {l : List UInt8} (h : isPath l = true) : l.length ≤ 113 := by
  unfold isPath at h
  simp only [Bool.and_eq_true] at h
  have := isName_len h.1.2
  rw [List.length_drop] at this
  omega
theorem rsl_pre {w : World} {g n cap z : Nat} {l m : List UInt8} (h : RSl w (.slice (some ⟨g, 0, none⟩) n cap) (ints m)) (hn : n = m.length) (hz : z ≤ n) (hc : 0 < cap) (hl : m.take z = l) : RSl w (.slice (some ⟨g, 0, none⟩) z cap) (ints l) := by
  have h1 := rsl_cut h (a := 0) (z := z) (Nat.zero_le _) hz (by rw [ints_length]; exact hn)
  rw [if_neg (by omega)] at h1
  simp only [Option.map_some, Nat.zero_mul, add_zero_, Nat.sub_zero, List.drop_zero, ints_take, hl] at h1
  exact h1
theorem parts_mem {a l : List UInt8} {rs zs13 zs15 zs17 : List (List UInt8)} (h13 : ∀ x, x ∈ zs13 ↔ x ∈ rs ∧ isPath x = true ∧ Win (a ++ l) (a ++ l).length (x.take 32)) (h15 : ∀ x, x ∈ zs15 ↔ x ∈ rs ∧ isPath x = true ∧ Win a a.length (x.take 32)) (h17 : ∀ x, x ∈ zs17 ↔ x ∈ rs ∧ isPath x = true ∧ Win l l.length (x.take 32)) {i : Nat} (hi : i < (zs15 ++ zs17).length) : (zs15 ++ zs17).getD i [] ∈ zs13 := by
  have hm : (zs15 ++ zs17).getD i [] ∈ zs15 ++ zs17 := by
    rw [List.getD_eq_getElem?_getD, List.getElem?_eq_getElem hi]
    exact List.getElem_mem hi
  rw [h13]
  rcases List.mem_append.1 hm with h | h
  · have := (h15 _).1 h
    exact ⟨this.1, this.2.1, win_left this.2.2⟩
  · have := (h17 _).1 h
    exact ⟨this.1, this.2.1, win_right this.2.2⟩
attribute [local irreducible] isName isPath spA spB spE cp sortS rise dg PT ofDig Fnd RunOk Win isDig standsB
/-- pantry.pantrylaw6.stands -/
theorem lstands_con (l : List UInt8) (g cap : Nat) (v2 : Value) (w : World) (h1 : RSl w (.slice (some ⟨g, 0, none⟩) (l.length + 1) cap) (ints (l ++ [171]))) (h2 : RSl w v2 (ints l)) (hc : l.length + 2 ≤ cap) (hl : l.length ≤ 100000) : Con Try.prog 13 [.slice (some ⟨g, 0, none⟩) (l.length + 1) cap, v2] w [] fun u _ => u = .bool true := by
  refine con_of_tree mix Try.func13 T13_ok (by kernel_rfl) ?_
  unfold T13
  obtain ⟨A2, cap2, rfl, hcap2⟩ := rsl_form h2
  rw [ints_length] at h2 hcap2 ⊢
  obtain ⟨ga, off, hga, hgl, hcells⟩ := rsl_addr h1 (by rw [ints_length]; simp)
  injection hga with hga
  injection hga with hga1 hga2
  subst hga1 hga2
  refine j_q (qs_ac) ?_
  refine j_q (qs_lenl Try.underlying22 rfl) ?_
  refine j_q (qs_lenl Try.underlying22 rfl) ?_
  refine j_q (qs_add64 rfl rfl (by first | omega | (simp only [Bool.and_eq_true, Bool.or_eq_true, Bool.and_eq_false_iff, Bool.or_eq_false_iff, Bool.not_eq_true', Bool.not_eq_false', decide_eq_true_eq, decide_eq_false_iff_not, beq_iff_eq, beq_eq_false_iff_ne, bne_iff_ne, bne_eq_false_iff_eq, ne_eq, Int.toNat_natCast] at *; omega))) ?_
  refine j_q (qs_eql rfl rfl) ?_
  refine j_g rfl (fun hb => qs_mt rfl) ?_
  refine j_g rfl (fun hb => qs_mt rfl) ?_
  refine j_g rfl (fun hb => qs_lenl Try.underlying22 (gd_eq hb)) ?_
  refine j_g rfl (fun hb => qs_cutl (z := l.length) Try.underlying22 sz5 (gd_eq hb) rfl ⟨_, (gd_eq hb)⟩ (by first | omega | (simp only [Bool.and_eq_true, Bool.or_eq_true, Bool.and_eq_false_iff, Bool.or_eq_false_iff, Bool.not_eq_true', Bool.not_eq_false', decide_eq_true_eq, decide_eq_false_iff_not, beq_iff_eq, beq_eq_false_iff_ne, bne_iff_ne, bne_eq_false_iff_eq, ne_eq, Int.toNat_natCast] at *; omega)) (by first | omega | (simp only [Bool.and_eq_true, Bool.or_eq_true, Bool.and_eq_false_iff, Bool.or_eq_false_iff, Bool.not_eq_true', Bool.not_eq_false', decide_eq_true_eq, decide_eq_false_iff_not, beq_iff_eq, beq_eq_false_iff_ne, bne_iff_ne, bne_eq_false_iff_eq, ne_eq, Int.toNat_natCast] at *; omega))) ?_
  rw [if_neg (show ¬ cap = 0 by omega)]
  simp only [Option.map_some, Nat.zero_mul, add_zero_, Nat.sub_zero]
  refine j_g rfl (fun hb => qs_mt rfl) ?_
  refine j_g rfl (fun hb => qs_call ent20 rfl rfl (args2 (gd_eq hb) (gd_eq hb)) (fun w' hw' => same_con l l _ _ w' (rsl_keep (rsl_pre h1 (by simp) (by omega) (by omega) (by simp)) hw') (rsl_keep h2 hw') (by omega))) ?_
  refine j_q (qs_and rfl rfl) ?_
  refine j_g rfl (fun hb => qs_mt rfl) ?_
  refine j_g rfl (fun hb => qs_mt rfl) ?_
  refine j_g rfl (fun hb => qs_lenl Try.underlying22 (gd_eq hb)) ?_
  refine j_g rfl (fun hb => qs_ixl0 Try.underlying22 sz5 (gd_eq hb) (gd_eq hb) ⟨(by first | omega | (simp only [Bool.and_eq_true, Bool.or_eq_true, Bool.and_eq_false_iff, Bool.or_eq_false_iff, Bool.not_eq_true', Bool.not_eq_false', decide_eq_true_eq, decide_eq_false_iff_not, beq_iff_eq, beq_eq_false_iff_ne, bne_iff_ne, bne_eq_false_iff_eq, ne_eq, Int.toNat_natCast] at *; omega)), (by first | omega | (simp only [Bool.and_eq_true, Bool.or_eq_true, Bool.and_eq_false_iff, Bool.or_eq_false_iff, Bool.not_eq_true', Bool.not_eq_false', decide_eq_true_eq, decide_eq_false_iff_not, beq_iff_eq, beq_eq_false_iff_ne, bne_iff_ne, bne_eq_false_iff_eq, ne_eq, Int.toNat_natCast] at *; omega))⟩) ?_
  refine j_g (v := .int .u8 (((l ++ [171]).getD (l.length : Int).toNat 0).toNat : Int)) rfl (fun hb => by exact qs_loadr8 (i := (l.length : Int).toNat) (rd_cells hcells (by simp)) Try.underlying5 (gd_eq hb) (by simp)) ?_
  have h171 : (l ++ [171]).getD (l.length : Int).toNat 0 = (171 : UInt8) := by simp [List.getD_eq_getElem?_getD]
  rw [h171]
  refine j_g rfl (fun hb => qs_eql (gd_eq hb) rfl) ?_
  refine j_q (qs_and rfl rfl) ?_
  refine j_ret_con (vs := [_]) (fun w' hw' => ⟨rfl, trivial⟩) ?_
  show Value.bool _ = _
  congr 1
  simp
/-- pantry.pantrylaw6.known -/
theorem known_con (w : World) : Con Try.prog 14 [] w [] fun u _ => u = .bool true := by
  refine con_of_tree mix Try.func14 T14_ok (by kernel_rfl) ?_
  unfold T14
  refine j_q (qs_ac) ?_
  refine j_q (qs_ac) ?_
  refine j_q (qs_ac) ?_
  refine j_q (qs_sadd (l := [120]) (l' := kP) rfl rfl (by decide)) ?_
  refine j_bytes Try.underlying9 Try.underlying22 Try.underlying5 rfl (fun v4 c4 ho4 hv4 => ?_)
  obtain ⟨g4, cap4, rfl⟩ := hv4
  refine j_lit (vs := [.string (bs kP), .string (bs kQ)]) Try.underlying23 sz25 zero25 rfl (by simp [oneV]) ⟨rfl, by decide⟩ (fun g5 v5 c5 hv5 hc5 ho5 => ?_)
  subst hv5 hc5
  rw [show [.string (bs kP), .string (bs kQ)] = strs [kP, kQ] from rfl] at ho5
  refine j_call0 ent11 rfl rfl rfl (fun w' hw' => refs_con ([120] ++ kP) _ [kP, kQ] _ w' (rsl_own ho4 1 rfl hw') (strsl_own ho5 0 rfl hw') (by decide) (by decide) (by decide)) (fun u S2 hu => ?_)
  obtain ⟨c6, zs, rfl, ho6, hs6, hm6⟩ := hu
  obtain rfl := known_eq hs6 hm6
  refine j_lit (vs := [.string (bs kP)]) Try.underlying23 sz25 zero25 rfl (by simp [oneV]) ⟨rfl, by decide⟩ (fun g7 v7 c7 hv7 hc7 ho7 => ?_)
  subst hv7 hc7
  rw [show [Value.string (bs kP)] = strs [kP] from rfl] at ho7
  refine j_q (qs_call ent10 rfl rfl rfl (fun w' hw' => paths_con [kP] _ _ w' (strsl_own ho6 1 rfl hw') (strsl_own ho7 0 rfl hw') (by decide))) ?_
  refine j_ret_con (vs := [_]) (fun w' hw' => ⟨rfl, trivial⟩) ?_
  rfl
/-- pantry.pantrylaw6.ScanFinds -/
theorem scanFinds_con (l : List UInt8) (vb : Value) (rs : List (List UInt8)) (vr : Value) (w : World) (hvb : RSl w vb (ints l)) (hvr : StrSl w vr rs) (hr : ∀ r ∈ rs, r.length ≤ 9223372036854775807) : Con Try.prog 3 [vb, vr] w [] fun u _ => u = .bool true := by
  refine con_of_tree mix Try.func3 T3_ok (by kernel_rfl) ?_
  unfold T3
  obtain ⟨A1, cap1, rfl, hcap1⟩ := rsl_form hvb
  obtain ⟨A2, cap2, rfl, hcap2⟩ := strsl_form hvr
  rw [ints_length] at hvb hcap1 ⊢
  refine j_q (qs_ac) ?_
  refine j_q (qs_lenl Try.underlying22 rfl) ?_
  refine j_q (qs_gtr rfl rfl) ?_
  refine j_g rfl (fun hb => qs_mt rfl) ?_
  refine j_g rfl (fun hb => qs_lenl Try.underlying23 (gd_eq hb)) ?_
  refine j_g rfl (fun hb => qs_gtr (gd_eq hb) rfl) ?_
  refine j_q (qs_or rfl rfl) ?_
  refine j_cond rfl (fun hc0 => ?_) (fun hc0 => ?_)
  · skip
    refine j_q (qs_ac) ?_
    refine j_ret_con (vs := [_]) (fun w' hw' => ⟨rfl, trivial⟩) ?_
    rfl
  · skip
    have hb : l.length ≤ 4000 ∧ rs.length ≤ 50 := by
      simp only [Bool.and_eq_true, Bool.or_eq_true, Bool.and_eq_false_iff, Bool.or_eq_false_iff, Bool.not_eq_true', Bool.not_eq_false', decide_eq_true_eq, decide_eq_false_iff_not, beq_iff_eq, beq_eq_false_iff_ne, bne_iff_ne, bne_eq_false_iff_eq, ne_eq, Int.toNat_natCast] at *
      omega
    refine j_call0 ent9 rfl rfl rfl (fun w' hw' => roomy_con l _ w' (rsl_keep hvb hw') (by omega)) (fun u S2 hu => ?_)
    obtain ⟨g8, cap8, c8, rfl, rfl, hcap8, ho8⟩ := hu
    refine j_lit (vs := []) Try.underlying23 sz25 zero25 rfl (by simp [oneV]) ⟨rfl, by decide⟩ (fun g9 v9 c9 hv9 hc9 ho9 => ?_)
    subst hv9 hc9
    refine j_append 0 Try.underlying23 Try.underlying23 (.inr ⟨_, rfl⟩) sb25 zero25 rfl ho9 rfl (src_strsl hvr) strs_one ⟨(by simp [strs_length]; omega), (by decide)⟩ (fun v10 c10 ho10 => ?_)
    refine j_lit (vs := [.string (bs _)]) Try.underlying23 sz25 zero25 rfl (by simp [oneV]) ⟨rfl, by decide⟩ (fun g11 v11 c11 hv11 hc11 ho11 => ?_)
    subst hv11 hc11
    refine j_append 1 Try.underlying23 Try.underlying23 (.inr ⟨_, rfl⟩) sb25 zero25 rfl ho10 rfl (.inl ⟨_, _, rfl, own_rd ho11 0 rfl, rfl⟩) (fun u hu => one_of hu) ⟨(by simp [strs_length]; omega), (by decide)⟩ (fun v12 c12 ho12 => ?_)
    rw [List.nil_append, show [Value.string (bs [120])] = strs [[120]] from rfl, ← strs_append] at ho12
    obtain ⟨n12, A12, cap12, rfl, hn12⟩ := own_form ho12 (by decide)
    rw [strs_length, List.length_append, List.length_singleton, Nat.mul_one] at hn12
    have hc12 := own_cap ho12
    obtain ⟨g12, rfl⟩ := own_addr ho12 (by rw [strs_length, List.length_append, List.length_singleton]; omega)
    refine j_subl (S' := [c12, c8]) (by repeat first | exact List.Sublist.refl _ | exact List.nil_sublist _ | apply List.Sublist.cons_cons | apply List.Sublist.cons) ?_
    have hgw : ∀ w', StrSl w' (.slice (some ⟨g12, 0, none⟩) n12 cap12) (rs ++ [[120]]) → StrSl w' (.slice (some ⟨g12, 0, none⟩) rs.length cap12) rs := fun w' h0 => by
      have h1 := strsl_cut h0 (Nat.zero_le rs.length) (show rs.length ≤ n12 by omega) (by rw [List.length_append, List.length_singleton]; omega)
      rw [if_neg (show ¬ cap12 = 0 by omega)] at h1
      simp only [Option.map_some, Nat.zero_mul, add_zero_, Nat.sub_zero, List.drop_zero, List.take_left'] at h1
      exact h1
    have hgv : ∀ (S : List SH) w', Sig ⟨w, dom []⟩ (c12 :: S) w' → StrSl w' (.slice (some ⟨g12, 0, none⟩) rs.length cap12) rs := fun S w' hw' => hgw w' (strsl_own ho12 0 rfl hw')
    refine j_q (qs_lenl Try.underlying23 rfl) ?_
    refine j_q (qs_cutl (z := rs.length) Try.underlying23 sz25 rfl rfl ⟨_, rfl⟩ (by first | omega | (simp only [Bool.and_eq_true, Bool.or_eq_true, Bool.and_eq_false_iff, Bool.or_eq_false_iff, Bool.not_eq_true', Bool.not_eq_false', decide_eq_true_eq, decide_eq_false_iff_not, beq_iff_eq, beq_eq_false_iff_ne, bne_iff_ne, bne_eq_false_iff_eq, ne_eq, Int.toNat_natCast] at *; omega)) (by first | omega | (simp only [Bool.and_eq_true, Bool.or_eq_true, Bool.and_eq_false_iff, Bool.or_eq_false_iff, Bool.not_eq_true', Bool.not_eq_false', decide_eq_true_eq, decide_eq_false_iff_not, beq_iff_eq, beq_eq_false_iff_ne, bne_iff_ne, bne_eq_false_iff_eq, ne_eq, Int.toNat_natCast] at *; omega))) ?_
    rw [if_neg (show ¬ cap12 = 0 by omega)]
    simp only [Option.map_some, Nat.zero_mul, add_zero_, Nat.sub_zero]
    refine j_q (qs_lenl Try.underlying22 rfl) ?_
    refine j_q (qs_cutl (z := l.length) Try.underlying22 sz5 rfl rfl ⟨_, rfl⟩ (by first | omega | (simp only [Bool.and_eq_true, Bool.or_eq_true, Bool.and_eq_false_iff, Bool.or_eq_false_iff, Bool.not_eq_true', Bool.not_eq_false', decide_eq_true_eq, decide_eq_false_iff_not, beq_iff_eq, beq_eq_false_iff_ne, bne_iff_ne, bne_eq_false_iff_eq, ne_eq, Int.toNat_natCast] at *; omega)) (by first | omega | (simp only [Bool.and_eq_true, Bool.or_eq_true, Bool.and_eq_false_iff, Bool.or_eq_false_iff, Bool.not_eq_true', Bool.not_eq_false', decide_eq_true_eq, decide_eq_false_iff_not, beq_iff_eq, beq_eq_false_iff_ne, bne_iff_ne, bne_eq_false_iff_eq, ne_eq, Int.toNat_natCast] at *; omega))) ?_
    rw [if_neg (show ¬ cap8 = 0 by omega)]
    simp only [Option.map_some, Nat.zero_mul, add_zero_, Nat.sub_zero]
    refine j_call0 ent11 rfl rfl rfl (fun w' hw' => refs_con l _ rs _ w' (rsl_pre (rsl_own ho8 1 rfl hw') (by simp) (by omega) (by omega) (by simp)) (hgv _ w' hw') (by omega) (by omega) hr) (fun u S2 hu => ?_)
    obtain ⟨c17, zs, rfl, ho17, hs17, hm17⟩ := hu
    refine j_call0 ent12 rfl rfl rfl (fun w' hw' => rrefs_con l _ rs _ w' (rsl_keep hvb hw') (strsl_keep hvr hw') (by omega) (by omega) hr) (fun u S2 hu => ?_)
    obtain ⟨c18, zs2, rfl, ho18, hs18, hm18⟩ := hu
    obtain rfl : zs = zs2 := strict_ext hs17 hs18 fun x => (hm17 x).trans (hm18 x).symm
    have hzl := strict_len hs17 fun x hx => ((hm17 x).1 hx).1
    refine j_subl (S' := [c18, c17, c12, c8]) (by repeat first | exact List.Sublist.refl _ | exact List.nil_sublist _ | apply List.Sublist.cons_cons | apply List.Sublist.cons) ?_
    refine j_q (qs_call ent10 rfl rfl rfl (fun w' hw' => paths_con zs _ _ w' (strsl_own ho17 1 rfl hw') (strsl_own ho18 0 rfl hw') (by omega))) ?_
    refine j_g rfl (fun hb => qs_mt rfl) ?_
    refine j_g rfl (fun hb => qs_mt rfl) ?_
    refine j_g rfl (fun hb => qs_call ent13 rfl rfl (args2 (gd_eq hb) (gd_eq hb)) (fun w' hw' => lstands_con l g8 cap8 _ w' (rsl_pre (rsl_own ho8 3 rfl hw') (by simp) (by omega) (by omega) (by rw [List.take_append, List.take_of_length_le (by omega)]; simp)) (rsl_keep hvb hw') (by omega) (by omega))) ?_
    refine j_q (qs_and rfl rfl) ?_
    refine j_g rfl (fun hb => qs_mt rfl) ?_
    refine j_g rfl (fun hb => qs_mt rfl) ?_
    refine j_g rfl (fun hb => qs_call ent10 rfl rfl (args2 (gd_eq hb) (gd_eq hb)) (fun w' hw' => paths_con rs _ _ w' (hgw w' (strsl_own ho12 2 rfl hw')) (strsl_keep hvr hw') (by omega))) ?_
    refine j_q (qs_and rfl rfl) ?_
    refine j_g rfl (fun hb => qs_call ent14 rfl rfl (args0) (fun w' hw' => known_con w')) ?_
    refine j_q (qs_and rfl rfl) ?_
    refine j_ret_con (vs := [_]) (fun w' hw' => ⟨rfl, trivial⟩) ?_
    show Value.bool _ = _
    congr 1
/-- pantry.pantrylaw6.ScanParts -/
theorem scanParts_con (a : List UInt8) (va : Value) (l : List UInt8) (vb : Value) (rs : List (List UInt8)) (vr : Value) (w : World) (hva : RSl w va (ints a)) (hvb : RSl w vb (ints l)) (hvr : StrSl w vr rs) (hr : ∀ r ∈ rs, r.length ≤ 9223372036854775807) (hal : a.length ≤ 4611686018427387903) (hbl : l.length ≤ 4611686018427387903) : Con Try.prog 5 [va, vb, vr] w [] fun u _ => u = .bool true := by
  refine con_of_tree mix Try.func5 T5_ok (by kernel_rfl) ?_
  unfold T5
  obtain ⟨A0, cap0, rfl, hcap0⟩ := rsl_form hva
  obtain ⟨A1, cap1, rfl, hcap1⟩ := rsl_form hvb
  obtain ⟨A2, cap2, rfl, hcap2⟩ := strsl_form hvr
  rw [ints_length] at hvb hcap1 hva hcap0
  rw [ints_length, ints_length]
  refine j_q (qs_ac) ?_
  refine j_q (qs_lenl Try.underlying22 rfl) ?_
  refine j_q (qs_lenl Try.underlying22 rfl) ?_
  refine j_q (qs_add64 rfl rfl (by first | omega | (simp only [Bool.and_eq_true, Bool.or_eq_true, Bool.and_eq_false_iff, Bool.or_eq_false_iff, Bool.not_eq_true', Bool.not_eq_false', decide_eq_true_eq, decide_eq_false_iff_not, beq_iff_eq, beq_eq_false_iff_ne, bne_iff_ne, bne_eq_false_iff_eq, ne_eq, Int.toNat_natCast] at *; omega))) ?_
  refine j_q (qs_gtr rfl rfl) ?_
  refine j_g rfl (fun hb => qs_mt rfl) ?_
  refine j_g rfl (fun hb => qs_lenl Try.underlying23 (gd_eq hb)) ?_
  refine j_g rfl (fun hb => qs_gtr (gd_eq hb) rfl) ?_
  refine j_q (qs_or rfl rfl) ?_
  refine j_cond rfl (fun hc0 => ?_) (fun hc0 => ?_)
  · skip
    refine j_q (qs_ac) ?_
    refine j_ret_con (vs := [_]) (fun w' hw' => ⟨rfl, trivial⟩) ?_
    rfl
  · skip
    have hb : a.length + l.length ≤ 4000 ∧ rs.length ≤ 30 := by
      simp only [Bool.and_eq_true, Bool.or_eq_true, Bool.and_eq_false_iff, Bool.or_eq_false_iff, Bool.not_eq_true', Bool.not_eq_false', decide_eq_true_eq, decide_eq_false_iff_not, beq_iff_eq, beq_eq_false_iff_ne, bne_iff_ne, bne_eq_false_iff_eq, ne_eq, Int.toNat_natCast] at *
      omega
    refine j_lit (vs := []) Try.underlying22 sz5 zero5 rfl (by simp [oneV]) ⟨rfl, by decide⟩ (fun g10 v10 c10 hv10 hc10 ho10 => ?_)
    subst hv10 hc10
    refine j_append 0 Try.underlying22 Try.underlying22 (.inr ⟨_, rfl⟩) sb5 zero5 rfl ho10 rfl (src_rsl hva (fun _ _ => by simp)) ints_one ⟨(by simp [ints_length]; omega), (by decide)⟩ (fun v11 c11 ho11 => ?_)
    refine j_append 0 Try.underlying22 Try.underlying22 (.inr ⟨_, rfl⟩) sb5 zero5 rfl ho11 rfl (src_rsl hvb (fun _ _ => by simp)) ints_one ⟨(by simp [ints_length]; omega), (by decide)⟩ (fun v12 c12 ho12 => ?_)
    rw [List.nil_append, ← ints_append] at ho12
    refine j_call0 ent11 rfl rfl rfl (fun w' hw' => refs_con (a ++ l) _ rs _ w' (rsl_own ho12 0 rfl hw') (strsl_keep hvr hw') (by simp; omega) (by omega) hr) (fun u S2 hu => ?_)
    obtain ⟨c13, zs13, rfl, ho13, hs13, hm13⟩ := hu
    have hz13 := strict_len hs13 fun x hx => ((hm13 x).1 hx).1
    refine j_subl (S' := [c13]) (by repeat first | exact List.Sublist.refl _ | exact List.nil_sublist _ | apply List.Sublist.cons_cons | apply List.Sublist.cons) ?_
    refine j_lit (vs := []) Try.underlying23 sz25 zero25 rfl (by simp [oneV]) ⟨rfl, by decide⟩ (fun g14 v14 c14 hv14 hc14 ho14 => ?_)
    subst hv14 hc14
    refine j_call0 ent11 rfl rfl rfl (fun w' hw' => refs_con a _ rs _ w' (rsl_keep hva hw') (strsl_keep hvr hw') (by omega) (by omega) hr) (fun u S2 hu => ?_)
    obtain ⟨c15, zs15, rfl, ho15, hs15, hm15⟩ := hu
    have hz15 := strict_len hs15 fun x hx => ((hm15 x).1 hx).1
    obtain ⟨m15, hsrc16, hm15'⟩ := src_own (b := ⟨w, dom []⟩) (S := [c15] ++ [[(g14, .cells [].toArray 25 (0, 0))], c13]) 0 ho15 rfl
    refine j_append 1 Try.underlying23 Try.underlying23 (.inr ⟨_, rfl⟩) sb25 zero25 rfl ho14 rfl hsrc16 strs_one ⟨(by simp [strs_length]; omega), (by decide)⟩ (fun v16 c16 ho16 => ?_)
    rw [List.nil_append] at ho16
    refine j_subl (S' := [c16, c13]) (by repeat first | exact List.Sublist.refl _ | exact List.nil_sublist _ | apply List.Sublist.cons_cons | apply List.Sublist.cons) ?_
    refine j_call0 ent11 rfl rfl rfl (fun w' hw' => refs_con l _ rs _ w' (rsl_keep hvb hw') (strsl_keep hvr hw') (by omega) (by omega) hr) (fun u S2 hu => ?_)
    obtain ⟨c17, zs17, rfl, ho17, hs17, hm17⟩ := hu
    have hz17 := strict_len hs17 fun x hx => ((hm17 x).1 hx).1
    obtain ⟨m17, hsrc18, hm17'⟩ := src_own (b := ⟨w, dom []⟩) (S := [c17, c16, c13]) 0 ho17 rfl
    refine j_append 1 Try.underlying23 Try.underlying23 (.inr ⟨_, rfl⟩) sb25 zero25 rfl ho16 rfl hsrc18 strs_one ⟨(by simp only [strs_length, List.length_append]; omega), (by decide)⟩ (fun v18 c18 ho18 => ?_)
    rw [← strs_append] at ho18
    obtain ⟨n18, A18, cap18, rfl, hn18⟩ := own_form ho18 (by decide)
    rw [strs_length, Nat.mul_one] at hn18
    subst hn18
    have hln : (zs15 ++ zs17).length ≤ 60 := by rw [List.length_append]; omega
    refine j_subl (S' := [c18, c13]) (by repeat first | exact List.Sublist.refl _ | exact List.nil_sublist _ | apply List.Sublist.cons_cons | apply List.Sublist.cons) ?_
    refine j_q (qs_ac) ?_
    refine j_loop (fun m vs S' => ∃ i : Nat, vs = [.int .i64 (i : Int)] ∧ S' = [c18, c13] ∧ i ≤ (zs15 ++ zs17).length ∧ m = (zs15 ++ zs17).length - i) ⟨_, 0, rfl, rfl, Nat.zero_le _, rfl⟩ ?_
    rintro m vs S' hlen ⟨i, rfl, rfl, hin, rfl⟩
    refine j_q (qs_lenl Try.underlying23 rfl) ?_
    refine j_q (qs_lss rfl rfl) ?_
    refine j_cond rfl (fun hc1 => ?_) (fun hc1 => ?_)
    · skip
      have hi : i < (zs15 ++ zs17).length := by
        simp only [Bool.and_eq_true, Bool.or_eq_true, Bool.and_eq_false_iff, Bool.or_eq_false_iff, Bool.not_eq_true', Bool.not_eq_false', decide_eq_true_eq, decide_eq_false_iff_not, beq_iff_eq, beq_eq_false_iff_ne, bne_iff_ne, bne_eq_false_iff_eq, ne_eq, Int.toNat_natCast] at *
        omega
      obtain ⟨ga, rfl⟩ := own_addr ho18 (by rw [strs_length]; omega)
      refine j_q (qs_ixl0 Try.underlying23 sz25 rfl rfl ⟨(by first | omega | (simp only [Bool.and_eq_true, Bool.or_eq_true, Bool.and_eq_false_iff, Bool.or_eq_false_iff, Bool.not_eq_true', Bool.not_eq_false', decide_eq_true_eq, decide_eq_false_iff_not, beq_iff_eq, beq_eq_false_iff_ne, bne_iff_ne, bne_eq_false_iff_eq, ne_eq, Int.toNat_natCast] at *; omega)), (by first | omega | (simp only [Bool.and_eq_true, Bool.or_eq_true, Bool.and_eq_false_iff, Bool.or_eq_false_iff, Bool.not_eq_true', Bool.not_eq_false', decide_eq_true_eq, decide_eq_false_iff_not, beq_iff_eq, beq_eq_false_iff_ne, bne_iff_ne, bne_eq_false_iff_eq, ne_eq, Int.toNat_natCast] at *; omega))⟩) ?_
      refine j_q (qs_loadrs (own_rd ho18 0 rfl) Try.underlying25 rfl (by simp only [Int.toNat_natCast]; omega)) ?_
      simp only [Int.toNat_natCast]
      refine j_q (qs_call ent17 rfl rfl rfl (fun w' hw' => has_con zs13 ((zs15 ++ zs17).getD i []) _ w' (strsl_own ho13 1 rfl hw') (by omega) (parts_mem hm13 hm15 hm17 hi))) ?_
      refine j_q (qs_not rfl) ?_
      refine j_cond rfl (fun hc2 => ?_) (fun hc2 => ?_)
      · skip
        simp at hc2
      · skip
        refine j_q (qs_add64 rfl rfl (by first | omega | (simp only [Bool.and_eq_true, Bool.or_eq_true, Bool.and_eq_false_iff, Bool.or_eq_false_iff, Bool.not_eq_true', Bool.not_eq_false', decide_eq_true_eq, decide_eq_false_iff_not, beq_iff_eq, beq_eq_false_iff_ne, bne_iff_ne, bne_eq_false_iff_eq, ne_eq, Int.toNat_natCast] at *; omega))) ?_
        refine j_back rfl ?_
        exact ⟨(zs15 ++ zs17).length - (i + 1), by omega, i + 1, rfl, rfl, by omega, rfl⟩
    · skip
      refine j_q (qs_call ent14 rfl rfl rfl (fun w' hw' => known_con w')) ?_
      refine j_ret_con (vs := [_]) (fun w' hw' => ⟨rfl, trivial⟩) ?_
      rfl
/-- pantry.pantrylaw6.ScanAll -/
theorem scanAll_con (rs : List (List UInt8)) (vr : Value) (t : List UInt8) (vt : Value) (w : World) (hvr : StrSl w vr rs) (hr : ∀ r ∈ rs, r.length ≤ 9223372036854775807) (hvt : RSl w vt (ints t)) : Con Try.prog 4 [vr, vt] w [] fun u _ => u = .bool true := by
  refine con_of_tree mix Try.func4 T4_ok (by kernel_rfl) ?_
  unfold T4
  obtain ⟨A1, cap1, rfl, hcap1⟩ := rsl_form hvt
  obtain ⟨A2, cap2, rfl, hcap2⟩ := strsl_form hvr
  rw [ints_length] at hvt hcap1 ⊢
  refine j_q (qs_ac) ?_
  refine j_q (qs_lenl Try.underlying23 rfl) ?_
  refine j_q (qs_gtr rfl rfl) ?_
  refine j_g rfl (fun hb => qs_mt rfl) ?_
  refine j_g rfl (fun hb => qs_lenl Try.underlying22 (gd_eq hb)) ?_
  refine j_g rfl (fun hb => qs_gtr (gd_eq hb) rfl) ?_
  refine j_q (qs_or rfl rfl) ?_
  refine j_cond rfl (fun hc0 => ?_) (fun hc0 => ?_)
  · skip
    refine j_q (qs_ac) ?_
    refine j_ret_con (vs := [_]) (fun w' hw' => ⟨rfl, trivial⟩) ?_
    rfl
  · skip
    have hb : t.length ≤ 200 ∧ rs.length ≤ 30 := by
      simp only [Bool.and_eq_true, Bool.or_eq_true, Bool.and_eq_false_iff, Bool.or_eq_false_iff, Bool.not_eq_true', Bool.not_eq_false', decide_eq_true_eq, decide_eq_false_iff_not, beq_iff_eq, beq_eq_false_iff_ne, bne_iff_ne, bne_eq_false_iff_eq, ne_eq, Int.toNat_natCast] at *
      omega
    refine j_q (qs_ac) ?_
    refine j_q (qs_ac) ?_
    refine j_q (qs_ac) ?_
    refine j_perm (S' := [[], []]) (by simp) ?_
    refine j_loop (fun m vs S' => ∃ (i : Nat) (bl : List UInt8) (bv : Value) (cb : SH) (zs : List (List UInt8)) (ov : Value) (c : SH), vs = [bv, ov, .int .i64 (i : Int)] ∧ S' = [cb, c] ∧ Sx.Own 5 1 (ints bl) bv cb ∧ Sx.Own 25 1 (strs zs) ov c ∧ Strict zs ∧ (∀ x, x ∈ zs ↔ x ∈ rs.take i ∧ isPath x = true) ∧ (∀ x ∈ rs.take i, isPath x = true → Win bl bl.length (x.take 32)) ∧ zs.length ≤ i ∧ bl.length ≤ i * 313 ∧ i ≤ rs.length ∧ m = rs.length - i) ⟨_, 0, [], _, [], [], _, [], rfl, rfl, own_nil, own_nil, List.Pairwise.nil, by simp, by simp, Nat.zero_le _, Nat.zero_le _, Nat.zero_le _, rfl⟩ ?_
    rintro m vs S' hlen ⟨i, bl, bv, cb, zs, ov, c, rfl, rfl, hob, ho, hst, hmem, hwin, hzl, hbl, hin, rfl⟩
    refine j_q (qs_lenl Try.underlying23 rfl) ?_
    refine j_q (qs_lss rfl rfl) ?_
    refine j_cond rfl (fun hc1 => ?_) (fun hc1 => ?_)
    · skip
      have hi : i < rs.length := by
        simp only [Bool.and_eq_true, Bool.or_eq_true, Bool.and_eq_false_iff, Bool.or_eq_false_iff, Bool.not_eq_true', Bool.not_eq_false', decide_eq_true_eq, decide_eq_false_iff_not, beq_iff_eq, beq_eq_false_iff_ne, bne_iff_ne, bne_eq_false_iff_eq, ne_eq, Int.toNat_natCast] at *
        omega
      obtain ⟨ga, off, rfl, hga, hcells⟩ := strsl_addr hvr (by omega)
      refine j_q (qs_ixl0 Try.underlying23 sz25 rfl rfl ⟨(by first | omega | (simp only [Bool.and_eq_true, Bool.or_eq_true, Bool.and_eq_false_iff, Bool.or_eq_false_iff, Bool.not_eq_true', Bool.not_eq_false', decide_eq_true_eq, decide_eq_false_iff_not, beq_iff_eq, beq_eq_false_iff_ne, bne_iff_ne, bne_eq_false_iff_eq, ne_eq, Int.toNat_natCast] at *; omega)), (by first | omega | (simp only [Bool.and_eq_true, Bool.or_eq_true, Bool.and_eq_false_iff, Bool.or_eq_false_iff, Bool.not_eq_true', Bool.not_eq_false', decide_eq_true_eq, decide_eq_false_iff_not, beq_iff_eq, beq_eq_false_iff_ne, bne_iff_ne, bne_eq_false_iff_eq, ne_eq, Int.toNat_natCast] at *; omega))⟩) ?_
      refine j_q (qs_loadrs (rd_cells hcells (by simp)) Try.underlying25 rfl (by simp only [Int.toNat_natCast]; omega)) ?_
      simp only [Int.toNat_natCast]
      refine j_q (qs_call ent15 rfl rfl rfl (fun w' hw' => is_con (rs.getD i []) w' (get_le hr hi))) ?_
      refine j_q (qs_not rfl) ?_
      refine j_cond rfl (fun hc2 => ?_) (fun hc2 => ?_)
      · skip
        have hbad : isPath (rs.getD i []) = false := by simpa using hc2
        refine j_q (qs_add64 rfl rfl (by first | omega | (simp only [Bool.and_eq_true, Bool.or_eq_true, Bool.and_eq_false_iff, Bool.or_eq_false_iff, Bool.not_eq_true', Bool.not_eq_false', decide_eq_true_eq, decide_eq_false_iff_not, beq_iff_eq, beq_eq_false_iff_ne, bne_iff_ne, bne_eq_false_iff_eq, ne_eq, Int.toNat_natCast] at *; omega))) ?_
        refine j_back rfl ?_
        exact ⟨rs.length - (i + 1), by omega, i + 1, bl, bv, cb, zs, ov, c, rfl, rfl, hob, ho, hst, fun x => by
          rw [hmem, take_snoc hi, List.mem_append, List.mem_singleton]
          constructor
          · rintro ⟨h, h2⟩
            exact ⟨.inl h, h2⟩
          · rintro ⟨h | rfl, h2⟩
            · exact ⟨h, h2⟩
            · rw [hbad] at h2; exact Bool.noConfusion h2, fun x hx hxp => by
          rw [take_snoc hi, List.mem_append, List.mem_singleton] at hx
          rcases hx with hx | rfl
          · exact hwin x hx hxp
          · rw [hbad] at hxp; exact Bool.noConfusion hxp, by omega, by omega, by omega, rfl⟩
      · skip
        have hok : isPath (rs.getD i []) = true := by simpa using hc2
        have hpm := path_max hok
        refine j_q (qs_ixl0 Try.underlying23 sz25 rfl rfl ⟨(by first | omega | (simp only [Bool.and_eq_true, Bool.or_eq_true, Bool.and_eq_false_iff, Bool.or_eq_false_iff, Bool.not_eq_true', Bool.not_eq_false', decide_eq_true_eq, decide_eq_false_iff_not, beq_iff_eq, beq_eq_false_iff_ne, bne_iff_ne, bne_eq_false_iff_eq, ne_eq, Int.toNat_natCast] at *; omega)), (by first | omega | (simp only [Bool.and_eq_true, Bool.or_eq_true, Bool.and_eq_false_iff, Bool.or_eq_false_iff, Bool.not_eq_true', Bool.not_eq_false', decide_eq_true_eq, decide_eq_false_iff_not, beq_iff_eq, beq_eq_false_iff_ne, bne_iff_ne, bne_eq_false_iff_eq, ne_eq, Int.toNat_natCast] at *; omega))⟩) ?_
        refine j_q (qs_loadrs (rd_cells hcells (by simp)) Try.underlying25 rfl (by simp only [Int.toNat_natCast]; omega)) ?_
        simp only [Int.toNat_natCast]
        refine j_call 1 ent16 rfl rfl rfl rfl (fun w' hw' => lay_con zs _ ov c ho hst (by omega) w') (fun u S2 hu => ?_)
        obtain ⟨zs2, c2, rfl, ho2, hst2, hmem2, hl2⟩ := hu
        refine j_subl (S' := [c2, cb]) (by repeat first | exact List.Sublist.refl _ | exact List.nil_sublist _ | apply List.Sublist.cons_cons | apply List.Sublist.cons) ?_
        refine j_swap ?_
        refine j_mix [] (Le.of_sub (List.nil_sublist _)) ?_
        refine j_mq (qs_ixl0 Try.underlying23 sz25 rfl rfl ⟨(by first | omega | (simp only [Bool.and_eq_true, Bool.or_eq_true, Bool.and_eq_false_iff, Bool.or_eq_false_iff, Bool.not_eq_true', Bool.not_eq_false', decide_eq_true_eq, decide_eq_false_iff_not, beq_iff_eq, beq_eq_false_iff_ne, bne_iff_ne, bne_eq_false_iff_eq, ne_eq, Int.toNat_natCast] at *; omega)), (by first | omega | (simp only [Bool.and_eq_true, Bool.or_eq_true, Bool.and_eq_false_iff, Bool.or_eq_false_iff, Bool.not_eq_true', Bool.not_eq_false', decide_eq_true_eq, decide_eq_false_iff_not, beq_iff_eq, beq_eq_false_iff_ne, bne_iff_ne, bne_eq_false_iff_eq, ne_eq, Int.toNat_natCast] at *; omega))⟩) ?_
        refine j_mq (qs_loadrs (rd_cells hcells (by simp)) Try.underlying25 rfl (by simp only [Int.toNat_natCast]; omega)) ?_
        simp only [Int.toNat_natCast]
        refine j_append 0 Try.underlying22 Try.underlying22 (.inr ⟨_, rfl⟩) sb5 zero5 rfl hob rfl (src_rsl hvt (fun _ _ => by simp)) ints_one ⟨(by simp only [ints_length]; omega), (by decide)⟩ (fun v23 c23 ho23 => ?_)
        refine j_mD0 (Le.of_sub (List.nil_sublist _)) ?_
        refine j_append 0 Try.underlying22 Try.underlying25 (.inl rfl) sb5 zero5 rfl ho23 rfl (.inr (.inr ⟨rs.getD i [], rfl, rfl, rfl, rfl⟩)) ints_one ⟨(by simp only [ints_length, List.length_append]; omega), (by decide)⟩ (fun v24 c24 ho24 => ?_)
        rw [← ints_append, ← ints_append] at ho24
        refine j_mD0 (Le.of_sub (List.nil_sublist _)) ?_
        refine j_mend ?_
        refine j_q (qs_add64 rfl rfl (by first | omega | (simp only [Bool.and_eq_true, Bool.or_eq_true, Bool.and_eq_false_iff, Bool.or_eq_false_iff, Bool.not_eq_true', Bool.not_eq_false', decide_eq_true_eq, decide_eq_false_iff_not, beq_iff_eq, beq_eq_false_iff_ne, bne_iff_ne, bne_eq_false_iff_eq, ne_eq, Int.toNat_natCast] at *; omega))) ?_
        refine j_back rfl ?_
        exact ⟨rs.length - (i + 1), by omega, i + 1, bl ++ t ++ rs.getD i [], _, _, zs2, _, _, rfl, rfl, ho24, ho2, hst2, fun x => by
          rw [hmem2, hmem, take_snoc hi, List.mem_append, List.mem_singleton]
          constructor
          · rintro (h | rfl)
            · exact ⟨.inl h.1, h.2⟩
            · exact ⟨.inr rfl, hok⟩
          · rintro ⟨h | rfl, h2⟩
            · exact .inl ⟨h, h2⟩
            · exact .inr rfl, fun x hx hxp => by
          rw [take_snoc hi, List.mem_append, List.mem_singleton] at hx
          rcases hx with hx | rfl
          · exact win_left (win_left (hwin x hx hxp))
          · exact win_right (win_self hxp), by omega, by simp only [List.length_append]; omega, by omega, rfl⟩
    · skip
      obtain rfl : i = rs.length := by
        simp only [Bool.and_eq_true, Bool.or_eq_true, Bool.and_eq_false_iff, Bool.or_eq_false_iff, Bool.not_eq_true', Bool.not_eq_false', decide_eq_true_eq, decide_eq_false_iff_not, beq_iff_eq, beq_eq_false_iff_ne, bne_iff_ne, bne_eq_false_iff_eq, ne_eq, Int.toNat_natCast] at *
        omega
      rw [List.take_of_length_le (Nat.le_refl _)] at hmem hwin
      refine j_call0 ent11 rfl rfl rfl (fun w' hw' => refs_con bl _ rs _ w' (rsl_own hob 0 rfl hw') (strsl_keep hvr hw') (by omega) (by omega) hr) (fun u S2 hu => ?_)
      obtain ⟨c26, zs26, rfl, ho26, hs26, hm26⟩ := hu
      obtain rfl : zs = zs26 := strict_ext hst hs26 fun x => by rw [hmem, hm26]; exact ⟨fun h => ⟨h.1, h.2, hwin x h.1 h.2⟩, fun h => ⟨h.1, h.2.1⟩⟩
      refine j_q (qs_call ent10 rfl rfl rfl (fun w' hw' => paths_con zs _ _ w' (strsl_own ho26 0 rfl hw') (strsl_own ho 2 rfl hw') (by omega))) ?_
      refine j_g rfl (fun hb => qs_call ent14 rfl rfl (args0) (fun w' hw' => known_con w')) ?_
      refine j_q (qs_and rfl rfl) ?_
      refine j_ret_con (vs := [_]) (fun w' hw' => ⟨rfl, trivial⟩) ?_
      show Value.bool _ = _
      congr 1
end Go.Proofs.Ytkafaodhppikfaa
