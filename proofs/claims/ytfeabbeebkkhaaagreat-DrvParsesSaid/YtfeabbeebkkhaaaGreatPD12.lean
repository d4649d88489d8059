/- Part 12. -/
import Derived.Test.YtfeabbeebkkhaaaGreatPD2
import Derived.Test.YtfeabbeebkkhaaaGreatPD11
import Derived.Test.YtfeabbeebkkhaaaGreatPD8
import Derived.Test.YtfeabbeebkkhaaaGreatPD7
import Derived.Test.YtfeabbeebkkhaaaGreatPD3
import Derived.SliceStrings
import Derived.Test.YtfeabbeebkkhaaaGreatRows
import Derived.ProofKit
import Derived.Carry
import Derived.SizedLaws
/-! Dv23 -/
namespace Go.Proofs.YtfeabbeebkkhaaaGreat
open Go Go.Sx
set_option maxRecDepth 100000
set_option maxHeartbeats 4000000
set_option linter.unusedVariables false
set_option linter.unusedSimpArgs false
attribute [local irreducible] J JQ QS Con W opW
theorem ent48 : Sx.Enters Tryz.prog 48 := ⟨_, Tryz.func48, by kernel_rfl, by kernel_rfl⟩
theorem ent49 : Sx.Enters Tryz.prog 49 := ⟨_, Tryz.func49, by kernel_rfl, by kernel_rfl⟩
theorem mrel_map {α β : Type} {f : α → β} {acc : List α} {b : Bool} {r s' : Bs} {m b' : Bool} (h : MRel b r acc.length m s' b') : MRel b r (acc.map f).length m s' b' := by rw [List.length_map]; exact h
attribute [local irreducible] es qt cms hex Tbl Half lst TxK HxK hx comb comb2 nibs digit firstIdx MnK tl tV tI tO tK tH MQ MRel tup dtext chk big2 isName
theorem rdparse_con (s : Bs) (w : World) (hs : s.length ≤ 16000) : Con Tryz.prog 20 [.string (bs s)] w [] (ParsePost s) := by
  refine con_of_tree mix Tryz.func20 T20_ok (by kernel_rfl) ?_
  unfold T20
  refine j_alloc zero28d (fun g0 hg0 hs0 => ?_)
  refine j_q (qs_ac) ?_
  refine j_q (qs_run (v := .agg #[.string (bs s), .bool false]) (fun w => by kernel_rfl)) ?_
  refine j_box (l := [.string (bs s), .bool false]) rfl (fun gr hgr hsr => ?_)
  refine j_alloc zero28d (fun g4 hg4 hs4 => ?_)
  have K0 := fun (a2 : PD) (z : Bs) (hok : okD a2) (hx : s = dtext a2 ++ z) => And.intro (rfl : false = false) (hx.trans (dtext_split a2 z))
  refine j_call 1 ent45 rfl rfl rfl rfl (fun w' hw' => rsign_con gr [68, 101, 114, 105, 118, 101, 40] s false w' (by simp) (by omega)) (fun u S2 hu => ?_)
  obtain ⟨rfl, r5, b5, rfl, l5, _, h5⟩ := hu
  have K5 := fun (a2 : PD) (z : Bs) (hok : okD a2) (hx : s = dtext a2 ++ z) => (have h0 := h5 (K0 a2 z hok hx).1 _ (K0 a2 z hok hx).2; And.intro h0.2 h0.1)
  refine j_subl (S' := [[RF gr r5 b5], [(g4, .cells [.string (bs []), .string (bs []), .string (bs []), .slice none 0 0, .slice none 0 0, .slice none 0 0, .slice none 0 0, .slice none 0 0].toArray 28 (0, 0))], [(g0, .cells (dcells pd0 dv0).toArray 28 (0, 0))]]) (by repeat first | exact slR _ | exact slN _ | apply slC | apply slD) ?_
  refine j_call 0 ent46 rfl rfl rfl rfl (fun w' hw' => rtx_con gr r5 b5 w' (by omega)) (fun u S2 hu => ?_)
  obtain ⟨t6, r6, b6, rfl, rfl, l6, h6⟩ := hu
  have E6 := fun (a2 : PD) (z : Bs) (hok : okD a2) (hx : s = dtext a2 ++ z) => (h6 (K5 a2 z hok hx).1 _ _ (K5 a2 z hok hx).2).1
  have K6 := fun (a2 : PD) (z : Bs) (hok : okD a2) (hx : s = dtext a2 ++ z) => (have h0 := h6 (K5 a2 z hok hx).1 _ _ (K5 a2 z hok hx).2; And.intro h0.2.2 h0.2.1)
  refine j_subl (S' := [[RF gr r6 b6], [(g4, .cells [.string (bs []), .string (bs []), .string (bs []), .slice none 0 0, .slice none 0 0, .slice none 0 0, .slice none 0 0, .slice none 0 0].toArray 28 (0, 0))], [(g0, .cells (dcells pd0 dv0).toArray 28 (0, 0))]]) (by repeat first | exact slR _ | exact slN _ | apply slC | apply slD) ?_
  refine j_q (qs_field Tryz.underlying28 rfl sz9 (by decide) rfl) ?_
  refine j_store (g := g4) (l := [.string (bs []), .string (bs []), .string (bs []), .slice none 0 0, .slice none 0 0, .slice none 0 0, .slice none 0 0, .slice none 0 0]) (v := .string (bs t6)) 1 sz9 rfl rfl rfl rfl (by simp) (by simp) ?_
  refine j_call 0 ent45 rfl rfl rfl rfl (fun w' hw' => rsign_con gr [44] r6 b6 w' (by simp) (by omega)) (fun u S2 hu => ?_)
  obtain ⟨rfl, r9, b9, rfl, l9, _, h9⟩ := hu
  have K9 := fun (a2 : PD) (z : Bs) (hok : okD a2) (hx : s = dtext a2 ++ z) => (have h0 := h9 (K6 a2 z hok hx).1 _ (K6 a2 z hok hx).2; And.intro h0.2 h0.1)
  refine j_subl (S' := [[RF gr r9 b9], [(g4, .cells [.string (bs t6), .string (bs []), .string (bs []), .slice none 0 0, .slice none 0 0, .slice none 0 0, .slice none 0 0, .slice none 0 0].toArray 28 (0, 0))], [(g0, .cells (dcells pd0 dv0).toArray 28 (0, 0))]]) (by repeat first | exact slR _ | exact slN _ | apply slC | apply slD) ?_
  refine j_perm (S' := [[RF gr r9 b9], [(g4, .cells [.string (bs t6), .string (bs []), .string (bs []), .slice none 0 0, .slice none 0 0, .slice none 0 0, .slice none 0 0, .slice none 0 0].toArray 28 (0, 0))], [(g0, .cells (dcells pd0 dv0).toArray 28 (0, 0))], []]) (by simp) ?_
  refine j_loop (fun m vs S' => ∃ (lv : Value) (cl : SH) (r : Bs) (b : Bool) (acc : List PO), vs = [] ∧ S' = [[RF gr r b], [(g4, .cells [.string (bs t6), .string (bs []), .string (bs []), .slice none 0 0, .slice none 0 0, .slice none 0 0, .slice none 0 0, lv].toArray 28 (0, 0))], [(g0, .cells (dcells pd0 dv0).toArray 28 (0, 0))], cl] ∧ Sx.Own 53 35 ((acc.map encO).flatten) lv cl ∧ MQ tO okOut b9 r9 r b acc ∧ (acc.map wO).sum + 10 * r.length ≤ 10 * r9.length ∧ m = r.length) ⟨_, .slice none 0 0, [], r9, b9, [], rfl, rfl, own_nil, mq_start, (by simp only [List.map_nil, List.sum_nil]; omega), rfl⟩ ?_
  rintro m vs S' hlen ⟨lv0, c_0, rq0, bq0, lo, rfl, rfl, hol0, hk0, hsum0, rfl⟩
  obtain ⟨nl0, A_0, cap_0, rfl, hnl0⟩ := own_form hol0 (by decide)
  rw [flat_len encO_len] at hnl0
  obtain rfl : nl0 = lo.length := by omega
  refine j_q (qs_field Tryz.underlying28 rfl sz26 (by decide) rfl) ?_
  refine j_q (qs_load (g := g4) (l := [.string (bs t6), .string (bs []), .string (bs []), .slice none 0 0, .slice none 0 0, .slice none 0 0, .slice none 0 0, .slice A_0 lo.length cap_0]) 1 Tryz.underlying26 rfl rfl rfl rfl) ?_
  refine j_q (qs_lenl Tryz.underlying26 rfl) ?_
  refine j_call 0 ent47 rfl rfl rfl rfl (fun w' hw' => rmember_con gr rq0 bq0 lo.length w' (by omega)) (fun u S2 hu => ?_)
  obtain ⟨m0, rm0, bm0, rfl, rfl, lm0, cm0, hm0⟩ := hu
  refine j_subl (S' := [[RF gr rm0 bm0], [(g4, .cells [.string (bs t6), .string (bs []), .string (bs []), .slice none 0 0, .slice none 0 0, .slice none 0 0, .slice none 0 0, .slice A_0 lo.length cap_0].toArray 28 (0, 0))], [(g0, .cells (dcells pd0 dv0).toArray 28 (0, 0))], c_0]) (by repeat first | exact slR _ | exact slN _ | apply slC | apply slD) ?_
  refine j_cond rfl (fun hc0 => ?_) (fun hc0 => ?_)
  · skip
    subst hc0
    have hcm0 := cm0 rfl
    refine j_mix [[(g4, .cells [.string (bs t6), .string (bs []), .string (bs []), .slice none 0 0, .slice none 0 0, .slice none 0 0, .slice none 0 0, .slice A_0 lo.length cap_0].toArray 28 (0, 0))]] (Le.of_sub (by repeat first | exact slR _ | exact slN _ | apply slC | apply slD)) ?_
    refine j_mq (qs_field Tryz.underlying28 rfl sz26 (by decide) rfl) ?_
    refine j_mq (qs_load (g := g4) (l := [.string (bs t6), .string (bs []), .string (bs []), .slice none 0 0, .slice none 0 0, .slice none 0 0, .slice none 0 0, .slice A_0 lo.length cap_0]) 0 Tryz.underlying26 rfl rfl rfl rfl) ?_
    refine j_call 0 ent48 rfl rfl rfl rfl (fun w' hw' => rout_con gr rm0 bm0 w' (by omega)) (fun u S2 hu => ?_)
    obtain ⟨a16, r16, b16, rfl, rfl, l16, h16⟩ := hu
    refine j_subl (S' := [[RF gr r16 b16], [(g4, .cells [.string (bs t6), .string (bs []), .string (bs []), .slice none 0 0, .slice none 0 0, .slice none 0 0, .slice none 0 0, .slice A_0 lo.length cap_0].toArray 28 (0, 0))], [(g0, .cells (dcells pd0 dv0).toArray 28 (0, 0))], c_0]) (by repeat first | exact slR _ | exact slN _ | apply slC | apply slD) ?_
    refine j_mD0 (Le.of_sub (by repeat first | exact slR _ | exact slN _ | apply slC | apply slD)) ?_
    refine j_litw (vs := encO a16) Tryz.underlying26 sz53 zero53 rfl rfl ⟨encO_len _, by decide, by decide⟩ (fun g17 hg17 ho17 => ?_)
    refine j_mD0 (Le.of_sub (by repeat first | exact slR _ | exact slN _ | apply slC | apply slD)) ?_
    refine j_append 4 Tryz.underlying26 Tryz.underlying26 (.inr ⟨_, rfl⟩) sb53 zero53 rfl hol0 rfl (.inl ⟨_, _, rfl, rd_own (off := 0) (n := 35) 0 rfl rfl, (by rw [List.drop_zero, List.take_of_length_le (by rw [encO_len]; exact Nat.le_refl _), encO_len])⟩) (by intro u hu; exact encO_one a16 u (by rw [List.drop_zero] at hu; exact List.mem_of_mem_take hu)) ⟨(by have hw0 : (lo.map wO).sum = _ := sumW (fun o : PO => o.name.length + o.path.length) lo; simp only [strs_length, List.drop_zero, List.length_take, flat_len encO_len, encO_len, List.length_cons, List.length_nil]; omega), (by decide)⟩ (fun v18 c18 ho18 => ?_)
    have ho18 : Sx.Own 53 35 (((lo ++ [a16]).map encO).flatten) v18 c18 := by
      have e : ((lo ++ [a16]).map encO).flatten = (lo.map encO).flatten ++ encO a16 := by simp
      rw [e]
      have e2 : ((encO a16).drop 0).take 35 = encO a16 := by rw [List.drop_zero, List.take_of_length_le (by rw [encO_len]; exact Nat.le_refl _)]
      rw [e2] at ho18
      exact ho18
    refine j_subl (S' := [[RF gr r16 b16], [(g4, .cells [.string (bs t6), .string (bs []), .string (bs []), .slice none 0 0, .slice none 0 0, .slice none 0 0, .slice none 0 0, .slice A_0 lo.length cap_0].toArray 28 (0, 0))], [(g0, .cells (dcells pd0 dv0).toArray 28 (0, 0))], c18]) (by repeat first | exact slR _ | exact slN _ | apply slC | apply slD) ?_
    refine j_mR _ (.refl _) ?_
    refine j_mq (qs_field Tryz.underlying28 rfl sz26 (by decide) rfl) ?_
    obtain ⟨n18, A18, cap18, rfl, hn18⟩ := own_form ho18 (by decide)
    refine j_store (g := g4) (l := [.string (bs t6), .string (bs []), .string (bs []), .slice none 0 0, .slice none 0 0, .slice none 0 0, .slice none 0 0, .slice A_0 lo.length cap_0]) (v := .slice A18 n18 cap18) 1 sz26 rfl rfl rfl rfl (by simp) (by simp) ?_
    refine j_mR _ (.refl _) ?_
    refine j_mend ?_
    refine j_back rfl ?_
    exact ⟨r16.length, by omega, .slice A18 n18 cap18, c18, r16, b16, lo ++ [a16], rfl, rfl, ho18, mq_next tO_head hk0 hm0 h16, by have hwa : wO a16 = a16.name.length + a16.path.length + 10 := rfl; rw [List.map_append, List.sum_append]; simp only [List.map_cons, List.map_nil, List.sum_cons, List.sum_nil]; omega, rfl⟩
  · skip
    subst hc0
    have hex0 := mq_exit tO_head hk0 hm0
    have E_0 := fun (a2 : PD) (z : Bs) (hok : okD a2) (hx : s = dtext a2 ++ z) => (hex0 (K9 a2 z hok hx).1 _ _ hok (K9 a2 z hok hx).2).1
    have K_0 := fun (a2 : PD) (z : Bs) (hok : okD a2) (hx : s = dtext a2 ++ z) => (have h0 := hex0 (K9 a2 z hok hx).1 _ _ hok (K9 a2 z hok hx).2; And.intro h0.2.2 h0.2.1)
    refine j_call 0 ent45 rfl rfl rfl rfl (fun w' hw' => rsign_con gr [44] rm0 bm0 w' (by simp) (by omega)) (fun u S2 hu => ?_)
    obtain ⟨rfl, r21, b21, rfl, l21, _, h21⟩ := hu
    have K21 := fun (a2 : PD) (z : Bs) (hok : okD a2) (hx : s = dtext a2 ++ z) => (have h0 := h21 (K_0 a2 z hok hx).1 _ (K_0 a2 z hok hx).2; And.intro h0.2 h0.1)
    refine j_subl (S' := [[RF gr r21 b21], [(g4, .cells [.string (bs t6), .string (bs []), .string (bs []), .slice none 0 0, .slice none 0 0, .slice none 0 0, .slice none 0 0, .slice A_0 lo.length cap_0].toArray 28 (0, 0))], [(g0, .cells (dcells pd0 dv0).toArray 28 (0, 0))], c_0]) (by repeat first | exact slR _ | exact slN _ | apply slC | apply slD) ?_
    refine j_perm (S' := [[RF gr r21 b21], [(g4, .cells [.string (bs t6), .string (bs []), .string (bs []), .slice none 0 0, .slice none 0 0, .slice none 0 0, .slice none 0 0, .slice A_0 lo.length cap_0].toArray 28 (0, 0))], [(g0, .cells (dcells pd0 dv0).toArray 28 (0, 0))], c_0, [], []]) (by simp) ?_
    refine j_loop (fun m vs S' => ∃ (lv : Value) (cl : SH) (r : Bs) (b : Bool) (acc : List MI) (FF : SH), vs = [] ∧ S' = [[RF gr r b], [(g4, .cells [.string (bs t6), .string (bs []), .string (bs []), .slice none 0 0, .slice none 0 0, lv, .slice none 0 0, .slice A_0 lo.length cap_0].toArray 28 (0, 0))], [(g0, .cells (dcells pd0 dv0).toArray 28 (0, 0))], c_0, cl, FF] ∧ Sx.Own 68 2 ((acc.map encI).flatten) lv cl ∧ MQ tI (fun _ => True) b21 r21 r b (acc.map MI.pi) ∧ ((acc.map MI.pi).map wI).sum + 10 * r.length ≤ 10 * r21.length ∧ PMine acc FF ∧ (∀ m ∈ acc, ∀ o ∈ m.outs, o.length ≤ 3000000) ∧ m = r.length) ⟨_, .slice none 0 0, [], r21, b21, [], [], rfl, rfl, own_nil, mq_start, (by simp only [List.map_nil, List.sum_nil]; omega), pmine_nil, (fun m hm => by cases hm), rfl⟩ ?_
    rintro m vs S' hlen ⟨lv1, c_1, rq1, bq1, li, F_1, rfl, rfl, hol1, hk1, hsum1, hmine1, hbs1, rfl⟩
    obtain ⟨nl1, A_1, cap_1, rfl, hnl1⟩ := own_form hol1 (by decide)
    rw [flat_len encI_len] at hnl1
    obtain rfl : nl1 = li.length := by omega
    refine j_q (qs_field Tryz.underlying28 rfl sz24 (by decide) rfl) ?_
    refine j_q (qs_load (g := g4) (l := [.string (bs t6), .string (bs []), .string (bs []), .slice none 0 0, .slice none 0 0, .slice A_1 li.length cap_1, .slice none 0 0, .slice A_0 lo.length cap_0]) 1 Tryz.underlying24 rfl rfl rfl rfl) ?_
    refine j_q (qs_lenl Tryz.underlying24 rfl) ?_
    refine j_call 0 ent47 rfl rfl rfl rfl (fun w' hw' => rmember_con gr rq1 bq1 li.length w' (by omega)) (fun u S2 hu => ?_)
    obtain ⟨m1, rm1, bm1, rfl, rfl, lm1, cm1, hm1⟩ := hu
    refine j_subl (S' := [[RF gr rm1 bm1], [(g4, .cells [.string (bs t6), .string (bs []), .string (bs []), .slice none 0 0, .slice none 0 0, .slice A_1 li.length cap_1, .slice none 0 0, .slice A_0 lo.length cap_0].toArray 28 (0, 0))], [(g0, .cells (dcells pd0 dv0).toArray 28 (0, 0))], c_0, c_1, F_1]) (by repeat first | exact slR _ | exact slN _ | apply slC | apply slD) ?_
    refine j_cond rfl (fun hc1 => ?_) (fun hc1 => ?_)
    · skip
      subst hc1
      have hcm1 := cm1 rfl
      refine j_alloc zero68 (fun g26 hg26 hs26 => ?_)
      have K26 := fun (hb : bm1 = false) (a2 : PI) (z : Bs) (hok : True) (hx : rm1 = tI a2 ++ z) => And.intro hb (hx.trans (tI_split a2 z))
      refine j_call 1 ent45 rfl rfl rfl rfl (fun w' hw' => rsign_con gr [40] rm1 bm1 w' (by simp) (by omega)) (fun u S2 hu => ?_)
      obtain ⟨rfl, r27, b27, rfl, l27, _, h27⟩ := hu
      have K27 := fun (hb : bm1 = false) (a2 : PI) (z : Bs) (hok : True) (hx : rm1 = tI a2 ++ z) => (have h0 := h27 (K26 hb a2 z hok hx).1 _ (K26 hb a2 z hok hx).2; And.intro h0.2 h0.1)
      refine j_subl (S' := [[RF gr r27 b27], [(g26, .cells [.string (bs []), .slice none 0 0].toArray 68 (0, 0))], [(g4, .cells [.string (bs t6), .string (bs []), .string (bs []), .slice none 0 0, .slice none 0 0, .slice A_1 li.length cap_1, .slice none 0 0, .slice A_0 lo.length cap_0].toArray 28 (0, 0))], [(g0, .cells (dcells pd0 dv0).toArray 28 (0, 0))], c_0, c_1, F_1]) (by repeat first | exact slR _ | exact slN _ | apply slC | apply slD) ?_
      refine j_call 0 ent46 rfl rfl rfl rfl (fun w' hw' => rtx_con gr r27 b27 w' (by omega)) (fun u S2 hu => ?_)
      obtain ⟨t28, r28, b28, rfl, rfl, l28, h28⟩ := hu
      have E28 := fun (hb : bm1 = false) (a2 : PI) (z : Bs) (hok : True) (hx : rm1 = tI a2 ++ z) => (h28 (K27 hb a2 z hok hx).1 _ _ (K27 hb a2 z hok hx).2).1
      have K28 := fun (hb : bm1 = false) (a2 : PI) (z : Bs) (hok : True) (hx : rm1 = tI a2 ++ z) => (have h0 := h28 (K27 hb a2 z hok hx).1 _ _ (K27 hb a2 z hok hx).2; And.intro h0.2.2 h0.2.1)
      refine j_subl (S' := [[RF gr r28 b28], [(g26, .cells [.string (bs []), .slice none 0 0].toArray 68 (0, 0))], [(g4, .cells [.string (bs t6), .string (bs []), .string (bs []), .slice none 0 0, .slice none 0 0, .slice A_1 li.length cap_1, .slice none 0 0, .slice A_0 lo.length cap_0].toArray 28 (0, 0))], [(g0, .cells (dcells pd0 dv0).toArray 28 (0, 0))], c_0, c_1, F_1]) (by repeat first | exact slR _ | exact slN _ | apply slC | apply slD) ?_
      refine j_q (qs_field Tryz.underlying68 rfl sz49 (by decide) rfl) ?_
      refine j_store (g := g26) (l := [.string (bs []), .slice none 0 0]) (v := .string (bs t28)) 1 sz49 rfl rfl rfl rfl (by simp) (by simp) ?_
      refine j_call 0 ent45 rfl rfl rfl rfl (fun w' hw' => rsign_con gr [44] r28 b28 w' (by simp) (by omega)) (fun u S2 hu => ?_)
      obtain ⟨rfl, r31, b31, rfl, l31, _, h31⟩ := hu
      have K31 := fun (hb : bm1 = false) (a2 : PI) (z : Bs) (hok : True) (hx : rm1 = tI a2 ++ z) => (have h0 := h31 (K28 hb a2 z hok hx).1 _ (K28 hb a2 z hok hx).2; And.intro h0.2 h0.1)
      refine j_subl (S' := [[RF gr r31 b31], [(g26, .cells [.string (bs t28), .slice none 0 0].toArray 68 (0, 0))], [(g4, .cells [.string (bs t6), .string (bs []), .string (bs []), .slice none 0 0, .slice none 0 0, .slice A_1 li.length cap_1, .slice none 0 0, .slice A_0 lo.length cap_0].toArray 28 (0, 0))], [(g0, .cells (dcells pd0 dv0).toArray 28 (0, 0))], c_0, c_1, F_1]) (by repeat first | exact slR _ | exact slN _ | apply slC | apply slD) ?_
      refine j_call 0 ent49 rfl rfl rfl rfl (fun w' hw' => rtexts_con gr r31 b31 w' (by omega)) (fun u S2 hu => ?_)
      obtain ⟨q32, c32, r32, b32, rfl, hO32, hs32, h32⟩ := hu
      have E32 := fun (hb : bm1 = false) (a2 : PI) (z : Bs) (hok : True) (hx : rm1 = tI a2 ++ z) => (h32 (K31 hb a2 z hok hx).1 _ _ (fun _ _ => trivial) (K31 hb a2 z hok hx).2).1
      have K32 := fun (hb : bm1 = false) (a2 : PI) (z : Bs) (hok : True) (hx : rm1 = tI a2 ++ z) => (have h0 := h32 (K31 hb a2 z hok hx).1 _ _ (fun _ _ => trivial) (K31 hb a2 z hok hx).2; And.intro h0.2.2 h0.2.1)
      obtain ⟨n32, A32, cap32, rfl, hn32⟩ := own_form hO32 (by decide)
      have hm32 := sumS_mem (l := q32) (n := r31.length) (by omega) (by omega)
      have hS32 := sumS q32
      refine j_subl (S' := [c32, [RF gr r32 b32], [(g26, .cells [.string (bs t28), .slice none 0 0].toArray 68 (0, 0))], [(g4, .cells [.string (bs t6), .string (bs []), .string (bs []), .slice none 0 0, .slice none 0 0, .slice A_1 li.length cap_1, .slice none 0 0, .slice A_0 lo.length cap_0].toArray 28 (0, 0))], [(g0, .cells (dcells pd0 dv0).toArray 28 (0, 0))], c_0, c_1, F_1]) (by repeat first | exact slR _ | exact slN _ | apply slC | apply slD) ?_
      refine j_q (qs_field Tryz.underlying68 rfl sz22 (by decide) rfl) ?_
      refine j_store (g := g26) (l := [.string (bs t28), .slice none 0 0]) (v := .slice A32 n32 cap32) 2 sz22 rfl rfl rfl rfl (by simp) (by simp) ?_
      refine j_call 1 ent45 rfl rfl rfl rfl (fun w' hw' => rsign_con gr [41] r32 b32 w' (by simp) (by omega)) (fun u S2 hu => ?_)
      obtain ⟨rfl, r35, b35, rfl, l35, _, h35⟩ := hu
      have K35 := fun (hb : bm1 = false) (a2 : PI) (z : Bs) (hok : True) (hx : rm1 = tI a2 ++ z) => (have h0 := h35 (K32 hb a2 z hok hx).1 _ (K32 hb a2 z hok hx).2; And.intro h0.2 h0.1)
      refine j_subl (S' := [[RF gr r35 b35], c32, [(g26, .cells [.string (bs t28), .slice A32 n32 cap32].toArray 68 (0, 0))], [(g4, .cells [.string (bs t6), .string (bs []), .string (bs []), .slice none 0 0, .slice none 0 0, .slice A_1 li.length cap_1, .slice none 0 0, .slice A_0 lo.length cap_0].toArray 28 (0, 0))], [(g0, .cells (dcells pd0 dv0).toArray 28 (0, 0))], c_0, c_1, F_1]) (by repeat first | exact slR _ | exact slN _ | apply slC | apply slD) ?_
      refine j_q (qs_field Tryz.underlying28 rfl sz24 (by decide) rfl) ?_
      refine j_q (qs_load (g := g4) (l := [.string (bs t6), .string (bs []), .string (bs []), .slice none 0 0, .slice none 0 0, .slice A_1 li.length cap_1, .slice none 0 0, .slice A_0 lo.length cap_0]) 3 Tryz.underlying24 rfl rfl rfl rfl) ?_
      refine j_q (qs_loadw (g := g26) (l := encI (⟨t28, q32, .slice A32 n32 cap32⟩ : MI)) 2 Tryz.underlying68 rfl sz68 rfl rfl rfl) ?_
      refine j_litw (vs := encI (⟨t28, q32, .slice A32 n32 cap32⟩ : MI)) Tryz.underlying24 sz68 zero68 rfl rfl ⟨rfl, by decide, by decide⟩ (fun g39 hg39 ho39 => ?_)
      refine j_append 7 Tryz.underlying24 Tryz.underlying24 (.inr ⟨_, rfl⟩) sb68 zero68 rfl hol1 rfl (.inl ⟨_, _, rfl, rd_own (off := 0) (n := 2) 0 rfl rfl, rfl⟩) (by intro u hu; simp [encI] at hu; rcases hu with rfl | rfl <;> rfl) ⟨(by have hw1 : ((li.map MI.pi).map wI).sum = _ := sumW (fun x : PI => x.drv.length + 10 * x.outs.length) (li.map MI.pi); rw [List.length_map] at hw1; simp only [strs_length, List.drop_zero, List.length_take, flat_len encI_len, encI_len, List.length_cons, List.length_nil]; omega), (by decide)⟩ (fun v40 c40 ho40 => ?_)
      have ho40 : Sx.Own 68 2 (((li ++ [(⟨t28, q32, .slice A32 n32 cap32⟩ : MI)]).map encI).flatten) v40 c40 := by
        have e : ((li ++ [(⟨t28, q32, .slice A32 n32 cap32⟩ : MI)]).map encI).flatten = (li.map encI).flatten ++ encI (⟨t28, q32, .slice A32 n32 cap32⟩ : MI) := by simp
        rw [e]
        have e2 : ((encI (⟨t28, q32, .slice A32 n32 cap32⟩ : MI)).drop 0).take 2 = encI (⟨t28, q32, .slice A32 n32 cap32⟩ : MI) := by rw [List.drop_zero, List.take_of_length_le (by rw [encI_len]; exact Nat.le_refl _)]
        rw [e2] at ho40
        exact ho40
      refine j_subl (S' := [[RF gr r35 b35], c32, [(g4, .cells [.string (bs t6), .string (bs []), .string (bs []), .slice none 0 0, .slice none 0 0, .slice A_1 li.length cap_1, .slice none 0 0, .slice A_0 lo.length cap_0].toArray 28 (0, 0))], [(g0, .cells (dcells pd0 dv0).toArray 28 (0, 0))], c_0, c40, F_1]) (by repeat first | exact slR _ | exact slN _ | apply slC | apply slD) ?_
      refine j_perm (S' := [[RF gr r35 b35], [(g4, .cells [.string (bs t6), .string (bs []), .string (bs []), .slice none 0 0, .slice none 0 0, .slice A_1 li.length cap_1, .slice none 0 0, .slice A_0 lo.length cap_0].toArray 28 (0, 0))], [(g0, .cells (dcells pd0 dv0).toArray 28 (0, 0))], c_0, c40, (c32 ++ F_1)]) (by classical exact List.perm_iff_count.2 fun a => by simp only [List.set_cons_succ, List.set_cons_zero, List.flatten_cons, List.flatten_nil, List.append_nil, List.nil_append, List.cons_append, List.count_append, List.count_cons, List.count_nil] <;> omega) ?_
      refine j_q (qs_field Tryz.underlying28 rfl sz24 (by decide) rfl) ?_
      obtain ⟨n40, A40, cap40, rfl, hn40⟩ := own_form ho40 (by decide)
      refine j_store (g := g4) (l := [.string (bs t6), .string (bs []), .string (bs []), .slice none 0 0, .slice none 0 0, .slice A_1 li.length cap_1, .slice none 0 0, .slice A_0 lo.length cap_0]) (v := .slice A40 n40 cap40) 1 sz24 rfl rfl rfl rfl (by simp) (by simp) ?_
      refine j_back rfl ?_
      exact ⟨r35.length, by omega, .slice A40 n40 cap40, c40, r35, b35, li ++ [(⟨t28, q32, .slice A32 n32 cap32⟩ : MI)], c32 ++ F_1, rfl, rfl, ho40, (by rw [List.map_append]; exact mq_next (a := (⟨t28, q32, .slice A32 n32 cap32⟩ : MI).pi) tI_head hk1 (mrel_map hm1) (fun hb a2 z hok hx => ⟨pi_eq (E28 hb a2 z hok hx) (E32 hb a2 z hok hx), (K35 hb a2 z hok hx).2, (K35 hb a2 z hok hx).1⟩)), (by have hwa : wI (MI.pi (⟨t28, q32, .slice A32 n32 cap32⟩ : MI)) = t28.length + 10 * q32.length + 10 := rfl; rw [List.map_append, List.map_append, List.sum_append]; simp only [List.map_cons, List.map_nil, List.sum_cons, List.sum_nil]; omega), pmine_snoc hmine1 hO32, (by intro m hm; rcases List.mem_append.1 hm with hm | hm; exact hbs1 m hm; rw [List.mem_singleton] at hm; rw [hm]; exact hm32), rfl⟩
    · skip
      subst hc1
      have hex1 := mq_exit tI_head hk1 (mrel_map hm1)
      have E_1 := fun (a2 : PD) (z : Bs) (hok : okD a2) (hx : s = dtext a2 ++ z) => (hex1 (K21 a2 z hok hx).1 _ _ (fun _ _ => trivial) (K21 a2 z hok hx).2).1
      have K_1 := fun (a2 : PD) (z : Bs) (hok : okD a2) (hx : s = dtext a2 ++ z) => (have h0 := hex1 (K21 a2 z hok hx).1 _ _ (fun _ _ => trivial) (K21 a2 z hok hx).2; And.intro h0.2.2 h0.2.1)
      refine j_call 0 ent45 rfl rfl rfl rfl (fun w' hw' => rsign_con gr [44] rm1 bm1 w' (by simp) (by omega)) (fun u S2 hu => ?_)
      obtain ⟨rfl, r43, b43, rfl, l43, _, h43⟩ := hu
      have K43 := fun (a2 : PD) (z : Bs) (hok : okD a2) (hx : s = dtext a2 ++ z) => (have h0 := h43 (K_1 a2 z hok hx).1 _ (K_1 a2 z hok hx).2; And.intro h0.2 h0.1)
      refine j_subl (S' := [[RF gr r43 b43], [(g4, .cells [.string (bs t6), .string (bs []), .string (bs []), .slice none 0 0, .slice none 0 0, .slice A_1 li.length cap_1, .slice none 0 0, .slice A_0 lo.length cap_0].toArray 28 (0, 0))], [(g0, .cells (dcells pd0 dv0).toArray 28 (0, 0))], c_0, c_1, F_1]) (by repeat first | exact slR _ | exact slN _ | apply slC | apply slD) ?_
      refine j_perm (S' := [[RF gr r43 b43], [(g4, .cells [.string (bs t6), .string (bs []), .string (bs []), .slice none 0 0, .slice none 0 0, .slice A_1 li.length cap_1, .slice none 0 0, .slice A_0 lo.length cap_0].toArray 28 (0, 0))], [(g0, .cells (dcells pd0 dv0).toArray 28 (0, 0))], c_0, c_1, F_1, []]) (by simp) ?_
      refine j_loop (fun m vs S' => ∃ (lv : Value) (cl : SH) (r : Bs) (b : Bool) (acc : List Bs), vs = [] ∧ S' = [[RF gr r b], [(g4, .cells [.string (bs t6), .string (bs []), .string (bs []), .slice none 0 0, .slice none 0 0, .slice A_1 li.length cap_1, lv, .slice A_0 lo.length cap_0].toArray 28 (0, 0))], [(g0, .cells (dcells pd0 dv0).toArray 28 (0, 0))], c_0, c_1, F_1, cl] ∧ Sx.Own 49 1 (strs acc) lv cl ∧ MQ qt (fun _ => True) b43 r43 r b acc ∧ (acc.map wS).sum + 10 * r.length ≤ 10 * r43.length ∧ m = r.length) ⟨_, .slice none 0 0, [], r43, b43, [], rfl, rfl, own_nil, mq_start, (by simp only [List.map_nil, List.sum_nil]; omega), rfl⟩ ?_
      rintro m vs S' hlen ⟨lv2, c_2, rq2, bq2, ls, rfl, rfl, hol2, hk2, hsum2, rfl⟩
      obtain ⟨nl2, A_2, cap_2, rfl, hnl2⟩ := own_form hol2 (by decide)
      rw [strs_length] at hnl2
      obtain rfl : nl2 = ls.length := by omega
      refine j_q (qs_field Tryz.underlying28 rfl sz25 (by decide) rfl) ?_
      refine j_q (qs_load (g := g4) (l := [.string (bs t6), .string (bs []), .string (bs []), .slice none 0 0, .slice none 0 0, .slice A_1 li.length cap_1, .slice A_2 ls.length cap_2, .slice A_0 lo.length cap_0]) 1 Tryz.underlying25 rfl rfl rfl rfl) ?_
      refine j_q (qs_lenl Tryz.underlying25 rfl) ?_
      refine j_call 0 ent47 rfl rfl rfl rfl (fun w' hw' => rmember_con gr rq2 bq2 ls.length w' (by omega)) (fun u S2 hu => ?_)
      obtain ⟨m2, rm2, bm2, rfl, rfl, lm2, cm2, hm2⟩ := hu
      refine j_subl (S' := [[RF gr rm2 bm2], [(g4, .cells [.string (bs t6), .string (bs []), .string (bs []), .slice none 0 0, .slice none 0 0, .slice A_1 li.length cap_1, .slice A_2 ls.length cap_2, .slice A_0 lo.length cap_0].toArray 28 (0, 0))], [(g0, .cells (dcells pd0 dv0).toArray 28 (0, 0))], c_0, c_1, F_1, c_2]) (by repeat first | exact slR _ | exact slN _ | apply slC | apply slD) ?_
      refine j_cond rfl (fun hc2 => ?_) (fun hc2 => ?_)
      · skip
        subst hc2
        have hcm2 := cm2 rfl
        refine j_mix [[(g4, .cells [.string (bs t6), .string (bs []), .string (bs []), .slice none 0 0, .slice none 0 0, .slice A_1 li.length cap_1, .slice A_2 ls.length cap_2, .slice A_0 lo.length cap_0].toArray 28 (0, 0))]] (Le.of_sub (by repeat first | exact slR _ | exact slN _ | apply slC | apply slD)) ?_
        refine j_mq (qs_field Tryz.underlying28 rfl sz25 (by decide) rfl) ?_
        refine j_mq (qs_load (g := g4) (l := [.string (bs t6), .string (bs []), .string (bs []), .slice none 0 0, .slice none 0 0, .slice A_1 li.length cap_1, .slice A_2 ls.length cap_2, .slice A_0 lo.length cap_0]) 0 Tryz.underlying25 rfl rfl rfl rfl) ?_
        refine j_call 0 ent46 rfl rfl rfl rfl (fun w' hw' => rtx_con gr rm2 bm2 w' (by omega)) (fun u S2 hu => ?_)
        obtain ⟨t50, r50, b50, rfl, rfl, l50, h50⟩ := hu
        refine j_subl (S' := [[RF gr r50 b50], [(g4, .cells [.string (bs t6), .string (bs []), .string (bs []), .slice none 0 0, .slice none 0 0, .slice A_1 li.length cap_1, .slice A_2 ls.length cap_2, .slice A_0 lo.length cap_0].toArray 28 (0, 0))], [(g0, .cells (dcells pd0 dv0).toArray 28 (0, 0))], c_0, c_1, F_1, c_2]) (by repeat first | exact slR _ | exact slN _ | apply slC | apply slD) ?_
        refine j_mD0 (Le.of_sub (by repeat first | exact slR _ | exact slN _ | apply slC | apply slD)) ?_
        refine j_lit (vs := [.string (bs t50)]) Tryz.underlying25 sz49 zero49 rfl (by simp [oneV]) ⟨rfl, by decide⟩ (fun g51 v51 c51 hv51 hc51 ho51 => ?_)
        subst hv51 hc51
        refine j_mD0 (Le.of_sub (by repeat first | exact slR _ | exact slN _ | apply slC | apply slD)) ?_
        refine j_append 7 Tryz.underlying25 Tryz.underlying25 (.inr ⟨_, rfl⟩) sb49 zero49 rfl hol2 rfl (.inl ⟨_, _, rfl, rd_own (off := 0) (n := 1) 0 rfl rfl, rfl⟩) (by simp [oneV]) ⟨(by have hw2 := sumS ls; simp only [strs_length, List.drop_zero, List.length_take, List.length_cons, List.length_nil]; omega), (by decide)⟩ (fun v52 c52 ho52 => ?_)
        have ho52 : Sx.Own 49 1 (strs (ls ++ [t50])) v52 c52 := by
          rw [strs_append]
          exact ho52
        refine j_subl (S' := [[RF gr r50 b50], [(g4, .cells [.string (bs t6), .string (bs []), .string (bs []), .slice none 0 0, .slice none 0 0, .slice A_1 li.length cap_1, .slice A_2 ls.length cap_2, .slice A_0 lo.length cap_0].toArray 28 (0, 0))], [(g0, .cells (dcells pd0 dv0).toArray 28 (0, 0))], c_0, c_1, F_1, c52]) (by repeat first | exact slR _ | exact slN _ | apply slC | apply slD) ?_
        refine j_mR _ (.refl _) ?_
        refine j_mq (qs_field Tryz.underlying28 rfl sz25 (by decide) rfl) ?_
        obtain ⟨n52, A52, cap52, rfl, hn52⟩ := own_form ho52 (by decide)
        refine j_store (g := g4) (l := [.string (bs t6), .string (bs []), .string (bs []), .slice none 0 0, .slice none 0 0, .slice A_1 li.length cap_1, .slice A_2 ls.length cap_2, .slice A_0 lo.length cap_0]) (v := .slice A52 n52 cap52) 1 sz25 rfl rfl rfl rfl (by simp) (by simp) ?_
        refine j_mR _ (.refl _) ?_
        refine j_mend ?_
        refine j_back rfl ?_
        exact ⟨r50.length, by omega, .slice A52 n52 cap52, c52, r50, b50, ls ++ [t50], rfl, rfl, ho52, mq_next qt_head hk2 hm2 (fun hb a2 z _ hx => h50 hb a2 z hx), by have hwa : wS t50 = t50.length + 10 := rfl; rw [List.map_append, List.sum_append]; simp only [List.map_cons, List.map_nil, List.sum_cons, List.sum_nil]; omega, rfl⟩
      · skip
        subst hc2
        have hex2 := mq_exit qt_head hk2 hm2
        have E_2 := fun (a2 : PD) (z : Bs) (hok : okD a2) (hx : s = dtext a2 ++ z) => (hex2 (K43 a2 z hok hx).1 _ _ (fun _ _ => trivial) (K43 a2 z hok hx).2).1
        have K_2 := fun (a2 : PD) (z : Bs) (hok : okD a2) (hx : s = dtext a2 ++ z) => (have h0 := hex2 (K43 a2 z hok hx).1 _ _ (fun _ _ => trivial) (K43 a2 z hok hx).2; And.intro h0.2.2 h0.2.1)
        refine j_call 0 ent45 rfl rfl rfl rfl (fun w' hw' => rsign_con gr [44] rm2 bm2 w' (by simp) (by omega)) (fun u S2 hu => ?_)
        obtain ⟨rfl, r55, b55, rfl, l55, _, h55⟩ := hu
        have K55 := fun (a2 : PD) (z : Bs) (hok : okD a2) (hx : s = dtext a2 ++ z) => (have h0 := h55 (K_2 a2 z hok hx).1 _ (K_2 a2 z hok hx).2; And.intro h0.2 h0.1)
        refine j_subl (S' := [[RF gr r55 b55], [(g4, .cells [.string (bs t6), .string (bs []), .string (bs []), .slice none 0 0, .slice none 0 0, .slice A_1 li.length cap_1, .slice A_2 ls.length cap_2, .slice A_0 lo.length cap_0].toArray 28 (0, 0))], [(g0, .cells (dcells pd0 dv0).toArray 28 (0, 0))], c_0, c_1, F_1, c_2]) (by repeat first | exact slR _ | exact slN _ | apply slC | apply slD) ?_
        refine j_call 0 ent46 rfl rfl rfl rfl (fun w' hw' => rtx_con gr r55 b55 w' (by omega)) (fun u S2 hu => ?_)
        obtain ⟨t56, r56, b56, rfl, rfl, l56, h56⟩ := hu
        have E56 := fun (a2 : PD) (z : Bs) (hok : okD a2) (hx : s = dtext a2 ++ z) => (h56 (K55 a2 z hok hx).1 _ _ (K55 a2 z hok hx).2).1
        have K56 := fun (a2 : PD) (z : Bs) (hok : okD a2) (hx : s = dtext a2 ++ z) => (have h0 := h56 (K55 a2 z hok hx).1 _ _ (K55 a2 z hok hx).2; And.intro h0.2.2 h0.2.1)
        refine j_subl (S' := [[RF gr r56 b56], [(g4, .cells [.string (bs t6), .string (bs []), .string (bs []), .slice none 0 0, .slice none 0 0, .slice A_1 li.length cap_1, .slice A_2 ls.length cap_2, .slice A_0 lo.length cap_0].toArray 28 (0, 0))], [(g0, .cells (dcells pd0 dv0).toArray 28 (0, 0))], c_0, c_1, F_1, c_2]) (by repeat first | exact slR _ | exact slN _ | apply slC | apply slD) ?_
        refine j_q (qs_field Tryz.underlying28 rfl sz9 (by decide) rfl) ?_
        refine j_store (g := g4) (l := [.string (bs t6), .string (bs []), .string (bs []), .slice none 0 0, .slice none 0 0, .slice A_1 li.length cap_1, .slice A_2 ls.length cap_2, .slice A_0 lo.length cap_0]) (v := .string (bs t56)) 1 sz9 rfl rfl rfl rfl (by simp) (by simp) ?_
        refine j_call 0 ent45 rfl rfl rfl rfl (fun w' hw' => rsign_con gr [44] r56 b56 w' (by simp) (by omega)) (fun u S2 hu => ?_)
        obtain ⟨rfl, r59, b59, rfl, l59, _, h59⟩ := hu
        have K59 := fun (a2 : PD) (z : Bs) (hok : okD a2) (hx : s = dtext a2 ++ z) => (have h0 := h59 (K56 a2 z hok hx).1 _ (K56 a2 z hok hx).2; And.intro h0.2 h0.1)
        refine j_subl (S' := [[RF gr r59 b59], [(g4, .cells [.string (bs t6), .string (bs t56), .string (bs []), .slice none 0 0, .slice none 0 0, .slice A_1 li.length cap_1, .slice A_2 ls.length cap_2, .slice A_0 lo.length cap_0].toArray 28 (0, 0))], [(g0, .cells (dcells pd0 dv0).toArray 28 (0, 0))], c_0, c_1, F_1, c_2]) (by repeat first | exact slR _ | exact slN _ | apply slC | apply slD) ?_
        refine j_call 0 ent46 rfl rfl rfl rfl (fun w' hw' => rtx_con gr r59 b59 w' (by omega)) (fun u S2 hu => ?_)
        obtain ⟨t60, r60, b60, rfl, rfl, l60, h60⟩ := hu
        have E60 := fun (a2 : PD) (z : Bs) (hok : okD a2) (hx : s = dtext a2 ++ z) => (h60 (K59 a2 z hok hx).1 _ _ (K59 a2 z hok hx).2).1
        have K60 := fun (a2 : PD) (z : Bs) (hok : okD a2) (hx : s = dtext a2 ++ z) => (have h0 := h60 (K59 a2 z hok hx).1 _ _ (K59 a2 z hok hx).2; And.intro h0.2.2 h0.2.1)
        refine j_subl (S' := [[RF gr r60 b60], [(g4, .cells [.string (bs t6), .string (bs t56), .string (bs []), .slice none 0 0, .slice none 0 0, .slice A_1 li.length cap_1, .slice A_2 ls.length cap_2, .slice A_0 lo.length cap_0].toArray 28 (0, 0))], [(g0, .cells (dcells pd0 dv0).toArray 28 (0, 0))], c_0, c_1, F_1, c_2]) (by repeat first | exact slR _ | exact slN _ | apply slC | apply slD) ?_
        refine j_q (qs_field Tryz.underlying28 rfl sz9 (by decide) rfl) ?_
        refine j_store (g := g4) (l := [.string (bs t6), .string (bs t56), .string (bs []), .slice none 0 0, .slice none 0 0, .slice A_1 li.length cap_1, .slice A_2 ls.length cap_2, .slice A_0 lo.length cap_0]) (v := .string (bs t60)) 1 sz9 rfl rfl rfl rfl (by simp) (by simp) ?_
        refine j_call 0 ent45 rfl rfl rfl rfl (fun w' hw' => rsign_con gr [44] r60 b60 w' (by simp) (by omega)) (fun u S2 hu => ?_)
        obtain ⟨rfl, r63, b63, rfl, l63, _, h63⟩ := hu
        have K63 := fun (a2 : PD) (z : Bs) (hok : okD a2) (hx : s = dtext a2 ++ z) => (have h0 := h63 (K60 a2 z hok hx).1 _ (K60 a2 z hok hx).2; And.intro h0.2 h0.1)
        refine j_subl (S' := [[RF gr r63 b63], [(g4, .cells [.string (bs t6), .string (bs t56), .string (bs t60), .slice none 0 0, .slice none 0 0, .slice A_1 li.length cap_1, .slice A_2 ls.length cap_2, .slice A_0 lo.length cap_0].toArray 28 (0, 0))], [(g0, .cells (dcells pd0 dv0).toArray 28 (0, 0))], c_0, c_1, F_1, c_2]) (by repeat first | exact slR _ | exact slN _ | apply slC | apply slD) ?_
        refine j_call 0 ent49 rfl rfl rfl rfl (fun w' hw' => rtexts_con gr r63 b63 w' (by omega)) (fun u S2 hu => ?_)
        obtain ⟨q64, c64, r64, b64, rfl, hO64, hs64, h64⟩ := hu
        have E64 := fun (a2 : PD) (z : Bs) (hok : okD a2) (hx : s = dtext a2 ++ z) => (h64 (K63 a2 z hok hx).1 _ _ (fun _ _ => trivial) (K63 a2 z hok hx).2).1
        have K64 := fun (a2 : PD) (z : Bs) (hok : okD a2) (hx : s = dtext a2 ++ z) => (have h0 := h64 (K63 a2 z hok hx).1 _ _ (fun _ _ => trivial) (K63 a2 z hok hx).2; And.intro h0.2.2 h0.2.1)
        obtain ⟨n64, A64, cap64, rfl, hn64⟩ := own_form hO64 (by decide)
        have hm64 := sumS_mem (l := q64) (n := r63.length) (by omega) (by omega)
        have hS64 := sumS q64
        refine j_subl (S' := [c64, [RF gr r64 b64], [(g4, .cells [.string (bs t6), .string (bs t56), .string (bs t60), .slice none 0 0, .slice none 0 0, .slice A_1 li.length cap_1, .slice A_2 ls.length cap_2, .slice A_0 lo.length cap_0].toArray 28 (0, 0))], [(g0, .cells (dcells pd0 dv0).toArray 28 (0, 0))], c_0, c_1, F_1, c_2]) (by repeat first | exact slR _ | exact slN _ | apply slC | apply slD) ?_
        refine j_q (qs_field Tryz.underlying28 rfl sz22 (by decide) rfl) ?_
        refine j_store (g := g4) (l := [.string (bs t6), .string (bs t56), .string (bs t60), .slice none 0 0, .slice none 0 0, .slice A_1 li.length cap_1, .slice A_2 ls.length cap_2, .slice A_0 lo.length cap_0]) (v := .slice A64 n64 cap64) 2 sz22 rfl rfl rfl rfl (by simp) (by simp) ?_
        refine j_call 1 ent45 rfl rfl rfl rfl (fun w' hw' => rsign_con gr [44] r64 b64 w' (by simp) (by omega)) (fun u S2 hu => ?_)
        obtain ⟨rfl, r67, b67, rfl, l67, _, h67⟩ := hu
        have K67 := fun (a2 : PD) (z : Bs) (hok : okD a2) (hx : s = dtext a2 ++ z) => (have h0 := h67 (K64 a2 z hok hx).1 _ (K64 a2 z hok hx).2; And.intro h0.2 h0.1)
        refine j_subl (S' := [[RF gr r67 b67], c64, [(g4, .cells [.string (bs t6), .string (bs t56), .string (bs t60), .slice A64 n64 cap64, .slice none 0 0, .slice A_1 li.length cap_1, .slice A_2 ls.length cap_2, .slice A_0 lo.length cap_0].toArray 28 (0, 0))], [(g0, .cells (dcells pd0 dv0).toArray 28 (0, 0))], c_0, c_1, F_1, c_2]) (by repeat first | exact slR _ | exact slN _ | apply slC | apply slD) ?_
        refine j_perm (S' := [[RF gr r67 b67], c64, [(g4, .cells [.string (bs t6), .string (bs t56), .string (bs t60), .slice A64 n64 cap64, .slice none 0 0, .slice A_1 li.length cap_1, .slice A_2 ls.length cap_2, .slice A_0 lo.length cap_0].toArray 28 (0, 0))], [(g0, .cells (dcells pd0 dv0).toArray 28 (0, 0))], c_0, c_1, F_1, c_2, []]) (by simp) ?_
        refine j_loop (fun m vs S' => ∃ (lv : Value) (cl : SH) (r : Bs) (b : Bool) (acc : List PV), vs = [] ∧ S' = [[RF gr r b], c64, [(g4, .cells [.string (bs t6), .string (bs t56), .string (bs t60), .slice A64 n64 cap64, lv, .slice A_1 li.length cap_1, .slice A_2 ls.length cap_2, .slice A_0 lo.length cap_0].toArray 28 (0, 0))], [(g0, .cells (dcells pd0 dv0).toArray 28 (0, 0))], c_0, c_1, F_1, c_2, cl] ∧ Sx.Own 48 2 ((acc.map encV).flatten) lv cl ∧ MQ tV (fun _ => True) b67 r67 r b acc ∧ (acc.map wV).sum + 10 * r.length ≤ 10 * r67.length ∧ m = r.length) ⟨_, .slice none 0 0, [], r67, b67, [], rfl, rfl, own_nil, mq_start, (by simp only [List.map_nil, List.sum_nil]; omega), rfl⟩ ?_
        rintro m vs S' hlen ⟨lv3, c_3, rq3, bq3, le, rfl, rfl, hol3, hk3, hsum3, rfl⟩
        obtain ⟨nl3, A_3, cap_3, rfl, hnl3⟩ := own_form hol3 (by decide)
        rw [flat_len encV_len] at hnl3
        obtain rfl : nl3 = le.length := by omega
        refine j_q (qs_field Tryz.underlying28 rfl sz23 (by decide) rfl) ?_
        refine j_q (qs_load (g := g4) (l := [.string (bs t6), .string (bs t56), .string (bs t60), .slice A64 n64 cap64, .slice A_3 le.length cap_3, .slice A_1 li.length cap_1, .slice A_2 ls.length cap_2, .slice A_0 lo.length cap_0]) 2 Tryz.underlying23 rfl rfl rfl rfl) ?_
        refine j_q (qs_lenl Tryz.underlying23 rfl) ?_
        refine j_call 0 ent47 rfl rfl rfl rfl (fun w' hw' => rmember_con gr rq3 bq3 le.length w' (by omega)) (fun u S2 hu => ?_)
        obtain ⟨m3, rm3, bm3, rfl, rfl, lm3, cm3, hm3⟩ := hu
        refine j_subl (S' := [[RF gr rm3 bm3], c64, [(g4, .cells [.string (bs t6), .string (bs t56), .string (bs t60), .slice A64 n64 cap64, .slice A_3 le.length cap_3, .slice A_1 li.length cap_1, .slice A_2 ls.length cap_2, .slice A_0 lo.length cap_0].toArray 28 (0, 0))], [(g0, .cells (dcells pd0 dv0).toArray 28 (0, 0))], c_0, c_1, F_1, c_2, c_3]) (by repeat first | exact slR _ | exact slN _ | apply slC | apply slD) ?_
        refine j_cond rfl (fun hc3 => ?_) (fun hc3 => ?_)
        · skip
          subst hc3
          have hcm3 := cm3 rfl
          refine j_alloc zero48 (fun g72 hg72 hs72 => ?_)
          have K72 := fun (hb : bm3 = false) (a2 : PV) (z : Bs) (hok : True) (hx : rm3 = tV a2 ++ z) => And.intro hb (hx.trans (tV_split a2 z))
          refine j_call 1 ent45 rfl rfl rfl rfl (fun w' hw' => rsign_con gr [40] rm3 bm3 w' (by simp) (by omega)) (fun u S2 hu => ?_)
          obtain ⟨rfl, r73, b73, rfl, l73, _, h73⟩ := hu
          have K73 := fun (hb : bm3 = false) (a2 : PV) (z : Bs) (hok : True) (hx : rm3 = tV a2 ++ z) => (have h0 := h73 (K72 hb a2 z hok hx).1 _ (K72 hb a2 z hok hx).2; And.intro h0.2 h0.1)
          refine j_subl (S' := [[RF gr r73 b73], [(g72, .cells [.string (bs []), .string (bs [])].toArray 48 (0, 0))], c64, [(g4, .cells [.string (bs t6), .string (bs t56), .string (bs t60), .slice A64 n64 cap64, .slice A_3 le.length cap_3, .slice A_1 li.length cap_1, .slice A_2 ls.length cap_2, .slice A_0 lo.length cap_0].toArray 28 (0, 0))], [(g0, .cells (dcells pd0 dv0).toArray 28 (0, 0))], c_0, c_1, F_1, c_2, c_3]) (by repeat first | exact slR _ | exact slN _ | apply slC | apply slD) ?_
          refine j_call 0 ent46 rfl rfl rfl rfl (fun w' hw' => rtx_con gr r73 b73 w' (by omega)) (fun u S2 hu => ?_)
          obtain ⟨t74, r74, b74, rfl, rfl, l74, h74⟩ := hu
          have E74 := fun (hb : bm3 = false) (a2 : PV) (z : Bs) (hok : True) (hx : rm3 = tV a2 ++ z) => (h74 (K73 hb a2 z hok hx).1 _ _ (K73 hb a2 z hok hx).2).1
          have K74 := fun (hb : bm3 = false) (a2 : PV) (z : Bs) (hok : True) (hx : rm3 = tV a2 ++ z) => (have h0 := h74 (K73 hb a2 z hok hx).1 _ _ (K73 hb a2 z hok hx).2; And.intro h0.2.2 h0.2.1)
          refine j_subl (S' := [[RF gr r74 b74], [(g72, .cells [.string (bs []), .string (bs [])].toArray 48 (0, 0))], c64, [(g4, .cells [.string (bs t6), .string (bs t56), .string (bs t60), .slice A64 n64 cap64, .slice A_3 le.length cap_3, .slice A_1 li.length cap_1, .slice A_2 ls.length cap_2, .slice A_0 lo.length cap_0].toArray 28 (0, 0))], [(g0, .cells (dcells pd0 dv0).toArray 28 (0, 0))], c_0, c_1, F_1, c_2, c_3]) (by repeat first | exact slR _ | exact slN _ | apply slC | apply slD) ?_
          refine j_q (qs_field Tryz.underlying48 rfl sz9 (by decide) rfl) ?_
          refine j_store (g := g72) (l := [.string (bs []), .string (bs [])]) (v := .string (bs t74)) 1 sz9 rfl rfl rfl rfl (by simp) (by simp) ?_
          refine j_call 0 ent45 rfl rfl rfl rfl (fun w' hw' => rsign_con gr [44] r74 b74 w' (by simp) (by omega)) (fun u S2 hu => ?_)
          obtain ⟨rfl, r77, b77, rfl, l77, _, h77⟩ := hu
          have K77 := fun (hb : bm3 = false) (a2 : PV) (z : Bs) (hok : True) (hx : rm3 = tV a2 ++ z) => (have h0 := h77 (K74 hb a2 z hok hx).1 _ (K74 hb a2 z hok hx).2; And.intro h0.2 h0.1)
          refine j_subl (S' := [[RF gr r77 b77], [(g72, .cells [.string (bs t74), .string (bs [])].toArray 48 (0, 0))], c64, [(g4, .cells [.string (bs t6), .string (bs t56), .string (bs t60), .slice A64 n64 cap64, .slice A_3 le.length cap_3, .slice A_1 li.length cap_1, .slice A_2 ls.length cap_2, .slice A_0 lo.length cap_0].toArray 28 (0, 0))], [(g0, .cells (dcells pd0 dv0).toArray 28 (0, 0))], c_0, c_1, F_1, c_2, c_3]) (by repeat first | exact slR _ | exact slN _ | apply slC | apply slD) ?_
          refine j_call 0 ent46 rfl rfl rfl rfl (fun w' hw' => rtx_con gr r77 b77 w' (by omega)) (fun u S2 hu => ?_)
          obtain ⟨t78, r78, b78, rfl, rfl, l78, h78⟩ := hu
          have E78 := fun (hb : bm3 = false) (a2 : PV) (z : Bs) (hok : True) (hx : rm3 = tV a2 ++ z) => (h78 (K77 hb a2 z hok hx).1 _ _ (K77 hb a2 z hok hx).2).1
          have K78 := fun (hb : bm3 = false) (a2 : PV) (z : Bs) (hok : True) (hx : rm3 = tV a2 ++ z) => (have h0 := h78 (K77 hb a2 z hok hx).1 _ _ (K77 hb a2 z hok hx).2; And.intro h0.2.2 h0.2.1)
          refine j_subl (S' := [[RF gr r78 b78], [(g72, .cells [.string (bs t74), .string (bs [])].toArray 48 (0, 0))], c64, [(g4, .cells [.string (bs t6), .string (bs t56), .string (bs t60), .slice A64 n64 cap64, .slice A_3 le.length cap_3, .slice A_1 li.length cap_1, .slice A_2 ls.length cap_2, .slice A_0 lo.length cap_0].toArray 28 (0, 0))], [(g0, .cells (dcells pd0 dv0).toArray 28 (0, 0))], c_0, c_1, F_1, c_2, c_3]) (by repeat first | exact slR _ | exact slN _ | apply slC | apply slD) ?_
          refine j_q (qs_field Tryz.underlying48 rfl sz9 (by decide) rfl) ?_
          refine j_store (g := g72) (l := [.string (bs t74), .string (bs [])]) (v := .string (bs t78)) 1 sz9 rfl rfl rfl rfl (by simp) (by simp) ?_
          refine j_call 0 ent45 rfl rfl rfl rfl (fun w' hw' => rsign_con gr [41] r78 b78 w' (by simp) (by omega)) (fun u S2 hu => ?_)
          obtain ⟨rfl, r81, b81, rfl, l81, _, h81⟩ := hu
          have K81 := fun (hb : bm3 = false) (a2 : PV) (z : Bs) (hok : True) (hx : rm3 = tV a2 ++ z) => (have h0 := h81 (K78 hb a2 z hok hx).1 _ (K78 hb a2 z hok hx).2; And.intro h0.2 h0.1)
          refine j_subl (S' := [[RF gr r81 b81], [(g72, .cells [.string (bs t74), .string (bs t78)].toArray 48 (0, 0))], c64, [(g4, .cells [.string (bs t6), .string (bs t56), .string (bs t60), .slice A64 n64 cap64, .slice A_3 le.length cap_3, .slice A_1 li.length cap_1, .slice A_2 ls.length cap_2, .slice A_0 lo.length cap_0].toArray 28 (0, 0))], [(g0, .cells (dcells pd0 dv0).toArray 28 (0, 0))], c_0, c_1, F_1, c_2, c_3]) (by repeat first | exact slR _ | exact slN _ | apply slC | apply slD) ?_
          refine j_q (qs_field Tryz.underlying28 rfl sz23 (by decide) rfl) ?_
          refine j_q (qs_load (g := g4) (l := [.string (bs t6), .string (bs t56), .string (bs t60), .slice A64 n64 cap64, .slice A_3 le.length cap_3, .slice A_1 li.length cap_1, .slice A_2 ls.length cap_2, .slice A_0 lo.length cap_0]) 3 Tryz.underlying23 rfl rfl rfl rfl) ?_
          refine j_q (qs_loadw (g := g72) (l := encV (⟨t74, t78⟩ : PV)) 1 Tryz.underlying48 rfl sz48 rfl rfl rfl) ?_
          refine j_litw (vs := encV (⟨t74, t78⟩ : PV)) Tryz.underlying23 sz48 zero48 rfl rfl ⟨rfl, by decide, by decide⟩ (fun g85 hg85 ho85 => ?_)
          refine j_append 10 Tryz.underlying23 Tryz.underlying23 (.inr ⟨_, rfl⟩) sb48 zero48 rfl hol3 rfl (.inl ⟨_, _, rfl, rd_own (off := 0) (n := 2) 0 rfl rfl, rfl⟩) (by intro u hu; exact encV_one (⟨t74, t78⟩ : PV) u (by rw [List.drop_zero] at hu; exact List.mem_of_mem_take hu)) ⟨(by have hw3 : (le.map wV).sum = _ := sumW (fun v : PV => v.name.length + v.val.length) le; simp only [strs_length, List.drop_zero, List.length_take, flat_len encV_len, encV_len, List.length_cons, List.length_nil]; omega), (by decide)⟩ (fun v86 c86 ho86 => ?_)
          have ho86 : Sx.Own 48 2 (((le ++ [(⟨t74, t78⟩ : PV)]).map encV).flatten) v86 c86 := by
            have e : ((le ++ [(⟨t74, t78⟩ : PV)]).map encV).flatten = (le.map encV).flatten ++ encV (⟨t74, t78⟩ : PV) := by simp
            rw [e]
            have e2 : ((encV (⟨t74, t78⟩ : PV)).drop 0).take 2 = encV (⟨t74, t78⟩ : PV) := by rw [List.drop_zero, List.take_of_length_le (by rw [encV_len]; exact Nat.le_refl _)]
            rw [e2] at ho86
            exact ho86
          refine j_subl (S' := [[RF gr r81 b81], c64, [(g4, .cells [.string (bs t6), .string (bs t56), .string (bs t60), .slice A64 n64 cap64, .slice A_3 le.length cap_3, .slice A_1 li.length cap_1, .slice A_2 ls.length cap_2, .slice A_0 lo.length cap_0].toArray 28 (0, 0))], [(g0, .cells (dcells pd0 dv0).toArray 28 (0, 0))], c_0, c_1, F_1, c_2, c86]) (by repeat first | exact slR _ | exact slN _ | apply slC | apply slD) ?_
          refine j_q (qs_field Tryz.underlying28 rfl sz23 (by decide) rfl) ?_
          obtain ⟨n86, A86, cap86, rfl, hn86⟩ := own_form ho86 (by decide)
          refine j_store (g := g4) (l := [.string (bs t6), .string (bs t56), .string (bs t60), .slice A64 n64 cap64, .slice A_3 le.length cap_3, .slice A_1 li.length cap_1, .slice A_2 ls.length cap_2, .slice A_0 lo.length cap_0]) (v := .slice A86 n86 cap86) 2 sz23 rfl rfl rfl rfl (by simp) (by simp) ?_
          refine j_back rfl ?_
          exact ⟨r81.length, by omega, .slice A86 n86 cap86, c86, r81, b81, le ++ [(⟨t74, t78⟩ : PV)], rfl, rfl, ho86, mq_next (a := (⟨t74, t78⟩ : PV)) tV_head hk3 hm3 (fun hb a2 z hok hx => ⟨pv_eq (E74 hb a2 z hok hx) (E78 hb a2 z hok hx), (K81 hb a2 z hok hx).2, (K81 hb a2 z hok hx).1⟩), by have hwa : wV (⟨t74, t78⟩ : PV) = t74.length + t78.length + 10 := rfl; rw [List.map_append, List.sum_append]; simp only [List.map_cons, List.map_nil, List.sum_cons, List.sum_nil]; omega, rfl⟩
        · skip
          subst hc3
          have hex3 := mq_exit tV_head hk3 hm3
          have E_3 := fun (a2 : PD) (z : Bs) (hok : okD a2) (hx : s = dtext a2 ++ z) => (hex3 (K67 a2 z hok hx).1 _ _ (fun _ _ => trivial) (K67 a2 z hok hx).2).1
          have K_3 := fun (a2 : PD) (z : Bs) (hok : okD a2) (hx : s = dtext a2 ++ z) => (have h0 := hex3 (K67 a2 z hok hx).1 _ _ (fun _ _ => trivial) (K67 a2 z hok hx).2; And.intro h0.2.2 h0.2.1)
          refine j_call 0 ent45 rfl rfl rfl rfl (fun w' hw' => rsign_con gr [41] rm3 bm3 w' (by simp) (by omega)) (fun u S2 hu => ?_)
          obtain ⟨rfl, r89, b89, rfl, l89, _, h89⟩ := hu
          have K89 := fun (a2 : PD) (z : Bs) (hok : okD a2) (hx : s = dtext a2 ++ z) => (have h0 := h89 (K_3 a2 z hok hx).1 _ (K_3 a2 z hok hx).2; And.intro h0.2 h0.1)
          refine j_subl (S' := [[RF gr r89 b89], c64, [(g4, .cells [.string (bs t6), .string (bs t56), .string (bs t60), .slice A64 n64 cap64, .slice A_3 le.length cap_3, .slice A_1 li.length cap_1, .slice A_2 ls.length cap_2, .slice A_0 lo.length cap_0].toArray 28 (0, 0))], [(g0, .cells (dcells pd0 dv0).toArray 28 (0, 0))], c_0, c_1, F_1, c_2, c_3]) (by repeat first | exact slR _ | exact slN _ | apply slC | apply slD) ?_
          have hO : DOwn (⟨t6, t56, t60, q64, le, li.map MI.pi, ls, lo⟩ : PD) (⟨.slice A64 n64 cap64, .slice A_3 le.length cap_3, .slice A_1 li.length cap_1, .slice A_2 ls.length cap_2, .slice A_0 lo.length cap_0, li⟩ : DV) c_0 c_1 F_1 c_2 c64 c_3 := ⟨hol0, hol1, hmine1, rfl, hbs1, hol2, hO64, hol3⟩
          have hbig : big2 (⟨t6, t56, t60, q64, le, li.map MI.pi, ls, lo⟩ : PD) ≤ 200000 := by rw [big2_w]; simp only []; omega
          have hou := fun y hy o ho => Nat.le_trans (hO.outs y hy o ho) (by decide : 3000000 ≤ 9223372036854775807)
          have hno : ∀ d2, chk d2 = 0 → dtext d2 = s → b89 = false ∧ r89 = [] ∧ (⟨t6, t56, t60, q64, le, li.map MI.pi, ls, lo⟩ : PD) = d2 := fun d2 h2 e2 => by
            have hx : s = dtext d2 ++ [] := by rw [e2, List.append_nil]
            have hok := okD_chk h2
            exact ⟨(K89 d2 [] hok hx).1, (K89 d2 [] hok hx).2, pd_eq (E6 d2 [] hok hx) (E56 d2 [] hok hx) (E60 d2 [] hok hx) (E64 d2 [] hok hx) (E_3 d2 [] hok hx) (E_1 d2 [] hok hx) (E_2 d2 [] hok hx) (E_0 d2 [] hok hx)⟩
          refine j_q (qs_nil rfl) ?_
          refine j_q (qs_field Tryz.underlying91 rfl sz4 (by decide) rfl) ?_
          refine j_q (qs_load (l := [.string (bs r89), .bool b89]) 0 Tryz.underlying4 rfl rfl rfl rfl) ?_
          refine j_g rfl (fun hb => qs_mt rfl) ?_
          refine j_g rfl (fun hb => qs_nil (gd_eq hb)) ?_
          refine j_g rfl (fun hb => qs_field Tryz.underlying91 rfl sz9 (by decide) (gd_eq hb)) ?_
          refine j_g rfl (fun hb => qs_load (l := [.string (bs r89), .bool b89]) 0 Tryz.underlying9 rfl (gd_eq hb) rfl rfl) ?_
          refine j_g rfl (fun hb => qs_sneq (gd_eq hb) rfl) ?_
          refine j_q (qs_or rfl rfl) ?_
          refine j_g rfl (fun hb => qs_loadw (g := g4) (l := dcells (⟨t6, t56, t60, q64, le, li.map MI.pi, ls, lo⟩ : PD) (⟨.slice A64 n64 cap64, .slice A_3 le.length cap_3, .slice A_1 li.length cap_1, .slice A_2 ls.length cap_2, .slice A_0 lo.length cap_0, li⟩ : DV)) 2 Tryz.underlying28 rfl sz28 rfl rfl rfl) ?_
          refine j_g rfl (fun hb => qs_call ent16 rfl rfl (args1 (gd_eq hb)) (fun w' hw' => rcheck_con (⟨t6, t56, t60, q64, le, li.map MI.pi, ls, lo⟩ : PD) (⟨.slice A64 n64 cap64, .slice A_3 le.length cap_3, .slice A_1 li.length cap_1, .slice A_2 ls.length cap_2, .slice A_0 lo.length cap_0, li⟩ : DV) w' (hO.dr (fun p hp => hw'.own p (by simp only [List.mem_append] at hp; rcases hp with ((((h | h) | h) | h) | h) | h <;> simp [h]))) hbig hou)) ?_
          refine j_g rfl (fun hb => qs_neq (gd_eq hb) rfl) ?_
          refine j_q (qs_or rfl rfl) ?_
          refine j_g rfl (fun hb => qs_loadw (g := g4) (l := dcells (⟨t6, t56, t60, q64, le, li.map MI.pi, ls, lo⟩ : PD) (⟨.slice A64 n64 cap64, .slice A_3 le.length cap_3, .slice A_1 li.length cap_1, .slice A_2 ls.length cap_2, .slice A_0 lo.length cap_0, li⟩ : DV)) 2 Tryz.underlying28 rfl sz28 rfl rfl rfl) ?_
          refine j_gsplit rfl (fun hb104 => ?_) (fun hb104 => ?_)
          rotate_left
          · skip
            refine j_g (v := undef) rfl (fun hb => absurd hb hb104) ?_
            refine j_g (v := undef) rfl (fun hb => absurd hb hb104) ?_
            refine j_g (v := .bool false) rfl (fun hb => absurd hb hb104) ?_
            refine j_q (qs_or rfl rfl) ?_
            refine j_cond rfl (fun hc4 => ?_) (fun hc4 => absurd (by simpa using hc4) hb104)
            refine j_q (qs_run (v := .agg (dcells pd0 dv0).toArray) (fun w => by kernel_rfl)) ?_
            refine j_storew (l := dcells pd0 dv0) (vs := dcells pd0 dv0) 3 sz28 rfl rfl rfl dcells0_one rfl rfl ?_
            refine j_q qs_ac ?_
            exact j_ret_fl [[], [], [], [], [], []] (by simp) (vs := [.agg (dcells pd0 dv0).toArray, .int .i64 3]) (fun w' hw' => ⟨rv_agg (l := dcells pd0 dv0) 3 Tryz.underlying28 rfl sz28 rfl rfl rfl hw', rfl, trivial⟩) (parse_bad (fun d2 h2 e2 => by
              obtain ⟨h3, h4, h5⟩ := hno d2 h2 e2
              apply hb104
              rw [h3, h4, h5, h2]
              rfl))
          have hck : chk (⟨t6, t56, t60, q64, le, li.map MI.pi, ls, lo⟩ : PD) = 0 := by
            simp only [Bool.or_eq_false_iff, bne_eq_false_iff_eq] at hb104
            exact hb104.2
          refine j_call0 ent37 rfl rfl (args1 (gd_eq hb104)) (fun w' hw' => rdtext_con (⟨t6, t56, t60, q64, le, li.map MI.pi, ls, lo⟩ : PD) (⟨.slice A64 n64 cap64, .slice A_3 le.length cap_3, .slice A_1 li.length cap_1, .slice A_2 ls.length cap_2, .slice A_0 lo.length cap_0, li⟩ : DV) w' (hO.dr (fun p hp => hw'.own p (by simp only [List.mem_append] at hp; rcases hp with ((((h | h) | h) | h) | h) | h <;> simp [h]))) (tb_chk hck hbig)) (fun u S2 hu => ?_)
          obtain ⟨ct, rfl, hot⟩ := hu
          refine j_g rfl (fun hb => qs_stro 0 Tryz.underlying46 Tryz.underlying5 Tryz.underlying9 hot rfl) ?_
          refine j_g rfl (fun hb => qs_mt rfl) ?_
          refine j_g rfl (fun hb => qs_sneq (gd_eq hb) (gd_eq hb)) ?_
          refine j_q (qs_or rfl rfl) ?_
          refine j_cond rfl (fun hc4 => ?_) (fun hc4 => ?_)
          · skip
            refine j_q (qs_run (v := .agg (dcells pd0 dv0).toArray) (fun w => by kernel_rfl)) ?_
            refine j_storew (l := dcells pd0 dv0) (vs := dcells pd0 dv0) 4 sz28 rfl rfl rfl dcells0_one rfl rfl ?_
            refine j_q (qs_ac) ?_
            -- no @RET
            exact j_ret_fl [[], [], [], [], [], []] (by simp) (vs := [.agg (dcells pd0 dv0).toArray, .int .i64 3]) (fun w' hw' => ⟨rv_agg (l := dcells pd0 dv0) 4 Tryz.underlying28 rfl sz28 rfl rfl rfl hw', rfl, trivial⟩) (parse_bad (fun d2 h2 e2 => by
              obtain ⟨h3, h4, h5⟩ := hno d2 h2 e2
              rw [hb104, h5, e2] at hc4
              simp at hc4))
          · skip
            have hts : dtext (⟨t6, t56, t60, q64, le, li.map MI.pi, ls, lo⟩ : PD) = s := by
              rw [hb104] at hc4
              simpa using hc4
            refine j_q (qs_loadw (g := g4) (l := dcells (⟨t6, t56, t60, q64, le, li.map MI.pi, ls, lo⟩ : PD) (⟨.slice A64 n64 cap64, .slice A_3 le.length cap_3, .slice A_1 li.length cap_1, .slice A_2 ls.length cap_2, .slice A_0 lo.length cap_0, li⟩ : DV)) 3 Tryz.underlying28 rfl sz28 rfl rfl rfl) ?_
            refine j_storew (g := g0) (l := dcells pd0 dv0) (vs := dcells (⟨t6, t56, t60, q64, le, li.map MI.pi, ls, lo⟩ : PD) (⟨.slice A64 n64 cap64, .slice A_3 le.length cap_3, .slice A_1 li.length cap_1, .slice A_2 ls.length cap_2, .slice A_0 lo.length cap_0, li⟩ : DV)) 4 sz28 rfl rfl rfl hO.one rfl rfl ?_
            refine j_q (qs_ac) ?_
            -- no @RET
            refine j_subl (S' := [c64, [(g0, .cells (dcells (⟨t6, t56, t60, q64, le, li.map MI.pi, ls, lo⟩ : PD) (⟨.slice A64 n64 cap64, .slice A_3 le.length cap_3, .slice A_1 li.length cap_1, .slice A_2 ls.length cap_2, .slice A_0 lo.length cap_0, li⟩ : DV)).toArray 28 (0, 0))], c_0, c_1, F_1, c_2, c_3]) (by repeat first | exact slR _ | exact slN _ | apply slC | apply slD) ?_
            refine j_perm (S' := [c_3, c64, c_2, c_1, F_1, c_0, [(g0, .cells (dcells (⟨t6, t56, t60, q64, le, li.map MI.pi, ls, lo⟩ : PD) (⟨.slice A64 n64 cap64, .slice A_3 le.length cap_3, .slice A_1 li.length cap_1, .slice A_2 ls.length cap_2, .slice A_0 lo.length cap_0, li⟩ : DV)).toArray 28 (0, 0))]]) (by classical exact List.perm_iff_count.2 fun a => by simp only [List.set_cons_succ, List.set_cons_zero, List.flatten_cons, List.flatten_nil, List.append_nil, List.nil_append, List.cons_append, List.count_append, List.count_cons, List.count_nil] <;> omega) ?_
            exact j_ret_fl [c_3, c64, c_2, c_1, F_1, c_0] (by simp) (vs := [dval (⟨t6, t56, t60, q64, le, li.map MI.pi, ls, lo⟩ : PD) (⟨.slice A64 n64 cap64, .slice A_3 le.length cap_3, .slice A_1 li.length cap_1, .slice A_2 ls.length cap_2, .slice A_0 lo.length cap_0, li⟩ : DV), .int .i64 0]) (fun w' hw' => ⟨rv_agg (g := g0) (l := dcells (⟨t6, t56, t60, q64, le, li.map MI.pi, ls, lo⟩ : PD) (⟨.slice A64 n64 cap64, .slice A_3 le.length cap_3, .slice A_1 li.length cap_1, .slice A_2 ls.length cap_2, .slice A_0 lo.length cap_0, li⟩ : DV)) 6 Tryz.underlying28 rfl sz28 rfl rfl rfl hw', rfl, trivial⟩) ⟨(⟨t6, t56, t60, q64, le, li.map MI.pi, ls, lo⟩ : PD), (⟨.slice A64 n64 cap64, .slice A_3 le.length cap_3, .slice A_1 li.length cap_1, .slice A_2 ls.length cap_2, .slice A_0 lo.length cap_0, li⟩ : DV), 0, c_0, c_1, F_1, c_2, c64, c_3, rfl, rfl, hO, .inl ⟨rfl, hck, hts, hbig, fun a2 h3 h4 => (hno a2 h3 h4).2.2⟩⟩
end Go.Proofs.YtfeabbeebkkhaaaGreat
/-! Dv24 -/
namespace Go.Proofs.YtfeabbeebkkhaaaGreat
open Go Go.Sx
set_option maxRecDepth 100000
set_option maxHeartbeats 4000000
set_option linter.unusedVariables false
set_option linter.unusedSimpArgs false
attribute [local irreducible] J JQ QS Con W opW
theorem ent19 : Sx.Enters Tryz.prog 19 := ⟨_, Tryz.func19, by kernel_rfl, by kernel_rfl⟩
theorem ent20 : Sx.Enters Tryz.prog 20 := ⟨_, Tryz.func20, by kernel_rfl, by kernel_rfl⟩
attribute [local irreducible] es qt cms hex Tbl Half lst isName isPath isDrvP leB chkO chkOuts chkN chkI chkIns firstE spA spB spE chkS chkV dtext chk chk0 tTs dshow big1 big2 ParsePost
theorem drvParses_con (s : Bs) (w : World) (hs : s.length ≤ 140737488351232) : Con Tryz.prog 4 [.string (bs s)] w [] fun v _ => v = .bool true := by
  refine con_of_tree mix Tryz.func4 T4_ok (by kernel_rfl) ?_
  unfold T4
  refine j_q (qs_ac) ?_
  refine j_q (qs_lens Tryz.underlying9 rfl) ?_
  refine j_q (qs_gtr rfl rfl) ?_
  refine j_cond rfl (fun hc0 => ?_) (fun hc0 => ?_)
  · skip
    refine j_q (qs_ac) ?_
    refine j_ret_con (vs := [_]) (fun w' hw' => ⟨rfl, trivial⟩) ?_
    rfl
  · skip
    have hl : s.length ≤ 16000 := by simp only [bnA] at *; omega
    refine j_call0 ent19 rfl rfl rfl (fun w' hw' => dparse_con s w' (by omega) (.inl (by omega))) (fun u S2 hu => ?_)
    unfold ParsePost at hu
    obtain ⟨d4, x4, e4, cO4, cI4, FI4, cS4, cA4, cV4, rfl, rfl, hO4, hor4⟩ := hu
    refine j_perm (S' := [(cV4 ++ (cA4 ++ (cS4 ++ (cI4 ++ (FI4 ++ cO4))))), []]) (by simp) ?_
    refine j_q (qs_ext (vs := [dval d4 x4, .int .i64 e4]) rfl rfl) ?_
    refine j_q (qs_ext (vs := [dval d4 x4, .int .i64 e4]) rfl rfl) ?_
    refine j_alloc zero28d (fun g7 hg7 hs7 => ?_)
    refine j_storew (l := dcells pd0 dv0) (vs := dcells d4 x4) 0 sz28 rfl rfl rfl hO4.one rfl rfl ?_
    refine j_call0 ent20 rfl rfl rfl (fun w' hw' => rdparse_con s w' (by omega)) (fun u S2 hu => ?_)
    unfold ParsePost at hu
    obtain ⟨d9, x9, e9, cO9, cI9, FI9, cS9, cA9, cV9, rfl, rfl, hO9, hor9⟩ := hu
    refine j_perm (S' := [(cV9 ++ (cA9 ++ (cS9 ++ (cI9 ++ (FI9 ++ cO9))))), [(g7, .cells (dcells d4 x4).toArray 28 (0, 0))], (cV4 ++ (cA4 ++ (cS4 ++ (cI4 ++ (FI4 ++ cO4))))), []]) (by simp) ?_
    have key : d4 = d9 ∧ e4 = e9 := by
      rcases hor4 with ⟨h1, h2, h3, _, h4⟩ | ⟨h1, h2, h3, h4⟩ <;> rcases hor9 with ⟨k1, k2, k3, _, k4⟩ | ⟨k1, k2, k3, k4⟩
      · exact ⟨h4 d9 k2 k3, by rw [h1, k1]⟩
      · exact absurd h3 (k4 d4 h2)
      · exact absurd k3 (h4 d9 k2)
      · exact ⟨by rw [h2, k2], by rw [h1, k1]⟩
    have hbig : big2 d4 ≤ 200000 := by
      rcases hor4 with ⟨_, _, _, h4, _⟩ | ⟨_, h2, _, _⟩
      · exact h4
      · rw [h2]; unfold big2 big1; decide
    obtain ⟨k1, k2⟩ := key
    subst k1 k2
    refine j_q (qs_ext (vs := [dval d4 x9, .int .i64 e4]) rfl rfl) ?_
    refine j_q (qs_ext (vs := [dval d4 x9, .int .i64 e4]) rfl rfl) ?_
    refine j_alloc zero28d (fun g12 hg12 hs12 => ?_)
    refine j_storew (l := dcells pd0 dv0) (vs := dcells d4 x9) 0 sz28 rfl rfl rfl hO9.one rfl rfl ?_
    refine j_draw ?_
    refine jq_q (qs_loadw (l := dcells d4 x4) 2 Tryz.underlying28 rfl sz28 rfl rfl rfl) ?_
    refine jq_q (qs_call ent17 rfl rfl rfl (fun w' hw' => ltext_con d4 x4 w' (hO4.dr (fun p hp => hw'.own p (by simp only [List.mem_append] at hp; rcases hp with ((((h | h) | h) | h) | h) | h <;> simp [h]))) hbig (fun y hy o ho => Nat.le_trans (hO4.outs y hy o ho) (by decide)) (.inr hO4.outs))) ?_
    refine jq_q (qs_loadw (l := dcells d4 x9) 0 Tryz.underlying28 rfl sz28 rfl rfl rfl) ?_
    refine jq_q (qs_call ent17 rfl rfl rfl (fun w' hw' => ltext_con d4 x9 w' (hO9.dr (fun p hp => hw'.own p (by simp only [List.mem_append] at hp; rcases hp with ((((h | h) | h) | h) | h) | h <;> simp [h]))) hbig (fun y hy o ho => Nat.le_trans (hO9.outs y hy o ho) (by decide)) (.inr hO9.outs))) ?_
    refine jq_q (qs_seql rfl rfl) ?_
    refine jq_g rfl (fun hb => qs_mt rfl) ?_
    refine jq_g rfl (fun hb => qs_mt rfl) ?_
    refine jq_g rfl (fun hb => qs_eql (gd_eq hb) (gd_eq hb)) ?_
    refine jq_q (qs_and rfl rfl) ?_
    refine jq_g rfl (fun hb1 => qs_call ent18 rfl rfl rfl (fun w' hw' => known_con w')) ?_
    refine jq_q (qs_and rfl rfl) ?_
    refine jq_nil ?_
    refine j_ret_con (vs := [_]) (fun w' hw' => ⟨rfl, trivial⟩) ?_
    show Value.bool _ = Value.bool true
    simp
end Go.Proofs.YtfeabbeebkkhaaaGreat
/-! SxT -/
namespace Go.Sx
open Go Go.ChangeShapes Go.WideShapes Go.ChangeAt Go.RowKit
set_option linter.unusedVariables false
end Go.Sx
/-! RowD -/
namespace Go.Proofs.YtfeabbeebkkhaaaGreat
open Go Go.Sx Go.ChangeShapes Go.WideShapes Go.ChangeAt Go.RowKit
set_option linter.unusedVariables false
theorem own_drvParses : ownKnob Tryz.prog.godebug = none := by kernel_rfl
theorem laid_drvParses : laidOutB Tryz.prog = true := by kernel_rfl
set_option maxRecDepth 100000 in
theorem drvParses_lifted (os : Os) (started : os.Started) (H : Type) (enc : TypeId × Value → H) :
    ReturnsInHanded {} Tryz.checked os 4 .any (Rows.drvParsesSpec.pre6 enc Tryz.prog Tryz.f4 Rows.drvParsesRow.domain false) (Rows.drvParsesSpec.post enc Tryz.prog Tryz.f4 false true false false) := by
  refine returnsInHanded_of_change_sized (C := Tryz.checked) own_drvParses started (by kernel_rfl) Tryz.func4
    (ChangeSpec.witness6 (enc := enc) (C := Tryz.checked) false ⟨#[], #[.string ⟨#[]⟩], []⟩ 8 (by kernel_rfl) (by kernel_rfl) (by kernel_rfl) (by kernel_rfl)) ?_
  intro W base args ds gs before hval0 hW hcnd hsz0 _
  have hsz : (DataW.weightsEach Tryz.prog (Tryz.f4.params.toList ++ Rows.drvParsesSpec.plain.varTypes Tryz.prog) (ds ++ gs)).all (· ≤ reachBytes) = true := hsz0
  have hreach : reachBytes = 140737488351232 := rfl
  have hval : ∀ (j : Nat) t v, Tryz.f4.params[j]? = some t → args[j]? = some v → Value.okWide Tryz.prog W .any base t v := hval0
  have hW' := hW
  obtain ⟨p, q, hA0, hV, rfl, hfz, hnd⟩ := hW
  have hA : DataW.TrodAll enc Tryz.prog W 0 (fun _ => true) true Tryz.f4.params.toList args.toList ds p := hA0
  rw [Tryz.params4] at hA hval
  obtain ⟨v0, d0, rfl, rfl, h0⟩ := trodAll_one hA
  obtain ⟨rfl, rfl⟩ := trodVars_none hV
  obtain ⟨a0, rfl, rfl, rfl, wa0⟩ := Go.ChangeMaps.open_string Tryz.underlying9 (hval 0 9 v0 rfl rfl) h0
  have wb0 : a0.data.toList.length ≤ reachBytes := sized_string hsz (j := 0) (t := 9) (by rw [Tryz.params4]; rfl) rfl
  clear hA0 hval0
  have hc := drvParses_con a0.data.toList W (by omega) (by simp) (by simp)
  simp only [← bs_of] at hc
  refine hc.mono fun e W' h => ?_
  obtain ⟨v, S', rfl, rfl, hS⟩ := h
  exact ⟨_, rfl, post_law hW' rfl rfl laid_drvParses (by decide +kernel) rfl Tryz.underlying4 (below_of_sig hS)⟩
theorem drvParses_holds : Rows.DrvParsesSaid :=
  OpenClaim.holds_of_wide 4 Tryz.f4 rfl rfl rfl rfl rfl rfl rfl ⟨rfl, rfl, rfl, rfl, rfl⟩ rfl rfl rfl rfl rfl (by kernel_rfl) Tryz.func4 (by kernel_rfl)
    (of_decide_eq_true (by kernel_rfl)) (by unfold Func.isWrapper; first | (rw [if_pos (by decide +kernel)]; kernel_rfl) | (rw [if_neg (by decide +kernel)]; exact ⟨rfl, rfl⟩))
    (fun os started H enc _ => drvParses_lifted os started H enc)
end Go.Proofs.YtfeabbeebkkhaaaGreat
