/- Derivations: the law DrvBack. -/
import Derived.Test.YtfeabbeebkkhaaaGreatTa
import Derived.Test.YtfeabbeebkkhaaaGreatDvk
import Derived.Test.YtfeabbeebkkhaaaGreatDo4
namespace Go.Proofs.YtfeabbeebkkhaaaGreat
open Go Go.Sx
set_option maxRecDepth 100000
set_option maxHeartbeats 4000000
set_option linter.unusedVariables false
set_option linter.unusedSimpArgs false
attribute [local irreducible] J JQ QS Con W opW
theorem ent11 : Sx.Enters Tryz.prog 11 := ⟨_, Tryz.func11, by kernel_rfl, by kernel_rfl⟩
theorem ent19 : Sx.Enters Tryz.prog 19 := ⟨_, Tryz.func19, by kernel_rfl, by kernel_rfl⟩

theorem chk_len {d : PD} (h : chk d = 0) : (dtext d).length ≤ 262144 := by
  unfold chk at h
  have h2 := (orE_zero.1 h).2
  split at h2
  · exact absurd h2 (by decide)
  · omega
theorem heavy2_no {d : PD} {n : Nat} (h : (heavyP d || decide ((n : Int) > 16000)) = false) : big2 d ≤ 16000 ∧ n ≤ 16000 := by
  rw [Bool.or_eq_false_iff, decide_eq_false_iff_not] at h
  exact ⟨heavy_no h.1, by omega⟩
attribute [local irreducible] es qt cms hex Tbl Half lst isName isPath isDrvP leB chkO chkOuts chkN chkI chkIns firstE spA spB spE chkS chkV dtext chk chk0 tTs dshow big1 big2 heavyP
/-- pantry.pantrylaw14.DrvBack -/
theorem drvBack_con (d : PD) (x : DV) (s : Bs) (w : World) (h : DR w d x) (sz : Szd d) (hs : s.length ≤ 140737488351232) : Con Tryz.prog 5 [dval d x, .string (bs s)] w [] fun v _ => v = .bool true := by
  refine con_of_tree mix Tryz.func5 T5_ok (by kernel_rfl) ?_
  unfold T5
  refine j_box (l := dcells d x) rfl (fun g0 hg0 hs0 => ?_)
  refine j_q (qs_ac) ?_
  refine j_q (qs_loadw (l := dcells d x) 0 Tryz.underlying28 rfl sz28 rfl rfl rfl) ?_
  refine j_q (qs_call ent11 rfl rfl rfl (fun w' hw' => heavy_con d x w' (h.keep hw') sz)) ?_
  refine j_g rfl (fun hb => qs_mt rfl) ?_
  refine j_g rfl (fun hb => qs_lens Tryz.underlying9 (gd_eq hb)) ?_
  refine j_g rfl (fun hb => qs_gtr (gd_eq hb) rfl) ?_
  refine j_q (qs_or rfl rfl) ?_
  refine j_cond rfl (fun hc0 => ?_) (fun hc0 => ?_)
  · skip
    refine j_q (qs_ac) ?_
    refine j_ret_con (vs := [_]) (fun w' hw' => ⟨rfl, trivial⟩) ?_
    rfl
  · skip
    have hb := heavy2_no hc0
    refine j_q (qs_loadw (l := dcells d x) 0 Tryz.underlying28 rfl sz28 rfl rfl rfl) ?_
    refine j_q (qs_call ent13 rfl rfl rfl (fun w' hw' => dprint_con d x w' (h.keep hw') (Nat.le_trans hb.1 (by decide)) sz.outs2)) ?_
    refine j_q (qs_ext (vs := [.string (bs (prS d)), .int .i64 (chk d)]) rfl rfl) ?_
    refine j_q (qs_ext (vs := [.string (bs (prS d)), .int .i64 (chk d)]) rfl rfl) ?_
    refine j_q (qs_eql rfl rfl) ?_
    refine j_cond rfl (fun hc1 => ?_) (fun hc1 => ?_)
    · skip
      have hck : chk d = 0 := by simpa using hc1
      have hp : prS d = dtext d := by unfold prS; rw [if_pos hck]
      refine j_call0 ent19 rfl rfl rfl (fun w' hw' => dparse_con (prS d) w' (by rw [hp]; have := chk_len hck; omega) (.inr ⟨d, hck, hp.symm, Nat.le_trans hb.1 (by decide)⟩)) (fun u S2 hu => ?_)
      obtain ⟨d14, x14, e14, cO14, cI14, FI14, cS14, cA14, cV14, rfl, rfl, hO14, hor14⟩ := hu
      refine j_perm (S' := [(cV14 ++ (cA14 ++ (cS14 ++ (cI14 ++ (FI14 ++ cO14))))), [(g0, .cells (dcells d x).toArray 28 (0, 0))], []]) (by simp) ?_
      have e14 : d14 = d ∧ e14 = 0 := by
        rcases hor14 with ⟨h1, _, _, _, h4⟩ | ⟨_, _, _, h4⟩
        · exact ⟨h4 d hck hp.symm, h1⟩
        · exact absurd hp.symm (h4 d hck)
      obtain rfl : d = d14 := e14.1.symm
      obtain rfl := e14.2
      refine j_q (qs_ext (vs := [dval d x14, .int .i64 0]) rfl rfl) ?_
      refine j_q (qs_ext (vs := [dval d x14, .int .i64 0]) rfl rfl) ?_
      refine j_alloc zero28d (fun g17 hg17 hs17 => ?_)
      refine j_storew (l := dcells pd0 dv0) (vs := dcells d x14) 0 sz28 rfl rfl rfl hO14.one rfl rfl ?_
      refine j_draw ?_
      refine jq_q (qs_neq rfl rfl) ?_
      refine jq_g rfl (fun hb1 => qs_loadw (l := dcells d x14) 0 Tryz.underlying28 rfl sz28 rfl rfl rfl) ?_
      refine jq_g rfl (fun hb1 => qs_call ent17 rfl rfl (args1 (gd_eq hb1)) (fun w' hw' => ltext_con d x14 w' (hO14.dr (fun p hp => hw'.own p (by simp only [List.mem_append] at hp; rcases hp with ((((h | h) | h) | h) | h) | h <;> simp [h]))) hb.1 sz.outs)) ?_
      refine jq_g rfl (fun hb1 => qs_loadw (l := dcells d x) 2 Tryz.underlying28 rfl sz28 rfl rfl rfl) ?_
      refine jq_g rfl (fun hb1 => qs_call ent17 rfl rfl (args1 (gd_eq hb1)) (fun w' hw' => ltext_con d x w' (h.keep hw') hb.1 sz.outs)) ?_
      refine jq_g rfl (fun hb => qs_sneq (gd_eq hb) (gd_eq hb)) ?_
      refine jq_q (qs_or rfl rfl) ?_
      refine jq_nil ?_
      refine j_cond rfl (fun hc2 => ?_) (fun hc2 => ?_)
      · skip
        simp at hc2
      · skip
        refine j_call0 ent19 rfl rfl rfl (fun w' hw' => dparse_con s w' (by have := hb.2; omega) (.inl (by have := hb.2; omega))) (fun u S2 hu => ?_)
        obtain ⟨d27, x27, e27, cO27, cI27, FI27, cS27, cA27, cV27, rfl, rfl, hO27, hor27⟩ := hu
        refine j_perm (S' := [(cV27 ++ (cA27 ++ (cS27 ++ (cI27 ++ (FI27 ++ cO27))))), [(g17, .cells (dcells d x14).toArray 28 (0, 0))], (cV14 ++ (cA14 ++ (cS14 ++ (cI14 ++ (FI14 ++ cO14))))), [(g0, .cells (dcells d x).toArray 28 (0, 0))], []]) (by simp) ?_
        refine j_q (qs_ext (vs := [dval d27 x27, .int .i64 e27]) rfl rfl) ?_
        refine j_q (qs_ext (vs := [dval d27 x27, .int .i64 e27]) rfl rfl) ?_
        refine j_alloc zero28d (fun g30 hg30 hs30 => ?_)
        refine j_storew (l := dcells pd0 dv0) (vs := dcells d27 x27) 0 sz28 rfl rfl rfl hO27.one rfl rfl ?_
        refine j_q (qs_neq rfl rfl) ?_
        refine j_cond rfl (fun hc3 => ?_) (fun hc3 => ?_)
        · skip
          refine j_q (qs_call ent18 rfl rfl rfl (fun w' hw' => known_con w')) ?_
          refine j_ret_con (vs := [_]) (fun w' hw' => ⟨rfl, trivial⟩) ?_
          rfl
        · skip
          have hz27 : e27 = 0 := by simpa using hc3
          rcases hor27 with ⟨_, hk27, ht27, hg27b, _⟩ | ⟨he, _⟩
          rotate_left
          · rw [hz27] at he
            exact absurd he (by decide)
          refine j_q (qs_loadw (l := dcells d27 x27) 0 Tryz.underlying28 rfl sz28 rfl rfl rfl) ?_
          refine j_q (qs_call ent13 rfl rfl rfl (fun w' hw' => dprint_con d27 x27 w' (hO27.dr (fun p hp => hw'.own p (by simp only [List.mem_append] at hp; rcases hp with ((((h | h) | h) | h) | h) | h <;> simp [h]))) hg27b (fun y hy o ho => Nat.le_trans (hO27.outs y hy o ho) (by decide)))) ?_
          refine j_q (qs_ext (vs := [.string (bs (prS d27)), .int .i64 (chk d27)]) rfl rfl) ?_
          refine j_q (qs_ext (vs := [.string (bs (prS d27)), .int .i64 (chk d27)]) rfl rfl) ?_
          refine j_q (qs_eql rfl rfl) ?_
          refine j_g rfl (fun hb => qs_mt rfl) ?_
          refine j_g rfl (fun hb => qs_mt rfl) ?_
          refine j_g rfl (fun hb => qs_seql (gd_eq hb) (gd_eq hb)) ?_
          refine j_q (qs_and rfl rfl) ?_
          refine j_g rfl (fun hb1 => qs_call ent18 rfl rfl rfl (fun w' hw' => known_con w')) ?_
          refine j_q (qs_and rfl rfl) ?_
          refine j_ret_con (vs := [_]) (fun w' hw' => ⟨rfl, trivial⟩) ?_
          show Value.bool _ = Value.bool true
          have hp2 : prS d27 = s := by unfold prS; rw [if_pos hk27, ht27]
          rw [hk27, hp2]
          simp
    · skip
      refine j_call0 ent19 rfl rfl rfl (fun w' hw' => dparse_con s w' (by have := hb.2; omega) (.inl (by have := hb.2; omega))) (fun u S2 hu => ?_)
      obtain ⟨d45, x45, e45, cO45, cI45, FI45, cS45, cA45, cV45, rfl, rfl, hO45, hor45⟩ := hu
      refine j_perm (S' := [(cV45 ++ (cA45 ++ (cS45 ++ (cI45 ++ (FI45 ++ cO45))))), [(g0, .cells (dcells d x).toArray 28 (0, 0))], []]) (by simp) ?_
      refine j_q (qs_ext (vs := [dval d45 x45, .int .i64 e45]) rfl rfl) ?_
      refine j_q (qs_ext (vs := [dval d45 x45, .int .i64 e45]) rfl rfl) ?_
      refine j_alloc zero28d (fun g48 hg48 hs48 => ?_)
      refine j_storew (l := dcells pd0 dv0) (vs := dcells d45 x45) 0 sz28 rfl rfl rfl hO45.one rfl rfl ?_
      refine j_q (qs_neq rfl rfl) ?_
      refine j_cond rfl (fun hc4 => ?_) (fun hc4 => ?_)
      · skip
        refine j_q (qs_call ent18 rfl rfl rfl (fun w' hw' => known_con w')) ?_
        refine j_ret_con (vs := [_]) (fun w' hw' => ⟨rfl, trivial⟩) ?_
        rfl
      · skip
        have hz45 : e45 = 0 := by simpa using hc4
        rcases hor45 with ⟨_, hk45, ht45, hg45b, _⟩ | ⟨he, _⟩
        rotate_left
        · rw [hz45] at he
          exact absurd he (by decide)
        refine j_q (qs_loadw (l := dcells d45 x45) 0 Tryz.underlying28 rfl sz28 rfl rfl rfl) ?_
        refine j_q (qs_call ent13 rfl rfl rfl (fun w' hw' => dprint_con d45 x45 w' (hO45.dr (fun p hp => hw'.own p (by simp only [List.mem_append] at hp; rcases hp with ((((h | h) | h) | h) | h) | h <;> simp [h]))) hg45b (fun y hy o ho => Nat.le_trans (hO45.outs y hy o ho) (by decide)))) ?_
        refine j_q (qs_ext (vs := [.string (bs (prS d45)), .int .i64 (chk d45)]) rfl rfl) ?_
        refine j_q (qs_ext (vs := [.string (bs (prS d45)), .int .i64 (chk d45)]) rfl rfl) ?_
        refine j_q (qs_eql rfl rfl) ?_
        refine j_g rfl (fun hb => qs_mt rfl) ?_
        refine j_g rfl (fun hb => qs_mt rfl) ?_
        refine j_g rfl (fun hb => qs_seql (gd_eq hb) (gd_eq hb)) ?_
        refine j_q (qs_and rfl rfl) ?_
        refine j_g rfl (fun hb1 => qs_call ent18 rfl rfl rfl (fun w' hw' => known_con w')) ?_
        refine j_q (qs_and rfl rfl) ?_
        refine j_ret_con (vs := [_]) (fun w' hw' => ⟨rfl, trivial⟩) ?_
        show Value.bool _ = Value.bool true
        have hp2 : prS d45 = s := by unfold prS; rw [if_pos hk45, ht45]
        rw [hk45, hp2]
        simp
end Go.Proofs.YtfeabbeebkkhaaaGreat
