/- Part 11. -/
import Derived.Test.YtfeabbeebkkhaaaGreatPN3
import Derived.Test.YtfeabbeebkkhaaaGreatPN4
import Derived.Test.YtfeabbeebkkhaaaGreatPN10
import Derived.Test.YtfeabbeebkkhaaaGreatPN9
/-! Dv10 -/
namespace Go.Proofs.YtfeabbeebkkhaaaGreat
open Go Go.Sx
set_option maxRecDepth 100000
set_option maxHeartbeats 4000000
set_option linter.unusedVariables false
set_option linter.unusedSimpArgs false
attribute [local irreducible] J JQ QS Con W opW
section
variable {d : PD}
theorem ck_1 (h : (isName d.name && isName (d.name ++ sDrv)) = false) : chk0 d = 9 := by unfold chk0 orE; rw [h]; rfl
theorem ck_2 {e : Int} (h : (isName d.name && isName (d.name ++ sDrv)) = true) (h2 : chkOuts d.outs = e) (he : e ≠ 0) : chk0 d = e := by
 unfold chk0
 rw [if_pos h, h2]
 unfold orE
 rw [if_neg he]
theorem ck_3 {e : Int} (h : (isName d.name && isName (d.name ++ sDrv)) = true) (h2 : chkOuts d.outs = 0) (h3 : chkIns d.ins = e) (he : e ≠ 0) : chk0 d = e := by
 unfold chk0
 rw [if_pos h, h2, h3]
 unfold orE
 rw [if_pos rfl, if_neg he]
theorem ck_4 {e : Int} (h : (isName d.name && isName (d.name ++ sDrv)) = true) (h2 : chkOuts d.outs = 0) (h3 : chkIns d.ins = 0) (h4 : firstE (chkS d.srcs) d.srcs.length = e) (he : e ≠ 0) : chk0 d = e := by
 unfold chk0
 rw [if_pos h, h2, h3, h4]
 unfold orE
 rw [if_pos rfl, if_pos rfl, if_neg he]
theorem ck_5 {e : Int} (h : (isName d.name && isName (d.name ++ sDrv)) = true) (h2 : chkOuts d.outs = 0) (h3 : chkIns d.ins = 0) (h4 : firstE (chkS d.srcs) d.srcs.length = 0) (h5 : firstE (chkV d.env) d.env.length = e) : chk0 d = e := by
 unfold chk0
 rw [if_pos h, h2, h3, h4, h5]
 unfold orE
 rw [if_pos rfl, if_pos rfl, if_pos rfl]
theorem outs_len (h : d.outs.length < 1 ∨ 16 < d.outs.length) : chkOuts d.outs = 1 := by unfold chkOuts; rw [if_pos h]
theorem outs_zero (hn : ¬ (d.outs.length < 1 ∨ 16 < d.outs.length)) (h : ∀ j < d.outs.length, chkO d.outs j = 0) : chkOuts d.outs = 0 := by unfold chkOuts; rw [if_neg hn]; exact firstE_zero h
theorem chk_of {d : PD} : chk d = if chk0 d ≠ 0 then chk0 d else if 262144 < (dtext d).length then 5 else 0 := by
 unfold chk orE
 by_cases h : chk0 d = 0
 ·rw [if_pos h, if_neg (not_not_intro h)]
 ·rw [if_neg h, if_pos h]
end
attribute [local irreducible] es qt cms hex Tbl Half lst isName isPath isDrvP leB chkO chkOuts chkN chkI chkIns firstE spA spB spE chkS chkV dtext chk chk0 tTs
theorem isP_con (p : Bs) (w : World) (hp : p.length ≤ 9223372036854775807) : Con Tryz.prog 24 [.string (bs p)] w [] fun v _ => v = .bool (isPath p) := by
 refine con_of_tree mix Tryz.func24 T24_ok (by kernel_rfl) ?_
 unfold T24
 refine j_q (qs_ac) ?_
 refine j_q (qs_call ent29 rfl rfl rfl (fun w' hw' => rsplit_con p w' (by omega))) ?_
 unfold spl
 refine j_q (qs_ext (vs := [.string (bs (spA p)), .string (bs (spB p)), .int .i64 (spE p)]) rfl rfl) ?_
 refine j_q (qs_ext (vs := [.string (bs (spA p)), .string (bs (spB p)), .int .i64 (spE p)]) rfl rfl) ?_
 refine j_q (qs_ext (vs := [.string (bs (spA p)), .string (bs (spB p)), .int .i64 (spE p)]) rfl rfl) ?_
 refine j_q (qs_eql rfl rfl) ?_
 refine j_ret_con (vs := [_]) (fun w' hw' => ⟨rfl, trivial⟩) ?_
 show Value.bool _ = _
 congr 1
 unfold spE
 cases isPath p <;> rfl
theorem rcheck0_con (d : PD) (x : DV) (w : World) (h : DR w d x) (hb : big2 d ≤ 200000) (hou : ∀ y ∈ d.ins, ∀ o ∈ y.outs, o.length ≤ 9223372036854775807) : Con Tryz.prog 42 [dval d x] w [] fun v _ => v = .int .i64 (chk0 d) := by
 refine con_of_tree mix Tryz.func42 T42_ok (by kernel_rfl) ?_
 unfold T42
 have few := few_of hb
 have few1 := few.nm
 have few4 := few.la
 have few5 := few.le
 have few6 := few.li
 have few7 := few.lo
 have few8 := few.ls
 have hni : d.ins.length = x.mi.length := by rw [h.im, List.length_map]
 obtain ⟨Ao, capo, go, offo, hvo, hcapo, hAo⟩ := rsln_form h.o
 obtain ⟨Ai, capi, gi, offi, hvi, hcapi, hAi⟩ := rsln_form h.i
 obtain ⟨Ae, cape, ge, offe, hve, hcape, hAe⟩ := rsln_form h.e
 obtain ⟨As, caps, hvs, hcaps⟩ := strz_form h.s
 have hmem : ∀ m ∈ x.mi, m.pi ∈ d.ins := fun m hm => by rw [h.im]; exact List.mem_map_of_mem hm
 refine j_box (l := dcells d x) rfl (fun g0 hg0 hs0 => ?_)
 refine j_q (qs_ac) ?_
 refine j_q (qs_field U28 rfl sz9 (by decide) rfl) ?_
 refine j_q (qs_load 0 U9 rfl rfl rfl rfl) ?_
 refine j_q (qs_call ent59 rfl rfl rfl (fun w' hw' => risName_con d.name w' (by omega))) ?_
 refine j_q (qs_not rfl) ?_
 refine j_g rfl (fun hb => qs_field U28 rfl sz9 (by decide) rfl) ?_
 refine j_g rfl (fun hb => qs_load 0 U9 rfl (gd_eq hb) rfl rfl) ?_
 refine j_g rfl (fun hb1 => qs_sadd (l' := sDrv) (gd_eq hb1) rfl (by simp only [List.length_cons, List.length_nil]; omega)) ?_
 refine j_g rfl (fun hb => qs_call ent59 rfl rfl (args1 (gd_eq hb)) (fun w' hw' => risName_con (d.name ++ sDrv) w' (by simp only [List.length_append, List.length_cons, List.length_nil]; omega))) ?_
 refine j_g rfl (fun hb => qs_not (gd_eq hb)) ?_
 refine j_q (qs_or rfl rfl) ?_
 refine j_cond rfl (fun hc0 => ?_) (fun hc0 => ?_)
 ·skip
  have hn0 := nm_or hc0
  refine j_q (qs_ac) ?_
  refine j_ret_con (vs := [_]) (fun w' hw' => ⟨rfl, trivial⟩) ?_
  symm
  show _ = Value.int .i64 9
  congr 1
  exact ck_1 hn0
 ·skip
  have hn0 := nm_and hc0
  refine j_q (qs_field U28 rfl sz26 (by decide) rfl) ?_
  refine j_q (qs_load (l := dcells d x) 0 U26 rfl rfl rfl (congrArg some hvo)) ?_
  refine j_q (qs_lenl U26 rfl) ?_
  refine j_q (qs_lss rfl rfl) ?_
  refine j_g rfl (fun hb => qs_field U28 rfl sz26 (by decide) rfl) ?_
  refine j_g rfl (fun hb1 => qs_load (l := dcells d x) 0 U26 rfl (gd_eq hb1) rfl (congrArg some hvo)) ?_
  refine j_g rfl (fun hb => qs_lenl U26 (gd_eq hb)) ?_
  refine j_g rfl (fun hb => qs_gtr (gd_eq hb) rfl) ?_
  refine j_q (qs_or rfl rfl) ?_
  refine j_cond rfl (fun hc1 => ?_) (fun hc1 => ?_)
  ·skip
   have hol : d.outs.length < 1 ∨ 16 < d.outs.length := by
    simp only [bnA] at *
    omega
   refine j_q (qs_ac) ?_
   refine j_ret_con (vs := [_]) (fun w' hw' => ⟨rfl, trivial⟩) ?_
   symm
   show _ = Value.int .i64 1
   congr 1
   exact ck_2 hn0 (outs_len hol) (by decide)
  ·skip
   have hnn : ¬ (d.outs.length < 1 ∨ 16 < d.outs.length) := by
    simp only [bnA] at *
    omega
   refine j_q (qs_ac) ?_
   refine j_loop (fun m vs S' => ∃ i : Nat, vs = [.int .i64 (i : Int)] ∧ S' = [[(g0, .cells (dcells d x).toArray 28 (0, 0))], []] ∧ i ≤ d.outs.length ∧ (∀ j < i, chkO d.outs j = 0) ∧ m = d.outs.length - i) ⟨_, 0, rfl, rfl, Nat.zero_le _, (fun j hj => absurd hj (Nat.not_lt_zero _)), rfl⟩ ?_
   rintro m vs S' hlen ⟨i, rfl, rfl, hin, hz, rfl⟩
   refine j_q (qs_field U28 rfl sz26 (by decide) rfl) ?_
   refine j_q (qs_load (l := dcells d x) 0 U26 rfl rfl rfl (congrArg some hvo)) ?_
   refine j_q (qs_lenl U26 rfl) ?_
   refine j_q (qs_lss rfl rfl) ?_
   refine j_cond rfl (fun hc2 => ?_) (fun hc2 => ?_)
   ·skip
    have hi : i < d.outs.length := by
     simp only [bnA] at *
     omega
    obtain ⟨rfl, hgo, hcells⟩ := hAo (by omega)
    have hl1 := few.ou _ (getD_mem (d := o0) hi)
    refine j_q (qs_field U28 rfl sz26 (by decide) rfl) ?_
    refine j_q (qs_load (l := dcells d x) 0 U26 rfl rfl rfl (congrArg some hvo)) ?_
    refine j_q (qs_ixn (g := go) (off := offo) (i := i) U26 sz53 rfl rfl (by omega)) ?_
    refine j_q (qs_loadrecw (encA := encO) (rs := d.outs) (d := o0) (i := i) encO_len (rd_cells hcells (by simp)) hi U53 rfl sz53 rfl) ?_
    refine j_alloc zero53 (fun g32 hg32 hs32 => ?_)
    refine j_storew (vs := encO (d.outs.getD i o0)) 0 sz53 rfl rfl (encO_len _) (encO_one _) rfl rfl ?_
    refine j_q (qs_field U53 rfl sz9 (by decide) rfl) ?_
    refine j_q (qs_load 0 U9 rfl rfl rfl rfl) ?_
    refine j_q (qs_call ent59 rfl rfl rfl (fun w' hw' => risName_con _ w' (by omega))) ?_
    refine j_q (qs_not rfl) ?_
    refine j_cond rfl (fun hc3 => ?_) (fun hc3 => ?_)
    ·skip
     have hnm : isName (d.outs.getD i o0).name = false := by simpa using hc3
     refine j_q (qs_ac) ?_
     refine j_ret_con (vs := [_]) (fun w' hw' => ⟨rfl, trivial⟩) ?_
     symm
     show _ = Value.int .i64 9
     congr 1
     exact ck_2 hn0 (chkOuts_at hnn hz hi (chkO_name hnm) (by decide)) (by decide)
    ·skip
     have hnm : isName (d.outs.getD i o0).name = true := by simpa using hc3
     refine j_draw ?_
     refine jq_q (qs_gtr rfl rfl) ?_
     refine jq_g rfl (fun hb => qs_field U53 rfl sz9 (by decide) rfl) ?_
     refine jq_g rfl (fun hb => qs_load 0 U9 rfl (gd_eq hb) rfl rfl) ?_
     refine jq_g rfl (fun hb => qs_field U28 rfl sz26 (by decide) rfl) ?_
     refine jq_g rfl (fun hb1 => qs_load (l := dcells d x) 1 U26 rfl (gd_eq hb1) rfl (congrArg some hvo)) ?_
     refine jq_g rfl (fun hb => qs_mt rfl) ?_
     refine jq_g rfl (fun hb => qs_sub64 (gd_eq hb) rfl (by omega)) ?_
     refine jq_g rfl (fun hb1 => qs_ixm (g := go) (off := offo) (i := i - 1) U26 sz53 (gd_eq hb1) (gd_eq hb1) (by simp only [bnA] at *; omega) (by omega)) ?_
     refine jq_g rfl (fun hb => qs_field U53 rfl sz9 (by decide) (gd_eq hb)) ?_
     refine jq_g rfl (fun hb1 => qs_loadrec (v := .string (bs (d.outs.getD (i - 1) o0).name)) (encA := encO) (rs := d.outs) (d := o0) (i := i - 1) (fo := 0) encO_len (rd_cells hcells (by simp)) (by omega) U9 rfl (gd_eq hb1) rfl) ?_
     refine jq_g rfl (fun hb => qs_sleq (gd_eq hb) (gd_eq hb)) ?_
     refine jq_q (qs_and rfl rfl) ?_
     refine jq_g rfl (fun hb => qs_field U53 rfl sz49 (by decide) rfl) ?_
     refine jq_g rfl (fun hb => qs_load 0 U49 rfl (gd_eq hb) rfl rfl) ?_
     refine jq_g rfl (fun hb1 => qs_sneq (l' := []) (gd_eq hb1) rfl) ?_
     refine jq_g rfl (fun hb => qs_move (gd_eq hb)) ?_
     refine jq_gg rfl (fun hb hb1 => qs_field U53 rfl sz49 (by decide) rfl) ?_
     refine jq_gg rfl (fun hb hb1 => qs_load 0 U49 rfl (gd_eq2 hb hb1) rfl rfl) ?_
     refine jq_gg rfl (fun hb hb1 => qs_call ent24 rfl rfl (args1 (gd_eq2 hb hb1)) (fun w' hw' => isP_con _ w' (by omega))) ?_
     refine jq_gg rfl (fun hb hb1 => qs_not (gd_eq2 hb hb1)) ?_
     refine jq_g rfl (fun hb => qs_and (gd_eq hb) (gd_eq hb)) ?_
     refine jq_q (qs_or rfl rfl) ?_
     refine jq_g rfl (fun hb => qs_field U53 rfl sz4 (by decide) rfl) ?_
     refine jq_g rfl (fun hb => qs_load 0 U4 rfl (gd_eq hb) rfl rfl) ?_
     refine jq_g rfl (fun hb => qs_move (gd_eq hb)) ?_
     refine jq_gg rfl (fun hb hb1 => qs_field U28 rfl sz26 (by decide) rfl) ?_
     refine jq_gg rfl (fun hb1 hb2 => qs_load (l := dcells d x) 1 U26 rfl (gd_eq2 hb1 hb2) rfl (congrArg some hvo)) ?_
     refine jq_gg rfl (fun hb hb1 => qs_lenl U26 (gd_eq2 hb hb1)) ?_
     refine jq_gg rfl (fun hb hb1 => qs_gtr (gd_eq2 hb hb1) rfl) ?_
     refine jq_gg rfl (fun hb hb1 => qs_move (gd_eq2 hb hb1)) ?_
     refine jq_ggg rfl (fun hb hb1 hb2 => qs_field U53 rfl sz9 (by decide) rfl) ?_
     refine jq_ggg rfl (fun hb hb1 hb2 => qs_load 0 U9 rfl (gd_eq3 hb hb1 hb2) rfl rfl) ?_
     refine jq_ggg rfl (fun hb1 hb2 hb3 => qs_sneq (l' := sOut) (gd_eq3 hb1 hb2 hb3) rfl) ?_
     refine jq_gg rfl (fun hb hb1 => qs_or (gd_eq2 hb hb1) (gd_eq2 hb hb1)) ?_
     refine jq_g rfl (fun hb => qs_and (gd_eq hb) (gd_eq hb)) ?_
     refine jq_q (qs_or rfl rfl) ?_
     refine jq_g rfl (fun hb => qs_field U53 rfl sz4 (by decide) rfl) ?_
     refine jq_g rfl (fun hb => qs_load 0 U4 rfl (gd_eq hb) rfl rfl) ?_
     refine jq_g rfl (fun hb => qs_not (gd_eq hb)) ?_
     refine jq_g rfl (fun hb => qs_move (gd_eq hb)) ?_
     refine jq_gg rfl (fun hb hb1 => qs_field U53 rfl sz51 (by decide) rfl) ?_
     refine jq_gg rfl (fun hb1 hb2 => qs_loada (i := 3) (n := 32) (l := encO (d.outs.getD i o0)) 0 U51 rfl sz51 (gd_eq2 hb1 hb2) rfl (by rw [encO_len]; omega)) ?_
     rw [show ((encO (d.outs.getD i o0)).drop 3).take 32 = ints (d.outs.getD i o0).hash.1 by show (ints _).take 32 = _; rw [List.take_of_length_le (by rw [ints_length, (d.outs.getD i o0).hash.2]; omega)]]
     refine jq_gg rfl (fun hb1 hb2 => qs_run (v := .agg (ints (List.replicate 32 0)).toArray) (fun w => by kernel_rfl)) ?_
     refine jq_gg rfl (fun hb1 hb2 => qs_ane (l := (d.outs.getD i o0).hash.1) (m := List.replicate 32 0) U51 U5 (by kernel_rfl) (by kernel_rfl) (by kernel_rfl) (gd_eq2 hb1 hb2) (gd_eq2 hb1 hb2) (d.outs.getD i o0).hash.2 (by simp)) ?_
     refine jq_g rfl (fun hb => qs_and (gd_eq hb) (gd_eq hb)) ?_
     refine jq_q (qs_or rfl rfl) ?_
     refine jq_nil ?_
     refine j_cond rfl (fun hc4 => ?_) (fun hc4 => ?_)
     ·skip
      have hbad : badO d.outs i = true := by
       rw [badO_eq]
       unfold bo1
       rw [← gt0]
       exact hc4
      refine j_q (qs_ac) ?_
      refine j_ret_con (vs := [_]) (fun w' hw' => ⟨rfl, trivial⟩) ?_
      symm
      show _ = Value.int .i64 3
      congr 1
      exact ck_2 hn0 (chkOuts_at hnn hz hi (chkO_bad hnm hbad) (by decide)) (by decide)
     ·skip
      have hbad : badO d.outs i = false := by
       rw [badO_eq]
       unfold bo1
       rw [← gt0]
       exact hc4
      refine j_q (qs_add64 rfl rfl (by omega)) ?_
      refine j_subl (S' := [[(g0, .cells (dcells d x).toArray 28 (0, 0))], []]) (by repeat first | exact slR _ | exact slN _ | apply slC | apply slD) ?_
      refine j_back rfl ?_
      exact ⟨d.outs.length - (i + 1), by omega, i + 1, rfl, rfl, by omega, zero_snoc hz (chkO_ok hnm hbad), rfl⟩
   ·skip
    obtain rfl : i = d.outs.length := by
     simp only [bnA] at *
     omega
    have hO0 := outs_zero hnn hz
    refine j_q (qs_ac) ?_
    refine j_loop (fun m vs S' => ∃ i : Nat, vs = [.int .i64 (i : Int)] ∧ S' = [[(g0, .cells (dcells d x).toArray 28 (0, 0))], []] ∧ i ≤ d.ins.length ∧ (∀ j < i, chkI d.ins j = 0) ∧ m = d.ins.length - i) ⟨_, 0, rfl, rfl, Nat.zero_le _, (fun j hj => absurd hj (Nat.not_lt_zero _)), rfl⟩ ?_
    rintro m vs S' hlen ⟨i, rfl, rfl, hin, hz, rfl⟩
    refine j_q (qs_field U28 rfl sz24 (by decide) rfl) ?_
    refine j_q (qs_load (l := dcells d x) 0 U24 rfl rfl rfl (congrArg some hvi)) ?_
    refine j_q (qs_lenl U24 rfl) ?_
    refine j_q (qs_lss rfl rfl) ?_
    refine j_cond rfl (fun hc5 => ?_) (fun hc5 => ?_)
    ·skip
     have hi : i < x.mi.length := by
      simp only [bnA] at *
      omega
     obtain ⟨rfl, hgi, hcells⟩ := hAi (by omega)
     have hip := few.ip _ (hmem _ (getD_mem (d := m0) hi))
     simp only [MI.pi] at hip
     have hsx := h.io _ (getD_mem (d := m0) hi)
     obtain ⟨Ax, capx, hvx, hcapx⟩ := strz_form hsx
     have hone := MI.one hsx
     refine j_q (qs_field U28 rfl sz24 (by decide) rfl) ?_
     refine j_q (qs_load (l := dcells d x) 0 U24 rfl rfl rfl (congrArg some hvi)) ?_
     refine j_q (qs_ixn (g := gi) (off := offi) (i := i) U24 sz68 rfl rfl (by omega)) ?_
     refine j_q (qs_loadrecw (encA := encI) (rs := x.mi) (d := m0) (i := i) encI_len (rd_cells hcells (by simp)) hi U68 rfl sz68 rfl) ?_
     refine j_alloc zero68 (fun g96 hg96 hs96 => ?_)
     refine j_storew (vs := encI (x.mi.getD i m0)) 0 sz68 rfl rfl (encI_len _) hone rfl rfl ?_
     refine j_draw ?_
     refine jq_q (qs_field U68 rfl sz49 (by decide) rfl) ?_
     refine jq_q (qs_load 0 U49 rfl rfl rfl rfl) ?_
     refine jq_q (qs_call ent80 rfl rfl rfl (fun w' hw' => risDrv_con _ w' (by omega))) ?_
     refine jq_q (qs_not rfl) ?_
     refine jq_g rfl (fun hb => qs_mt rfl) ?_
     refine jq_g rfl (fun hb => qs_gtr (gd_eq hb) rfl) ?_
     refine jq_g rfl (fun hb => qs_move (gd_eq hb)) ?_
     refine jq_gg rfl (fun hb hb1 => qs_field U68 rfl sz49 (by decide) rfl) ?_
     refine jq_gg rfl (fun hb hb1 => qs_load 0 U49 rfl (gd_eq2 hb hb1) rfl rfl) ?_
     refine jq_gg rfl (fun hb hb1 => qs_field U28 rfl sz24 (by decide) rfl) ?_
     refine jq_gg rfl (fun hb1 hb2 => qs_load (l := dcells d x) 1 U24 rfl (gd_eq2 hb1 hb2) rfl (congrArg some hvi)) ?_
     refine jq_gg rfl (fun hb hb1 => qs_mt rfl) ?_
     refine jq_gg rfl (fun hb hb1 => qs_sub64 (gd_eq2 hb hb1) rfl (by omega)) ?_
     refine jq_gg rfl (fun hb1 hb2 => qs_ixm (g := gi) (off := offi) (i := i - 1) U24 sz68 (gd_eq2 hb1 hb2) (gd_eq2 hb1 hb2) (by simp only [bnA] at *; omega) (by omega)) ?_
     refine jq_gg rfl (fun hb hb1 => qs_field U68 rfl sz49 (by decide) (gd_eq2 hb hb1)) ?_
     refine jq_gg rfl (fun hb1 hb2 => qs_loadrec (v := .string (bs (x.mi.getD (i - 1) m0).drv)) (encA := encI) (rs := x.mi) (d := m0) (i := i - 1) (fo := 0) encI_len (rd_cells hcells (by simp)) (by omega) U49 rfl (gd_eq2 hb1 hb2) rfl) ?_
     refine jq_gg rfl (fun hb hb1 => qs_sleq (gd_eq2 hb hb1) (gd_eq2 hb hb1)) ?_
     refine jq_g rfl (fun hb => qs_and (gd_eq hb) (gd_eq hb)) ?_
     refine jq_q (qs_or rfl rfl) ?_
     refine jq_g rfl (fun hb => qs_field U68 rfl sz22 (by decide) rfl) ?_
     refine jq_g rfl (fun hb1 => qs_load 0 U22 rfl (gd_eq hb1) rfl (congrArg some hvx)) ?_
     refine jq_g rfl (fun hb => qs_lenl U22 (gd_eq hb)) ?_
     refine jq_g rfl (fun hb => qs_eql (gd_eq hb) rfl) ?_
     refine jq_q (qs_or rfl rfl) ?_
     refine jq_nil ?_
     refine j_cond rfl (fun hc6 => ?_) (fun hc6 => ?_)
     ·skip
      have hbad : badI d.ins i = true := by
       rw [h.im, ← bi_eq]
       exact hc6
      refine j_q (qs_ac) ?_
      refine j_ret_con (vs := [_]) (fun w' hw' => ⟨rfl, trivial⟩) ?_
      symm
      show _ = Value.int .i64 3
      congr 1
      exact ck_3 hn0 hO0 (by unfold chkIns; rw [firstE_at hz (by omega) (by rw [chkI_bad hbad]; decide), chkI_bad hbad]) (by decide)
     ·skip
      have hbad : badI d.ins i = false := by
       rw [h.im, ← bi_eq]
       exact hc6
      have hci := chkI_in hbad
      have hgd : d.ins.getD i i0 = (x.mi.getD i m0).pi := by rw [h.im, getD_pi]
      rw [hgd] at hci
      change chkI d.ins i = firstE (chkN (x.mi.getD i m0).outs) (x.mi.getD i m0).outs.length at hci
      refine j_q (qs_ac) ?_
      refine j_loop (fun m vs S' => ∃ k : Nat, vs = [.int .i64 (k : Int)] ∧ S' = [[(g96, .cells (encI (x.mi.getD i m0)).toArray 68 (0, 0))], [(g0, .cells (dcells d x).toArray 28 (0, 0))], []] ∧ k ≤ (x.mi.getD i m0).outs.length ∧ (∀ j < k, chkN (x.mi.getD i m0).outs j = 0) ∧ m = (x.mi.getD i m0).outs.length - k) ⟨_, 0, rfl, rfl, Nat.zero_le _, (fun j hj => absurd hj (Nat.not_lt_zero _)), rfl⟩ ?_
      rintro m vs S' hlen ⟨k, rfl, rfl, hkn, hzk, rfl⟩
      refine j_q (qs_field U68 rfl sz22 (by decide) rfl) ?_
      refine j_q (qs_load 0 U22 rfl rfl rfl (congrArg some hvx)) ?_
      refine j_q (qs_lenl U22 rfl) ?_
      refine j_q (qs_lss rfl rfl) ?_
      refine j_cond rfl (fun hc7 => ?_) (fun hc7 => ?_)
      ·skip
       have hk : k < (x.mi.getD i m0).outs.length := by
        simp only [bnA] at *
        omega
       obtain ⟨gx, offx, rfl, hgx, hcellx⟩ := strz_addr (hvx ▸ hsx) (by omega)
       have hl4 := hou _ (hmem _ (getD_mem (d := m0) hi)) _ (getD_mem (l := (x.mi.getD i m0).outs) (d := []) hk)
       refine j_q (qs_field U68 rfl sz22 (by decide) rfl) ?_
       refine j_q (qs_load 0 U22 rfl rfl rfl (congrArg some hvx)) ?_
       refine j_q (qs_ixm (g := gx) (off := offx) (i := k) U22 sz9 rfl rfl rfl (by omega)) ?_
       refine j_q (qs_loadrs (i := k) (rd_cells hcellx (by simp)) U9 (by rw [add_off, Nat.mul_one]; rfl) (by omega)) ?_
       refine j_q (qs_call ent59 rfl rfl rfl (fun w' hw' => risName_con _ w' (by omega))) ?_
       refine j_q (qs_not rfl) ?_
       refine j_cond rfl (fun hc8 => ?_) (fun hc8 => ?_)
       ·skip
        have hnm : isName ((x.mi.getD i m0).outs.getD k []) = false := by simpa using hc8
        refine j_q (qs_ac) ?_
        refine j_ret_con (vs := [_]) (fun w' hw' => ⟨rfl, trivial⟩) ?_
        symm
        show _ = Value.int .i64 9
        congr 1
        have h9 : chkI d.ins i = 9 := by rw [hci, firstE_at hzk hk (by rw [chkN_name hnm]; decide), chkN_name hnm]
        exact ck_3 hn0 hO0 (by unfold chkIns; rw [firstE_at hz (by omega) (by rw [h9]; decide), h9]) (by decide)
       ·skip
        have hnm : isName ((x.mi.getD i m0).outs.getD k []) = true := by simpa using hc8
        refine j_draw ?_
        refine jq_q (qs_gtr rfl rfl) ?_
        refine jq_g rfl (fun hb => qs_field U68 rfl sz22 (by decide) rfl) ?_
        refine jq_g rfl (fun hb1 => qs_load 0 U22 rfl (gd_eq hb1) rfl (congrArg some hvx)) ?_
        refine jq_g rfl (fun hb => qs_mt rfl) ?_
        refine jq_g rfl (fun hb1 => qs_ixm (g := gx) (off := offx) (i := k) U22 sz9 (gd_eq hb1) (gd_eq hb1) rfl (by omega)) ?_
        refine jq_g rfl (fun hb1 => qs_loadrs (i := k) (rd_cells hcellx (by simp)) U9 ((gd_eq hb1).trans (by rw [add_off, Nat.mul_one])) (by omega)) ?_
        refine jq_g rfl (fun hb => qs_field U68 rfl sz22 (by decide) rfl) ?_
        refine jq_g rfl (fun hb1 => qs_load 0 U22 rfl (gd_eq hb1) rfl (congrArg some hvx)) ?_
        refine jq_g rfl (fun hb => qs_mt rfl) ?_
        refine jq_g rfl (fun hb => qs_sub64 (gd_eq hb) rfl (by omega)) ?_
        refine jq_g rfl (fun hb1 => qs_ixm (g := gx) (off := offx) (i := k - 1) U22 sz9 (gd_eq hb1) (gd_eq hb1) (by simp only [bnA] at *; omega) (by omega)) ?_
        refine jq_g rfl (fun hb1 => qs_loadrs (i := k - 1) (rd_cells hcellx (by simp)) U9 ((gd_eq hb1).trans (by rw [add_off, Nat.mul_one])) (by omega)) ?_
        refine jq_g rfl (fun hb => qs_sleq (gd_eq hb) (gd_eq hb)) ?_
        refine jq_q (qs_and rfl rfl) ?_
        refine jq_nil ?_
        refine j_cond rfl (fun hc9 => ?_) (fun hc9 => ?_)
        ·skip
         rw [gt0] at hc9
         have hck := chkN_at hnm hc9
         refine j_q (qs_ac) ?_
         refine j_ret_con (vs := [_]) (fun w' hw' => ⟨rfl, trivial⟩) ?_
         symm
         show _ = Value.int .i64 3
         congr 1
         have h9 : chkI d.ins i = 3 := by rw [hci, firstE_at hzk hk (by rw [hck]; decide), hck]; rfl
         exact ck_3 hn0 hO0 (by unfold chkIns; rw [firstE_at hz (by omega) (by rw [h9]; decide), h9]) (by decide)
        ·skip
         rw [gt0] at hc9
         have hck := chkN_at hnm hc9
         refine j_q (qs_add64 rfl rfl (by omega)) ?_
         refine j_back rfl ?_
         exact ⟨(x.mi.getD i m0).outs.length - (k + 1), by omega, k + 1, rfl, rfl, by omega, zero_snoc hzk hck, rfl⟩
      ·skip
       obtain rfl : k = (x.mi.getD i m0).outs.length := by
        simp only [bnA] at *
        omega
       have hc0' : chkI d.ins i = 0 := by rw [hci]; exact firstE_zero hzk
       refine j_q (qs_add64 rfl rfl (by omega)) ?_
       refine j_subl (S' := [[(g0, .cells (dcells d x).toArray 28 (0, 0))], []]) (by repeat first | exact slR _ | exact slN _ | apply slC | apply slD) ?_
       refine j_back rfl ?_
       exact ⟨d.ins.length - (i + 1), by omega, i + 1, rfl, rfl, by omega, zero_snoc hz hc0', rfl⟩
    ·skip
     obtain rfl : i = d.ins.length := by
      simp only [bnA] at *
      omega
     have hI0 : chkIns d.ins = 0 := by unfold chkIns; exact firstE_zero hz
     refine j_q (qs_ac) ?_
     refine j_loop (fun m vs S' => ∃ i : Nat, vs = [.int .i64 (i : Int)] ∧ S' = [[(g0, .cells (dcells d x).toArray 28 (0, 0))], []] ∧ i ≤ d.srcs.length ∧ (∀ j < i, chkS d.srcs j = 0) ∧ m = d.srcs.length - i) ⟨_, 0, rfl, rfl, Nat.zero_le _, (fun j hj => absurd hj (Nat.not_lt_zero _)), rfl⟩ ?_
     rintro m vs S' hlen ⟨i, rfl, rfl, hin, hz, rfl⟩
     refine j_q (qs_field U28 rfl sz25 (by decide) rfl) ?_
     refine j_q (qs_load (l := dcells d x) 0 U25 rfl rfl rfl (congrArg some hvs)) ?_
     refine j_q (qs_lenl U25 rfl) ?_
     refine j_q (qs_lss rfl rfl) ?_
     refine j_cond rfl (fun hc10 => ?_) (fun hc10 => ?_)
     ·skip
      have hi : i < d.srcs.length := by
       simp only [bnA] at *
       omega
      obtain ⟨gs, offs, rfl, hgs, hcells⟩ := strz_addr (hvs ▸ h.s) (by omega)
      have hsl := few.sr _ (getD_mem (d := []) hi)
      refine j_draw ?_
      refine jq_q (qs_field U28 rfl sz25 (by decide) rfl) ?_
      refine jq_q (qs_load (l := dcells d x) 0 U25 rfl rfl rfl (congrArg some hvs)) ?_
      refine jq_q (qs_ixm (g := gs) (off := offs) (i := i) U25 sz49 rfl rfl rfl (by omega)) ?_
      refine jq_q (qs_loadrs (i := i) (rd_cells hcells (by simp)) U49 (by rw [add_off, Nat.mul_one]; rfl) (by omega)) ?_
      refine jq_q (qs_call ent24 rfl rfl rfl (fun w' hw' => isP_con _ w' (by omega))) ?_
      refine jq_q (qs_not rfl) ?_
      refine jq_g rfl (fun hb => qs_mt rfl) ?_
      refine jq_g rfl (fun hb => qs_gtr (gd_eq hb) rfl) ?_
      refine jq_g rfl (fun hb => qs_move (gd_eq hb)) ?_
      refine jq_gg rfl (fun hb hb1 => qs_field U28 rfl sz25 (by decide) rfl) ?_
      refine jq_gg rfl (fun hb1 hb2 => qs_load (l := dcells d x) 0 U25 rfl (gd_eq2 hb1 hb2) rfl (congrArg some hvs)) ?_
      refine jq_gg rfl (fun hb hb1 => qs_mt rfl) ?_
      refine jq_gg rfl (fun hb1 hb2 => qs_ixm (g := gs) (off := offs) (i := i) U25 sz49 (gd_eq2 hb1 hb2) (gd_eq2 hb1 hb2) rfl (by omega)) ?_
      refine jq_gg rfl (fun hb1 hb2 => qs_loadrs (i := i) (rd_cells hcells (by simp)) U49 ((gd_eq2 hb1 hb2).trans (by rw [add_off, Nat.mul_one])) (by omega)) ?_
      refine jq_gg rfl (fun hb hb1 => qs_field U28 rfl sz25 (by decide) rfl) ?_
      refine jq_gg rfl (fun hb1 hb2 => qs_load (l := dcells d x) 0 U25 rfl (gd_eq2 hb1 hb2) rfl (congrArg some hvs)) ?_
      refine jq_gg rfl (fun hb hb1 => qs_mt rfl) ?_
      refine jq_gg rfl (fun hb hb1 => qs_sub64 (gd_eq2 hb hb1) rfl (by omega)) ?_
      refine jq_gg rfl (fun hb1 hb2 => qs_ixm (g := gs) (off := offs) (i := i - 1) U25 sz49 (gd_eq2 hb1 hb2) (gd_eq2 hb1 hb2) (by simp only [bnA] at *; omega) (by omega)) ?_
      refine jq_gg rfl (fun hb1 hb2 => qs_loadrs (i := i - 1) (rd_cells hcells (by simp)) U49 ((gd_eq2 hb1 hb2).trans (by rw [add_off, Nat.mul_one])) (by omega)) ?_
      refine jq_gg rfl (fun hb hb1 => qs_sleq (gd_eq2 hb hb1) (gd_eq2 hb hb1)) ?_
      refine jq_g rfl (fun hb => qs_and (gd_eq hb) (gd_eq hb)) ?_
      refine jq_q (qs_or rfl rfl) ?_
      refine jq_nil ?_
      refine j_cond rfl (fun hc11 => ?_) (fun hc11 => ?_)
      ·skip
       have hcs := chkS_at hc11
       refine j_q (qs_ac) ?_
       refine j_ret_con (vs := [_]) (fun w' hw' => ⟨rfl, trivial⟩) ?_
       symm
       show _ = Value.int .i64 3
       congr 1
       exact ck_4 hn0 hO0 hI0 (by rw [firstE_at hz hi (by rw [hcs]; decide), hcs]; rfl) (by decide)
      ·skip
       have hcs := chkS_at hc11
       refine j_q (qs_add64 rfl rfl (by omega)) ?_
       refine j_back rfl ?_
       exact ⟨d.srcs.length - (i + 1), by omega, i + 1, rfl, rfl, by omega, zero_snoc hz hcs, rfl⟩
     ·skip
      obtain rfl : i = d.srcs.length := by
       simp only [bnA] at *
       omega
      have hS0 := firstE_zero hz
      refine j_q (qs_ac) ?_
      refine j_loop (fun m vs S' => ∃ i : Nat, vs = [.int .i64 (i : Int)] ∧ S' = [[(g0, .cells (dcells d x).toArray 28 (0, 0))], []] ∧ i ≤ d.env.length ∧ (∀ j < i, chkV d.env j = 0) ∧ m = d.env.length - i) ⟨_, 0, rfl, rfl, Nat.zero_le _, (fun j hj => absurd hj (Nat.not_lt_zero _)), rfl⟩ ?_
      rintro m vs S' hlen ⟨i, rfl, rfl, hin, hz, rfl⟩
      refine j_q (qs_field U28 rfl sz23 (by decide) rfl) ?_
      refine j_q (qs_load (l := dcells d x) 0 U23 rfl rfl rfl (congrArg some hve)) ?_
      refine j_q (qs_lenl U23 rfl) ?_
      refine j_q (qs_lss rfl rfl) ?_
      refine j_cond rfl (fun hc12 => ?_) (fun hc12 => ?_)
      ·skip
       have hi : i < d.env.length := by
        simp only [bnA] at *
        omega
       obtain ⟨rfl, hge, hcells⟩ := hAe (by omega)
       have hsl := few.ev _ (getD_mem (d := v0) hi)
       refine j_draw ?_
       refine jq_q (qs_field U28 rfl sz23 (by decide) rfl) ?_
       refine jq_q (qs_load (l := dcells d x) 0 U23 rfl rfl rfl (congrArg some hve)) ?_
       refine jq_q (qs_ixm (g := ge) (off := offe) (i := i) U23 sz48 rfl rfl rfl (by omega)) ?_
       refine jq_q (qs_field U48 rfl sz9 (by decide) rfl) ?_
       refine jq_q (qs_loadrec (v := .string (bs (d.env.getD i v0).name)) (encA := encV) (rs := d.env) (d := v0) (i := i) (fo := 0) encV_len (rd_cells hcells (by simp)) (by omega) U9 rfl rfl rfl) ?_
       refine jq_q (qs_seql (l' := []) rfl rfl) ?_
       refine jq_g rfl (fun hb => qs_mt rfl) ?_
       refine jq_g rfl (fun hb => qs_gtr (gd_eq hb) rfl) ?_
       refine jq_g rfl (fun hb => qs_move (gd_eq hb)) ?_
       refine jq_gg rfl (fun hb hb1 => qs_field U28 rfl sz23 (by decide) rfl) ?_
       refine jq_gg rfl (fun hb1 hb2 => qs_load (l := dcells d x) 0 U23 rfl (gd_eq2 hb1 hb2) rfl (congrArg some hve)) ?_
       refine jq_gg rfl (fun hb hb1 => qs_mt rfl) ?_
       refine jq_gg rfl (fun hb1 hb2 => qs_ixm (g := ge) (off := offe) (i := i) U23 sz48 (gd_eq2 hb1 hb2) (gd_eq2 hb1 hb2) rfl (by omega)) ?_
       refine jq_gg rfl (fun hb hb1 => qs_field U48 rfl sz9 (by decide) (gd_eq2 hb hb1)) ?_
       refine jq_gg rfl (fun hb1 hb2 => qs_loadrec (v := .string (bs (d.env.getD i v0).name)) (encA := encV) (rs := d.env) (d := v0) (i := i) (fo := 0) encV_len (rd_cells hcells (by simp)) (by omega) U9 rfl (gd_eq2 hb1 hb2) rfl) ?_
       refine jq_gg rfl (fun hb hb1 => qs_field U28 rfl sz23 (by decide) rfl) ?_
       refine jq_gg rfl (fun hb1 hb2 => qs_load (l := dcells d x) 0 U23 rfl (gd_eq2 hb1 hb2) rfl (congrArg some hve)) ?_
       refine jq_gg rfl (fun hb hb1 => qs_mt rfl) ?_
       refine jq_gg rfl (fun hb hb1 => qs_sub64 (gd_eq2 hb hb1) rfl (by omega)) ?_
       refine jq_gg rfl (fun hb1 hb2 => qs_ixm (g := ge) (off := offe) (i := i - 1) U23 sz48 (gd_eq2 hb1 hb2) (gd_eq2 hb1 hb2) (by simp only [bnA] at *; omega) (by omega)) ?_
       refine jq_gg rfl (fun hb hb1 => qs_field U48 rfl sz9 (by decide) (gd_eq2 hb hb1)) ?_
       refine jq_gg rfl (fun hb1 hb2 => qs_loadrec (v := .string (bs (d.env.getD (i - 1) v0).name)) (encA := encV) (rs := d.env) (d := v0) (i := i - 1) (fo := 0) encV_len (rd_cells hcells (by simp)) (by omega) U9 rfl (gd_eq2 hb1 hb2) rfl) ?_
       refine jq_gg rfl (fun hb hb1 => qs_sleq (gd_eq2 hb hb1) (gd_eq2 hb hb1)) ?_
       refine jq_g rfl (fun hb => qs_and (gd_eq hb) (gd_eq hb)) ?_
       refine jq_q (qs_or rfl rfl) ?_
       refine jq_nil ?_
       refine j_cond rfl (fun hc13 => ?_) (fun hc13 => ?_)
       ·skip
        have hcs := chkV_at hc13
        refine j_q (qs_ac) ?_
        refine j_ret_con (vs := [_]) (fun w' hw' => ⟨rfl, trivial⟩) ?_
        symm
        show _ = Value.int .i64 3
        congr 1
        exact ck_5 hn0 hO0 hI0 hS0 (by rw [firstE_at hz hi (by rw [hcs]; decide), hcs]; rfl)
       ·skip
        have hcs := chkV_at hc13
        refine j_q (qs_add64 rfl rfl (by omega)) ?_
        refine j_back rfl ?_
        exact ⟨d.env.length - (i + 1), by omega, i + 1, rfl, rfl, by omega, zero_snoc hz hcs, rfl⟩
      ·skip
       obtain rfl : i = d.env.length := by
        simp only [bnA] at *
        omega
       have hV0 := firstE_zero hz
       refine j_q (qs_ac) ?_
       refine j_ret_con (vs := [_]) (fun w' hw' => ⟨rfl, trivial⟩) ?_
       symm
       show _ = Value.int .i64 0
       congr 1
       exact ck_5 hn0 hO0 hI0 hS0 hV0
theorem rcheck_con (d : PD) (x : DV) (w : World) (h : DR w d x) (hb : big2 d ≤ 200000) (hou : ∀ y ∈ d.ins, ∀ o ∈ y.outs, o.length ≤ 9223372036854775807) : Con Tryz.prog 16 [dval d x] w [] fun v _ => v = .int .i64 (chk d) := by
 refine con_of_tree mix Tryz.func16 T16_ok (by kernel_rfl) ?_
 unfold T16
 refine j_box (l := dcells d x) rfl (fun g0 hg0 hs0 => ?_)
 refine j_q (qs_ac) ?_
 refine j_q (qs_loadw (l := dcells d x) 0 U28 rfl sz28 rfl rfl rfl) ?_
 refine j_q (qs_call ent42 rfl rfl rfl (fun w' hw' => rcheck0_con d x w' (h.keep hw') hb hou)) ?_
 refine j_q (qs_neq rfl rfl) ?_
 refine j_cond rfl (fun hc0 => ?_) (fun hc0 => ?_)
 ·skip
  have hck : chk0 d ≠ 0 := by simpa using hc0
  refine j_ret_con (vs := [_]) (fun w' hw' => ⟨rfl, trivial⟩) ?_
  rw [chk_of, if_pos hck]
  rfl
 ·skip
  have hck : chk0 d = 0 := by simpa using hc0
  refine j_q (qs_loadw (l := dcells d x) 0 U28 rfl sz28 rfl rfl rfl) ?_
  refine j_call0 ent37 rfl rfl rfl (fun w' hw' => rdtext_con d x w' (h.keep hw') (tb_of (chk0_parts hck).2.2.2.1 hb)) (fun u S2 hu => ?_)
  obtain ⟨ct, rfl, hot⟩ := hu
  obtain ⟨nt, At, capt, rfl, hnt⟩ := own_form hot (by decide)
  rw [ints_length, Nat.mul_one] at hnt
  subst hnt
  refine j_q (qs_lenl U46 rfl) ?_
  refine j_q (qs_gtr rfl rfl) ?_
  refine j_cond rfl (fun hc1 => ?_) (fun hc1 => ?_)
  ·skip
   refine j_q (qs_ac) ?_
   refine j_ret_con (vs := [_]) (fun w' hw' => ⟨rfl, trivial⟩) ?_
   rw [chk_of, if_neg (by simp [hck]), if_pos (by simp only [bnA] at *; omega)]
   rfl
  ·skip
   refine j_q (qs_ac) ?_
   refine j_ret_con (vs := [_]) (fun w' hw' => ⟨rfl, trivial⟩) ?_
   rw [chk_of, if_neg (by simp [hck]), if_neg (by simp only [bnA] at *; omega)]
   rfl
theorem rprint_con (d : PD) (x : DV) (w : World) (h : DR w d x) (hb : big2 d ≤ 200000) (hou : ∀ y ∈ d.ins, ∀ o ∈ y.outs, o.length ≤ 9223372036854775807) : Con Tryz.prog 14 [dval d x] w [] fun v _ => v = .tuple #[.string (bs (prS d)), .int .i64 (chk d)] := by
 refine con_of_tree mix Tryz.func14 T14_ok (by kernel_rfl) ?_
 unfold T14
 refine j_box (l := dcells d x) rfl (fun g0 hg0 hs0 => ?_)
 refine j_q (qs_ac) ?_
 refine j_q (qs_ac) ?_
 refine j_q (qs_loadw (l := dcells d x) 0 U28 rfl sz28 rfl rfl rfl) ?_
 refine j_q (qs_call ent16 rfl rfl rfl (fun w' hw' => rcheck_con d x w' (h.keep hw') hb hou)) ?_
 refine j_q (qs_neq rfl rfl) ?_
 refine j_cond rfl (fun hc0 => ?_) (fun hc0 => ?_)
 ·skip
  have hck : chk d ≠ 0 := by simpa using hc0
  refine j_q (qs_ac) ?_
  refine j_ret_con (vs := [_, _]) (fun w' hw' => ⟨rfl, rfl, trivial⟩) ?_
  show Value.tuple #[_, _] = _
  unfold prS
  rw [if_neg hck]
  rfl
 ·skip
  have hck : chk d = 0 := by simpa using hc0
  refine j_q (qs_loadw (l := dcells d x) 0 U28 rfl sz28 rfl rfl rfl) ?_
  refine j_call0 ent37 rfl rfl rfl (fun w' hw' => rdtext_con d x w' (h.keep hw') (tb_chk hck hb)) (fun u S2 hu => ?_)
  obtain ⟨ct, rfl, hot⟩ := hu
  obtain ⟨nt, At, capt, rfl, hnt⟩ := own_form hot (by decide)
  rw [ints_length, Nat.mul_one] at hnt
  subst hnt
  refine j_q (qs_stro 0 U46 U5 U9 hot rfl) ?_
  refine j_q (qs_ac) ?_
  refine j_ret_con (vs := [_, _]) (fun w' hw' => ⟨rfl, rfl, trivial⟩) ?_
  show Value.tuple #[_, _] = _
  unfold prS
  rw [if_pos hck, hck]
  rfl
end Go.Proofs.YtfeabbeebkkhaaaGreat
/-! Dv13 -/
namespace Go.Proofs.YtfeabbeebkkhaaaGreat
open Go Go.Sx
set_option maxRecDepth 100000
set_option maxHeartbeats 4000000
set_option linter.unusedVariables false
set_option linter.unusedSimpArgs false
attribute [local irreducible] J JQ QS Con W opW
attribute [local irreducible] es qt cms hex Tbl Half lst isName isPath isDrvP leB chkO chkOuts chkN chkI chkIns firstE spA spB spE chkS chkV dtext chk chk0 tTs dshow big1 big2 heavyP
end Go.Proofs.YtfeabbeebkkhaaaGreat
/-! Dv34 -/
namespace Go.Proofs.YtfeabbeebkkhaaaGreat
open Go Go.Sx
set_option maxRecDepth 100000
set_option maxHeartbeats 4000000
set_option linter.unusedVariables false
set_option linter.unusedSimpArgs false
attribute [local irreducible] J JQ QS Con W opW
theorem heavy4_no {d : PD} {b : Bool} (h : (heavyP d || b) = false) : big1 d ≤ 4000 ∧ big2 d ≤ 16000 := by
 unfold heavyP at h
 simp only [Bool.or_eq_false_iff, decide_eq_false_iff_not] at h
 omega
theorem fill_ok {M : HM} {d : PD} (h : fillE M d = 0) : fillR M d = fillD M d := by unfold fillR; rw [if_pos h]
theorem outs3 {d : PD} (h : chk d = 0) : ∀ y ∈ d.ins, ∀ o ∈ y.outs, o.length ≤ 80 := by
 intro y hy o ho
 exact chkI_outs (chk0_parts (chk_zero h)).2.2.2.1 y hy o ho
theorem tb_mask {M : HM} {d : PD} (hb : big2 d ≤ 16000) : chk d = 0 → TB (masked M d) := fun h => tb_masked (chk_zero h) hb
attribute [local irreducible] es qt cms hex sum Tbl Half lst isName isPath isDrvP leB chkO chkOuts chkN chkI chkIns firstE spA spB spE chkS chkV dtext chk chk0 tTs modE modH fixT isFix hget mIv mkP mkE outP outE oP oE fVv dshow big1 big2 heavyP fillE fillR fillD
end Go.Proofs.YtfeabbeebkkhaaaGreat
/-! Dv35 -/
namespace Go.Proofs.YtfeabbeebkkhaaaGreat
open Go Go.Sx
set_option maxRecDepth 100000
set_option maxHeartbeats 4000000
set_option linter.unusedVariables false
set_option linter.unusedSimpArgs false
attribute [local irreducible] J JQ QS Con W opW
attribute [local irreducible] es qt cms hex sum Tbl Half lst isName isPath isDrvP leB chkO chkOuts chkN chkI chkIns firstE spA spB spE chkS chkV dtext chk chk0 tTs modE modH fixT isFix hget mIv mkP mkE outP outE oP oE fVv dshow big1 big2 heavyP fillE fillR fillD
end Go.Proofs.YtfeabbeebkkhaaaGreat
/-! Dv36 -/
namespace Go.Proofs.YtfeabbeebkkhaaaGreat
open Go Go.Sx
set_option maxRecDepth 100000
set_option maxHeartbeats 4000000
set_option linter.unusedVariables false
set_option linter.unusedSimpArgs false
attribute [local irreducible] J JQ QS Con W opW
open Go.MapKept Go.WideMaps Go.Maps
def refsP (d : PD) : List Bs := if chk d = 0 then rise (d.ins.map PI.drv ++ d.srcs) else []
def pathV (d : PD) : Value := if chk d = 0 then withV kText (sum (dtext d)) (refsP d) (d.name ++ sDrv) else .tuple #[.string (bs []), .int .i64 (chk d)]
theorem mset_mem {m : List (Bs × Value)} {k : Bs} {v : Value} (x : Bs) : x ∈ (mset m k v).map Prod.fst ↔ x ∈ m.map Prod.fst ∨ x = k := by
 unfold mset
 by_cases h : (mlook m k).isSome = true
 ·rw [if_pos h, mput_keys]
  constructor
  ·exact .inl
  ·rintro (h1 | rfl)
   ·exact h1
   ·obtain ⟨v', hv⟩ := Option.isSome_iff_exists.1 h
    exact List.mem_map_of_mem (f := Prod.fst) (mlook_some hv)
 ·rw [if_neg h, List.map_append, List.mem_append]
  simp
theorem mset_le (m : List (Bs × Value)) (k : Bs) (v : Value) : (mset m k v).length ≤ m.length + 1 := by
 unfold mset
 split
 ·unfold mput; simp
 ·simp
theorem refs_in {x : DV} {d : PD} (h : d.ins = x.mi.map MI.pi) : d.ins.map PI.drv = x.mi.map MI.drv := by
 rw [h, List.map_map]
 rfl
theorem take_mem {α : Type} (f : α → Bs) {l : List α} {i : Nat} (d : α) (hi : i < l.length) (x : Bs) : x ∈ (l.take (i + 1)).map f ↔ x ∈ (l.take i).map f ∨ x = f (l.getD i d) := by
 rw [take_map_snoc f (d := d) hi, List.mem_append, List.mem_singleton]
theorem refsP_len (d : PD) : (refsP d).length ≤ d.ins.length + d.srcs.length := by
 unfold refsP
 split
 ·have := rise_len (d.ins.map PI.drv ++ d.srcs)
  rw [List.length_append, List.length_map] at this
  exact this
 ·simp
theorem refsP_mem {d : PD} (h : chk d = 0) (x : Bs) : x ∈ refsP d ↔ x ∈ d.ins.map PI.drv ∨ x ∈ d.srcs := by
 unfold refsP
 rw [if_pos h, rise_mem, List.mem_append]
theorem refsP_le {d : PD} (hb : big2 d ≤ 200000) : ∀ r ∈ refsP d, r.length ≤ 200000 := fun r hr => by
 have few := few_of hb
 by_cases hc : chk d = 0
 ·rcases (refsP_mem hc r).1 hr with h | h
  ·obtain ⟨y, hy, rfl⟩ := List.mem_map.1 h
   have := few.ip y hy
   omega
  ·exact few.sr r h
 ·unfold refsP at hr
  rw [if_neg hc] at hr
  cases hr
theorem refs_big {d : PD} (hb : big2 d ≤ 200000) : d.ins.length + d.srcs.length ≤ 20000 := by
 unfold big2 big1 at hb
 omega
attribute [local irreducible] es qt cms hex sum Tbl Half lst isName isPath isDrvP leB chkO chkOuts chkN chkI chkIns firstE spA spB spE chkS chkV dtext chk chk0 tTs modE modH fixT isFix hget mIv mkP mkE outP outE oP oE fVv dshow big1 big2 heavyP fillE fillR fillD rise sortS cp withP withE refsP prS
theorem dref_con (d : PD) (x : DV) (w : World) (h : DR w d x) (hb : big2 d ≤ 200000) (hou : ∀ y ∈ d.ins, ∀ o ∈ y.outs, o.length ≤ 9223372036854775807) : Con Tryz.prog 26 [dval d x] w [] fun u S' => ∃ c, S' = [c] ∧ Sx.Own 49 1 (strs (refsP d)) u c := by
 refine con_of_tree mix Tryz.func26 T26_ok (by kernel_rfl) ?_
 unfold T26
 have few := few_of hb
 have few6 := few.li
 have few8 := few.ls
 have hni : d.ins.length = x.mi.length := by rw [h.im, List.length_map]
 have hmem : ∀ m ∈ x.mi, m.pi ∈ d.ins := fun m hm => by rw [h.im]; exact List.mem_map_of_mem hm
 obtain ⟨Ai, capi, gi, offi, hvi, hcapi, hAi⟩ := rsln_form h.i
 obtain ⟨As, caps, hvs, hcaps⟩ := strz_form h.s
 refine j_box (l := dcells d x) rfl (fun g0 hg0 hs0 => ?_)
 refine j_q (qs_ac) ?_
 refine j_q (qs_loadw 0 U28 rfl sz28 rfl rfl rfl) ?_
 refine j_q (qs_call ent15 rfl rfl rfl (fun w' hw' => dcheck_con d x w' (h.keep hw') hb hou)) ?_
 refine j_q (qs_neq rfl rfl) ?_
 refine j_cond rfl (fun hc0 => ?_) (fun hc0 => ?_)
 ·skip
  have hck : chk d ≠ 0 := by simpa using hc0
  refine j_q (qs_ac) ?_
  refine j_subl (S' := [[]]) (by repeat first | exact slR _ | exact slN _ | apply slC | apply slD) ?_
  refine j_ret_con (vs := [_]) (fun w' hw' => ⟨rfl, trivial⟩) ?_
  exact ⟨[], rfl, by unfold refsP; rw [if_neg hck]; exact own_nil⟩
 ·skip
  have hck : chk d = 0 := by simpa using hc0
  refine j_mkmap (fun g6 hg6 => ?_)
  refine j_q (qs_field U28 rfl sz24 (by decide) rfl) ?_
  refine j_q (qs_load (l := dcells d x) (v := .slice Ai x.mi.length capi) 1 U24 rfl rfl rfl (congrArg some hvi)) ?_
  refine j_q (qs_lenl U24 rfl) ?_
  refine j_q (qs_mc) ?_
  refine j_loop (fun m vs S' => ∃ (i : Nat) (es : Array MapEntry) (clock : Nat) (mm : List (Bs × Value)), vs = [.int .i64 (i : Int)] ∧ S' = [[(g6, .map es clock)], [(g0, .cells (dcells d x).toArray 28 (0, 0))], []] ∧ MapOk strEnc strOk es clock mm ∧ (∀ k, k ∈ mm.map Prod.fst ↔ k ∈ (x.mi.take i).map MI.drv) ∧ mm.length ≤ i ∧ i ≤ x.mi.length ∧ m = x.mi.length - i) ⟨_, 0, #[], 0, [], rfl, rfl, mapOk_nil, (fun k => by simp), Nat.le_refl _, Nat.zero_le _, rfl⟩ ?_
  rintro m vs S' hlen ⟨i, es, clock, mm, rfl, rfl, hmap, hk, hl, hin, rfl⟩
  refine j_q (qs_lss rfl rfl) ?_
  refine j_cond rfl (fun hc1 => ?_) (fun hc1 => ?_)
  ·skip
   have hi : i < x.mi.length := by
    simp only [bnA] at *
    omega
   obtain ⟨rfl, hgi, hcells⟩ := hAi (by omega)
   have hip := few.ip _ (hmem _ (getD_mem (d := m0) hi))
   simp only [MI.pi] at hip
   refine j_q (qs_ixn (g := gi) (off := offi) (i := i) U24 sz68 rfl rfl (by omega)) ?_
   refine j_q (qs_loadrecw (encA := encI) (rs := x.mi) (d := m0) (i := i) encI_len (rd_cells hcells (by simp)) hi U68 rfl sz68 rfl) ?_
   refine j_alloc zero68 (fun g14 hg14 hs14 => ?_)
   refine j_storew (vs := encI (x.mi.getD i m0)) 0 sz68 rfl rfl (encI_len _) (MI.one (h.io _ (getD_mem hi))) rfl rfl ?_
   refine j_q (qs_field U68 rfl sz49 (by decide) rfl) ?_
   refine j_q (qs_load (l := encI (x.mi.getD i m0)) (v := .string (bs (x.mi.getD i m0).drv)) 0 U49 rfl rfl rfl rfl) ?_
   refine j_mapset pk49 1 U106 rfl (key := (x.mi.getD i m0).drv) (val := .bool true) rfl rfl rfl hmap (by unfold strOk; omega) (fun es2 cl2 hmap2 => ?_)
   have hl2 := mset_le mm (x.mi.getD i m0).drv (.bool true)
   refine j_subl (S' := [[(g6, .map es2 cl2)], [(g0, .cells (dcells d x).toArray 28 (0, 0))], []]) (by repeat first | exact slR _ | exact slN _ | apply slC | apply slD) ?_
   refine j_q (qs_add64 rfl rfl (by omega)) ?_
   refine j_back rfl ?_
   exact ⟨x.mi.length - (i + 1), by omega, i + 1, es2, cl2, _, rfl, rfl, hmap2, (fun k => by rw [mset_mem, hk, take_mem MI.drv m0 hi]), by omega, by omega, rfl⟩
  ·skip
   obtain rfl : i = x.mi.length := by
    simp only [bnA] at *
    omega
   rw [List.take_length] at hk
   refine j_q (qs_field U28 rfl sz25 (by decide) rfl) ?_
   refine j_q (qs_load (l := dcells d x) (v := .slice As d.srcs.length caps) 1 U25 rfl rfl rfl (congrArg some hvs)) ?_
   refine j_q (qs_lenl U25 rfl) ?_
   refine j_q (qs_mc) ?_
   refine j_loop (fun m vs S' => ∃ (i : Nat) (es : Array MapEntry) (clock : Nat) (mm : List (Bs × Value)), vs = [.int .i64 (i : Int)] ∧ S' = [[(g6, .map es clock)], [(g0, .cells (dcells d x).toArray 28 (0, 0))], []] ∧ MapOk strEnc strOk es clock mm ∧ (∀ k, k ∈ mm.map Prod.fst ↔ k ∈ x.mi.map MI.drv ∨ k ∈ d.srcs.take i) ∧ mm.length ≤ x.mi.length + i ∧ i ≤ d.srcs.length ∧ m = d.srcs.length - i) ⟨_, 0, es, clock, mm, rfl, rfl, hmap, (fun k => by rw [hk]; simp), hl, Nat.zero_le _, rfl⟩ ?_
   rintro m vs S' hlen ⟨i, es, clock, mm, rfl, rfl, hmap, hk, hl, hin, rfl⟩
   refine j_q (qs_lss rfl rfl) ?_
   refine j_cond rfl (fun hc2 => ?_) (fun hc2 => ?_)
   ·skip
    have hi : i < d.srcs.length := by
     simp only [bnA] at *
     omega
    obtain ⟨gs, offs, rfl, hgs, hcells⟩ := strz_addr (hvs ▸ h.s) (by omega)
    have hsl := few.sr _ (getD_mem (d := []) hi)
    refine j_q (qs_ixl0 U25 sz49 rfl rfl (by omega)) ?_
    refine j_q (qs_loadrs (rd_cells hcells (by simp)) U49 rfl (by simp only [Int.toNat_natCast]; omega)) ?_
    simp only [Int.toNat_natCast]
    refine j_mapset pk49 0 U106 rfl (key := (d.srcs.getD i [])) (val := .bool true) rfl rfl rfl hmap (by unfold strOk; omega) (fun es2 cl2 hmap2 => ?_)
    have hl2 := mset_le mm (d.srcs.getD i []) (.bool true)
    refine j_subl (S' := [[(g6, .map es2 cl2)], [(g0, .cells (dcells d x).toArray 28 (0, 0))], []]) (by repeat first | exact slR _ | exact slN _ | apply slC | apply slD) ?_
    refine j_q (qs_add64 rfl rfl (by omega)) ?_
    refine j_back rfl ?_
    exact ⟨d.srcs.length - (i + 1), by omega, i + 1, es2, cl2, _, rfl, rfl, hmap2, (fun k => by rw [mset_mem, hk, or_assoc]; rw [show d.srcs.take (i + 1) = d.srcs.take i ++ [d.srcs.getD i []] from take_snoc hi, List.mem_append, List.mem_singleton]), by omega, by omega, rfl⟩
   ·skip
    obtain rfl : i = d.srcs.length := by
     simp only [bnA] at *
     omega
    rw [List.take_length] at hk
    refine j_call0 ent57 rfl rfl rfl (fun w' hw' => keys_con (some g6) w') (fun u S2 hu => ?_)
    obtain ⟨gk, rfl, rfl⟩ := hu
    refine j_call0 ent56 rfl rfl rfl (fun w' hw' => sortedKeys_con gk g6 w' (lt_of_get (hw'.at_ (k := 0) rfl)) (by rw [cell_of (hw'.at_ (k := 0) rfl)]; rfl) (hw'.map_at (k := 1) rfl) hmap (by omega)) (fun u S2 hu => ?_)
    obtain ⟨c30, zs, rfl, ho30, hst, hzs⟩ := hu
    refine j_subl (S' := [c30]) (by repeat first | exact slR _ | exact slN _ | apply slC | apply slD) ?_
    refine j_ret_con (vs := [_]) (fun w' hw' => ⟨rfl, trivial⟩) ?_
    refine ⟨c30, rfl, ?_⟩
    have e : refsP d = zs := by
     unfold refsP
     rw [if_pos hck, refs_in h.im]
     exact (rise_eq hst (fun y => by rw [hzs, hk, List.mem_append])).symm
    rw [e]
    exact ho30
theorem dpath_con (d : PD) (x : DV) (w : World) (h : DR w d x) (hb : big2 d ≤ 200000) (hou : ∀ y ∈ d.ins, ∀ o ∈ y.outs, o.length ≤ 9223372036854775807) : Con Tryz.prog 28 [dval d x] w [] fun u _ => u = pathV d := by
 refine con_of_tree mix Tryz.func28 T28_ok (by kernel_rfl) ?_
 unfold T28
 have few := few_of hb
 have few1 := few.nm
 have hrl := refsP_len d
 have hrb := refs_big hb
 refine j_box (l := dcells d x) rfl (fun g0 hg0 hs0 => ?_)
 refine j_q (qs_ac) ?_
 refine j_q (qs_ac) ?_
 refine j_q (qs_loadw (l := dcells d x) 0 U28 rfl sz28 rfl rfl rfl) ?_
 refine j_q (qs_call ent13 rfl rfl rfl (fun w' hw' => dprint_con d x w' (h.keep hw') hb hou)) ?_
 refine j_q (qs_ext (vs := [.string (bs (prS d)), .int .i64 (chk d)]) rfl rfl) ?_
 refine j_q (qs_ext (vs := [.string (bs (prS d)), .int .i64 (chk d)]) rfl rfl) ?_
 refine j_q (qs_neq rfl rfl) ?_
 refine j_cond rfl (fun hc0 => ?_) (fun hc0 => ?_)
 ·skip
  have hck : chk d ≠ 0 := by simpa using hc0
  refine j_q (qs_ac) ?_
  refine j_ret_con (vs := [_, _]) (fun w' hw' => ⟨rfl, rfl, trivial⟩) ?_
  show Value.tuple #[_, _] = _
  unfold pathV
  rw [if_neg hck]
  rfl
 ·skip
  have hck : chk d = 0 := by simpa using hc0
  have hpr : prS d = dtext d := by unfold prS; rw [if_pos hck]
  refine j_mix _ (.refl _) ?_
  refine j_mq (qs_loadw (l := dcells d x) 0 U28 rfl sz28 rfl rfl rfl) ?_
  refine j_mq (qs_field U28 rfl sz9 (by decide) rfl) ?_
  refine j_mq (qs_load (l := dcells d x) (v := .string (bs d.name)) 0 U9 rfl rfl rfl rfl) ?_
  refine j_mq (qs_sadd (l' := sDrv) rfl rfl (by simp only [List.length_cons, List.length_nil]; omega)) ?_
  rw [hpr]
  refine j_bytes U9 U46 U5 rfl (fun v13 c13 ho13 hv13 => ?_)
  obtain ⟨g13, cap13, rfl⟩ := hv13
  obtain ⟨row, fz, hrow, hl1, hl2, hl3, hl4⟩ := own_row ho13
  refine j_mD0 (Le.of_sub (by repeat first | exact slR _ | exact slN _ | apply slC | apply slD)) ?_
  refine j_q (qs_call ent53 rfl rfl rfl (fun w' hw' => sum_con (dtext d) _ _ w' (by have := dtext_le (tb_chk hck hb); omega) hl3 (rd_w (own_rd ho13 0 rfl) hw'))) ?_
  refine j_mD0 (Le.of_sub (by repeat first | exact slR _ | exact slN _ | apply slC | apply slD)) ?_
  refine j_call0 ent26 rfl rfl rfl (fun w' hw' => dref_con d x w' (h.keep hw') hb hou) (fun u S2 hu => ?_)
  obtain ⟨c15, rfl, ho15⟩ := hu
  refine j_mD0 (Le.of_sub (by repeat first | exact slR _ | exact slN _ | apply slC | apply slD)) ?_
  refine j_q (qs_call ent58 rfl rfl rfl (fun w' hw' => ptext_con (sum (dtext d)) (refsP d) (d.name ++ sDrv) _ w' (strsl_own ho15 0 rfl hw') (sum_length _) (by omega) (fun r hr => Nat.le_trans (refsP_le hb r hr) (by decide)) (by rw [List.length_append]; simp only [List.length_cons, List.length_nil]; omega))) ?_
  unfold withV
  refine j_mR _ (.refl _) ?_
  refine j_mq (qs_ext (vs := [.string (bs (withP kText (sum (dtext d)) (refsP d) (d.name ++ sDrv))), .int .i64 (withE (refsP d) (d.name ++ sDrv))]) rfl rfl) ?_
  refine j_mq (qs_ext (vs := [.string (bs (withP kText (sum (dtext d)) (refsP d) (d.name ++ sDrv))), .int .i64 (withE (refsP d) (d.name ++ sDrv))]) rfl rfl) ?_
  refine j_mend ?_
  refine j_ret_con (vs := [_, _]) (fun w' hw' => ⟨rfl, rfl, trivial⟩) ?_
  show Value.tuple #[_, _] = _
  unfold pathV withV
  rw [if_pos hck]
  rfl
theorem paths_con (rs : List (List UInt8)) (v1 v2 : Value) (w : World) (hv1 : StrSl w v1 rs) (hv2 : StrSl w v2 rs) (hn : rs.length ≤ 90000) : Con Tryz.prog 30 [v1, v2] w [] fun u _ => u = .bool true := by
 refine con_of_tree mix Tryz.func30 T30_ok (by kernel_rfl) ?_
 unfold T30
 obtain ⟨A1, cap1, rfl, hcap1⟩ := strsl_form hv1
 obtain ⟨A2, cap2, rfl, hcap2⟩ := strsl_form hv2
 refine j_q (qs_ac) ?_
 refine j_q (qs_lenl U25 rfl) ?_
 refine j_q (qs_lenl U25 rfl) ?_
 refine j_q (qs_neq rfl rfl) ?_
 refine j_cond rfl (fun hc0 => ?_) (fun hc0 => ?_)
 ·skip
  simp at hc0
 ·skip
  refine j_q (qs_ac) ?_
  refine j_loop (fun m vs S' => ∃ i : Nat, vs = [.int .i64 (i : Int)] ∧ S' = [[]] ∧ i ≤ rs.length ∧ m = rs.length - i) ⟨_, 0, rfl, rfl, Nat.zero_le _, rfl⟩ ?_
  rintro m vs S' hlen ⟨i, rfl, rfl, hin, rfl⟩
  refine j_q (qs_lenl U25 rfl) ?_
  refine j_q (qs_lss rfl rfl) ?_
  refine j_cond rfl (fun hc1 => ?_) (fun hc1 => ?_)
  ·skip
   have hi : i < rs.length := by
    simp only [bnA] at *
    omega
   obtain ⟨ga, off, rfl, hga, hcells⟩ := strsl_addr hv1 (by omega)
   obtain ⟨ga2, off2, rfl, hga2, hcells2⟩ := strsl_addr hv2 (by omega)
   refine j_draw ?_
   refine jq_q (qs_ixl0 U25 sz49 rfl rfl ⟨(by omega), (by omega)⟩) ?_
   refine jq_q (qs_loadrs (rd_cells hcells (by simp)) U49 rfl (by simp only [Int.toNat_natCast]; omega)) ?_
   refine jq_q (qs_ixl0 U25 sz49 rfl rfl ⟨(by omega), (by omega)⟩) ?_
   refine jq_q (qs_loadrs (rd_cells hcells2 (by simp)) U49 rfl (by simp only [Int.toNat_natCast]; omega)) ?_
   refine jq_q (qs_sneq rfl rfl) ?_
   refine jq_nil ?_
   refine j_cond rfl (fun hc2 => ?_) (fun hc2 => ?_)
   ·skip
    simp at hc2
   ·skip
    refine j_q (qs_add64 rfl rfl (by omega)) ?_
    refine j_back rfl ?_
    exact ⟨rs.length - (i + 1), by omega, i + 1, rfl, rfl, by omega, rfl⟩
  ·skip
   refine j_q (qs_ac) ?_
   refine j_ret_con (vs := [_]) (fun w' hw' => ⟨rfl, trivial⟩) ?_
   rfl
end Go.Proofs.YtfeabbeebkkhaaaGreat
/-! Dv37 -/
namespace Go.Proofs.YtfeabbeebkkhaaaGreat
open Go Go.Sx
set_option maxRecDepth 100000
set_option maxHeartbeats 4000000
set_option linter.unusedVariables false
set_option linter.unusedSimpArgs false
attribute [local irreducible] J JQ QS Con W opW
attribute [local irreducible] es qt cms hex sum Tbl Half lst isName isPath isDrvP leB chkO chkOuts chkN chkI chkIns firstE spA spB spE chkS chkV dtext chk chk0 tTs modE modH fixT isFix hget mIv mkP mkE outP outE oP oE fVv dshow big1 big2 heavyP fillE fillR fillD rise sortS cp withP withE refsP prS
theorem dclone2_con (d : PD) (x : DV) (w : World) (h : DR w d x) (hb : big2 d ≤ 16000) : Con Tryz.prog 12 [dval d x] w [] fun v S' => ∃ x' cO cI FI cS cA cV, v = dval d x' ∧ S' = [cI, FI, cO ++ (cS ++ (cV ++ cA))] ∧ DOwnE d x' cO cI FI cS cA cV := by
 refine con_of_tree mix Tryz.func12 T12_ok (by kernel_rfl) ?_
 unfold T12
 have hni : d.ins.length = x.mi.length := by rw [h.im, List.length_map]
 obtain ⟨Ao, capo, go, offo, hvo, hcapo, hAo⟩ := rsln_form h.o
 obtain ⟨Ai, capi, gi, offi, hvi, hcapi, hAi⟩ := rsln_form h.i
 obtain ⟨Ae, cape, ge, offe, hve, hcape, hAe⟩ := rsln_form h.e
 obtain ⟨As, caps, hvs, hcaps⟩ := strz_form h.s
 obtain ⟨Aa, capa, hva, hcapa⟩ := strz_form h.a
 have hmem : ∀ m ∈ x.mi, m.pi ∈ d.ins := fun m hm => by rw [h.im]; exact List.mem_map_of_mem hm
 have few := few_of (Nat.le_trans hb (by decide))
 have few4 := few.la
 have few5 := few.le
 have few6 := few.li
 have few7 := few.lo
 have few8 := few.ls
 refine j_box (l := [.string (bs d.name), .string (bs d.sys), .string (bs d.bld), x.va, x.ve, x.vi, x.vs, x.vo]) rfl (fun g0 hg0 hs0 => ?_)
 refine j_alloc zero28 (fun g1 hg1 hs1 => ?_)
 refine j_lit (vs := []) U22 sz9 zero9 rfl (by simp) ⟨rfl, by decide⟩ (fun g2 v2 c2 hv2 hc2 ho2 => ?_)
 subst hv2 hc2
 refine j_q (qs_field U28 rfl sz22 (by decide) rfl) ?_
 refine j_q (qs_load (l := [.string (bs d.name), .string (bs d.sys), .string (bs d.bld), x.va, x.ve, x.vi, x.vs, x.vo]) 2 U22 rfl rfl rfl (congrArg some hva)) ?_
 refine j_append 0 U22 U22 (.inr ⟨_, rfl⟩) sb9 zero9 rfl ho2 rfl (src_strz (hva ▸ h.a)) (strs_one _) ⟨(by simp only [List.length_nil, strs_length, flat_len encV_len, flat_len encO_len]; omega), (by decide)⟩ (fun v5 c5 ho5 => ?_)
 rw [List.nil_append] at ho5
 obtain ⟨n5, A5, cap5, rfl, hn5⟩ := own_form ho5 (by decide)
 refine j_q (qs_field U28 rfl sz22 (by decide) rfl) ?_
 refine j_store (g := g0) (i := 3) (l := [.string (bs d.name), .string (bs d.sys), .string (bs d.bld), x.va, x.ve, x.vi, x.vs, x.vo]) (v := .slice A5 n5 cap5) 2 sz22 rfl rfl rfl rfl (by simp) (by simp) ?_
 refine j_perm (S' := [[(g1, .cells ([.string (bs []), .string (bs []), .string (bs []), .slice none 0 0, .slice none 0 0, .slice none 0 0, .slice none 0 0, .slice none 0 0] : List Value).toArray 28 (0, 0))], [(g0, .cells ([.string (bs d.name), .string (bs d.sys), .string (bs d.bld), .slice A5 n5 cap5, x.ve, x.vi, x.vs, x.vo] : List Value).toArray 28 (0, 0))], c5, []]) (by classical exact List.perm_iff_count.2 fun a => by simp only [List.set_cons_succ, List.set_cons_zero, List.flatten_cons, List.flatten_nil, List.append_nil, List.nil_append, List.cons_append, List.count_append, List.count_cons, List.count_nil] <;> omega) ?_
 refine j_lit0 U23 sz48 (fun g8 hg8 ho8 => ?_)
 refine j_q (qs_field U28 rfl sz23 (by decide) rfl) ?_
 refine j_q (qs_load (l := [.string (bs d.name), .string (bs d.sys), .string (bs d.bld), .slice A5 n5 cap5, x.ve, x.vi, x.vs, x.vo]) 2 U23 rfl rfl rfl (congrArg some hve)) ?_
 refine j_append 0 U23 U23 (.inr ⟨_, rfl⟩) sb48 zero48 rfl ho8 rfl (src_rsln (hve ▸ h.e)) (flat_one (fun y _ => encV_one y)) ⟨(by simp only [List.length_nil, strs_length, flat_len encV_len, flat_len encO_len]; omega), (by decide)⟩ (fun v11 c11 ho11 => ?_)
 rw [List.nil_append] at ho11
 obtain ⟨n11, A11, cap11, rfl, hn11⟩ := own_form ho11 (by decide)
 refine j_q (qs_field U28 rfl sz23 (by decide) rfl) ?_
 refine j_store (g := g0) (i := 4) (l := [.string (bs d.name), .string (bs d.sys), .string (bs d.bld), .slice A5 n5 cap5, x.ve, x.vi, x.vs, x.vo]) (v := .slice A11 n11 cap11) 2 sz23 rfl rfl rfl rfl (by simp) (by simp) ?_
 refine j_perm (S' := [[(g1, .cells ([.string (bs []), .string (bs []), .string (bs []), .slice none 0 0, .slice none 0 0, .slice none 0 0, .slice none 0 0, .slice none 0 0] : List Value).toArray 28 (0, 0))], [(g0, .cells ([.string (bs d.name), .string (bs d.sys), .string (bs d.bld), .slice A5 n5 cap5, .slice A11 n11 cap11, x.vi, x.vs, x.vo] : List Value).toArray 28 (0, 0))], (c11 ++ c5), []]) (by classical exact List.perm_iff_count.2 fun a => by simp only [List.set_cons_succ, List.set_cons_zero, List.flatten_cons, List.flatten_nil, List.append_nil, List.nil_append, List.cons_append, List.count_append, List.count_cons, List.count_nil] <;> omega) ?_
 refine j_lit (vs := []) U25 sz49 zero49 rfl (by simp) ⟨rfl, by decide⟩ (fun g14 v14 c14 hv14 hc14 ho14 => ?_)
 subst hv14 hc14
 refine j_q (qs_field U28 rfl sz25 (by decide) rfl) ?_
 refine j_q (qs_load (l := [.string (bs d.name), .string (bs d.sys), .string (bs d.bld), .slice A5 n5 cap5, .slice A11 n11 cap11, x.vi, x.vs, x.vo]) 2 U25 rfl rfl rfl (congrArg some hvs)) ?_
 refine j_append 0 U25 U25 (.inr ⟨_, rfl⟩) sb49 zero49 rfl ho14 rfl (src_strz (hvs ▸ h.s)) (strs_one _) ⟨(by simp only [List.length_nil, strs_length, flat_len encV_len, flat_len encO_len]; omega), (by decide)⟩ (fun v17 c17 ho17 => ?_)
 rw [List.nil_append] at ho17
 obtain ⟨n17, A17, cap17, rfl, hn17⟩ := own_form ho17 (by decide)
 refine j_q (qs_field U28 rfl sz25 (by decide) rfl) ?_
 refine j_store (g := g0) (i := 6) (l := [.string (bs d.name), .string (bs d.sys), .string (bs d.bld), .slice A5 n5 cap5, .slice A11 n11 cap11, x.vi, x.vs, x.vo]) (v := .slice A17 n17 cap17) 2 sz25 rfl rfl rfl rfl (by simp) (by simp) ?_
 refine j_perm (S' := [[(g1, .cells ([.string (bs []), .string (bs []), .string (bs []), .slice none 0 0, .slice none 0 0, .slice none 0 0, .slice none 0 0, .slice none 0 0] : List Value).toArray 28 (0, 0))], [(g0, .cells ([.string (bs d.name), .string (bs d.sys), .string (bs d.bld), .slice A5 n5 cap5, .slice A11 n11 cap11, x.vi, .slice A17 n17 cap17, x.vo] : List Value).toArray 28 (0, 0))], (c17 ++ (c11 ++ c5)), []]) (by classical exact List.perm_iff_count.2 fun a => by simp only [List.set_cons_succ, List.set_cons_zero, List.flatten_cons, List.flatten_nil, List.append_nil, List.nil_append, List.cons_append, List.count_append, List.count_cons, List.count_nil] <;> omega) ?_
 refine j_lit0 U26 sz53 (fun g20 hg20 ho20 => ?_)
 refine j_q (qs_field U28 rfl sz26 (by decide) rfl) ?_
 refine j_q (qs_load (l := [.string (bs d.name), .string (bs d.sys), .string (bs d.bld), .slice A5 n5 cap5, .slice A11 n11 cap11, x.vi, .slice A17 n17 cap17, x.vo]) 2 U26 rfl rfl rfl (congrArg some hvo)) ?_
 refine j_append 0 U26 U26 (.inr ⟨_, rfl⟩) sb53 zero53 rfl ho20 rfl (src_rsln (hvo ▸ h.o)) (flat_one (fun y _ => encO_one y)) ⟨(by simp only [List.length_nil, strs_length, flat_len encV_len, flat_len encO_len]; omega), (by decide)⟩ (fun v23 c23 ho23 => ?_)
 rw [List.nil_append] at ho23
 obtain ⟨n23, A23, cap23, rfl, hn23⟩ := own_form ho23 (by decide)
 refine j_q (qs_field U28 rfl sz26 (by decide) rfl) ?_
 refine j_store (g := g0) (i := 7) (l := [.string (bs d.name), .string (bs d.sys), .string (bs d.bld), .slice A5 n5 cap5, .slice A11 n11 cap11, x.vi, .slice A17 n17 cap17, x.vo]) (v := .slice A23 n23 cap23) 2 sz26 rfl rfl rfl rfl (by simp) (by simp) ?_
 refine j_perm (S' := [[(g1, .cells ([.string (bs []), .string (bs []), .string (bs []), .slice none 0 0, .slice none 0 0, .slice none 0 0, .slice none 0 0, .slice none 0 0] : List Value).toArray 28 (0, 0))], [(g0, .cells ([.string (bs d.name), .string (bs d.sys), .string (bs d.bld), .slice A5 n5 cap5, .slice A11 n11 cap11, x.vi, .slice A17 n17 cap17, .slice A23 n23 cap23] : List Value).toArray 28 (0, 0))], (c23 ++ (c17 ++ (c11 ++ c5))), []]) (by classical exact List.perm_iff_count.2 fun a => by simp only [List.set_cons_succ, List.set_cons_zero, List.flatten_cons, List.flatten_nil, List.append_nil, List.nil_append, List.cons_append, List.count_append, List.count_cons, List.count_nil] <;> omega) ?_
 refine j_q (qs_ac) ?_
 refine j_q (qs_ac) ?_
 refine j_perm (S' := [[], [], [(g1, .cells ([.string (bs []), .string (bs []), .string (bs []), .slice none 0 0, .slice none 0 0, .slice none 0 0, .slice none 0 0, .slice none 0 0] : List Value).toArray 28 (0, 0))], [(g0, .cells ([.string (bs d.name), .string (bs d.sys), .string (bs d.bld), .slice A5 n5 cap5, .slice A11 n11 cap11, x.vi, .slice A17 n17 cap17, .slice A23 n23 cap23] : List Value).toArray 28 (0, 0))], (c23 ++ (c17 ++ (c11 ++ c5))), []]) (by classical exact List.perm_iff_count.2 fun a => by simp only [List.set_cons_succ, List.set_cons_zero, List.flatten_cons, List.flatten_nil, List.append_nil, List.nil_append, List.cons_append, List.count_append, List.count_cons, List.count_nil] <;> omega) ?_
 refine j_loop (fun m vs S' => ∃ (i : Nat) (iv : Value) (ci F : SH) (mi : List MI), vs = [iv, .int .i64 (i : Int)] ∧ S' = [ci, F, [(g1, .cells ([.string (bs []), .string (bs []), .string (bs []), .slice none 0 0, .slice none 0 0, .slice none 0 0, .slice none 0 0, .slice none 0 0] : List Value).toArray 28 (0, 0))], [(g0, .cells ([.string (bs d.name), .string (bs d.sys), .string (bs d.bld), .slice A5 n5 cap5, .slice A11 n11 cap11, x.vi, .slice A17 n17 cap17, .slice A23 n23 cap23] : List Value).toArray 28 (0, 0))], (c23 ++ (c17 ++ (c11 ++ c5))), []] ∧ Sx.Own 68 2 ((mi.map encI).flatten) iv ci ∧ Mine mi F ∧ mi.map MI.pi = (x.mi.take i).map MI.pi ∧ i ≤ x.mi.length ∧ m = x.mi.length - i) ⟨_, 0, .slice none 0 0, [], [], [], rfl, rfl, own_nil, mine_nil, rfl, Nat.zero_le _, rfl⟩ ?_
 rintro m vs S' hlen ⟨i, iv, ci, F, mi, rfl, rfl, hoi, hmine, hmi, hin, rfl⟩
 refine j_q (qs_field U28 rfl sz24 (by decide) rfl) ?_
 refine j_q (qs_load (l := [.string (bs d.name), .string (bs d.sys), .string (bs d.bld), .slice A5 n5 cap5, .slice A11 n11 cap11, x.vi, .slice A17 n17 cap17, .slice A23 n23 cap23]) 3 U24 rfl rfl rfl (congrArg some hvi)) ?_
 refine j_q (qs_lenl U24 rfl) ?_
 refine j_q (qs_lss rfl rfl) ?_
 refine j_cond rfl (fun hc0 => ?_) (fun hc0 => ?_)
 ·skip
  have hi : i < x.mi.length := by
   simp only [bnA] at *
   omega
  obtain ⟨rfl, hgi, hcells⟩ := hAi (by omega)
  have hip := few.ip _ (hmem _ (getD_mem (d := m0) hi))
  simp only [MI.pi] at hip
  have hsx := h.io _ (getD_mem (d := m0) hi)
  obtain ⟨Ax, capx, hvx, hcapx⟩ := strz_form hsx
  have hml : mi.length = i := by
   have := congrArg List.length hmi
   simp only [List.length_map, List.length_take] at this
   omega
  refine j_mix [[(g0, .cells ([.string (bs d.name), .string (bs d.sys), .string (bs d.bld), .slice A5 n5 cap5, .slice A11 n11 cap11, x.vi, .slice A17 n17 cap17, .slice A23 n23 cap23] : List Value).toArray 28 (0, 0))]] (Le.of_sub (by repeat first | exact slR _ | exact slN _ | apply slC | apply slD)) ?_
  refine j_mq (qs_field U28 rfl sz24 (by decide) rfl) ?_
  refine j_mq (qs_load (l := [.string (bs d.name), .string (bs d.sys), .string (bs d.bld), .slice A5 n5 cap5, .slice A11 n11 cap11, x.vi, .slice A17 n17 cap17, .slice A23 n23 cap23]) 0 U24 rfl rfl rfl (congrArg some hvi)) ?_
  refine j_mq (qs_ixn (g := gi) (off := offi) (i := i) U24 sz68 rfl rfl (by omega)) ?_
  refine j_mq (qs_field U68 rfl sz49 (by decide) rfl) ?_
  refine j_mq (qs_loadrec (v := .string (bs (x.mi.getD i m0).drv)) (encA := encI) (rs := x.mi) (d := m0) (i := i) (fo := 0) encI_len (rd_cells hcells (by simp)) hi U49 rfl rfl rfl) ?_
  refine j_mq (qs_field U28 rfl sz24 (by decide) rfl) ?_
  refine j_mq (qs_load (l := [.string (bs d.name), .string (bs d.sys), .string (bs d.bld), .slice A5 n5 cap5, .slice A11 n11 cap11, x.vi, .slice A17 n17 cap17, .slice A23 n23 cap23]) 0 U24 rfl rfl rfl (congrArg some hvi)) ?_
  refine j_mq (qs_ixn (g := gi) (off := offi) (i := i) U24 sz68 rfl rfl (by omega)) ?_
  refine j_mq (qs_field U68 rfl sz22 (by decide) rfl) ?_
  refine j_mq (qs_loadrec (v := .slice Ax (x.mi.getD i m0).outs.length capx) (encA := encI) (rs := x.mi) (d := m0) (i := i) (fo := 1) encI_len (rd_cells hcells (by simp)) hi U22 rfl rfl (congrArg some hvx)) ?_
  refine j_lit (vs := []) U22 sz9 zero9 rfl (by simp) ⟨rfl, by decide⟩ (fun g42 v42 c42 hv42 hc42 ho42 => ?_)
  subst hv42 hc42
  refine j_mD0 (Le.of_sub (by repeat first | exact slR _ | exact slN _ | apply slC | apply slD)) ?_
  refine j_append 0 U22 U22 (.inr ⟨_, rfl⟩) sb9 zero9 rfl ho42 rfl (src_strz (hvx ▸ hsx)) (strs_one _) ⟨(by simp only [List.length_nil, strs_length, flat_len encV_len, flat_len encO_len]; omega), (by decide)⟩ (fun v43 c43 ho43 => ?_)
  rw [List.nil_append] at ho43
  obtain ⟨n43, A43, cap43, rfl, hn43⟩ := own_form ho43 (by decide)
  refine j_mD0 (Le.of_sub (by repeat first | exact slR _ | exact slN _ | apply slC | apply slD)) ?_
  refine j_mq (v := .agg (encI ⟨(x.mi.getD i m0).drv, (x.mi.getD i m0).outs, .slice A43 n43 cap43⟩).toArray) (qs_build (places := [(0, 1), (1, 1)]) (offs := [(0, [.string (bs (x.mi.getD i m0).drv)]), (1, [.slice A43 n43 cap43])]) U68 zero68 (by kernel_rfl) rfl (by rintro (_ | _ | j) p q hp hq <;> first | (simp at hp hq; subst hp hq; exact ⟨rfl, rfl, by simp⟩) | (simp at hp))) ?_
  refine j_litw (vs := encI ⟨(x.mi.getD i m0).drv, (x.mi.getD i m0).outs, .slice A43 n43 cap43⟩) U24 sz68 zero68 rfl rfl ⟨rfl, by decide, by decide⟩ (fun g45 hg45 ho45 => ?_)
  refine j_mD0 (Le.of_sub (by repeat first | exact slR _ | exact slN _ | apply slC | apply slD)) ?_
  refine j_append 2 U24 U24 (.inr ⟨_, rfl⟩) sb68 zero68 rfl hoi rfl (.inl ⟨_, _, rfl, rd_own (off := 0) (n := 2) 0 rfl rfl, rfl⟩) (by intro u hu; simp [encI] at hu; rcases hu with rfl | rfl <;> rfl) ⟨(by simp only [flat_len encI_len, List.length_take, List.drop_zero, encI_len]; omega), (by decide)⟩ (fun v46 c46 ho46 => ?_)
  have ho46 : Sx.Own 68 2 (((mi ++ [MI.mk (x.mi.getD i m0).drv (x.mi.getD i m0).outs (.slice A43 n43 cap43)]).map encI).flatten) v46 c46 := by
   have e : ((mi ++ [MI.mk (x.mi.getD i m0).drv (x.mi.getD i m0).outs (.slice A43 n43 cap43)]).map encI).flatten = (mi.map encI).flatten ++ encI (MI.mk (x.mi.getD i m0).drv (x.mi.getD i m0).outs (.slice A43 n43 cap43)) := by simp
   rw [e]
   exact ho46
  refine j_subl (S' := [c43, c46, F, [(g1, .cells ([.string (bs []), .string (bs []), .string (bs []), .slice none 0 0, .slice none 0 0, .slice none 0 0, .slice none 0 0, .slice none 0 0] : List Value).toArray 28 (0, 0))], [(g0, .cells ([.string (bs d.name), .string (bs d.sys), .string (bs d.bld), .slice A5 n5 cap5, .slice A11 n11 cap11, x.vi, .slice A17 n17 cap17, .slice A23 n23 cap23] : List Value).toArray 28 (0, 0))], (c23 ++ (c17 ++ (c11 ++ c5))), []]) (by repeat first | exact slR _ | exact slN _ | apply slC | apply slD) ?_
  refine j_perm (S' := [c46, c43 ++ F, [(g1, .cells ([.string (bs []), .string (bs []), .string (bs []), .slice none 0 0, .slice none 0 0, .slice none 0 0, .slice none 0 0, .slice none 0 0] : List Value).toArray 28 (0, 0))], [(g0, .cells ([.string (bs d.name), .string (bs d.sys), .string (bs d.bld), .slice A5 n5 cap5, .slice A11 n11 cap11, x.vi, .slice A17 n17 cap17, .slice A23 n23 cap23] : List Value).toArray 28 (0, 0))], (c23 ++ (c17 ++ (c11 ++ c5))), []]) (by classical exact List.perm_iff_count.2 fun a => by simp only [List.set_cons_succ, List.set_cons_zero, List.flatten_cons, List.flatten_nil, List.append_nil, List.nil_append, List.cons_append, List.count_append, List.count_cons, List.count_nil] <;> omega) ?_
  refine j_mR _ (.refl _) ?_
  refine j_mend ?_
  refine j_q (qs_add64 rfl rfl (by omega)) ?_
  refine j_back rfl ?_
  exact ⟨x.mi.length - (i + 1), by omega, i + 1, v46, c46, c43 ++ F, mi ++ [MI.mk (x.mi.getD i m0).drv (x.mi.getD i m0).outs (.slice A43 n43 cap43)], bools2 rfl (by omega), rfl, ho46, mine_snoc hmine ho43, ins_take hmi hi _, by omega, rfl⟩
 ·skip
  obtain rfl : i = x.mi.length := by
   simp only [bnA] at *
   omega
  rw [List.take_length] at hmi
  obtain ⟨ni2, Ai2, capi2, rfl, hni2⟩ := own_form hoi (by decide)
  refine j_q (qs_field U28 rfl sz24 (by decide) rfl) ?_
  refine j_store (g := g0) (i := 5) (l := [.string (bs d.name), .string (bs d.sys), .string (bs d.bld), .slice A5 n5 cap5, .slice A11 n11 cap11, x.vi, .slice A17 n17 cap17, .slice A23 n23 cap23]) (v := .slice Ai2 ni2 capi2) 3 sz24 rfl rfl rfl rfl (by simp) (by simp) ?_
  refine j_q (qs_loadw (l := [.string (bs d.name), .string (bs d.sys), .string (bs d.bld), .slice A5 n5 cap5, .slice A11 n11 cap11, .slice Ai2 ni2 capi2, .slice A17 n17 cap17, .slice A23 n23 cap23]) 3 U28 rfl sz28 rfl rfl rfl) ?_
  refine j_storew (l := [.string (bs []), .string (bs []), .string (bs []), .slice none 0 0, .slice none 0 0, .slice none 0 0, .slice none 0 0, .slice none 0 0]) (vs := [.string (bs d.name), .string (bs d.sys), .string (bs d.bld), .slice A5 n5 cap5, .slice A11 n11 cap11, .slice Ai2 ni2 capi2, .slice A17 n17 cap17, .slice A23 n23 cap23]) 2 sz28 rfl rfl rfl (by intro u hu; simp only [List.mem_cons, List.not_mem_nil, or_false] at hu; rcases hu with rfl | rfl | rfl | rfl | rfl | rfl | rfl | rfl <;> rfl) rfl rfl ?_
  -- no @RET
  refine j_ret_sub [ci, F, (c23 ++ (c17 ++ (c11 ++ c5)))] (by repeat first | exact slR _ | exact slN _ | apply slC | apply slD) (vs := [_]) (fun w' hw' => ⟨rv_agg (g := g1) (l := [.string (bs d.name), .string (bs d.sys), .string (bs d.bld), .slice A5 n5 cap5, .slice A11 n11 cap11, .slice Ai2 ni2 capi2, .slice A17 n17 cap17, .slice A23 n23 cap23]) 2 U28 rfl sz28 rfl rfl rfl hw', trivial⟩) ?_
  exact ⟨⟨.slice A5 n5 cap5, .slice A11 n11 cap11, .slice Ai2 ni2 capi2, .slice A17 n17 cap17, .slice A23 n23 cap23, mi⟩, c23, ci, F, c17, c5, c11, rfl, rfl, ⟨ho23, hoi, hmine, by rw [h.im, ← hmi], ho17, ho5, ho11⟩⟩
end Go.Proofs.YtfeabbeebkkhaaaGreat
/-! Dv38 -/
namespace Go.Proofs.YtfeabbeebkkhaaaGreat
open Go Go.Sx
set_option maxRecDepth 100000
set_option maxHeartbeats 4000000
set_option linter.unusedVariables false
set_option linter.unusedSimpArgs false
attribute [local irreducible] J JQ QS Con W opW
open Go.MapKept Go.WideMaps Go.Maps
theorem isOut_no {l : List PO} {n : Bs} (h : ∀ j < l.length, (l.getD j o0).name ≠ n) : isOutN l n = false := by
 unfold isOutN
 rw [List.any_eq_false]
 intro x hx
 obtain ⟨j, hj, rfl⟩ := List.getElem_of_mem hx
 have := h j hj
 rw [List.getD_eq_getElem?_getD, List.getElem?_eq_getElem hj] at this
 simpa using this
theorem isOut_yes {l : List PO} {i : Nat} {n : Bs} (hi : i < l.length) (h : (l.getD i o0).name = n) : isOutN l n = true := by
 unfold isOutN
 rw [List.any_eq_true]
 exact ⟨l.getD i o0, getD_mem hi, by simpa using h⟩
theorem dtext_ne (d : PD) : dtext d ≠ [] := by
 unfold dtext
 simp
theorem rd_recS {b : Base} {S : List SH} {α : Type} {enc : α → List Value} {N : Nat} {rs : List α} {d : α} {g off i fo : Nat} {vs : List Value} (hl : ∀ a, (enc a).length = N) (hr : Rd b S ⟨g, off, none⟩ (rs.map enc).flatten) (hi : i < rs.length) (hv : ∀ j u, vs[j]? = some u → (enc (rs.getD i d))[fo + j]? = some u) : Rd b S ⟨g, off + i * N + fo, none⟩ vs := fun w hw j u hu => by
 have h1 := hv j u hu
 have hlt : fo + j < N := by
  have := (List.getElem?_eq_some_iff.1 h1).1
  rwa [hl] at this
 have h := hr w hw (i * N + (fo + j)) u (by
  rw [flat_get hl rs i (fo + j) hlt, List.getElem?_eq_getElem hi]
  rw [List.getD_eq_getElem?_getD, List.getElem?_eq_getElem hi] at h1
  exact h1)
 rw [add_off] at h ⊢
 rw [← h]
 congr 2
 omega
theorem hashAt (o : PO) : ∀ j u, (ints o.hash.1)[j]? = some u → (encO o)[3 + j]? = some u := fun j u h => by
 rw [Nat.add_comm]
 exact h
attribute [local irreducible] es qt cms hex sum Tbl Half lst isName isPath isDrvP leB chkO chkOuts chkN chkI chkIns firstE spA spB spE chkS chkV dtext chk chk0 tTs modE modH fixT isFix hget mIv isOutN
theorem isOut_con (d : PD) (x : DV) (w : World) (h : DR w d x) (hn : d.outs.length ≤ 1000000) (n : Bs) : Con Tryz.prog 63 [dval d x, .string (bs n)] w [] fun u _ => u = .bool (isOutN d.outs n) := by
 refine con_of_tree mix Tryz.func63 T63_ok (by kernel_rfl) ?_
 unfold T63
 obtain ⟨Ao, capo, go, offo, hvo, hcapo, hAo⟩ := rsln_form h.o
 refine j_box (l := dcells d x) rfl (fun g0 hg0 hs0 => ?_)
 refine j_q (qs_ac) ?_
 refine j_q (qs_ac) ?_
 refine j_loop (fun m vs S' => ∃ i : Nat, vs = [.int .i64 (i : Int)] ∧ S' = [[(g0, .cells (dcells d x).toArray 28 (0, 0))], []] ∧ i ≤ d.outs.length ∧ (∀ j < i, (d.outs.getD j o0).name ≠ n) ∧ m = d.outs.length - i) ⟨_, 0, rfl, rfl, Nat.zero_le _, (fun j hj => absurd hj (Nat.not_lt_zero _)), rfl⟩ ?_
 rintro m vs S' hlen ⟨i, rfl, rfl, hin, hz, rfl⟩
 refine j_q (qs_field U28 rfl sz26 (by decide) rfl) ?_
 refine j_q (qs_load (l := dcells d x) (v := .slice Ao d.outs.length capo) 0 U26 rfl rfl rfl (congrArg some hvo)) ?_
 refine j_q (qs_lenl U26 rfl) ?_
 refine j_q (qs_lss rfl rfl) ?_
 refine j_cond rfl (fun hc0 => ?_) (fun hc0 => ?_)
 ·skip
  have hi : i < d.outs.length := by
   simp only [bnA] at *
   omega
  obtain ⟨rfl, hgo, hcells⟩ := hAo (by omega)
  refine j_q (qs_field U28 rfl sz26 (by decide) rfl) ?_
  refine j_q (qs_load (l := dcells d x) (v := .slice (some ⟨go, offo, none⟩) d.outs.length capo) 0 U26 rfl rfl rfl (congrArg some hvo)) ?_
  refine j_q (qs_ixn (g := go) (off := offo) (i := i) U26 sz53 rfl rfl (by omega)) ?_
  refine j_q (qs_field U53 rfl sz9 (by decide) rfl) ?_
  refine j_q (qs_loadrec (v := .string (bs (d.outs.getD i o0).name)) (encA := encO) (rs := d.outs) (d := o0) (i := i) (fo := 0) encO_len (rd_cells hcells (by simp)) hi U9 rfl rfl rfl) ?_
  refine j_q (qs_seql rfl rfl) ?_
  refine j_cond rfl (fun hc1 => ?_) (fun hc1 => ?_)
  ·skip
   refine j_q (qs_ac) ?_
   refine j_ret_con (vs := [_]) (fun w' hw' => ⟨rfl, trivial⟩) ?_
   show Value.bool _ = _
   rw [isOut_yes hi (by simpa using hc1)]
  ·skip
   refine j_q (qs_add64 rfl rfl (by omega)) ?_
   refine j_back rfl ?_
   exact ⟨d.outs.length - (i + 1), by omega, i + 1, rfl, rfl, by omega, fun j hj => by rcases Nat.lt_or_ge j i with h | h; exact hz j h; rw [show j = i by omega]; simpa using hc1, rfl⟩
 ·skip
  obtain rfl : i = d.outs.length := by
   simp only [bnA] at *
   omega
  refine j_q (qs_ac) ?_
  refine j_ret_con (vs := [_]) (fun w' hw' => ⟨rfl, trivial⟩) ?_
  show Value.bool _ = _
  rw [isOut_no hz]
theorem rmodulo_con (d : PD) (x : DV) (M : HM) (v : Value) (w : World) (h : DR w d x) (hm : HMR w v M) (hb : big2 d ≤ 16000) (hou : ∀ y ∈ d.ins, ∀ o ∈ y.outs, o.length ≤ 9223372036854775807) : Con Tryz.prog 32 [dval d x, v] w [] fun u _ => u = .tuple #[.agg (ints (modH M d).1).toArray, .int .i64 (modE M d)] := by
 refine con_of_tree mix Tryz.func32 T32_ok (by kernel_rfl) ?_
 unfold T32
 have few := few_of (Nat.le_trans hb (by decide))
 have few1 := few.nm
 have few4 := few.la
 have few5 := few.le
 have few6 := few.li
 have few7 := few.lo
 have few8 := few.ls
 obtain ⟨Ao, capo, go, offo, hvo, hcapo, hAo⟩ := rsln_form h.o
 refine j_box (l := dcells d x) rfl (fun g0 hg0 hs0 => ?_)
 refine j_alloc zero51 (fun g1 hg1 hs1 => ?_)
 refine j_q (qs_ac) ?_
 refine j_q (qs_loadw 1 U28 rfl sz28 rfl rfl (by first | (rw [ints_length]; exact sum_length _) | (rw [ints_length]; exact (hget M _).2) | rfl)) ?_
 refine j_q (qs_call ent16 rfl rfl rfl (fun w' hw' => rcheck_con d x w' (h.keep hw') (Nat.le_trans hb (by decide)) hou)) ?_
 refine j_q (qs_neq rfl rfl) ?_
 refine j_cond rfl (fun hc0 => ?_) (fun hc0 => ?_)
 ·skip
  have hck : chk d ≠ 0 := by simpa using hc0
  refine j_q (qs_run (v := .agg (ints (List.replicate 32 0)).toArray) (fun w => by kernel_rfl)) ?_
  refine j_storew 0 sz51 rfl rfl (by first | (rw [ints_length]; exact sum_length _) | (rw [ints_length]; exact (hget M _).2) | rfl) ints_one rfl (by first | (rw [ints_length]; exact sum_length _) | (rw [ints_length]; exact (hget M _).2) | rfl) ?_
  refine j_ret_con (vs := [_, _]) (fun w' hw' => ⟨rv_agg 0 U51 rfl sz51 rfl rfl (by first | (rw [ints_length]; exact sum_length _) | (rw [ints_length]; exact (hget M _).2) | rfl) hw', rfl, trivial⟩) ?_
  exact mod_val (modE_1 hck)
 ·skip
  have hck : chk d = 0 := by simpa using hc0
  have h16 := outs16 (chk0_parts (chk_zero hck)).2.2.1
  obtain ⟨rfl, hgo, hcells⟩ := hAo (by omega)
  refine j_q (qs_field U28 rfl sz26 (by decide) rfl) ?_
  refine j_q (qs_load (l := dcells d x) (v := .slice (some ⟨go, offo, none⟩) d.outs.length capo) 1 U26 rfl rfl rfl (congrArg some hvo)) ?_
  refine j_q (qs_ixn (g := go) (off := offo) (i := 0) U26 sz53 rfl rfl (by omega)) ?_
  refine j_q (qs_field U53 rfl sz4 (by decide) rfl) ?_
  refine j_q (qs_loadrec (v := .bool (isFix d)) (encA := encO) (rs := d.outs) (d := o0) (i := 0) (fo := 2) encO_len (rd_cells hcells (by simp)) (by omega) U4 rfl rfl (by unfold isFix; rfl)) ?_
  refine j_cond rfl (fun hc1 => ?_) (fun hc1 => ?_)
  ·skip
   refine j_mix _ (.refl _) ?_
   refine j_mq (qs_field U28 rfl sz26 (by decide) rfl) ?_
   refine j_mq (qs_load (l := dcells d x) (v := .slice (some ⟨go, offo, none⟩) d.outs.length capo) 1 U26 rfl rfl rfl (congrArg some hvo)) ?_
   refine j_mq (qs_ixn (g := go) (off := offo) (i := 0) U26 sz53 rfl rfl (by omega)) ?_
   refine j_mq (qs_field U53 rfl sz51 (by decide) rfl) ?_
   refine j_mq (qs_loadwR (vs := ints (d.outs.getD 0 o0).hash.1) (rd_recS (d := o0) (i := 0) (fo := 3) encO_len (rd_cells hcells (by simp)) (by omega) (hashAt (d.outs.getD 0 o0))) U51 rfl sz51 rfl (by rw [ints_length]; exact (d.outs.getD 0 o0).hash.2)) ?_
   refine j_mq (qs_field U28 rfl sz9 (by decide) rfl) ?_
   refine j_mq (qs_load (l := dcells d x) (v := .string (bs d.name)) 1 U9 rfl rfl rfl rfl) ?_
   refine j_q (qs_call ent62 rfl rfl rfl (fun w' hw' => rhex_con (d.outs.getD 0 o0).hash.1 w' (d.outs.getD 0 o0).hash.2)) ?_
   refine j_mD0 (Le.of_sub (by repeat first | exact slR _ | exact slN _ | apply slC | apply slD)) ?_
   refine j_mq (qs_sadd (l := sFix) (l' := hex (d.outs.getD 0 o0).hash.1) rfl rfl (by simp only [sFix, List.length_cons, List.length_nil, hexL]; omega)) ?_
   refine j_mq (qs_sadd (l' := [58]) rfl rfl (by simp only [sFix, List.length_append, List.length_cons, List.length_nil, hexL]; omega)) ?_
   refine j_mq (qs_sadd (l' := d.name) rfl rfl (by simp only [sFix, List.length_append, List.length_cons, List.length_nil, hexL]; omega)) ?_
   have efix : sFix ++ hex (d.outs.getD 0 o0).hash.1 ++ [58] ++ d.name = fixT d := by unfold fixT; rfl
   rw [efix]
   have hfl : (fixT d).length = 75 + d.name.length := by rw [← efix]; simp only [sFix, List.length_append, List.length_cons, List.length_nil, hexL]
   refine j_bytes U9 U46 U5 rfl (fun v24 c24 ho24 hv24 => ?_)
   obtain ⟨g24, cap24, rfl⟩ := hv24
   refine j_mR _ (.refl _) ?_
   refine j_q (qs_call ent61 rfl rfl rfl (fun w' hw' => rsum_con (fixT d) _ _ w' (by rw [hfl]; omega) (rd_w (own_rd ho24 0 rfl) hw'))) ?_
   refine j_mR _ (.refl _) ?_
   refine j_storew 1 sz51 rfl rfl (by first | (rw [ints_length]; exact sum_length _) | (rw [ints_length]; exact (hget M _).2) | rfl) ints_one rfl (by first | (rw [ints_length]; exact sum_length _) | (rw [ints_length]; exact (hget M _).2) | rfl) ?_
   refine j_mR _ (.refl _) ?_
   refine j_mq (qs_ac) ?_
   refine j_mend ?_
   refine j_ret_con (vs := [_, _]) (fun w' hw' => ⟨rv_agg 1 U51 rfl sz51 rfl rfl (by first | (rw [ints_length]; exact sum_length _) | (rw [ints_length]; exact (hget M _).2) | rfl) hw', rfl, trivial⟩) ?_
   exact mod_val (modE_2 hck hc1)
  ·skip
   refine j_q (qs_loadw (l := dcells d x) 1 U28 rfl sz28 rfl rfl rfl) ?_
   refine j_call0 ent12 rfl rfl rfl (fun w' hw' => dclone2_con d x w' (h.keep hw') hb) (fun u S2 hu => ?_)
   obtain ⟨x2, cO, cI, FI, cS, cA, cV, rfl, rfl, ho⟩ := hu
   refine j_perm (S' := [cI, FI, cO, cS, cV, cA, [(g1, .cells (ints (List.replicate 32 0)).toArray 51 (0, 0))], [(g0, .cells (dcells d x).toArray 28 (0, 0))], []]) (by simp) ?_
   refine j_alloc zero28z (fun g30 hg30 hs30 => ?_)
   refine j_storew (l := dcells pdZ dvZ) (vs := dcells d x2) 0 sz28 rfl rfl rfl ho.one rfl rfl ?_
   have hml2 : x2.mi.length ≤ 200000 := by
    have := congrArg List.length ho.im
    rw [List.length_map] at this
    omega
   have hoi0 := ho.i
   have hoo0 := ho.o
   have hov0 := ho.e
   obtain ⟨nI, AI, capI, hvi, hnI⟩ := own_form ho.i (by decide)
   have hlI : nI = x2.mi.length := by
    rw [flat_len encI_len] at hnI
    omega
   rw [hlI] at hvi
   clear hnI
   subst hlI
   obtain ⟨nO, AO, capO, hvo2, hnO⟩ := own_form ho.o (by decide)
   have hlO : nO = d.outs.length := by
    rw [flat_len encO_len] at hnO
    omega
   rw [hlO] at hvo2
   clear hnO
   subst hlO
   obtain ⟨nV, AV, capV, hve2, hnV⟩ := own_form ho.e (by decide)
   have hlV : nV = d.env.length := by
    rw [flat_len encV_len] at hnV
    omega
   rw [hlV] at hve2
   clear hnV
   subst hlV
   rw [hvi] at hoi0
   rw [hvo2] at hoo0
   rw [hve2] at hov0
   refine j_q (qs_ac) ?_
   refine j_loop (fun m vs S' => ∃ (i : Nat) (co : SH), vs = [.int .i64 (i : Int)] ∧ S' = [[(g30, .cells (dcells d x2).toArray 28 (0, 0))], cI, FI, co, cS, cV, cA, [(g1, .cells (ints (List.replicate 32 0)).toArray 51 (0, 0))], [(g0, .cells (dcells d x).toArray 28 (0, 0))], []] ∧ Sx.Own 53 35 (((upd mO d.outs i).map encO).flatten) (.slice AO d.outs.length capO) co ∧ i ≤ d.outs.length ∧ m = d.outs.length - i) ⟨_, 0, cO, rfl, rfl, (by rw [upd_zero]; exact hoo0), Nat.zero_le _, rfl⟩ ?_
   rintro m vs S' hlen ⟨i, co, rfl, rfl, hoo, hin, rfl⟩
   refine j_q (qs_field U28 rfl sz26 (by decide) rfl) ?_
   refine j_q (qs_load (l := dcells d x2) (v := .slice AO d.outs.length capO) 0 U26 rfl rfl rfl (congrArg some hvo2)) ?_
   refine j_q (qs_lenl U26 rfl) ?_
   refine j_q (qs_lss rfl rfl) ?_
   refine j_cond rfl (fun hc2 => ?_) (fun hc2 => ?_)
   ·skip
    have hi : i < d.outs.length := by
     simp only [bnA] at *
     omega
    obtain ⟨gO, rfl⟩ := own_at hoo (fl_pos encO_len (by decide) (by rw [upd_len]; omega))
    refine j_q (qs_field U28 rfl sz26 (by decide) rfl) ?_
    refine j_q (qs_load (l := dcells d x2) (v := .slice (some ⟨gO, 0, none⟩) d.outs.length capO) 0 U26 rfl rfl rfl (congrArg some hvo2)) ?_
    refine j_q (qs_ixn (g := gO) (off := 0) (i := i) U26 sz53 rfl rfl (by omega)) ?_
    refine j_q (qs_field U53 rfl sz49 (by decide) rfl) ?_
    refine j_storerec (g := gO) (i := i) (fo := 1) (rs := upd mO d.outs i) (d := o0) (mO (d.outs.getD i o0)) 3 encO_len hoo rfl (by rw [upd_len]; exact hi) sz49 rfl rfl rfl (by decide) (by rw [upd_get _ o0 hi]; rfl) (fun co2 hoo2 => ?_)
    rw [upd_set _ o0 hi] at hoo2
    refine j_q (qs_add64 rfl rfl (by omega)) ?_
    refine j_back rfl ?_
    exact ⟨d.outs.length - (i + 1), by omega, i + 1, co2, rfl, rfl, hoo2, by omega, rfl⟩
   ·skip
    obtain rfl : i = d.outs.length := by
     simp only [bnA] at *
     omega
    rw [upd_all] at hoo
    refine j_q (qs_ac) ?_
    refine j_loop (fun m vs S' => ∃ (i : Nat) (cv : SH), vs = [.int .i64 (i : Int)] ∧ S' = [[(g30, .cells (dcells d x2).toArray 28 (0, 0))], cI, FI, co, cS, cv, cA, [(g1, .cells (ints (List.replicate 32 0)).toArray 51 (0, 0))], [(g0, .cells (dcells d x).toArray 28 (0, 0))], []] ∧ Sx.Own 48 2 (((upd (mV d.outs) d.env i).map encV).flatten) (.slice AV d.env.length capV) cv ∧ i ≤ d.env.length ∧ m = d.env.length - i) ⟨_, 0, cV, rfl, rfl, (by rw [upd_zero]; exact hov0), Nat.zero_le _, rfl⟩ ?_
    rintro m vs S' hlen ⟨i, cv, rfl, rfl, hov, hin, rfl⟩
    refine j_q (qs_field U28 rfl sz23 (by decide) rfl) ?_
    refine j_q (qs_load (l := dcells d x2) (v := .slice AV d.env.length capV) 0 U23 rfl rfl rfl (congrArg some hve2)) ?_
    refine j_q (qs_lenl U23 rfl) ?_
    refine j_q (qs_lss rfl rfl) ?_
    refine j_cond rfl (fun hc3 => ?_) (fun hc3 => ?_)
    ·skip
     have hi : i < d.env.length := by
      simp only [bnA] at *
      omega
     obtain ⟨gV, rfl⟩ := own_at hov (fl_pos encV_len (by decide) (by rw [upd_len]; omega))
     refine j_draw ?_
     refine jq_q (qs_loadw (l := dcells d x) 8 U28 rfl sz28 rfl rfl rfl) ?_
     refine jq_q (qs_field U28 rfl sz23 (by decide) rfl) ?_
     refine jq_q (qs_load (l := dcells d x2) (v := .slice (some ⟨gV, 0, none⟩) d.env.length capV) 0 U23 rfl rfl rfl (congrArg some hve2)) ?_
     refine jq_q (qs_ixn (g := gV) (off := 0) (i := i) U23 sz48 rfl rfl (by omega)) ?_
     refine jq_q (qs_field U48 rfl sz9 (by decide) rfl) ?_
     refine jq_q (qs_loadrec (v := .string (bs (d.env.getD i v0).name)) (encA := encV) (rs := upd (mV d.outs) d.env i) (d := v0) (i := i) (fo := 0) encV_len (own_rd hov 5 rfl) (by rw [upd_len]; exact hi) U9 rfl rfl (by rw [upd_get _ v0 hi]; rfl)) ?_
     refine jq_q (qs_call ent63 rfl rfl rfl (fun w' hw' => isOut_con d x w' (h.keep hw') (by omega) (d.env.getD i v0).name)) ?_
     refine jq_nil ?_
     refine j_cond rfl (fun hc4 => ?_) (fun hc4 => ?_)
     ·skip
      refine j_q (qs_field U28 rfl sz23 (by decide) rfl) ?_
      refine j_q (qs_load (l := dcells d x2) (v := .slice (some ⟨gV, 0, none⟩) d.env.length capV) 0 U23 rfl rfl rfl (congrArg some hve2)) ?_
      refine j_q (qs_ixn (g := gV) (off := 0) (i := i) U23 sz48 rfl rfl (by omega)) ?_
      refine j_q (qs_field U48 rfl sz9 (by decide) rfl) ?_
      refine j_storerec (g := gV) (i := i) (fo := 1) (rs := upd (mV d.outs) d.env i) (d := v0) (mV d.outs (d.env.getD i v0)) 5 encV_len hov rfl (by rw [upd_len]; exact hi) sz9 rfl rfl rfl (by decide) (by rw [upd_get _ v0 hi]; show [_, Value.string (bs (if isOutN d.outs (d.env.getD i v0).name = true then [] else _))] = _; rw [if_pos hc4]; rfl) (fun cv2 hov2 => ?_)
      rw [upd_set _ v0 hi] at hov2
      refine j_q (qs_add64 rfl rfl (by omega)) ?_
      refine j_back rfl ?_
      exact ⟨d.env.length - (i + 1), by omega, i + 1, cv2, rfl, rfl, hov2, by omega, rfl⟩
     ·skip
      have hsame : mV d.outs (d.env.getD i v0) = d.env.getD i v0 := by
       unfold mV
       rw [if_neg (by rw [hc4]; decide)]
      rw [← upd_same _ v0 hi hsame] at hov
      refine j_q (qs_add64 rfl rfl (by omega)) ?_
      refine j_back rfl ?_
      exact ⟨d.env.length - (i + 1), by omega, i + 1, cv, rfl, rfl, hov, by omega, rfl⟩
    ·skip
     obtain rfl : i = d.env.length := by
      simp only [bnA] at *
      omega
     rw [upd_all] at hov
     refine j_q (qs_ac) ?_
     refine j_loop (fun m vs S' => ∃ (i : Nat) (ci : SH), vs = [.int .i64 (i : Int)] ∧ S' = [[(g30, .cells (dcells d x2).toArray 28 (0, 0))], ci, FI, co, cS, cv, cA, [(g1, .cells (ints (List.replicate 32 0)).toArray 51 (0, 0))], [(g0, .cells (dcells d x).toArray 28 (0, 0))], []] ∧ Sx.Own 68 2 (((upd (mMI M) x2.mi i).map encI).flatten) (.slice AI x2.mi.length capI) ci ∧ (∀ j < i, (hlook M (x2.mi.getD j m0).drv).isSome = true) ∧ i ≤ x2.mi.length ∧ m = x2.mi.length - i) ⟨_, 0, cI, rfl, rfl, (by rw [upd_zero]; exact hoi0), (fun j hj => absurd hj (Nat.not_lt_zero _)), Nat.zero_le _, rfl⟩ ?_
     rintro m vs S' hlen ⟨i, ci, rfl, rfl, hoi, hz, hin, rfl⟩
     refine j_q (qs_field U28 rfl sz24 (by decide) rfl) ?_
     refine j_q (qs_load (l := dcells d x2) (v := .slice AI x2.mi.length capI) 0 U24 rfl rfl rfl (congrArg some hvi)) ?_
     refine j_q (qs_lenl U24 rfl) ?_
     refine j_q (qs_lss rfl rfl) ?_
     refine j_cond rfl (fun hc5 => ?_) (fun hc5 => ?_)
     ·skip
      have hi : i < x2.mi.length := by
       simp only [bnA] at *
       omega
      obtain ⟨gI, rfl⟩ := own_at hoi (fl_pos encI_len (by decide) (by rw [upd_len]; omega))
      have hip : (x2.mi.getD i m0).drv.length ≤ 200000 := by
       have := few.ip (x2.mi.getD i m0).pi (by rw [ho.im]; exact List.mem_map_of_mem (getD_mem hi))
       simp only [MI.pi] at this
       omega
      refine j_q (qs_field U28 rfl sz24 (by decide) rfl) ?_
      refine j_q (qs_load (l := dcells d x2) (v := .slice (some ⟨gI, 0, none⟩) x2.mi.length capI) 0 U24 rfl rfl rfl (congrArg some hvi)) ?_
      refine j_q (qs_ixn (g := gI) (off := 0) (i := i) U24 sz68 rfl rfl (by omega)) ?_
      refine j_q (qs_field U68 rfl sz49 (by decide) rfl) ?_
      refine j_q (qs_loadrec (v := .string (bs (x2.mi.getD i m0).drv)) (encA := encI) (rs := upd (mMI M) x2.mi i) (d := m0) (i := i) (fo := 0) encI_len (own_rd hoi 1 rfl) (by rw [upd_len]; exact hi) U49 rfl rfl (by rw [upd_get _ m0 hi]; rfl)) ?_
      refine j_q (qs_lookup2M pk49 (mapr_rd hm) U55 zv51 (key := (x2.mi.getD i m0).drv) rfl rfl (by unfold strOk; omega)) ?_
      rw [hlook_m, look_val, Option.isSome_map]
      refine j_q (qs_ext rfl rfl) ?_
      refine j_q (qs_ext rfl rfl) ?_
      refine j_alloc zero51 (fun g75 hg75 hs75 => ?_)
      refine j_storew (l := ints (List.replicate 32 0)) (vs := ints (hget M (x2.mi.getD i m0).drv).1) 0 sz51 rfl rfl (by rw [ints_length]; exact (hget M _).2) ints_one rfl rfl ?_
      refine j_q (qs_not rfl) ?_
      refine j_cond rfl (fun hc6 => ?_) (fun hc6 => ?_)
      ·skip
       have hno : (hlook M (x2.mi.getD i m0).drv).isSome = false := by simpa using hc6
       refine j_q (qs_run (v := .agg (ints (List.replicate 32 0)).toArray) (fun w => by kernel_rfl)) ?_
       refine j_storew (g := g1) (l := ints (List.replicate 32 0)) (vs := ints (List.replicate 32 0)) 8 sz51 rfl rfl rfl ints_one rfl rfl ?_
       refine j_q (qs_ac) ?_
       -- no @RET
       refine j_ret_con (vs := [_, _]) (fun w' hw' => ⟨rv_agg (g := g1) (l := ints (List.replicate 32 0)) 8 U51 rfl sz51 rfl rfl rfl hw', rfl, trivial⟩) ?_
       exact mod_val (modE_3 hck hc1 (by rw [ho.im]; exact allIn_no hi hno))
      ·skip
       have hc6' : (hlook M (x2.mi.getD i m0).drv).isSome = true := by simpa using hc6
       refine j_mix _ (.refl _) ?_
       refine j_mq (qs_field U28 rfl sz24 (by decide) rfl) ?_
       refine j_mq (qs_load (l := dcells d x2) (v := .slice (some ⟨gI, 0, none⟩) x2.mi.length capI) 1 U24 rfl rfl rfl (congrArg some hvi)) ?_
       refine j_mq (qs_loadw (l := ints (hget M (x2.mi.getD i m0).drv).1) 0 U51 rfl sz51 rfl rfl (by rw [ints_length]; exact (hget M _).2)) ?_
       refine j_q (qs_call ent62 rfl rfl rfl (fun w' hw' => rhex_con (hget M (x2.mi.getD i m0).drv).1 w' (hget M _).2)) ?_
       refine j_mD0 (Le.of_sub (by repeat first | exact slR _ | exact slN _ | apply slC | apply slD)) ?_
       refine j_mq (qs_ixn (g := gI) (off := 0) (i := i) U24 sz68 rfl rfl (by omega)) ?_
       refine j_mq (qs_field U68 rfl sz49 (by decide) rfl) ?_
       refine j_storerec (g := gI) (i := i) (fo := 0) (rs := upd (mMI M) x2.mi i) (d := m0) (mMI M (x2.mi.getD i m0)) 2 encI_len hoi rfl (by rw [upd_len]; exact hi) sz49 rfl rfl rfl (by decide) (by rw [upd_get _ m0 hi]; show [Value.string (bs (mIv M (x2.mi.getD i m0).drv)), _] = _; rw [mIv_some hc6']; rfl) (fun ci2 hoi2 => ?_)
       rw [upd_set _ m0 hi] at hoi2
       refine j_subl (S' := [[(g30, .cells (dcells d x2).toArray 28 (0, 0))], ci2, FI, co, cS, cv, cA, [(g1, .cells (ints (List.replicate 32 0)).toArray 51 (0, 0))], [(g0, .cells (dcells d x).toArray 28 (0, 0))], []]) (by repeat first | exact slR _ | exact slN _ | apply slC | apply slD) ?_
       refine j_mR _ (.refl _) ?_
       refine j_mend ?_
       refine j_q (qs_add64 rfl rfl (by omega)) ?_
       refine j_back rfl ?_
       exact ⟨x2.mi.length - (i + 1), by omega, i + 1, ci2, rfl, rfl, hoi2, fun j hj => by rcases Nat.lt_or_ge j i with h | h; exact hz j h; rw [show j = i by omega]; exact hc6', by omega, rfl⟩
     ·skip
      obtain rfl : i = x2.mi.length := by
       simp only [bnA] at *
       omega
      rw [upd_all] at hoi
      have hall : allIn M d.ins = true := by
       rw [ho.im]
       exact allIn_yes hz
      refine j_q (qs_loadw (l := dcells d x2) 0 U28 rfl sz28 rfl rfl rfl) ?_
      have hoM : DOwnE (masked M d) (⟨x2.va, x2.ve, x2.vi, x2.vs, x2.vo, x2.mi.map (mMI M)⟩ : DV) co ci FI cS cA cv := by
       refine ⟨?_, ?_, mine_mMI ho.io, ?_, ho.s, ho.a, ?_⟩
       ·rw [hvo2]; exact hoo
       ·rw [hvi]; exact hoi
       ·show d.ins.map (mI M) = _
        rw [mMI_pi, ← ho.im]
       ·rw [hve2]; exact hov
      refine j_call0 ent37 rfl rfl rfl (fun w' hw' => rdtext_con (masked M d) (⟨x2.va, x2.ve, x2.vi, x2.vs, x2.vo, x2.mi.map (mMI M)⟩ : DV) w' (DOwnE.dr hoM (fun p hp => hw'.own p (by simp only [List.mem_append] at hp; rcases hp with ((((h | h) | h) | h) | h) | h <;> simp [h]))) (tb_masked (chk_zero hck) hb)) (fun u S2 hu => ?_)
      obtain ⟨ct, rfl, hot⟩ := hu
      obtain ⟨gt, nt, capt, rfl⟩ := own_some hot (by intro e; have := congrArg List.length e; rw [ints_length] at this; exact dtext_ne _ (List.eq_nil_of_length_eq_zero this))
      have hnt : nt = (dtext (masked M d)).length := by
       obtain ⟨_, _, _, e1, e2⟩ := own_form hot (by decide)
       injection e1 with _ e1 _
       rw [ints_length] at e2
       omega
      subst hnt
      have hdl := dtext_le (tb_masked (M := M) (chk_zero hck) hb)
      refine j_q (qs_call ent61 rfl rfl rfl (fun w' hw' => rsum_con (dtext (masked M d)) _ _ w' (by omega) (rd_w (own_rd hot 0 rfl) hw'))) ?_
      refine j_storew (g := g1) (l := ints (List.replicate 32 0)) (vs := ints (sum (dtext (masked M d)))) 8 sz51 rfl rfl (by rw [ints_length]; exact sum_length _) ints_one rfl rfl ?_
      refine j_q (qs_ac) ?_
      -- no @RET
      refine j_ret_con (vs := [_, _]) (fun w' hw' => ⟨rv_agg (g := g1) (l := ints (sum (dtext (masked M d)))) 8 U51 rfl sz51 rfl rfl (by rw [ints_length]; exact sum_length _) hw', rfl, trivial⟩) ?_
      exact mod_val (modE_4 hck hc1 hall)
end Go.Proofs.YtfeabbeebkkhaaaGreat
/-! Dv39 -/
namespace Go.Proofs.YtfeabbeebkkhaaaGreat
open Go Go.Sx
set_option maxRecDepth 100000
set_option maxHeartbeats 4000000
set_option linter.unusedVariables false
set_option linter.unusedSimpArgs false
attribute [local irreducible] J JQ QS Con W opW
abbrev FO (M : HM) (d : PD) : PO → PO := fO (modH M d) d.name
def envA (M : HM) (d : PD) (i : Nat) : List PV := d.env.map (fV ((d.outs.take i).map (FO M d)))
def setP (p n : Bs) (v : PV) : PV := if v.name = n then ⟨v.name, p⟩ else v
theorem envA_len (M : HM) (d : PD) (i : Nat) : (envA M d i).length = d.env.length := List.length_map _
theorem fVv_snoc (l : List PO) (o : PO) (n z : Bs) : fVv (l ++ [o]) n z = if o.name = n then o.path else fVv l n z := by
 unfold fVv
 rw [List.reverse_append]
 simp only [List.reverse_cons, List.reverse_nil, List.nil_append, List.cons_append, List.find?_cons]
 by_cases h : o.name = n
 ·rw [decide_eq_true h, if_pos h]
 ·rw [decide_eq_false h, if_neg h]
theorem envA_zero (M : HM) (d : PD) : envA M d 0 = d.env := by
 unfold envA
 have : (fV ((d.outs.take 0).map (FO M d))) = id := by
  funext v
  rfl
 rw [this, List.map_id]
theorem envA_step {M : HM} {d : PD} {i : Nat} (hi : i < d.outs.length) : (envA M d i).map (setP (FO M d (d.outs.getD i o0)).path (d.outs.getD i o0).name) = envA M d (i + 1) := by
 unfold envA
 rw [List.map_map]
 refine List.map_congr_left fun v _ => ?_
 have e : d.outs[i] = d.outs.getD i o0 := by rw [List.getD_eq_getElem?_getD, List.getElem?_eq_getElem hi]; rfl
 rw [List.take_succ_eq_append_getElem hi, List.map_append, e]
 show setP _ _ (PV.mk v.name (fVv ((d.outs.take i).map (FO M d)) v.name v.val)) = PV.mk v.name (fVv (((d.outs.take i).map (FO M d)) ++ [FO M d (d.outs.getD i o0)]) v.name v.val)
 rw [fVv_snoc]
 unfold setP
 by_cases h : v.name = (d.outs.getD i o0).name
 ·rw [if_pos h, if_pos (by exact h.symm)]
 ·rw [if_neg h, if_neg (fun h2 => h h2.symm)]
theorem envA_all (M : HM) (d : PD) : envA M d d.outs.length = d.env.map (fV (fillOs M d)) := by
 unfold envA
 rw [List.take_length]
 rfl
theorem getD_set {α : Type} {l : List α} {i : Nat} (h : i < l.length) (a d : α) : (l.set i a).getD i d = a := by
 rw [List.getD_eq_getElem?_getD, List.getElem?_set]
 simp [h]
attribute [local irreducible] es qt cms hex sum Tbl Half lst isName isPath isDrvP leB chkO chkOuts chkN chkI chkIns firstE spA spB spE chkS chkV dtext chk chk0 tTs modE modH fixT isFix hget mIv mkP mkE outP outE oP oE fVv isOutN envA rise sortS cp withP withE refsP prS
theorem rfill_con (d : PD) (x : DV) (M : HM) (v : Value) (w : World) (h : DR w d x) (hm : HMR w v M) (hb : big2 d ≤ 16000) (hou : ∀ y ∈ d.ins, ∀ o ∈ y.outs, o.length ≤ 9223372036854775807) : Con Tryz.prog 33 [dval d x, v] w [] fun u S' => FillPost (fillR M d) (fillE M d) u S' := by
 refine con_of_tree mix Tryz.func33 T33_ok (by kernel_rfl) ?_
 unfold T33
 have few := few_of (Nat.le_trans hb (by decide))
 have few1 := few.nm
 have few4 := few.la
 have few5 := few.le
 have few6 := few.li
 have few7 := few.lo
 have few8 := few.ls
 refine j_box (l := dcells d x) rfl (fun g0 hg0 hs0 => ?_)
 refine j_alloc zero28z (fun g1 hg1 hs1 => ?_)
 refine j_q (qs_ac) ?_
 refine j_q (qs_loadw 1 U28 rfl sz28 rfl rfl (by first | (rw [ints_length]; exact (modH _ _).2) | rfl)) ?_
 refine j_q (qs_call ent32 rfl rfl rfl (fun w' hw' => rmodulo_con d x M v w' (h.keep hw') (mapr_keep hm hw') hb hou)) ?_
 refine j_q (qs_ext (vs := [.agg (ints (modH M d).1).toArray, .int .i64 (modE M d)]) rfl rfl) ?_
 refine j_q (qs_ext (vs := [.agg (ints (modH M d).1).toArray, .int .i64 (modE M d)]) rfl rfl) ?_
 refine j_alloc zero51 (fun g7 hg7 hs7 => ?_)
 refine j_storew 0 sz51 rfl rfl (by first | (rw [ints_length]; exact (modH _ _).2) | rfl) ints_one rfl (by first | (rw [ints_length]; exact (modH _ _).2) | rfl) ?_
 refine j_q (qs_neq rfl rfl) ?_
 refine j_cond rfl (fun hc0 => ?_) (fun hc0 => ?_)
 ·skip
  have hme : modE M d ≠ 0 := by simpa using hc0
  refine j_q (qs_run (v := .agg (dcells pdZ dvZ).toArray) (fun w => by kernel_rfl)) ?_
  refine j_storew (g := g1) (l := dcells pdZ dvZ) (vs := dcells pdZ dvZ) 1 sz28 rfl rfl rfl dZ_one rfl rfl ?_
  -- no @RET
  refine j_ret_fl [[], [], [], [], [], []] (by simp) (vs := [_, _]) (fun w' hw' => ⟨rv_agg (g := g1) (l := dcells pdZ dvZ) 1 U28 rfl sz28 rfl rfl rfl hw', rfl, trivial⟩) ?_
  exact fill_bad (fill_1 hme)
 ·skip
  have hme : modE M d = 0 := by simpa using hc0
  refine j_q (qs_loadw (l := dcells d x) 2 U28 rfl sz28 rfl rfl rfl) ?_
  refine j_call0 ent12 rfl rfl rfl (fun w' hw' => dclone2_con d x w' (h.keep hw') hb) (fun u S2 hu => ?_)
  obtain ⟨x2, cO, cI, FI, cS, cA, cV, rfl, rfl, ho⟩ := hu
  refine j_perm (S' := [cI, FI, cO, cS, cV, cA, [(g7, .cells (ints (modH M d).1).toArray 51 (0, 0))], [(g1, .cells (dcells pdZ dvZ).toArray 28 (0, 0))], [(g0, .cells (dcells d x).toArray 28 (0, 0))], []]) (by simp) ?_
  refine j_alloc zero28z (fun g14 hg14 hs14 => ?_)
  refine j_storew (l := dcells pdZ dvZ) (vs := dcells d x2) 0 sz28 rfl rfl rfl ho.one rfl rfl ?_
  have hoo0 := ho.o
  have hov0 := ho.e
  obtain ⟨nO, AO, capO, hvo2, hnO⟩ := own_form ho.o (by decide)
  have hlO : nO = d.outs.length := by
   rw [flat_len encO_len] at hnO
   omega
  rw [hlO] at hvo2
  clear hnO
  subst hlO
  obtain ⟨nV, AV, capV, hve2, hnV⟩ := own_form ho.e (by decide)
  have hlV : nV = d.env.length := by
   rw [flat_len encV_len] at hnV
   omega
  rw [hlV] at hve2
  clear hnV
  subst hlV
  rw [hvo2] at hoo0
  rw [hve2] at hov0
  refine j_q (qs_ac) ?_
  refine j_loop (fun m vs S' => ∃ (i : Nat) (co cv : SH), vs = [.int .i64 (i : Int)] ∧ S' = [[(g14, .cells (dcells d x2).toArray 28 (0, 0))], cI, FI, co, cS, cv, cA, [(g7, .cells (ints (modH M d).1).toArray 51 (0, 0))], [(g1, .cells (dcells pdZ dvZ).toArray 28 (0, 0))], [(g0, .cells (dcells d x).toArray 28 (0, 0))], []] ∧ Sx.Own 53 35 (((upd (FO M d) d.outs i).map encO).flatten) (.slice AO d.outs.length capO) co ∧ Sx.Own 48 2 (((envA M d i).map encV).flatten) (.slice AV d.env.length capV) cv ∧ (∀ j < i, oE d.name (d.outs.getD j o0) = 0) ∧ i ≤ d.outs.length ∧ m = d.outs.length - i) ⟨_, 0, cO, cV, rfl, rfl, (by rw [upd_zero]; exact hoo0), (by rw [envA_zero]; exact hov0), (fun j hj => absurd hj (Nat.not_lt_zero _)), Nat.zero_le _, rfl⟩ ?_
  rintro m vs S' hlen ⟨i, co, cv, rfl, rfl, hoo, hov, hz, hin, rfl⟩
  refine j_q (qs_field U28 rfl sz26 (by decide) rfl) ?_
  refine j_q (qs_load (l := dcells d x2) (v := .slice AO d.outs.length capO) 0 U26 rfl rfl rfl (congrArg some hvo2)) ?_
  refine j_q (qs_lenl U26 rfl) ?_
  refine j_q (qs_lss rfl rfl) ?_
  refine j_cond rfl (fun hc1 => ?_) (fun hc1 => ?_)
  ·skip
   have hi : i < d.outs.length := by
    simp only [bnA] at *
    omega
   obtain ⟨gO, rfl⟩ := own_at hoo (fl_pos encO_len (by decide) (by rw [upd_len]; omega))
   have hol := few.ou _ (getD_mem (d := o0) hi)
   have hel := envA_len M d i
   refine j_q (qs_ac) ?_
   refine j_q (qs_field U28 rfl sz26 (by decide) rfl) ?_
   refine j_q (qs_load (l := dcells d x2) (v := .slice (some ⟨gO, 0, none⟩) d.outs.length capO) 0 U26 rfl rfl rfl (congrArg some hvo2)) ?_
   refine j_q (qs_ixn (g := gO) (off := 0) (i := i) U26 sz53 rfl rfl (by omega)) ?_
   refine j_q (qs_field U53 rfl sz4 (by decide) rfl) ?_
   refine j_q (qs_loadrec (v := .bool (d.outs.getD i o0).fixed) (encA := encO) (rs := upd (FO M d) d.outs i) (d := o0) (i := i) (fo := 2) encO_len (own_rd hoo 3 rfl) (by rw [upd_len]; exact hi) U4 rfl rfl (by rw [upd_get _ o0 hi]; rfl)) ?_
   refine j_cond rfl (fun hc2 => ?_) (fun hc2 => ?_)
   ·skip
    refine j_draw ?_
    refine jq_q (qs_field U28 rfl sz26 (by decide) rfl) ?_
    refine jq_q (qs_load (l := dcells d x2) (v := .slice (some ⟨gO, 0, none⟩) d.outs.length capO) 0 U26 rfl rfl rfl (congrArg some hvo2)) ?_
    refine jq_q (qs_ixn (g := gO) (off := 0) (i := i) U26 sz53 rfl rfl (by omega)) ?_
    refine jq_q (qs_field U53 rfl sz51 (by decide) rfl) ?_
    refine jq_q (qs_loadwR (vs := ints (d.outs.getD i o0).hash.1) (rd_recS (d := o0) (i := i) (fo := 3) encO_len (own_rd hoo 3 rfl) (by rw [upd_len]; exact hi) (by rw [upd_get _ o0 hi]; exact hashAt (d.outs.getD i o0))) U51 rfl sz51 rfl (by rw [ints_length]; exact (d.outs.getD i o0).hash.2)) ?_
    refine jq_q (qs_field U28 rfl sz9 (by decide) rfl) ?_
    refine jq_q (qs_load (l := dcells d x) (v := .string (bs d.name)) 9 U9 rfl rfl rfl rfl) ?_
    refine jq_q (qs_call ent23 rfl rfl rfl (fun w' hw' => rfixed_con (d.outs.getD i o0).hash.1 d.name w' (d.outs.getD i o0).hash.2 (by omega))) ?_
    refine jq_q (qs_ext (vs := [.string (bs (mkP kFixed (d.outs.getD i o0).hash.1 d.name)), .int .i64 (mkE d.name)]) rfl rfl) ?_
    refine jq_q (qs_ext (vs := [.string (bs (mkP kFixed (d.outs.getD i o0).hash.1 d.name)), .int .i64 (mkE d.name)]) rfl rfl) ?_
    refine jq_nil ?_
    refine j_q (qs_neq rfl rfl) ?_
    refine j_cond rfl (fun hc3 => ?_) (fun hc3 => ?_)
    ·skip
     have hoe : oE d.name (d.outs.getD i o0) ≠ 0 := by rw [oE_fix hc2]; simpa using hc3
     refine j_q (qs_run (v := .agg (dcells pdZ dvZ).toArray) (fun w => by kernel_rfl)) ?_
     refine j_storew (g := g1) (l := dcells pdZ dvZ) (vs := dcells pdZ dvZ) 8 sz28 rfl rfl rfl dZ_one rfl rfl ?_
     -- no @RET
     refine j_ret_fl [[], [], [], [], [], []] (by simp) (vs := [_, _]) (fun w' hw' => ⟨rv_agg (g := g1) (l := dcells pdZ dvZ) 8 U28 rfl sz28 rfl rfl rfl hw', rfl, trivial⟩) ?_
     exact fill_bad (fill_2 hme hz hi (oE_fix hc2) (by rw [← oE_fix hc2]; exact hoe))
    ·skip
     have hoe : oE d.name (d.outs.getD i o0) = 0 := by rw [oE_fix hc2]; simpa using hc3
     refine j_q (qs_field U28 rfl sz26 (by decide) rfl) ?_
     refine j_q (qs_load (l := dcells d x2) (v := .slice (some ⟨gO, 0, none⟩) d.outs.length capO) 0 U26 rfl rfl rfl (congrArg some hvo2)) ?_
     refine j_q (qs_ixn (g := gO) (off := 0) (i := i) U26 sz53 rfl rfl (by omega)) ?_
     refine j_q (qs_field U53 rfl sz49 (by decide) rfl) ?_
     refine j_storerec (g := gO) (i := i) (fo := 1) (rs := upd (FO M d) d.outs i) (d := o0) ((FO M d) (d.outs.getD i o0)) 3 encO_len hoo rfl (by rw [upd_len]; exact hi) sz49 rfl rfl rfl (by decide) (by rw [upd_get _ o0 hi]; show (Value.string (bs (d.outs.getD i o0).name) :: Value.string (bs (oP (modH M d) d.name (d.outs.getD i o0))) :: _) = _; rw [oP_fix hc2]; rfl) (fun co2 hoo2 => ?_)
     refine j_q (qs_ac) ?_
     refine j_loop (fun m vs S' => ∃ (k : Nat) (cv2 : SH), vs = [.int .i64 (k : Int)] ∧ S' = [[(g14, .cells (dcells d x2).toArray 28 (0, 0))], cI, FI, co2, cS, cv2, cA, [(g7, .cells (ints (modH M d).1).toArray 51 (0, 0))], [(g1, .cells (dcells pdZ dvZ).toArray 28 (0, 0))], [(g0, .cells (dcells d x).toArray 28 (0, 0))], []] ∧ Sx.Own 48 2 (((upd (setP (mkP kFixed (d.outs.getD i o0).hash.1 d.name) (d.outs.getD i o0).name) (envA M d i) k).map encV).flatten) (.slice AV d.env.length capV) cv2 ∧ k ≤ d.env.length ∧ m = d.env.length - k) ⟨_, 0, cv, rfl, rfl, (by rw [upd_zero]; exact hov), Nat.zero_le _, rfl⟩ ?_
     rintro m vs S' hlen ⟨k, cv2, rfl, rfl, hov2, hkn, rfl⟩
     refine j_q (qs_field U28 rfl sz23 (by decide) rfl) ?_
     refine j_q (qs_load (l := dcells d x2) (v := .slice AV d.env.length capV) 0 U23 rfl rfl rfl (congrArg some hve2)) ?_
     refine j_q (qs_lenl U23 rfl) ?_
     refine j_q (qs_lss rfl rfl) ?_
     refine j_cond rfl (fun hc4 => ?_) (fun hc4 => ?_)
     ·skip
      have hk0 : k < d.env.length := by
       simp only [bnA] at *
       omega
      have hk : k < (envA M d i).length := by omega
      obtain ⟨gV, rfl⟩ := own_at hov2 (fl_pos encV_len (by decide) (by rw [upd_len]; omega))
      refine j_draw ?_
      refine jq_q (qs_field U28 rfl sz23 (by decide) rfl) ?_
      refine jq_q (qs_load (l := dcells d x2) (v := .slice (some ⟨gV, 0, none⟩) d.env.length capV) 0 U23 rfl rfl rfl (congrArg some hve2)) ?_
      refine jq_q (qs_ixn (g := gV) (off := 0) (i := k) U23 sz48 rfl rfl (by omega)) ?_
      refine jq_q (qs_field U48 rfl sz9 (by decide) rfl) ?_
      refine jq_q (qs_loadrec (v := .string (bs ((envA M d i).getD k v0).name)) (encA := encV) (rs := upd (setP (mkP kFixed (d.outs.getD i o0).hash.1 d.name) (d.outs.getD i o0).name) (envA M d i) k) (d := v0) (i := k) (fo := 0) encV_len (own_rd hov2 5 rfl) (by rw [upd_len]; omega) U9 rfl rfl (by rw [upd_get _ v0 hk]; rfl)) ?_
      refine jq_q (qs_field U28 rfl sz26 (by decide) rfl) ?_
      refine jq_q (qs_load (l := dcells d x2) (v := .slice (some ⟨gO, 0, none⟩) d.outs.length capO) 0 U26 rfl rfl rfl (congrArg some hvo2)) ?_
      refine jq_q (qs_ixn (g := gO) (off := 0) (i := i) U26 sz53 rfl rfl (by omega)) ?_
      refine jq_q (qs_field U53 rfl sz9 (by decide) rfl) ?_
      refine jq_q (qs_loadrec (v := .string (bs (d.outs.getD i o0).name)) (encA := encO) (rs := (upd (FO M d) d.outs i).set i ((FO M d) (d.outs.getD i o0))) (d := o0) (i := i) (fo := 0) encO_len (own_rd hoo2 3 rfl) (by rw [List.length_set, upd_len]; exact hi) U9 rfl rfl (by rw [getD_set (by rw [upd_len]; exact hi)]; rfl)) ?_
      refine jq_q (qs_seql rfl rfl) ?_
      refine jq_nil ?_
      refine j_cond rfl (fun hc5 => ?_) (fun hc5 => ?_)
      ·skip
       have hnm : ((envA M d i).getD k v0).name = (d.outs.getD i o0).name := by simpa using hc5
       refine j_q (qs_field U28 rfl sz23 (by decide) rfl) ?_
       refine j_q (qs_load (l := dcells d x2) (v := .slice (some ⟨gV, 0, none⟩) d.env.length capV) 0 U23 rfl rfl rfl (congrArg some hve2)) ?_
       refine j_q (qs_ixn (g := gV) (off := 0) (i := k) U23 sz48 rfl rfl (by omega)) ?_
       refine j_q (qs_field U48 rfl sz9 (by decide) rfl) ?_
       refine j_storerec (g := gV) (i := k) (fo := 1) (rs := upd (setP (mkP kFixed (d.outs.getD i o0).hash.1 d.name) (d.outs.getD i o0).name) (envA M d i) k) (d := v0) ((setP (mkP kFixed (d.outs.getD i o0).hash.1 d.name) (d.outs.getD i o0).name) ((envA M d i).getD k v0)) 5 encV_len hov2 rfl (by rw [upd_len]; omega) sz9 rfl rfl rfl (by decide) (by rw [upd_get _ v0 hk]; unfold setP; rw [if_pos hnm]; rfl) (fun cv3 hov3 => ?_)
       rw [upd_set _ v0 hk] at hov3
       refine j_q (qs_add64 rfl rfl (by omega)) ?_
       refine j_back rfl ?_
       exact ⟨d.env.length - (k + 1), by omega, k + 1, cv3, rfl, rfl, hov3, by omega, rfl⟩
      ·skip
       have hnm : ((envA M d i).getD k v0).name ≠ (d.outs.getD i o0).name := by simpa using hc5
       have hsame : (setP (mkP kFixed (d.outs.getD i o0).hash.1 d.name) (d.outs.getD i o0).name) ((envA M d i).getD k v0) = ((envA M d i).getD k v0) := by
        unfold setP
        rw [if_neg hnm]
       rw [← upd_same _ v0 hk hsame] at hov2
       refine j_q (qs_add64 rfl rfl (by omega)) ?_
       refine j_back rfl ?_
       exact ⟨d.env.length - (k + 1), by omega, k + 1, cv2, rfl, rfl, hov2, by omega, rfl⟩
     ·skip
      obtain rfl : k = d.env.length := by
       simp only [bnA] at *
       omega
      rw [← hel, upd_all, show (mkP kFixed (d.outs.getD i o0).hash.1 d.name) = ((FO M d) (d.outs.getD i o0)).path from (oP_fix hc2).symm, envA_step hi, hel] at hov2
      rw [upd_set _ o0 hi] at hoo2
      refine j_q (qs_add64 rfl rfl (by omega)) ?_
      refine j_back rfl ?_
      exact ⟨d.outs.length - (i + 1), by omega, i + 1, co2, cv2, rfl, rfl, hoo2, hov2, fun j hj => by rcases Nat.lt_or_ge j i with h | h; exact hz j h; rw [show j = i by omega]; exact hoe, by omega, rfl⟩
   ·skip
    refine j_draw ?_
    refine jq_q (qs_loadw (l := ints (modH M d).1) 7 U51 rfl sz51 rfl rfl (by first | (rw [ints_length]; exact (modH _ _).2) | rfl)) ?_
    refine jq_q (qs_field U28 rfl sz26 (by decide) rfl) ?_
    refine jq_q (qs_load (l := dcells d x2) (v := .slice (some ⟨gO, 0, none⟩) d.outs.length capO) 0 U26 rfl rfl rfl (congrArg some hvo2)) ?_
    refine jq_q (qs_ixn (g := gO) (off := 0) (i := i) U26 sz53 rfl rfl (by omega)) ?_
    refine jq_q (qs_field U53 rfl sz9 (by decide) rfl) ?_
    refine jq_q (qs_loadrec (v := .string (bs (d.outs.getD i o0).name)) (encA := encO) (rs := upd (FO M d) d.outs i) (d := o0) (i := i) (fo := 0) encO_len (own_rd hoo 3 rfl) (by rw [upd_len]; exact hi) U9 rfl rfl (by rw [upd_get _ o0 hi]; rfl)) ?_
    refine jq_q (qs_field U28 rfl sz9 (by decide) rfl) ?_
    refine jq_q (qs_load (l := dcells d x) (v := .string (bs d.name)) 9 U9 rfl rfl rfl rfl) ?_
    refine jq_q (qs_call ent64 rfl rfl rfl (fun w' hw' => routput_con (modH M d).1 (d.outs.getD i o0).name d.name w' (modH M d).2 (by omega) (by omega))) ?_
    refine jq_q (qs_ext (vs := [.string (bs (outP (modH M d).1 (d.outs.getD i o0).name d.name)), .int .i64 (outE (d.outs.getD i o0).name d.name)]) rfl rfl) ?_
    refine jq_q (qs_ext (vs := [.string (bs (outP (modH M d).1 (d.outs.getD i o0).name d.name)), .int .i64 (outE (d.outs.getD i o0).name d.name)]) rfl rfl) ?_
    refine jq_nil ?_
    refine j_q (qs_neq rfl rfl) ?_
    refine j_cond rfl (fun hc6 => ?_) (fun hc6 => ?_)
    ·skip
     have hoe : oE d.name (d.outs.getD i o0) ≠ 0 := by rw [oE_out hc2]; simpa using hc6
     refine j_q (qs_run (v := .agg (dcells pdZ dvZ).toArray) (fun w => by kernel_rfl)) ?_
     refine j_storew (g := g1) (l := dcells pdZ dvZ) (vs := dcells pdZ dvZ) 8 sz28 rfl rfl rfl dZ_one rfl rfl ?_
     -- no @RET
     refine j_ret_fl [[], [], [], [], [], []] (by simp) (vs := [_, _]) (fun w' hw' => ⟨rv_agg (g := g1) (l := dcells pdZ dvZ) 8 U28 rfl sz28 rfl rfl rfl hw', rfl, trivial⟩) ?_
     exact fill_bad (fill_2 hme hz hi (oE_out hc2) (by rw [← oE_out hc2]; exact hoe))
    ·skip
     have hoe : oE d.name (d.outs.getD i o0) = 0 := by rw [oE_out hc2]; simpa using hc6
     refine j_q (qs_field U28 rfl sz26 (by decide) rfl) ?_
     refine j_q (qs_load (l := dcells d x2) (v := .slice (some ⟨gO, 0, none⟩) d.outs.length capO) 0 U26 rfl rfl rfl (congrArg some hvo2)) ?_
     refine j_q (qs_ixn (g := gO) (off := 0) (i := i) U26 sz53 rfl rfl (by omega)) ?_
     refine j_q (qs_field U53 rfl sz49 (by decide) rfl) ?_
     refine j_storerec (g := gO) (i := i) (fo := 1) (rs := upd (FO M d) d.outs i) (d := o0) ((FO M d) (d.outs.getD i o0)) 3 encO_len hoo rfl (by rw [upd_len]; exact hi) sz49 rfl rfl rfl (by decide) (by rw [upd_get _ o0 hi]; show (Value.string (bs (d.outs.getD i o0).name) :: Value.string (bs (oP (modH M d) d.name (d.outs.getD i o0))) :: _) = _; rw [oP_out hc2]; rfl) (fun co2 hoo2 => ?_)
     refine j_q (qs_ac) ?_
     refine j_loop (fun m vs S' => ∃ (k : Nat) (cv2 : SH), vs = [.int .i64 (k : Int)] ∧ S' = [[(g14, .cells (dcells d x2).toArray 28 (0, 0))], cI, FI, co2, cS, cv2, cA, [(g7, .cells (ints (modH M d).1).toArray 51 (0, 0))], [(g1, .cells (dcells pdZ dvZ).toArray 28 (0, 0))], [(g0, .cells (dcells d x).toArray 28 (0, 0))], []] ∧ Sx.Own 48 2 (((upd (setP (outP (modH M d).1 (d.outs.getD i o0).name d.name) (d.outs.getD i o0).name) (envA M d i) k).map encV).flatten) (.slice AV d.env.length capV) cv2 ∧ k ≤ d.env.length ∧ m = d.env.length - k) ⟨_, 0, cv, rfl, rfl, (by rw [upd_zero]; exact hov), Nat.zero_le _, rfl⟩ ?_
     rintro m vs S' hlen ⟨k, cv2, rfl, rfl, hov2, hkn, rfl⟩
     refine j_q (qs_field U28 rfl sz23 (by decide) rfl) ?_
     refine j_q (qs_load (l := dcells d x2) (v := .slice AV d.env.length capV) 0 U23 rfl rfl rfl (congrArg some hve2)) ?_
     refine j_q (qs_lenl U23 rfl) ?_
     refine j_q (qs_lss rfl rfl) ?_
     refine j_cond rfl (fun hc7 => ?_) (fun hc7 => ?_)
     ·skip
      have hk0 : k < d.env.length := by
       simp only [bnA] at *
       omega
      have hk : k < (envA M d i).length := by omega
      obtain ⟨gV, rfl⟩ := own_at hov2 (fl_pos encV_len (by decide) (by rw [upd_len]; omega))
      refine j_draw ?_
      refine jq_q (qs_field U28 rfl sz23 (by decide) rfl) ?_
      refine jq_q (qs_load (l := dcells d x2) (v := .slice (some ⟨gV, 0, none⟩) d.env.length capV) 0 U23 rfl rfl rfl (congrArg some hve2)) ?_
      refine jq_q (qs_ixn (g := gV) (off := 0) (i := k) U23 sz48 rfl rfl (by omega)) ?_
      refine jq_q (qs_field U48 rfl sz9 (by decide) rfl) ?_
      refine jq_q (qs_loadrec (v := .string (bs ((envA M d i).getD k v0).name)) (encA := encV) (rs := upd (setP (outP (modH M d).1 (d.outs.getD i o0).name d.name) (d.outs.getD i o0).name) (envA M d i) k) (d := v0) (i := k) (fo := 0) encV_len (own_rd hov2 5 rfl) (by rw [upd_len]; omega) U9 rfl rfl (by rw [upd_get _ v0 hk]; rfl)) ?_
      refine jq_q (qs_field U28 rfl sz26 (by decide) rfl) ?_
      refine jq_q (qs_load (l := dcells d x2) (v := .slice (some ⟨gO, 0, none⟩) d.outs.length capO) 0 U26 rfl rfl rfl (congrArg some hvo2)) ?_
      refine jq_q (qs_ixn (g := gO) (off := 0) (i := i) U26 sz53 rfl rfl (by omega)) ?_
      refine jq_q (qs_field U53 rfl sz9 (by decide) rfl) ?_
      refine jq_q (qs_loadrec (v := .string (bs (d.outs.getD i o0).name)) (encA := encO) (rs := (upd (FO M d) d.outs i).set i ((FO M d) (d.outs.getD i o0))) (d := o0) (i := i) (fo := 0) encO_len (own_rd hoo2 3 rfl) (by rw [List.length_set, upd_len]; exact hi) U9 rfl rfl (by rw [getD_set (by rw [upd_len]; exact hi)]; rfl)) ?_
      refine jq_q (qs_seql rfl rfl) ?_
      refine jq_nil ?_
      refine j_cond rfl (fun hc8 => ?_) (fun hc8 => ?_)
      ·skip
       have hnm : ((envA M d i).getD k v0).name = (d.outs.getD i o0).name := by simpa using hc8
       refine j_q (qs_field U28 rfl sz23 (by decide) rfl) ?_
       refine j_q (qs_load (l := dcells d x2) (v := .slice (some ⟨gV, 0, none⟩) d.env.length capV) 0 U23 rfl rfl rfl (congrArg some hve2)) ?_
       refine j_q (qs_ixn (g := gV) (off := 0) (i := k) U23 sz48 rfl rfl (by omega)) ?_
       refine j_q (qs_field U48 rfl sz9 (by decide) rfl) ?_
       refine j_storerec (g := gV) (i := k) (fo := 1) (rs := upd (setP (outP (modH M d).1 (d.outs.getD i o0).name d.name) (d.outs.getD i o0).name) (envA M d i) k) (d := v0) ((setP (outP (modH M d).1 (d.outs.getD i o0).name d.name) (d.outs.getD i o0).name) ((envA M d i).getD k v0)) 5 encV_len hov2 rfl (by rw [upd_len]; omega) sz9 rfl rfl rfl (by decide) (by rw [upd_get _ v0 hk]; unfold setP; rw [if_pos hnm]; rfl) (fun cv3 hov3 => ?_)
       rw [upd_set _ v0 hk] at hov3
       refine j_q (qs_add64 rfl rfl (by omega)) ?_
       refine j_back rfl ?_
       exact ⟨d.env.length - (k + 1), by omega, k + 1, cv3, rfl, rfl, hov3, by omega, rfl⟩
      ·skip
       have hnm : ((envA M d i).getD k v0).name ≠ (d.outs.getD i o0).name := by simpa using hc8
       have hsame : (setP (outP (modH M d).1 (d.outs.getD i o0).name d.name) (d.outs.getD i o0).name) ((envA M d i).getD k v0) = ((envA M d i).getD k v0) := by
        unfold setP
        rw [if_neg hnm]
       rw [← upd_same _ v0 hk hsame] at hov2
       refine j_q (qs_add64 rfl rfl (by omega)) ?_
       refine j_back rfl ?_
       exact ⟨d.env.length - (k + 1), by omega, k + 1, cv2, rfl, rfl, hov2, by omega, rfl⟩
     ·skip
      obtain rfl : k = d.env.length := by
       simp only [bnA] at *
       omega
      rw [← hel, upd_all, show (outP (modH M d).1 (d.outs.getD i o0).name d.name) = ((FO M d) (d.outs.getD i o0)).path from (oP_out hc2).symm, envA_step hi, hel] at hov2
      rw [upd_set _ o0 hi] at hoo2
      refine j_q (qs_add64 rfl rfl (by omega)) ?_
      refine j_back rfl ?_
      exact ⟨d.outs.length - (i + 1), by omega, i + 1, co2, cv2, rfl, rfl, hoo2, hov2, fun j hj => by rcases Nat.lt_or_ge j i with h | h; exact hz j h; rw [show j = i by omega]; exact hoe, by omega, rfl⟩
  ·skip
   obtain rfl : i = d.outs.length := by
    simp only [bnA] at *
    omega
   rw [upd_all] at hoo
   rw [envA_all] at hov
   refine j_q (qs_loadw (l := dcells d x2) 0 U28 rfl sz28 rfl rfl rfl) ?_
   refine j_storew (g := g1) (l := dcells pdZ dvZ) (vs := dcells d x2) 8 sz28 rfl rfl rfl ho.one rfl rfl ?_
   refine j_q (qs_ac) ?_
   -- no @RET
   refine j_ret_sub [cI, FI, co, cS, cv, cA] (by repeat first | exact slR _ | exact slN _ | apply slC | apply slD) (vs := [_, _]) (fun w' hw' => ⟨rv_agg (g := g1) (l := dcells d x2) 8 U28 rfl sz28 rfl rfl rfl hw', rfl, trivial⟩) ?_
   rw [(fill_3 hme hz).1, (fill_3 hme hz).2]
   exact ⟨x2, co, cI, FI, cS, cA, cv, rfl, rfl, ⟨by rw [hvo2]; exact hoo, ho.i, ho.io, ho.im, ho.s, ho.a, by rw [hve2]; exact hov⟩⟩
theorem rref_con (d : PD) (x : DV) (w : World) (h : DR w d x) (hb : big2 d ≤ 200000) (hou : ∀ y ∈ d.ins, ∀ o ∈ y.outs, o.length ≤ 9223372036854775807) : Con Tryz.prog 35 [dval d x] w [] fun u S' => ∃ c, S' = [c] ∧ Sx.Own 49 1 (strs (refsP d)) u c := by
 refine con_of_tree mix Tryz.func35 T35_ok (by kernel_rfl) ?_
 unfold T35
 have few := few_of hb
 have few6 := few.li
 have few8 := few.ls
 have hrb := refs_big hb
 have hni : d.ins.length = x.mi.length := by rw [h.im, List.length_map]
 obtain ⟨Ai, capi, gi, offi, hvi, hcapi, hAi⟩ := rsln_form h.i
 obtain ⟨As, caps, hvs, hcaps⟩ := strz_form h.s
 refine j_box (l := dcells d x) rfl (fun g0 hg0 hs0 => ?_)
 refine j_q (qs_ac) ?_
 refine j_q (qs_loadw 0 U28 rfl sz28 rfl rfl rfl) ?_
 refine j_q (qs_call ent16 rfl rfl rfl (fun w' hw' => rcheck_con d x w' (h.keep hw') hb hou)) ?_
 refine j_q (qs_neq rfl rfl) ?_
 refine j_cond rfl (fun hc0 => ?_) (fun hc0 => ?_)
 ·skip
  have hck : chk d ≠ 0 := by simpa using hc0
  refine j_q (qs_ac) ?_
  refine j_subl (S' := [[]]) (by repeat first | exact slR _ | exact slN _ | apply slC | apply slD) ?_
  refine j_ret_con (vs := [_]) (fun w' hw' => ⟨rfl, trivial⟩) ?_
  exact ⟨[], rfl, by unfold refsP; rw [if_neg hck]; exact own_nil⟩
 ·skip
  have hck : chk d = 0 := by simpa using hc0
  refine j_lit (vs := []) U25 sz49 zero49 rfl (by simp [oneV]) ⟨rfl, by decide⟩ (fun g6 v6 c6 hv6 hc6 ho6 => ?_)
  subst hv6 hc6
  refine j_q (qs_field U28 rfl sz25 (by decide) rfl) ?_
  refine j_q (qs_load (l := dcells d x) (v := .slice As d.srcs.length caps) 1 U25 rfl rfl rfl (congrArg some hvs)) ?_
  refine j_append 0 U25 U25 (.inr ⟨_, rfl⟩) sb49 zero49 rfl ho6 rfl (src_strz (hvs ▸ h.s)) (strs_one _) ⟨(by simp only [List.length_nil, strs_length]; omega), (by decide)⟩ (fun v9 c9 ho9 => ?_)
  rw [List.nil_append] at ho9
  refine j_subl (S' := [c9, [(g0, .cells (dcells d x).toArray 28 (0, 0))], []]) (by repeat first | exact slR _ | exact slN _ | apply slC | apply slD) ?_
  refine j_q (qs_ac) ?_
  refine j_loop (fun m vs S' => ∃ (i : Nat) (lv : Value) (cl : SH), vs = [lv, .int .i64 (i : Int)] ∧ S' = [cl, [(g0, .cells (dcells d x).toArray 28 (0, 0))], []] ∧ Sx.Own 49 1 (strs (d.srcs ++ (x.mi.take i).map MI.drv)) lv cl ∧ i ≤ x.mi.length ∧ m = x.mi.length - i) ⟨_, 0, v9, c9, rfl, rfl, (by rw [List.take_zero, List.map_nil, List.append_nil]; exact ho9), Nat.zero_le _, rfl⟩ ?_
  rintro m vs S' hlen ⟨i, lv, cl, rfl, rfl, hol, hin, rfl⟩
  refine j_q (qs_field U28 rfl sz24 (by decide) rfl) ?_
  refine j_q (qs_load (l := dcells d x) (v := .slice Ai x.mi.length capi) 1 U24 rfl rfl rfl (congrArg some hvi)) ?_
  refine j_q (qs_lenl U24 rfl) ?_
  refine j_q (qs_lss rfl rfl) ?_
  refine j_cond rfl (fun hc1 => ?_) (fun hc1 => ?_)
  ·skip
   have hi : i < x.mi.length := by
    simp only [bnA] at *
    omega
   obtain ⟨rfl, hgi, hcells⟩ := hAi (by omega)
   refine j_q (qs_field U28 rfl sz24 (by decide) rfl) ?_
   refine j_q (qs_load (l := dcells d x) (v := .slice (some ⟨gi, offi, none⟩) x.mi.length capi) 1 U24 rfl rfl rfl (congrArg some hvi)) ?_
   refine j_q (qs_ixn (g := gi) (off := offi) (i := i) U24 sz68 rfl rfl (by omega)) ?_
   refine j_q (qs_field U68 rfl sz49 (by decide) rfl) ?_
   refine j_q (qs_loadrec (v := .string (bs (x.mi.getD i m0).drv)) (encA := encI) (rs := x.mi) (d := m0) (i := i) (fo := 0) encI_len (rd_cells hcells (by simp)) hi U49 rfl rfl rfl) ?_
   refine j_lit (vs := [.string (bs (x.mi.getD i m0).drv)]) U25 sz49 zero49 rfl (by simp [oneV]) ⟨rfl, by decide⟩ (fun g20 v20 c20 hv20 hc20 ho20 => ?_)
   subst hv20 hc20
   refine j_append 1 U25 U25 (.inr ⟨_, rfl⟩) sb49 zero49 rfl hol rfl (.inl ⟨_, _, rfl, rd_own (off := 0) (n := 1) 0 rfl rfl, rfl⟩) (by simp [oneV]) ⟨(by simp only [strs_length, List.length_append, List.length_map, List.length_take, List.drop_zero, List.length_cons, List.length_nil]; omega), (by decide)⟩ (fun v21 c21 ho21 => ?_)
   have ho21 : Sx.Own 49 1 (strs (d.srcs ++ (x.mi.take (i + 1)).map MI.drv)) v21 c21 := by
    rw [take_map_snoc MI.drv (d := m0) hi, ← List.append_assoc, strs_append]
    exact ho21
   refine j_subl (S' := [c21, [(g0, .cells (dcells d x).toArray 28 (0, 0))], []]) (by repeat first | exact slR _ | exact slN _ | apply slC | apply slD) ?_
   refine j_q (qs_add64 rfl rfl (by omega)) ?_
   refine j_back rfl ?_
   exact ⟨x.mi.length - (i + 1), by omega, i + 1, v21, c21, bools2 rfl (by omega), rfl, ho21, by omega, rfl⟩
  ·skip
   obtain rfl : i = x.mi.length := by
    simp only [bnA] at *
    omega
   rw [List.take_length] at hol
   refine j_call0 ent31 rfl rfl rfl (fun w' hw' => rising_con (d.srcs ++ x.mi.map MI.drv) _ w' (strsl_own hol 0 rfl hw') (by rw [List.length_append, List.length_map]; omega)) (fun u S2 hu => ?_)
   obtain ⟨c23, rfl, ho23⟩ := hu
   refine j_subl (S' := [c23]) (by repeat first | exact slR _ | exact slN _ | apply slC | apply slD) ?_
   refine j_ret_con (vs := [_]) (fun w' hw' => ⟨rfl, trivial⟩) ?_
   refine ⟨c23, rfl, ?_⟩
   have e : refsP d = rise (d.srcs ++ x.mi.map MI.drv) := by
    unfold refsP
    rw [if_pos hck, refs_in h.im]
    exact rise_congr fun y => by rw [List.mem_append, List.mem_append, or_comm]
   rw [e]
   exact ho23
theorem rdpath_con (d : PD) (x : DV) (w : World) (h : DR w d x) (hb : big2 d ≤ 200000) (hou : ∀ y ∈ d.ins, ∀ o ∈ y.outs, o.length ≤ 9223372036854775807) : Con Tryz.prog 34 [dval d x] w [] fun u _ => u = pathV d := by
 refine con_of_tree mix Tryz.func34 T34_ok (by kernel_rfl) ?_
 unfold T34
 have few := few_of hb
 have few1 := few.nm
 have hrl := refsP_len d
 have hrb := refs_big hb
 refine j_box (l := dcells d x) rfl (fun g0 hg0 hs0 => ?_)
 refine j_q (qs_ac) ?_
 refine j_q (qs_ac) ?_
 refine j_q (qs_loadw (l := dcells d x) 0 U28 rfl sz28 rfl rfl rfl) ?_
 refine j_q (qs_call ent14 rfl rfl rfl (fun w' hw' => rprint_con d x w' (h.keep hw') hb hou)) ?_
 refine j_q (qs_ext (vs := [.string (bs (prS d)), .int .i64 (chk d)]) rfl rfl) ?_
 refine j_q (qs_ext (vs := [.string (bs (prS d)), .int .i64 (chk d)]) rfl rfl) ?_
 refine j_q (qs_neq rfl rfl) ?_
 refine j_cond rfl (fun hc0 => ?_) (fun hc0 => ?_)
 ·skip
  have hck : chk d ≠ 0 := by simpa using hc0
  refine j_q (qs_ac) ?_
  refine j_ret_con (vs := [_, _]) (fun w' hw' => ⟨rfl, rfl, trivial⟩) ?_
  show Value.tuple #[_, _] = _
  unfold pathV
  rw [if_neg hck]
  rfl
 ·skip
  have hck : chk d = 0 := by simpa using hc0
  have hpr : prS d = dtext d := by unfold prS; rw [if_pos hck]
  refine j_mix _ (.refl _) ?_
  refine j_mq (qs_loadw (l := dcells d x) 0 U28 rfl sz28 rfl rfl rfl) ?_
  refine j_mq (qs_field U28 rfl sz9 (by decide) rfl) ?_
  refine j_mq (qs_load (l := dcells d x) (v := .string (bs d.name)) 0 U9 rfl rfl rfl rfl) ?_
  refine j_mq (qs_sadd (l' := sDrv) rfl rfl (by simp only [List.length_cons, List.length_nil]; omega)) ?_
  rw [hpr]
  refine j_bytes U9 U46 U5 rfl (fun v13 c13 ho13 hv13 => ?_)
  obtain ⟨g13, cap13, rfl⟩ := hv13
  refine j_mD0 (Le.of_sub (by repeat first | exact slR _ | exact slN _ | apply slC | apply slD)) ?_
  refine j_q (qs_call ent61 rfl rfl rfl (fun w' hw' => rsum_con (dtext d) _ _ w' (by have := dtext_le (tb_chk hck hb); omega) (rd_w (own_rd ho13 0 rfl) hw'))) ?_
  refine j_mD0 (Le.of_sub (by repeat first | exact slR _ | exact slN _ | apply slC | apply slD)) ?_
  refine j_call0 ent35 rfl rfl rfl (fun w' hw' => rref_con d x w' (h.keep hw') hb hou) (fun u S2 hu => ?_)
  obtain ⟨c15, rfl, ho15⟩ := hu
  refine j_mD0 (Le.of_sub (by repeat first | exact slR _ | exact slN _ | apply slC | apply slD)) ?_
  refine j_q (qs_call ent65 rfl rfl rfl (fun w' hw' => rptext_con (sum (dtext d)) (refsP d) (d.name ++ sDrv) _ w' (strsl_own ho15 0 rfl hw') (sum_length _) (by omega) (fun r hr => Nat.le_trans (refsP_le hb r hr) (by decide)) (by rw [List.length_append]; simp only [List.length_cons, List.length_nil]; omega))) ?_
  unfold withV
  refine j_mR _ (.refl _) ?_
  refine j_mq (qs_ext (vs := [.string (bs (withP kText (sum (dtext d)) (refsP d) (d.name ++ sDrv))), .int .i64 (withE (refsP d) (d.name ++ sDrv))]) rfl rfl) ?_
  refine j_mq (qs_ext (vs := [.string (bs (withP kText (sum (dtext d)) (refsP d) (d.name ++ sDrv))), .int .i64 (withE (refsP d) (d.name ++ sDrv))]) rfl rfl) ?_
  refine j_mend ?_
  refine j_ret_con (vs := [_, _]) (fun w' hw' => ⟨rfl, rfl, trivial⟩) ?_
  show Value.tuple #[_, _] = _
  unfold pathV withV
  rw [if_pos hck]
  rfl
end Go.Proofs.YtfeabbeebkkhaaaGreat
