/- Derivations: the document's Check and Print. -/
import Derived.Test.YtfeabbeebkkhaaaGreatTa
import Derived.Test.YtfeabbeebkkhaaaGreatDv9
import Derived.Test.YtfeabbeebkkhaaaGreatSx22
namespace Go.Proofs.YtfeabbeebkkhaaaGreat
open Go Go.Sx
set_option maxRecDepth 100000
set_option maxHeartbeats 4000000
set_option linter.unusedVariables false
set_option linter.unusedSimpArgs false
attribute [local irreducible] J JQ QS Con W opW
theorem ent16 : Sx.Enters Tryz.prog 16 := ⟨_, Tryz.func16, by kernel_rfl, by kernel_rfl⟩
theorem ent24 : Sx.Enters Tryz.prog 24 := ⟨_, Tryz.func24, by kernel_rfl, by kernel_rfl⟩
theorem ent37 : Sx.Enters Tryz.prog 37 := ⟨_, Tryz.func37, by kernel_rfl, by kernel_rfl⟩
theorem ent42 : Sx.Enters Tryz.prog 42 := ⟨_, Tryz.func42, by kernel_rfl, by kernel_rfl⟩
theorem ent80 : Sx.Enters Tryz.prog 80 := ⟨_, Tryz.func80, by kernel_rfl, by kernel_rfl⟩

section
variable {d : PD}
theorem ck_1 (h : (isName d.name && isName (d.name ++ sDrv)) = false) : chk0 d = 9 := by unfold chk0 orE; rw [h]; rfl
theorem ck_2 {e : Int} (h : (isName d.name && isName (d.name ++ sDrv)) = true) (h2 : chkOuts d.outs = e) (he : e ≠ 0) : chk0 d = e := by
  unfold chk0
  rw [if_pos h, h2]
  unfold orE
  rw [if_neg he]
theorem ck_3 {e : Int} (h : (isName d.name && isName (d.name ++ sDrv)) = true) (h2 : chkOuts d.outs = 0) (h3 : chkIns d.ins = e) (he : e ≠ 0) : chk0 d = e := by
  unfold chk0
  rw [if_pos h, h2, h3]
  unfold orE
  rw [if_pos rfl, if_neg he]
theorem ck_4 {e : Int} (h : (isName d.name && isName (d.name ++ sDrv)) = true) (h2 : chkOuts d.outs = 0) (h3 : chkIns d.ins = 0) (h4 : firstE (chkS d.srcs) d.srcs.length = e) (he : e ≠ 0) : chk0 d = e := by
  unfold chk0
  rw [if_pos h, h2, h3, h4]
  unfold orE
  rw [if_pos rfl, if_pos rfl, if_neg he]
theorem ck_5 {e : Int} (h : (isName d.name && isName (d.name ++ sDrv)) = true) (h2 : chkOuts d.outs = 0) (h3 : chkIns d.ins = 0) (h4 : firstE (chkS d.srcs) d.srcs.length = 0) (h5 : firstE (chkV d.env) d.env.length = e) : chk0 d = e := by
  unfold chk0
  rw [if_pos h, h2, h3, h4, h5]
  unfold orE
  rw [if_pos rfl, if_pos rfl, if_pos rfl]
theorem outs_len (h : d.outs.length < 1 ∨ 16 < d.outs.length) : chkOuts d.outs = 1 := by unfold chkOuts; rw [if_pos h]
theorem outs_zero (hn : ¬ (d.outs.length < 1 ∨ 16 < d.outs.length)) (h : ∀ j < d.outs.length, chkO d.outs j = 0) : chkOuts d.outs = 0 := by unfold chkOuts; rw [if_neg hn]; exact firstE_zero h
theorem chk_of {d : PD} : chk d = if chk0 d ≠ 0 then chk0 d else if 262144 < (dtext d).length then 5 else 0 := by
  unfold chk orE
  by_cases h : chk0 d = 0
  · rw [if_pos h, if_neg (not_not_intro h)]
  · rw [if_neg h, if_pos h]
end
attribute [local irreducible] es qt cms hex Tbl Half lst isName isPath isDrvP leB chkO chkOuts chkN chkI chkIns firstE spA spB spE chkS chkV dtext chk chk0 tTs
/-- pantry.pantryref3.Is -/
theorem isP_con (p : Bs) (w : World) (hp : p.length ≤ 9223372036854775807) : Con Tryz.prog 24 [.string (bs p)] w [] fun v _ => v = .bool (isPath p) := by
  refine con_of_tree mix Tryz.func24 T24_ok (by kernel_rfl) ?_
  unfold T24
  refine j_q (qs_ac) ?_
  refine j_q (qs_call ent29 rfl rfl rfl (fun w' hw' => rsplit_con p w' (by omega))) ?_
  unfold spl
  refine j_q (qs_ext (vs := [.string (bs (spA p)), .string (bs (spB p)), .int .i64 (spE p)]) rfl rfl) ?_
  refine j_q (qs_ext (vs := [.string (bs (spA p)), .string (bs (spB p)), .int .i64 (spE p)]) rfl rfl) ?_
  refine j_q (qs_ext (vs := [.string (bs (spA p)), .string (bs (spB p)), .int .i64 (spE p)]) rfl rfl) ?_
  refine j_q (qs_eql rfl rfl) ?_
  refine j_ret_con (vs := [_]) (fun w' hw' => ⟨rfl, trivial⟩) ?_
  show Value.bool _ = _
  congr 1
  unfold spE
  cases isPath p <;> rfl
/-- pantry.pantryref14.check -/
theorem rcheck0_con (d : PD) (x : DV) (w : World) (h : DR w d x) (hb : big2 d ≤ 16000) (hou : ∀ y ∈ d.ins, ∀ o ∈ y.outs, o.length ≤ 9223372036854775807) : Con Tryz.prog 42 [dval d x] w [] fun v _ => v = .int .i64 (chk0 d) := by
  refine con_of_tree mix Tryz.func42 T42_ok (by kernel_rfl) ?_
  unfold T42
  have few := few_of hb
  have few1 := few.nm
  have few4 := few.la
  have few5 := few.le
  have few6 := few.li
  have few7 := few.lo
  have few8 := few.ls
  have hni : d.ins.length = x.mi.length := by rw [h.im, List.length_map]
  obtain ⟨Ao, capo, go, offo, hvo, hcapo, hAo⟩ := rsln_form h.o
  obtain ⟨Ai, capi, gi, offi, hvi, hcapi, hAi⟩ := rsln_form h.i
  obtain ⟨Ae, cape, ge, offe, hve, hcape, hAe⟩ := rsln_form h.e
  obtain ⟨As, caps, hvs, hcaps⟩ := strz_form h.s
  have hmem : ∀ m ∈ x.mi, m.pi ∈ d.ins := fun m hm => by rw [h.im]; exact List.mem_map_of_mem hm
  refine j_box (l := dcells d x) rfl (fun g0 hg0 hs0 => ?_)
  refine j_q (qs_ac) ?_
  refine j_q (qs_field Tryz.underlying28 rfl sz9 (by decide) rfl) ?_
  first
    | refine j_q (qs_load 0 Tryz.underlying9 rfl rfl rfl rfl) ?_
    | refine j_q (qs_load 1 Tryz.underlying9 rfl rfl rfl rfl) ?_
    | refine j_q (qs_load 2 Tryz.underlying9 rfl rfl rfl rfl) ?_
    | refine j_q (qs_load 3 Tryz.underlying9 rfl rfl rfl rfl) ?_
  refine j_q (qs_call ent59 rfl rfl rfl (fun w' hw' => risName_con d.name w' (by omega))) ?_
  refine j_q (qs_not rfl) ?_
  refine j_g rfl (fun hb => qs_field Tryz.underlying28 rfl sz9 (by decide) rfl) ?_
  first
    | refine j_g rfl (fun hb => qs_load 0 Tryz.underlying9 rfl (gd_eq hb) rfl rfl) ?_
    | refine j_g rfl (fun hb => qs_load 1 Tryz.underlying9 rfl (gd_eq hb) rfl rfl) ?_
    | refine j_g rfl (fun hb => qs_load 2 Tryz.underlying9 rfl (gd_eq hb) rfl rfl) ?_
    | refine j_g rfl (fun hb => qs_load 3 Tryz.underlying9 rfl (gd_eq hb) rfl rfl) ?_
  refine j_g rfl (fun hb1 => qs_sadd (l' := sDrv) (gd_eq hb1) rfl (by simp only [List.length_cons, List.length_nil]; omega)) ?_
  refine j_g rfl (fun hb => qs_call ent59 rfl rfl (args1 (gd_eq hb)) (fun w' hw' => risName_con (d.name ++ sDrv) w' (by simp only [List.length_append, List.length_cons, List.length_nil]; omega))) ?_
  refine j_g rfl (fun hb => qs_not (gd_eq hb)) ?_
  refine j_q (qs_or rfl rfl) ?_
  refine j_cond rfl (fun hc0 => ?_) (fun hc0 => ?_)
  · skip
    have hn0 := nm_or hc0
    refine j_q (qs_ac) ?_
    refine j_ret_con (vs := [_]) (fun w' hw' => ⟨rfl, trivial⟩) ?_
    symm
    show _ = Value.int .i64 9
    congr 1
    exact ck_1 hn0
  · skip
    have hn0 := nm_and hc0
    refine j_q (qs_field Tryz.underlying28 rfl sz26 (by decide) rfl) ?_
    refine j_q (qs_load (l := dcells d x) 0 Tryz.underlying26 rfl rfl rfl (congrArg some hvo)) ?_
    refine j_q (qs_lenl Tryz.underlying26 rfl) ?_
    refine j_q (qs_lss rfl rfl) ?_
    refine j_g rfl (fun hb => qs_field Tryz.underlying28 rfl sz26 (by decide) rfl) ?_
    refine j_g rfl (fun hb1 => qs_load (l := dcells d x) 0 Tryz.underlying26 rfl (gd_eq hb1) rfl (congrArg some hvo)) ?_
    refine j_g rfl (fun hb => qs_lenl Tryz.underlying26 (gd_eq hb)) ?_
    refine j_g rfl (fun hb => qs_gtr (gd_eq hb) rfl) ?_
    refine j_q (qs_or rfl rfl) ?_
    refine j_cond rfl (fun hc1 => ?_) (fun hc1 => ?_)
    · skip
      have hol : d.outs.length < 1 ∨ 16 < d.outs.length := by
        simp only [Bool.and_eq_true, Bool.or_eq_true, Bool.and_eq_false_iff, Bool.or_eq_false_iff, Bool.not_eq_true', Bool.not_eq_false', decide_eq_true_eq, decide_eq_false_iff_not, beq_iff_eq, beq_eq_false_iff_ne, bne_iff_ne, bne_eq_false_iff_eq, ne_eq, Int.toNat_natCast] at *
        omega
      refine j_q (qs_ac) ?_
      refine j_ret_con (vs := [_]) (fun w' hw' => ⟨rfl, trivial⟩) ?_
      symm
      show _ = Value.int .i64 1
      congr 1
      exact ck_2 hn0 (outs_len hol) (by decide)
    · skip
      have hnn : ¬ (d.outs.length < 1 ∨ 16 < d.outs.length) := by
        simp only [Bool.and_eq_true, Bool.or_eq_true, Bool.and_eq_false_iff, Bool.or_eq_false_iff, Bool.not_eq_true', Bool.not_eq_false', decide_eq_true_eq, decide_eq_false_iff_not, beq_iff_eq, beq_eq_false_iff_ne, bne_iff_ne, bne_eq_false_iff_eq, ne_eq, Int.toNat_natCast] at *
        omega
      refine j_q (qs_ac) ?_
      refine j_loop (fun m vs S' => ∃ i : Nat, vs = [.int .i64 (i : Int)] ∧ S' = [[(g0, .cells (dcells d x).toArray 28 (0, 0))], []] ∧ i ≤ d.outs.length ∧ (∀ j < i, chkO d.outs j = 0) ∧ m = d.outs.length - i) ⟨_, 0, rfl, rfl, Nat.zero_le _, (fun j hj => absurd hj (Nat.not_lt_zero _)), rfl⟩ ?_
      rintro m vs S' hlen ⟨i, rfl, rfl, hin, hz, rfl⟩
      refine j_q (qs_field Tryz.underlying28 rfl sz26 (by decide) rfl) ?_
      refine j_q (qs_load (l := dcells d x) 0 Tryz.underlying26 rfl rfl rfl (congrArg some hvo)) ?_
      refine j_q (qs_lenl Tryz.underlying26 rfl) ?_
      refine j_q (qs_lss rfl rfl) ?_
      refine j_cond rfl (fun hc2 => ?_) (fun hc2 => ?_)
      · skip
        have hi : i < d.outs.length := by
          simp only [Bool.and_eq_true, Bool.or_eq_true, Bool.and_eq_false_iff, Bool.or_eq_false_iff, Bool.not_eq_true', Bool.not_eq_false', decide_eq_true_eq, decide_eq_false_iff_not, beq_iff_eq, beq_eq_false_iff_ne, bne_iff_ne, bne_eq_false_iff_eq, ne_eq, Int.toNat_natCast] at *
          omega
        obtain ⟨rfl, hgo, hcells⟩ := hAo (by omega)
        have hl1 := few.ou _ (getD_mem (d := o0) hi)
        refine j_q (qs_field Tryz.underlying28 rfl sz26 (by decide) rfl) ?_
        refine j_q (qs_load (l := dcells d x) 0 Tryz.underlying26 rfl rfl rfl (congrArg some hvo)) ?_
        refine j_q (qs_ixn (g := go) (off := offo) (i := i) Tryz.underlying26 sz53 rfl rfl (by omega)) ?_
        refine j_q (qs_loadrecw (encA := encO) (rs := d.outs) (d := o0) (i := i) encO_len (rd_cells hcells (by simp)) hi Tryz.underlying53 rfl sz53 rfl) ?_
        refine j_alloc zero53 (fun g32 hg32 hs32 => ?_)
        refine j_storew (vs := encO (d.outs.getD i o0)) 0 sz53 rfl rfl (encO_len _) (encO_one _) rfl rfl ?_
        refine j_q (qs_field Tryz.underlying53 rfl sz9 (by decide) rfl) ?_
        first
          | refine j_q (qs_load 0 Tryz.underlying9 rfl rfl rfl rfl) ?_
          | refine j_q (qs_load 1 Tryz.underlying9 rfl rfl rfl rfl) ?_
          | refine j_q (qs_load 2 Tryz.underlying9 rfl rfl rfl rfl) ?_
          | refine j_q (qs_load 3 Tryz.underlying9 rfl rfl rfl rfl) ?_
        refine j_q (qs_call ent59 rfl rfl rfl (fun w' hw' => risName_con _ w' (by omega))) ?_
        refine j_q (qs_not rfl) ?_
        refine j_cond rfl (fun hc3 => ?_) (fun hc3 => ?_)
        · skip
          have hnm : isName (d.outs.getD i o0).name = false := by simpa using hc3
          refine j_q (qs_ac) ?_
          refine j_ret_con (vs := [_]) (fun w' hw' => ⟨rfl, trivial⟩) ?_
          symm
          show _ = Value.int .i64 9
          congr 1
          exact ck_2 hn0 (chkOuts_at hnn hz hi (chkO_name hnm) (by decide)) (by decide)
        · skip
          have hnm : isName (d.outs.getD i o0).name = true := by simpa using hc3
          refine j_draw ?_
          refine jq_q (qs_gtr rfl rfl) ?_
          refine jq_g rfl (fun hb => qs_field Tryz.underlying53 rfl sz9 (by decide) rfl) ?_
          first
            | refine jq_g rfl (fun hb => qs_load 0 Tryz.underlying9 rfl (gd_eq hb) rfl rfl) ?_
            | refine jq_g rfl (fun hb => qs_load 1 Tryz.underlying9 rfl (gd_eq hb) rfl rfl) ?_
            | refine jq_g rfl (fun hb => qs_load 2 Tryz.underlying9 rfl (gd_eq hb) rfl rfl) ?_
            | refine jq_g rfl (fun hb => qs_load 3 Tryz.underlying9 rfl (gd_eq hb) rfl rfl) ?_
          refine jq_g rfl (fun hb => qs_field Tryz.underlying28 rfl sz26 (by decide) rfl) ?_
          refine jq_g rfl (fun hb1 => qs_load (l := dcells d x) 1 Tryz.underlying26 rfl (gd_eq hb1) rfl (congrArg some hvo)) ?_
          refine jq_g rfl (fun hb => qs_mt rfl) ?_
          refine jq_g rfl (fun hb => qs_sub64 (gd_eq hb) rfl (by first | omega | (simp only [Bool.and_eq_true, Bool.or_eq_true, Bool.and_eq_false_iff, Bool.or_eq_false_iff, Bool.not_eq_true', Bool.not_eq_false', decide_eq_true_eq, decide_eq_false_iff_not, beq_iff_eq, beq_eq_false_iff_ne, bne_iff_ne, bne_eq_false_iff_eq, ne_eq, Int.toNat_natCast] at *; omega))) ?_
          refine jq_g rfl (fun hb1 => qs_ixm (g := go) (off := offo) (i := i - 1) Tryz.underlying26 sz53 (gd_eq hb1) (gd_eq hb1) (by simp only [Bool.and_eq_true, Bool.or_eq_true, Bool.and_eq_false_iff, Bool.or_eq_false_iff, Bool.not_eq_true', Bool.not_eq_false', decide_eq_true_eq, decide_eq_false_iff_not, beq_iff_eq, beq_eq_false_iff_ne, bne_iff_ne, bne_eq_false_iff_eq, ne_eq, Int.toNat_natCast] at *; omega) (by omega)) ?_
          refine jq_g rfl (fun hb => qs_field Tryz.underlying53 rfl sz9 (by decide) (gd_eq hb)) ?_
          refine jq_g rfl (fun hb1 => qs_loadrec (v := .string (bs (d.outs.getD (i - 1) o0).name)) (encA := encO) (rs := d.outs) (d := o0) (i := i - 1) (fo := 0) encO_len (rd_cells hcells (by simp)) (by omega) Tryz.underlying9 rfl (gd_eq hb1) rfl) ?_
          refine jq_g rfl (fun hb => qs_sleq (gd_eq hb) (gd_eq hb)) ?_
          refine jq_q (qs_and rfl rfl) ?_
          refine jq_g rfl (fun hb => qs_field Tryz.underlying53 rfl sz49 (by decide) rfl) ?_
          first
            | refine jq_g rfl (fun hb => qs_load 0 Tryz.underlying49 rfl (gd_eq hb) rfl rfl) ?_
            | refine jq_g rfl (fun hb => qs_load 1 Tryz.underlying49 rfl (gd_eq hb) rfl rfl) ?_
            | refine jq_g rfl (fun hb => qs_load 2 Tryz.underlying49 rfl (gd_eq hb) rfl rfl) ?_
            | refine jq_g rfl (fun hb => qs_load 3 Tryz.underlying49 rfl (gd_eq hb) rfl rfl) ?_
          refine jq_g rfl (fun hb1 => qs_sneq (l' := []) (gd_eq hb1) rfl) ?_
          refine jq_g rfl (fun hb => qs_move (gd_eq hb)) ?_
          refine jq_gg rfl (fun hb hb1 => qs_field Tryz.underlying53 rfl sz49 (by decide) rfl) ?_
          first
            | refine jq_gg rfl (fun hb hb1 => qs_load 0 Tryz.underlying49 rfl (gd_eq2 hb hb1) rfl rfl) ?_
            | refine jq_gg rfl (fun hb hb1 => qs_load 1 Tryz.underlying49 rfl (gd_eq2 hb hb1) rfl rfl) ?_
            | refine jq_gg rfl (fun hb hb1 => qs_load 2 Tryz.underlying49 rfl (gd_eq2 hb hb1) rfl rfl) ?_
            | refine jq_gg rfl (fun hb hb1 => qs_load 3 Tryz.underlying49 rfl (gd_eq2 hb hb1) rfl rfl) ?_
          refine jq_gg rfl (fun hb hb1 => qs_call ent24 rfl rfl (args1 (gd_eq2 hb hb1)) (fun w' hw' => isP_con _ w' (by omega))) ?_
          refine jq_gg rfl (fun hb hb1 => qs_not (gd_eq2 hb hb1)) ?_
          refine jq_g rfl (fun hb => qs_and (gd_eq hb) (gd_eq hb)) ?_
          refine jq_q (qs_or rfl rfl) ?_
          refine jq_g rfl (fun hb => qs_field Tryz.underlying53 rfl sz4 (by decide) rfl) ?_
          first
            | refine jq_g rfl (fun hb => qs_load 0 Tryz.underlying4 rfl (gd_eq hb) rfl rfl) ?_
            | refine jq_g rfl (fun hb => qs_load 1 Tryz.underlying4 rfl (gd_eq hb) rfl rfl) ?_
            | refine jq_g rfl (fun hb => qs_load 2 Tryz.underlying4 rfl (gd_eq hb) rfl rfl) ?_
            | refine jq_g rfl (fun hb => qs_load 3 Tryz.underlying4 rfl (gd_eq hb) rfl rfl) ?_
          refine jq_g rfl (fun hb => qs_move (gd_eq hb)) ?_
          refine jq_gg rfl (fun hb hb1 => qs_field Tryz.underlying28 rfl sz26 (by decide) rfl) ?_
          refine jq_gg rfl (fun hb1 hb2 => qs_load (l := dcells d x) 1 Tryz.underlying26 rfl (gd_eq2 hb1 hb2) rfl (congrArg some hvo)) ?_
          refine jq_gg rfl (fun hb hb1 => qs_lenl Tryz.underlying26 (gd_eq2 hb hb1)) ?_
          refine jq_gg rfl (fun hb hb1 => qs_gtr (gd_eq2 hb hb1) rfl) ?_
          refine jq_gg rfl (fun hb hb1 => qs_move (gd_eq2 hb hb1)) ?_
          refine jq_ggg rfl (fun hb hb1 hb2 => qs_field Tryz.underlying53 rfl sz9 (by decide) rfl) ?_
          first
            | refine jq_ggg rfl (fun hb hb1 hb2 => qs_load 0 Tryz.underlying9 rfl (gd_eq3 hb hb1 hb2) rfl rfl) ?_
            | refine jq_ggg rfl (fun hb hb1 hb2 => qs_load 1 Tryz.underlying9 rfl (gd_eq3 hb hb1 hb2) rfl rfl) ?_
            | refine jq_ggg rfl (fun hb hb1 hb2 => qs_load 2 Tryz.underlying9 rfl (gd_eq3 hb hb1 hb2) rfl rfl) ?_
            | refine jq_ggg rfl (fun hb hb1 hb2 => qs_load 3 Tryz.underlying9 rfl (gd_eq3 hb hb1 hb2) rfl rfl) ?_
          refine jq_ggg rfl (fun hb1 hb2 hb3 => qs_sneq (l' := sOut) (gd_eq3 hb1 hb2 hb3) rfl) ?_
          refine jq_gg rfl (fun hb hb1 => qs_or (gd_eq2 hb hb1) (gd_eq2 hb hb1)) ?_
          refine jq_g rfl (fun hb => qs_and (gd_eq hb) (gd_eq hb)) ?_
          refine jq_q (qs_or rfl rfl) ?_
          refine jq_g rfl (fun hb => qs_field Tryz.underlying53 rfl sz4 (by decide) rfl) ?_
          first
            | refine jq_g rfl (fun hb => qs_load 0 Tryz.underlying4 rfl (gd_eq hb) rfl rfl) ?_
            | refine jq_g rfl (fun hb => qs_load 1 Tryz.underlying4 rfl (gd_eq hb) rfl rfl) ?_
            | refine jq_g rfl (fun hb => qs_load 2 Tryz.underlying4 rfl (gd_eq hb) rfl rfl) ?_
            | refine jq_g rfl (fun hb => qs_load 3 Tryz.underlying4 rfl (gd_eq hb) rfl rfl) ?_
          refine jq_g rfl (fun hb => qs_not (gd_eq hb)) ?_
          refine jq_g rfl (fun hb => qs_move (gd_eq hb)) ?_
          refine jq_gg rfl (fun hb hb1 => qs_field Tryz.underlying53 rfl sz51 (by decide) rfl) ?_
          refine jq_gg rfl (fun hb1 hb2 => qs_loada (i := 3) (n := 32) (l := encO (d.outs.getD i o0)) 0 Tryz.underlying51 rfl sz51 (gd_eq2 hb1 hb2) rfl (by rw [encO_len]; omega)) ?_
          rw [show ((encO (d.outs.getD i o0)).drop 3).take 32 = ints (d.outs.getD i o0).hash.1 by show (ints _).take 32 = _; rw [List.take_of_length_le (by rw [ints_length, (d.outs.getD i o0).hash.2]; omega)]]
          refine jq_gg rfl (fun hb1 hb2 => qs_run (v := .agg (ints (List.replicate 32 0)).toArray) (fun w => by kernel_rfl)) ?_
          refine jq_gg rfl (fun hb1 hb2 => qs_ane (l := (d.outs.getD i o0).hash.1) (m := List.replicate 32 0) Tryz.underlying51 Tryz.underlying5 (by kernel_rfl) (by kernel_rfl) (by kernel_rfl) (gd_eq2 hb1 hb2) (gd_eq2 hb1 hb2) (d.outs.getD i o0).hash.2 (by simp)) ?_
          refine jq_g rfl (fun hb => qs_and (gd_eq hb) (gd_eq hb)) ?_
          refine jq_q (qs_or rfl rfl) ?_
          refine jq_nil ?_
          refine j_cond rfl (fun hc4 => ?_) (fun hc4 => ?_)
          · skip
            have hbad : badO d.outs i = true := by
              rw [badO_eq]
              unfold bo1
              rw [← gt0]
              exact hc4
            refine j_q (qs_ac) ?_
            refine j_ret_con (vs := [_]) (fun w' hw' => ⟨rfl, trivial⟩) ?_
            symm
            show _ = Value.int .i64 3
            congr 1
            exact ck_2 hn0 (chkOuts_at hnn hz hi (chkO_bad hnm hbad) (by decide)) (by decide)
          · skip
            have hbad : badO d.outs i = false := by
              rw [badO_eq]
              unfold bo1
              rw [← gt0]
              exact hc4
            refine j_q (qs_add64 rfl rfl (by first | omega | (simp only [Bool.and_eq_true, Bool.or_eq_true, Bool.and_eq_false_iff, Bool.or_eq_false_iff, Bool.not_eq_true', Bool.not_eq_false', decide_eq_true_eq, decide_eq_false_iff_not, beq_iff_eq, beq_eq_false_iff_ne, bne_iff_ne, bne_eq_false_iff_eq, ne_eq, Int.toNat_natCast] at *; omega))) ?_
            refine j_subl (S' := [[(g0, .cells (dcells d x).toArray 28 (0, 0))], []]) (by repeat first | exact List.Sublist.refl _ | exact List.nil_sublist _ | apply List.Sublist.cons_cons | apply List.Sublist.cons) ?_
            refine j_back rfl ?_
            exact ⟨d.outs.length - (i + 1), by omega, i + 1, rfl, rfl, by omega, zero_snoc hz (chkO_ok hnm hbad), rfl⟩
      · skip
        obtain rfl : i = d.outs.length := by
          simp only [Bool.and_eq_true, Bool.or_eq_true, Bool.and_eq_false_iff, Bool.or_eq_false_iff, Bool.not_eq_true', Bool.not_eq_false', decide_eq_true_eq, decide_eq_false_iff_not, beq_iff_eq, beq_eq_false_iff_ne, bne_iff_ne, bne_eq_false_iff_eq, ne_eq, Int.toNat_natCast] at *
          omega
        have hO0 := outs_zero hnn hz
        refine j_q (qs_ac) ?_
        refine j_loop (fun m vs S' => ∃ i : Nat, vs = [.int .i64 (i : Int)] ∧ S' = [[(g0, .cells (dcells d x).toArray 28 (0, 0))], []] ∧ i ≤ d.ins.length ∧ (∀ j < i, chkI d.ins j = 0) ∧ m = d.ins.length - i) ⟨_, 0, rfl, rfl, Nat.zero_le _, (fun j hj => absurd hj (Nat.not_lt_zero _)), rfl⟩ ?_
        rintro m vs S' hlen ⟨i, rfl, rfl, hin, hz, rfl⟩
        refine j_q (qs_field Tryz.underlying28 rfl sz24 (by decide) rfl) ?_
        refine j_q (qs_load (l := dcells d x) 0 Tryz.underlying24 rfl rfl rfl (congrArg some hvi)) ?_
        refine j_q (qs_lenl Tryz.underlying24 rfl) ?_
        refine j_q (qs_lss rfl rfl) ?_
        refine j_cond rfl (fun hc5 => ?_) (fun hc5 => ?_)
        · skip
          have hi : i < x.mi.length := by
            simp only [Bool.and_eq_true, Bool.or_eq_true, Bool.and_eq_false_iff, Bool.or_eq_false_iff, Bool.not_eq_true', Bool.not_eq_false', decide_eq_true_eq, decide_eq_false_iff_not, beq_iff_eq, beq_eq_false_iff_ne, bne_iff_ne, bne_eq_false_iff_eq, ne_eq, Int.toNat_natCast] at *
            omega
          obtain ⟨rfl, hgi, hcells⟩ := hAi (by omega)
          have hip := few.ip _ (hmem _ (getD_mem (d := m0) hi))
          simp only [MI.pi] at hip
          have hsx := h.io _ (getD_mem (d := m0) hi)
          obtain ⟨Ax, capx, hvx, hcapx⟩ := strz_form hsx
          have hone := MI.one hsx
          refine j_q (qs_field Tryz.underlying28 rfl sz24 (by decide) rfl) ?_
          refine j_q (qs_load (l := dcells d x) 0 Tryz.underlying24 rfl rfl rfl (congrArg some hvi)) ?_
          refine j_q (qs_ixn (g := gi) (off := offi) (i := i) Tryz.underlying24 sz68 rfl rfl (by omega)) ?_
          refine j_q (qs_loadrecw (encA := encI) (rs := x.mi) (d := m0) (i := i) encI_len (rd_cells hcells (by simp)) hi Tryz.underlying68 rfl sz68 rfl) ?_
          refine j_alloc zero68 (fun g96 hg96 hs96 => ?_)
          refine j_storew (vs := encI (x.mi.getD i m0)) 0 sz68 rfl rfl (encI_len _) hone rfl rfl ?_
          refine j_draw ?_
          refine jq_q (qs_field Tryz.underlying68 rfl sz49 (by decide) rfl) ?_
          first
            | refine jq_q (qs_load 0 Tryz.underlying49 rfl rfl rfl rfl) ?_
            | refine jq_q (qs_load 1 Tryz.underlying49 rfl rfl rfl rfl) ?_
            | refine jq_q (qs_load 2 Tryz.underlying49 rfl rfl rfl rfl) ?_
            | refine jq_q (qs_load 3 Tryz.underlying49 rfl rfl rfl rfl) ?_
          refine jq_q (qs_call ent80 rfl rfl rfl (fun w' hw' => risDrv_con _ w' (by omega))) ?_
          refine jq_q (qs_not rfl) ?_
          refine jq_g rfl (fun hb => qs_mt rfl) ?_
          refine jq_g rfl (fun hb => qs_gtr (gd_eq hb) rfl) ?_
          refine jq_g rfl (fun hb => qs_move (gd_eq hb)) ?_
          refine jq_gg rfl (fun hb hb1 => qs_field Tryz.underlying68 rfl sz49 (by decide) rfl) ?_
          first
            | refine jq_gg rfl (fun hb hb1 => qs_load 0 Tryz.underlying49 rfl (gd_eq2 hb hb1) rfl rfl) ?_
            | refine jq_gg rfl (fun hb hb1 => qs_load 1 Tryz.underlying49 rfl (gd_eq2 hb hb1) rfl rfl) ?_
            | refine jq_gg rfl (fun hb hb1 => qs_load 2 Tryz.underlying49 rfl (gd_eq2 hb hb1) rfl rfl) ?_
            | refine jq_gg rfl (fun hb hb1 => qs_load 3 Tryz.underlying49 rfl (gd_eq2 hb hb1) rfl rfl) ?_
          refine jq_gg rfl (fun hb hb1 => qs_field Tryz.underlying28 rfl sz24 (by decide) rfl) ?_
          refine jq_gg rfl (fun hb1 hb2 => qs_load (l := dcells d x) 1 Tryz.underlying24 rfl (gd_eq2 hb1 hb2) rfl (congrArg some hvi)) ?_
          refine jq_gg rfl (fun hb hb1 => qs_mt rfl) ?_
          refine jq_gg rfl (fun hb hb1 => qs_sub64 (gd_eq2 hb hb1) rfl (by first | omega | (simp only [Bool.and_eq_true, Bool.or_eq_true, Bool.and_eq_false_iff, Bool.or_eq_false_iff, Bool.not_eq_true', Bool.not_eq_false', decide_eq_true_eq, decide_eq_false_iff_not, beq_iff_eq, beq_eq_false_iff_ne, bne_iff_ne, bne_eq_false_iff_eq, ne_eq, Int.toNat_natCast] at *; omega))) ?_
          refine jq_gg rfl (fun hb1 hb2 => qs_ixm (g := gi) (off := offi) (i := i - 1) Tryz.underlying24 sz68 (gd_eq2 hb1 hb2) (gd_eq2 hb1 hb2) (by simp only [Bool.and_eq_true, Bool.or_eq_true, Bool.and_eq_false_iff, Bool.or_eq_false_iff, Bool.not_eq_true', Bool.not_eq_false', decide_eq_true_eq, decide_eq_false_iff_not, beq_iff_eq, beq_eq_false_iff_ne, bne_iff_ne, bne_eq_false_iff_eq, ne_eq, Int.toNat_natCast] at *; omega) (by omega)) ?_
          refine jq_gg rfl (fun hb hb1 => qs_field Tryz.underlying68 rfl sz49 (by decide) (gd_eq2 hb hb1)) ?_
          refine jq_gg rfl (fun hb1 hb2 => qs_loadrec (v := .string (bs (x.mi.getD (i - 1) m0).drv)) (encA := encI) (rs := x.mi) (d := m0) (i := i - 1) (fo := 0) encI_len (rd_cells hcells (by simp)) (by omega) Tryz.underlying49 rfl (gd_eq2 hb1 hb2) rfl) ?_
          refine jq_gg rfl (fun hb hb1 => qs_sleq (gd_eq2 hb hb1) (gd_eq2 hb hb1)) ?_
          refine jq_g rfl (fun hb => qs_and (gd_eq hb) (gd_eq hb)) ?_
          refine jq_q (qs_or rfl rfl) ?_
          refine jq_g rfl (fun hb => qs_field Tryz.underlying68 rfl sz22 (by decide) rfl) ?_
          refine jq_g rfl (fun hb1 => qs_load 0 Tryz.underlying22 rfl (gd_eq hb1) rfl (congrArg some hvx)) ?_
          refine jq_g rfl (fun hb => qs_lenl Tryz.underlying22 (gd_eq hb)) ?_
          refine jq_g rfl (fun hb => qs_eql (gd_eq hb) rfl) ?_
          refine jq_q (qs_or rfl rfl) ?_
          refine jq_nil ?_
          refine j_cond rfl (fun hc6 => ?_) (fun hc6 => ?_)
          · skip
            have hbad : badI d.ins i = true := by
              rw [h.im, ← bi_eq]
              exact hc6
            refine j_q (qs_ac) ?_
            refine j_ret_con (vs := [_]) (fun w' hw' => ⟨rfl, trivial⟩) ?_
            symm
            show _ = Value.int .i64 3
            congr 1
            exact ck_3 hn0 hO0 (by unfold chkIns; rw [firstE_at hz (by omega) (by rw [chkI_bad hbad]; decide), chkI_bad hbad]) (by decide)
          · skip
            have hbad : badI d.ins i = false := by
              rw [h.im, ← bi_eq]
              exact hc6
            have hci := chkI_in hbad
            have hgd : d.ins.getD i i0 = (x.mi.getD i m0).pi := by rw [h.im, getD_pi]
            rw [hgd] at hci
            change chkI d.ins i = firstE (chkN (x.mi.getD i m0).outs) (x.mi.getD i m0).outs.length at hci
            refine j_q (qs_ac) ?_
            refine j_loop (fun m vs S' => ∃ k : Nat, vs = [.int .i64 (k : Int)] ∧ S' = [[(g96, .cells (encI (x.mi.getD i m0)).toArray 68 (0, 0))], [(g0, .cells (dcells d x).toArray 28 (0, 0))], []] ∧ k ≤ (x.mi.getD i m0).outs.length ∧ (∀ j < k, chkN (x.mi.getD i m0).outs j = 0) ∧ m = (x.mi.getD i m0).outs.length - k) ⟨_, 0, rfl, rfl, Nat.zero_le _, (fun j hj => absurd hj (Nat.not_lt_zero _)), rfl⟩ ?_
            rintro m vs S' hlen ⟨k, rfl, rfl, hkn, hzk, rfl⟩
            refine j_q (qs_field Tryz.underlying68 rfl sz22 (by decide) rfl) ?_
            refine j_q (qs_load 0 Tryz.underlying22 rfl rfl rfl (congrArg some hvx)) ?_
            refine j_q (qs_lenl Tryz.underlying22 rfl) ?_
            refine j_q (qs_lss rfl rfl) ?_
            refine j_cond rfl (fun hc7 => ?_) (fun hc7 => ?_)
            · skip
              have hk : k < (x.mi.getD i m0).outs.length := by
                simp only [Bool.and_eq_true, Bool.or_eq_true, Bool.and_eq_false_iff, Bool.or_eq_false_iff, Bool.not_eq_true', Bool.not_eq_false', decide_eq_true_eq, decide_eq_false_iff_not, beq_iff_eq, beq_eq_false_iff_ne, bne_iff_ne, bne_eq_false_iff_eq, ne_eq, Int.toNat_natCast] at *
                omega
              obtain ⟨gx, offx, rfl, hgx, hcellx⟩ := strz_addr (hvx ▸ hsx) (by omega)
              have hl4 := hou _ (hmem _ (getD_mem (d := m0) hi)) _ (getD_mem (l := (x.mi.getD i m0).outs) (d := []) hk)
              refine j_q (qs_field Tryz.underlying68 rfl sz22 (by decide) rfl) ?_
              refine j_q (qs_load 0 Tryz.underlying22 rfl rfl rfl (congrArg some hvx)) ?_
              refine j_q (qs_ixm (g := gx) (off := offx) (i := k) Tryz.underlying22 sz9 rfl rfl rfl (by omega)) ?_
              refine j_q (qs_loadrs (i := k) (rd_cells hcellx (by simp)) Tryz.underlying9 (by rw [add_off, Nat.mul_one]; rfl) (by omega)) ?_
              refine j_q (qs_call ent59 rfl rfl rfl (fun w' hw' => risName_con _ w' (by omega))) ?_
              refine j_q (qs_not rfl) ?_
              refine j_cond rfl (fun hc8 => ?_) (fun hc8 => ?_)
              · skip
                have hnm : isName ((x.mi.getD i m0).outs.getD k []) = false := by simpa using hc8
                refine j_q (qs_ac) ?_
                refine j_ret_con (vs := [_]) (fun w' hw' => ⟨rfl, trivial⟩) ?_
                symm
                show _ = Value.int .i64 9
                congr 1
                have h9 : chkI d.ins i = 9 := by rw [hci, firstE_at hzk hk (by rw [chkN_name hnm]; decide), chkN_name hnm]
                exact ck_3 hn0 hO0 (by unfold chkIns; rw [firstE_at hz (by omega) (by rw [h9]; decide), h9]) (by decide)
              · skip
                have hnm : isName ((x.mi.getD i m0).outs.getD k []) = true := by simpa using hc8
                refine j_draw ?_
                refine jq_q (qs_gtr rfl rfl) ?_
                refine jq_g rfl (fun hb => qs_field Tryz.underlying68 rfl sz22 (by decide) rfl) ?_
                refine jq_g rfl (fun hb1 => qs_load 0 Tryz.underlying22 rfl (gd_eq hb1) rfl (congrArg some hvx)) ?_
                refine jq_g rfl (fun hb => qs_mt rfl) ?_
                refine jq_g rfl (fun hb1 => qs_ixm (g := gx) (off := offx) (i := k) Tryz.underlying22 sz9 (gd_eq hb1) (gd_eq hb1) rfl (by omega)) ?_
                refine jq_g rfl (fun hb1 => qs_loadrs (i := k) (rd_cells hcellx (by simp)) Tryz.underlying9 ((gd_eq hb1).trans (by rw [add_off, Nat.mul_one])) (by omega)) ?_
                refine jq_g rfl (fun hb => qs_field Tryz.underlying68 rfl sz22 (by decide) rfl) ?_
                refine jq_g rfl (fun hb1 => qs_load 0 Tryz.underlying22 rfl (gd_eq hb1) rfl (congrArg some hvx)) ?_
                refine jq_g rfl (fun hb => qs_mt rfl) ?_
                refine jq_g rfl (fun hb => qs_sub64 (gd_eq hb) rfl (by first | omega | (simp only [Bool.and_eq_true, Bool.or_eq_true, Bool.and_eq_false_iff, Bool.or_eq_false_iff, Bool.not_eq_true', Bool.not_eq_false', decide_eq_true_eq, decide_eq_false_iff_not, beq_iff_eq, beq_eq_false_iff_ne, bne_iff_ne, bne_eq_false_iff_eq, ne_eq, Int.toNat_natCast] at *; omega))) ?_
                refine jq_g rfl (fun hb1 => qs_ixm (g := gx) (off := offx) (i := k - 1) Tryz.underlying22 sz9 (gd_eq hb1) (gd_eq hb1) (by simp only [Bool.and_eq_true, Bool.or_eq_true, Bool.and_eq_false_iff, Bool.or_eq_false_iff, Bool.not_eq_true', Bool.not_eq_false', decide_eq_true_eq, decide_eq_false_iff_not, beq_iff_eq, beq_eq_false_iff_ne, bne_iff_ne, bne_eq_false_iff_eq, ne_eq, Int.toNat_natCast] at *; omega) (by omega)) ?_
                refine jq_g rfl (fun hb1 => qs_loadrs (i := k - 1) (rd_cells hcellx (by simp)) Tryz.underlying9 ((gd_eq hb1).trans (by rw [add_off, Nat.mul_one])) (by omega)) ?_
                refine jq_g rfl (fun hb => qs_sleq (gd_eq hb) (gd_eq hb)) ?_
                refine jq_q (qs_and rfl rfl) ?_
                refine jq_nil ?_
                refine j_cond rfl (fun hc9 => ?_) (fun hc9 => ?_)
                · skip
                  rw [gt0] at hc9
                  have hck := chkN_at hnm hc9
                  refine j_q (qs_ac) ?_
                  refine j_ret_con (vs := [_]) (fun w' hw' => ⟨rfl, trivial⟩) ?_
                  symm
                  show _ = Value.int .i64 3
                  congr 1
                  have h9 : chkI d.ins i = 3 := by rw [hci, firstE_at hzk hk (by rw [hck]; decide), hck]; rfl
                  exact ck_3 hn0 hO0 (by unfold chkIns; rw [firstE_at hz (by omega) (by rw [h9]; decide), h9]) (by decide)
                · skip
                  rw [gt0] at hc9
                  have hck := chkN_at hnm hc9
                  refine j_q (qs_add64 rfl rfl (by first | omega | (simp only [Bool.and_eq_true, Bool.or_eq_true, Bool.and_eq_false_iff, Bool.or_eq_false_iff, Bool.not_eq_true', Bool.not_eq_false', decide_eq_true_eq, decide_eq_false_iff_not, beq_iff_eq, beq_eq_false_iff_ne, bne_iff_ne, bne_eq_false_iff_eq, ne_eq, Int.toNat_natCast] at *; omega))) ?_
                  refine j_back rfl ?_
                  exact ⟨(x.mi.getD i m0).outs.length - (k + 1), by omega, k + 1, rfl, rfl, by omega, zero_snoc hzk hck, rfl⟩
            · skip
              obtain rfl : k = (x.mi.getD i m0).outs.length := by
                simp only [Bool.and_eq_true, Bool.or_eq_true, Bool.and_eq_false_iff, Bool.or_eq_false_iff, Bool.not_eq_true', Bool.not_eq_false', decide_eq_true_eq, decide_eq_false_iff_not, beq_iff_eq, beq_eq_false_iff_ne, bne_iff_ne, bne_eq_false_iff_eq, ne_eq, Int.toNat_natCast] at *
                omega
              have hc0' : chkI d.ins i = 0 := by rw [hci]; exact firstE_zero hzk
              refine j_q (qs_add64 rfl rfl (by first | omega | (simp only [Bool.and_eq_true, Bool.or_eq_true, Bool.and_eq_false_iff, Bool.or_eq_false_iff, Bool.not_eq_true', Bool.not_eq_false', decide_eq_true_eq, decide_eq_false_iff_not, beq_iff_eq, beq_eq_false_iff_ne, bne_iff_ne, bne_eq_false_iff_eq, ne_eq, Int.toNat_natCast] at *; omega))) ?_
              refine j_subl (S' := [[(g0, .cells (dcells d x).toArray 28 (0, 0))], []]) (by repeat first | exact List.Sublist.refl _ | exact List.nil_sublist _ | apply List.Sublist.cons_cons | apply List.Sublist.cons) ?_
              refine j_back rfl ?_
              exact ⟨d.ins.length - (i + 1), by omega, i + 1, rfl, rfl, by omega, zero_snoc hz hc0', rfl⟩
        · skip
          obtain rfl : i = d.ins.length := by
            simp only [Bool.and_eq_true, Bool.or_eq_true, Bool.and_eq_false_iff, Bool.or_eq_false_iff, Bool.not_eq_true', Bool.not_eq_false', decide_eq_true_eq, decide_eq_false_iff_not, beq_iff_eq, beq_eq_false_iff_ne, bne_iff_ne, bne_eq_false_iff_eq, ne_eq, Int.toNat_natCast] at *
            omega
          have hI0 : chkIns d.ins = 0 := by unfold chkIns; exact firstE_zero hz
          refine j_q (qs_ac) ?_
          refine j_loop (fun m vs S' => ∃ i : Nat, vs = [.int .i64 (i : Int)] ∧ S' = [[(g0, .cells (dcells d x).toArray 28 (0, 0))], []] ∧ i ≤ d.srcs.length ∧ (∀ j < i, chkS d.srcs j = 0) ∧ m = d.srcs.length - i) ⟨_, 0, rfl, rfl, Nat.zero_le _, (fun j hj => absurd hj (Nat.not_lt_zero _)), rfl⟩ ?_
          rintro m vs S' hlen ⟨i, rfl, rfl, hin, hz, rfl⟩
          refine j_q (qs_field Tryz.underlying28 rfl sz25 (by decide) rfl) ?_
          refine j_q (qs_load (l := dcells d x) 0 Tryz.underlying25 rfl rfl rfl (congrArg some hvs)) ?_
          refine j_q (qs_lenl Tryz.underlying25 rfl) ?_
          refine j_q (qs_lss rfl rfl) ?_
          refine j_cond rfl (fun hc10 => ?_) (fun hc10 => ?_)
          · skip
            have hi : i < d.srcs.length := by
              simp only [Bool.and_eq_true, Bool.or_eq_true, Bool.and_eq_false_iff, Bool.or_eq_false_iff, Bool.not_eq_true', Bool.not_eq_false', decide_eq_true_eq, decide_eq_false_iff_not, beq_iff_eq, beq_eq_false_iff_ne, bne_iff_ne, bne_eq_false_iff_eq, ne_eq, Int.toNat_natCast] at *
              omega
            obtain ⟨gs, offs, rfl, hgs, hcells⟩ := strz_addr (hvs ▸ h.s) (by omega)
            have hsl := few.sr _ (getD_mem (d := []) hi)
            refine j_draw ?_
            refine jq_q (qs_field Tryz.underlying28 rfl sz25 (by decide) rfl) ?_
            refine jq_q (qs_load (l := dcells d x) 0 Tryz.underlying25 rfl rfl rfl (congrArg some hvs)) ?_
            refine jq_q (qs_ixm (g := gs) (off := offs) (i := i) Tryz.underlying25 sz49 rfl rfl rfl (by omega)) ?_
            refine jq_q (qs_loadrs (i := i) (rd_cells hcells (by simp)) Tryz.underlying49 (by rw [add_off, Nat.mul_one]; rfl) (by omega)) ?_
            refine jq_q (qs_call ent24 rfl rfl rfl (fun w' hw' => isP_con _ w' (by omega))) ?_
            refine jq_q (qs_not rfl) ?_
            refine jq_g rfl (fun hb => qs_mt rfl) ?_
            refine jq_g rfl (fun hb => qs_gtr (gd_eq hb) rfl) ?_
            refine jq_g rfl (fun hb => qs_move (gd_eq hb)) ?_
            refine jq_gg rfl (fun hb hb1 => qs_field Tryz.underlying28 rfl sz25 (by decide) rfl) ?_
            refine jq_gg rfl (fun hb1 hb2 => qs_load (l := dcells d x) 0 Tryz.underlying25 rfl (gd_eq2 hb1 hb2) rfl (congrArg some hvs)) ?_
            refine jq_gg rfl (fun hb hb1 => qs_mt rfl) ?_
            refine jq_gg rfl (fun hb1 hb2 => qs_ixm (g := gs) (off := offs) (i := i) Tryz.underlying25 sz49 (gd_eq2 hb1 hb2) (gd_eq2 hb1 hb2) rfl (by omega)) ?_
            refine jq_gg rfl (fun hb1 hb2 => qs_loadrs (i := i) (rd_cells hcells (by simp)) Tryz.underlying49 ((gd_eq2 hb1 hb2).trans (by rw [add_off, Nat.mul_one])) (by omega)) ?_
            refine jq_gg rfl (fun hb hb1 => qs_field Tryz.underlying28 rfl sz25 (by decide) rfl) ?_
            refine jq_gg rfl (fun hb1 hb2 => qs_load (l := dcells d x) 0 Tryz.underlying25 rfl (gd_eq2 hb1 hb2) rfl (congrArg some hvs)) ?_
            refine jq_gg rfl (fun hb hb1 => qs_mt rfl) ?_
            refine jq_gg rfl (fun hb hb1 => qs_sub64 (gd_eq2 hb hb1) rfl (by first | omega | (simp only [Bool.and_eq_true, Bool.or_eq_true, Bool.and_eq_false_iff, Bool.or_eq_false_iff, Bool.not_eq_true', Bool.not_eq_false', decide_eq_true_eq, decide_eq_false_iff_not, beq_iff_eq, beq_eq_false_iff_ne, bne_iff_ne, bne_eq_false_iff_eq, ne_eq, Int.toNat_natCast] at *; omega))) ?_
            refine jq_gg rfl (fun hb1 hb2 => qs_ixm (g := gs) (off := offs) (i := i - 1) Tryz.underlying25 sz49 (gd_eq2 hb1 hb2) (gd_eq2 hb1 hb2) (by simp only [Bool.and_eq_true, Bool.or_eq_true, Bool.and_eq_false_iff, Bool.or_eq_false_iff, Bool.not_eq_true', Bool.not_eq_false', decide_eq_true_eq, decide_eq_false_iff_not, beq_iff_eq, beq_eq_false_iff_ne, bne_iff_ne, bne_eq_false_iff_eq, ne_eq, Int.toNat_natCast] at *; omega) (by omega)) ?_
            refine jq_gg rfl (fun hb1 hb2 => qs_loadrs (i := i - 1) (rd_cells hcells (by simp)) Tryz.underlying49 ((gd_eq2 hb1 hb2).trans (by rw [add_off, Nat.mul_one])) (by omega)) ?_
            refine jq_gg rfl (fun hb hb1 => qs_sleq (gd_eq2 hb hb1) (gd_eq2 hb hb1)) ?_
            refine jq_g rfl (fun hb => qs_and (gd_eq hb) (gd_eq hb)) ?_
            refine jq_q (qs_or rfl rfl) ?_
            refine jq_nil ?_
            refine j_cond rfl (fun hc11 => ?_) (fun hc11 => ?_)
            · skip
              have hcs := chkS_at hc11
              refine j_q (qs_ac) ?_
              refine j_ret_con (vs := [_]) (fun w' hw' => ⟨rfl, trivial⟩) ?_
              symm
              show _ = Value.int .i64 3
              congr 1
              exact ck_4 hn0 hO0 hI0 (by rw [firstE_at hz hi (by rw [hcs]; decide), hcs]; rfl) (by decide)
            · skip
              have hcs := chkS_at hc11
              refine j_q (qs_add64 rfl rfl (by first | omega | (simp only [Bool.and_eq_true, Bool.or_eq_true, Bool.and_eq_false_iff, Bool.or_eq_false_iff, Bool.not_eq_true', Bool.not_eq_false', decide_eq_true_eq, decide_eq_false_iff_not, beq_iff_eq, beq_eq_false_iff_ne, bne_iff_ne, bne_eq_false_iff_eq, ne_eq, Int.toNat_natCast] at *; omega))) ?_
              refine j_back rfl ?_
              exact ⟨d.srcs.length - (i + 1), by omega, i + 1, rfl, rfl, by omega, zero_snoc hz hcs, rfl⟩
          · skip
            obtain rfl : i = d.srcs.length := by
              simp only [Bool.and_eq_true, Bool.or_eq_true, Bool.and_eq_false_iff, Bool.or_eq_false_iff, Bool.not_eq_true', Bool.not_eq_false', decide_eq_true_eq, decide_eq_false_iff_not, beq_iff_eq, beq_eq_false_iff_ne, bne_iff_ne, bne_eq_false_iff_eq, ne_eq, Int.toNat_natCast] at *
              omega
            have hS0 := firstE_zero hz
            refine j_q (qs_ac) ?_
            refine j_loop (fun m vs S' => ∃ i : Nat, vs = [.int .i64 (i : Int)] ∧ S' = [[(g0, .cells (dcells d x).toArray 28 (0, 0))], []] ∧ i ≤ d.env.length ∧ (∀ j < i, chkV d.env j = 0) ∧ m = d.env.length - i) ⟨_, 0, rfl, rfl, Nat.zero_le _, (fun j hj => absurd hj (Nat.not_lt_zero _)), rfl⟩ ?_
            rintro m vs S' hlen ⟨i, rfl, rfl, hin, hz, rfl⟩
            refine j_q (qs_field Tryz.underlying28 rfl sz23 (by decide) rfl) ?_
            refine j_q (qs_load (l := dcells d x) 0 Tryz.underlying23 rfl rfl rfl (congrArg some hve)) ?_
            refine j_q (qs_lenl Tryz.underlying23 rfl) ?_
            refine j_q (qs_lss rfl rfl) ?_
            refine j_cond rfl (fun hc12 => ?_) (fun hc12 => ?_)
            · skip
              have hi : i < d.env.length := by
                simp only [Bool.and_eq_true, Bool.or_eq_true, Bool.and_eq_false_iff, Bool.or_eq_false_iff, Bool.not_eq_true', Bool.not_eq_false', decide_eq_true_eq, decide_eq_false_iff_not, beq_iff_eq, beq_eq_false_iff_ne, bne_iff_ne, bne_eq_false_iff_eq, ne_eq, Int.toNat_natCast] at *
                omega
              obtain ⟨rfl, hge, hcells⟩ := hAe (by omega)
              have hsl := few.ev _ (getD_mem (d := v0) hi)
              refine j_draw ?_
              refine jq_q (qs_field Tryz.underlying28 rfl sz23 (by decide) rfl) ?_
              refine jq_q (qs_load (l := dcells d x) 0 Tryz.underlying23 rfl rfl rfl (congrArg some hve)) ?_
              refine jq_q (qs_ixm (g := ge) (off := offe) (i := i) Tryz.underlying23 sz48 rfl rfl rfl (by omega)) ?_
              refine jq_q (qs_field Tryz.underlying48 rfl sz9 (by decide) rfl) ?_
              refine jq_q (qs_loadrec (v := .string (bs (d.env.getD i v0).name)) (encA := encV) (rs := d.env) (d := v0) (i := i) (fo := 0) encV_len (rd_cells hcells (by simp)) (by omega) Tryz.underlying9 rfl rfl rfl) ?_
              refine jq_q (qs_seql (l' := []) rfl rfl) ?_
              refine jq_g rfl (fun hb => qs_mt rfl) ?_
              refine jq_g rfl (fun hb => qs_gtr (gd_eq hb) rfl) ?_
              refine jq_g rfl (fun hb => qs_move (gd_eq hb)) ?_
              refine jq_gg rfl (fun hb hb1 => qs_field Tryz.underlying28 rfl sz23 (by decide) rfl) ?_
              refine jq_gg rfl (fun hb1 hb2 => qs_load (l := dcells d x) 0 Tryz.underlying23 rfl (gd_eq2 hb1 hb2) rfl (congrArg some hve)) ?_
              refine jq_gg rfl (fun hb hb1 => qs_mt rfl) ?_
              refine jq_gg rfl (fun hb1 hb2 => qs_ixm (g := ge) (off := offe) (i := i) Tryz.underlying23 sz48 (gd_eq2 hb1 hb2) (gd_eq2 hb1 hb2) rfl (by omega)) ?_
              refine jq_gg rfl (fun hb hb1 => qs_field Tryz.underlying48 rfl sz9 (by decide) (gd_eq2 hb hb1)) ?_
              refine jq_gg rfl (fun hb1 hb2 => qs_loadrec (v := .string (bs (d.env.getD i v0).name)) (encA := encV) (rs := d.env) (d := v0) (i := i) (fo := 0) encV_len (rd_cells hcells (by simp)) (by omega) Tryz.underlying9 rfl (gd_eq2 hb1 hb2) rfl) ?_
              refine jq_gg rfl (fun hb hb1 => qs_field Tryz.underlying28 rfl sz23 (by decide) rfl) ?_
              refine jq_gg rfl (fun hb1 hb2 => qs_load (l := dcells d x) 0 Tryz.underlying23 rfl (gd_eq2 hb1 hb2) rfl (congrArg some hve)) ?_
              refine jq_gg rfl (fun hb hb1 => qs_mt rfl) ?_
              refine jq_gg rfl (fun hb hb1 => qs_sub64 (gd_eq2 hb hb1) rfl (by first | omega | (simp only [Bool.and_eq_true, Bool.or_eq_true, Bool.and_eq_false_iff, Bool.or_eq_false_iff, Bool.not_eq_true', Bool.not_eq_false', decide_eq_true_eq, decide_eq_false_iff_not, beq_iff_eq, beq_eq_false_iff_ne, bne_iff_ne, bne_eq_false_iff_eq, ne_eq, Int.toNat_natCast] at *; omega))) ?_
              refine jq_gg rfl (fun hb1 hb2 => qs_ixm (g := ge) (off := offe) (i := i - 1) Tryz.underlying23 sz48 (gd_eq2 hb1 hb2) (gd_eq2 hb1 hb2) (by simp only [Bool.and_eq_true, Bool.or_eq_true, Bool.and_eq_false_iff, Bool.or_eq_false_iff, Bool.not_eq_true', Bool.not_eq_false', decide_eq_true_eq, decide_eq_false_iff_not, beq_iff_eq, beq_eq_false_iff_ne, bne_iff_ne, bne_eq_false_iff_eq, ne_eq, Int.toNat_natCast] at *; omega) (by omega)) ?_
              refine jq_gg rfl (fun hb hb1 => qs_field Tryz.underlying48 rfl sz9 (by decide) (gd_eq2 hb hb1)) ?_
              refine jq_gg rfl (fun hb1 hb2 => qs_loadrec (v := .string (bs (d.env.getD (i - 1) v0).name)) (encA := encV) (rs := d.env) (d := v0) (i := i - 1) (fo := 0) encV_len (rd_cells hcells (by simp)) (by omega) Tryz.underlying9 rfl (gd_eq2 hb1 hb2) rfl) ?_
              refine jq_gg rfl (fun hb hb1 => qs_sleq (gd_eq2 hb hb1) (gd_eq2 hb hb1)) ?_
              refine jq_g rfl (fun hb => qs_and (gd_eq hb) (gd_eq hb)) ?_
              refine jq_q (qs_or rfl rfl) ?_
              refine jq_nil ?_
              refine j_cond rfl (fun hc13 => ?_) (fun hc13 => ?_)
              · skip
                have hcs := chkV_at hc13
                refine j_q (qs_ac) ?_
                refine j_ret_con (vs := [_]) (fun w' hw' => ⟨rfl, trivial⟩) ?_
                symm
                show _ = Value.int .i64 3
                congr 1
                exact ck_5 hn0 hO0 hI0 hS0 (by rw [firstE_at hz hi (by rw [hcs]; decide), hcs]; rfl)
              · skip
                have hcs := chkV_at hc13
                refine j_q (qs_add64 rfl rfl (by first | omega | (simp only [Bool.and_eq_true, Bool.or_eq_true, Bool.and_eq_false_iff, Bool.or_eq_false_iff, Bool.not_eq_true', Bool.not_eq_false', decide_eq_true_eq, decide_eq_false_iff_not, beq_iff_eq, beq_eq_false_iff_ne, bne_iff_ne, bne_eq_false_iff_eq, ne_eq, Int.toNat_natCast] at *; omega))) ?_
                refine j_back rfl ?_
                exact ⟨d.env.length - (i + 1), by omega, i + 1, rfl, rfl, by omega, zero_snoc hz hcs, rfl⟩
            · skip
              obtain rfl : i = d.env.length := by
                simp only [Bool.and_eq_true, Bool.or_eq_true, Bool.and_eq_false_iff, Bool.or_eq_false_iff, Bool.not_eq_true', Bool.not_eq_false', decide_eq_true_eq, decide_eq_false_iff_not, beq_iff_eq, beq_eq_false_iff_ne, bne_iff_ne, bne_eq_false_iff_eq, ne_eq, Int.toNat_natCast] at *
                omega
              have hV0 := firstE_zero hz
              refine j_q (qs_ac) ?_
              refine j_ret_con (vs := [_]) (fun w' hw' => ⟨rfl, trivial⟩) ?_
              symm
              show _ = Value.int .i64 0
              congr 1
              exact ck_5 hn0 hO0 hI0 hS0 hV0
/-- pantry.pantryref14.Check -/
theorem rcheck_con (d : PD) (x : DV) (w : World) (h : DR w d x) (hb : big2 d ≤ 16000) (hou : ∀ y ∈ d.ins, ∀ o ∈ y.outs, o.length ≤ 9223372036854775807) : Con Tryz.prog 16 [dval d x] w [] fun v _ => v = .int .i64 (chk d) := by
  refine con_of_tree mix Tryz.func16 T16_ok (by kernel_rfl) ?_
  unfold T16
  refine j_box (l := dcells d x) rfl (fun g0 hg0 hs0 => ?_)
  refine j_q (qs_ac) ?_
  refine j_q (qs_loadw (l := dcells d x) 0 Tryz.underlying28 rfl sz28 rfl rfl rfl) ?_
  refine j_q (qs_call ent42 rfl rfl rfl (fun w' hw' => rcheck0_con d x w' (h.keep hw') hb hou)) ?_
  refine j_q (qs_neq rfl rfl) ?_
  refine j_cond rfl (fun hc0 => ?_) (fun hc0 => ?_)
  · skip
    have hck : chk0 d ≠ 0 := by simpa using hc0
    refine j_ret_con (vs := [_]) (fun w' hw' => ⟨rfl, trivial⟩) ?_
    rw [chk_of, if_pos hck]
    rfl
  · skip
    have hck : chk0 d = 0 := by simpa using hc0
    refine j_q (qs_loadw (l := dcells d x) 0 Tryz.underlying28 rfl sz28 rfl rfl rfl) ?_
    refine j_call0 ent37 rfl rfl rfl (fun w' hw' => rdtext_con d x w' (h.keep hw') (tb_of (chk0_parts hck).2.2.2.1 hb)) (fun u S2 hu => ?_)
    obtain ⟨ct, rfl, hot⟩ := hu
    obtain ⟨nt, At, capt, rfl, hnt⟩ := own_form hot (by decide)
    rw [ints_length, Nat.mul_one] at hnt
    subst hnt
    refine j_q (qs_lenl Tryz.underlying46 rfl) ?_
    refine j_q (qs_gtr rfl rfl) ?_
    refine j_cond rfl (fun hc1 => ?_) (fun hc1 => ?_)
    · skip
      refine j_q (qs_ac) ?_
      refine j_ret_con (vs := [_]) (fun w' hw' => ⟨rfl, trivial⟩) ?_
      rw [chk_of, if_neg (by simp [hck]), if_pos (by simp only [Bool.and_eq_true, Bool.or_eq_true, Bool.and_eq_false_iff, Bool.or_eq_false_iff, Bool.not_eq_true', Bool.not_eq_false', decide_eq_true_eq, decide_eq_false_iff_not, beq_iff_eq, beq_eq_false_iff_ne, bne_iff_ne, bne_eq_false_iff_eq, ne_eq, Int.toNat_natCast] at *; omega)]
      rfl
    · skip
      refine j_q (qs_ac) ?_
      refine j_ret_con (vs := [_]) (fun w' hw' => ⟨rfl, trivial⟩) ?_
      rw [chk_of, if_neg (by simp [hck]), if_neg (by simp only [Bool.and_eq_true, Bool.or_eq_true, Bool.and_eq_false_iff, Bool.or_eq_false_iff, Bool.not_eq_true', Bool.not_eq_false', decide_eq_true_eq, decide_eq_false_iff_not, beq_iff_eq, beq_eq_false_iff_ne, bne_iff_ne, bne_eq_false_iff_eq, ne_eq, Int.toNat_natCast] at *; omega)]
      rfl
/-- pantry.pantryref14.Print -/
theorem rprint_con (d : PD) (x : DV) (w : World) (h : DR w d x) (hb : big2 d ≤ 16000) (hou : ∀ y ∈ d.ins, ∀ o ∈ y.outs, o.length ≤ 9223372036854775807) : Con Tryz.prog 14 [dval d x] w [] fun v _ => v = .tuple #[.string (bs (prS d)), .int .i64 (chk d)] := by
  refine con_of_tree mix Tryz.func14 T14_ok (by kernel_rfl) ?_
  unfold T14
  refine j_box (l := dcells d x) rfl (fun g0 hg0 hs0 => ?_)
  refine j_q (qs_ac) ?_
  refine j_q (qs_ac) ?_
  refine j_q (qs_loadw (l := dcells d x) 0 Tryz.underlying28 rfl sz28 rfl rfl rfl) ?_
  refine j_q (qs_call ent16 rfl rfl rfl (fun w' hw' => rcheck_con d x w' (h.keep hw') hb hou)) ?_
  refine j_q (qs_neq rfl rfl) ?_
  refine j_cond rfl (fun hc0 => ?_) (fun hc0 => ?_)
  · skip
    have hck : chk d ≠ 0 := by simpa using hc0
    refine j_q (qs_ac) ?_
    refine j_ret_con (vs := [_, _]) (fun w' hw' => ⟨rfl, rfl, trivial⟩) ?_
    show Value.tuple #[_, _] = _
    unfold prS
    rw [if_neg hck]
    rfl
  · skip
    have hck : chk d = 0 := by simpa using hc0
    refine j_q (qs_loadw (l := dcells d x) 0 Tryz.underlying28 rfl sz28 rfl rfl rfl) ?_
    refine j_call0 ent37 rfl rfl rfl (fun w' hw' => rdtext_con d x w' (h.keep hw') (tb_chk hck hb)) (fun u S2 hu => ?_)
    obtain ⟨ct, rfl, hot⟩ := hu
    obtain ⟨nt, At, capt, rfl, hnt⟩ := own_form hot (by decide)
    rw [ints_length, Nat.mul_one] at hnt
    subst hnt
    refine j_q (qs_stro 0 Tryz.underlying46 Tryz.underlying5 Tryz.underlying9 hot rfl) ?_
    refine j_q (qs_ac) ?_
    refine j_ret_con (vs := [_, _]) (fun w' hw' => ⟨rfl, rfl, trivial⟩) ?_
    show Value.tuple #[_, _] = _
    unfold prS
    rw [if_pos hck, hck]
    rfl
end Go.Proofs.YtfeabbeebkkhaaaGreat
