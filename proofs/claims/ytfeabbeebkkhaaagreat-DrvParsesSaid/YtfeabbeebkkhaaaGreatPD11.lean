/- Part 11. -/
import Derived.Test.YtfeabbeebkkhaaaGreatPD5
import Derived.Test.YtfeabbeebkkhaaaGreatPD2
import Derived.Test.YtfeabbeebkkhaaaGreatPD10
/-! Sx22 -/
namespace Go.Sx
open Go
set_option linter.unusedVariables false
variable {P : Program} {R : Ending → World → Prop} {env : Env} {b : Base} {S : List SH} {B : JB} {T : Tree} {v : Value} {ty : TypeId}
theorem jq_ggg {o : Oper} {qs : List Q} {next : Env → Prop} {c : Operand} {b0 w0 b1 w1 b2 want : Bool} (hc : ev env c = gd b0 w0 (gd b1 w1 (.bool b2))) (hq : b0 = w0 → b1 = w1 → b2 = want → QS P o env b S v) (h : JQ P b S qs (gd b0 w0 (gd b1 w1 (gd b2 want v)) :: env) next) : JQ P b S (⟨some (c, want), o⟩ :: qs) env next := by
  by_cases h0 : b0 = w0
  · rw [gd_eq h0] at hc h
    exact jq_gg hc (hq h0) h
  · refine ⟨fun e => ?_, fun _ => ?_⟩
    · rw [hc, gd, if_neg h0] at e
      cases e
    · have := h
      rwa [gd, if_neg h0] at this
end Go.Sx
/-! Dv10 -/
namespace Go.Proofs.YtfeabbeebkkhaaaGreat
open Go Go.Sx
set_option maxRecDepth 100000
set_option maxHeartbeats 4000000
set_option linter.unusedVariables false
set_option linter.unusedSimpArgs false
attribute [local irreducible] J JQ QS Con W opW
theorem ent16 : Sx.Enters Tryz.prog 16 := ⟨_, Tryz.func16, by kernel_rfl, by kernel_rfl⟩
theorem ent24 : Sx.Enters Tryz.prog 24 := ⟨_, Tryz.func24, by kernel_rfl, by kernel_rfl⟩
theorem ent37 : Sx.Enters Tryz.prog 37 := ⟨_, Tryz.func37, by kernel_rfl, by kernel_rfl⟩
theorem ent42 : Sx.Enters Tryz.prog 42 := ⟨_, Tryz.func42, by kernel_rfl, by kernel_rfl⟩
theorem ent80 : Sx.Enters Tryz.prog 80 := ⟨_, Tryz.func80, by kernel_rfl, by kernel_rfl⟩
section
variable {d : PD}
theorem ck_1 (h : (isName d.name && isName (d.name ++ sDrv)) = false) : chk0 d = 9 := by unfold chk0 orE; rw [h]; rfl
theorem ck_2 {e : Int} (h : (isName d.name && isName (d.name ++ sDrv)) = true) (h2 : chkOuts d.outs = e) (he : e ≠ 0) : chk0 d = e := by
  unfold chk0
  rw [if_pos h, h2]
  unfold orE
  rw [if_neg he]
theorem ck_3 {e : Int} (h : (isName d.name && isName (d.name ++ sDrv)) = true) (h2 : chkOuts d.outs = 0) (h3 : chkIns d.ins = e) (he : e ≠ 0) : chk0 d = e := by
  unfold chk0
  rw [if_pos h, h2, h3]
  unfold orE
  rw [if_pos rfl, if_neg he]
theorem ck_4 {e : Int} (h : (isName d.name && isName (d.name ++ sDrv)) = true) (h2 : chkOuts d.outs = 0) (h3 : chkIns d.ins = 0) (h4 : firstE (chkS d.srcs) d.srcs.length = e) (he : e ≠ 0) : chk0 d = e := by
  unfold chk0
  rw [if_pos h, h2, h3, h4]
  unfold orE
  rw [if_pos rfl, if_pos rfl, if_neg he]
theorem ck_5 {e : Int} (h : (isName d.name && isName (d.name ++ sDrv)) = true) (h2 : chkOuts d.outs = 0) (h3 : chkIns d.ins = 0) (h4 : firstE (chkS d.srcs) d.srcs.length = 0) (h5 : firstE (chkV d.env) d.env.length = e) : chk0 d = e := by
  unfold chk0
  rw [if_pos h, h2, h3, h4, h5]
  unfold orE
  rw [if_pos rfl, if_pos rfl, if_pos rfl]
theorem outs_len (h : d.outs.length < 1 ∨ 16 < d.outs.length) : chkOuts d.outs = 1 := by unfold chkOuts; rw [if_pos h]
theorem outs_zero (hn : ¬ (d.outs.length < 1 ∨ 16 < d.outs.length)) (h : ∀ j < d.outs.length, chkO d.outs j = 0) : chkOuts d.outs = 0 := by unfold chkOuts; rw [if_neg hn]; exact firstE_zero h
theorem chk_of {d : PD} : chk d = if chk0 d ≠ 0 then chk0 d else if 262144 < (dtext d).length then 5 else 0 := by
  unfold chk orE
  by_cases h : chk0 d = 0
  · rw [if_pos h, if_neg (not_not_intro h)]
  · rw [if_neg h, if_pos h]
end
attribute [local irreducible] es qt cms hex Tbl Half lst isName isPath isDrvP leB chkO chkOuts chkN chkI chkIns firstE spA spB spE chkS chkV dtext chk chk0 tTs
theorem isP_con (p : Bs) (w : World) (hp : p.length ≤ 9223372036854775807) : Con Tryz.prog 24 [.string (bs p)] w [] fun v _ => v = .bool (isPath p) := by
  refine con_of_tree mix Tryz.func24 T24_ok (by kernel_rfl) ?_
  unfold T24
  refine j_q (qs_ac) ?_
  refine j_q (qs_call ent29 rfl rfl rfl (fun w' hw' => rsplit_con p w' (by omega))) ?_
  unfold spl
  refine j_q (qs_ext (vs := [.string (bs (spA p)), .string (bs (spB p)), .int .i64 (spE p)]) rfl rfl) ?_
  refine j_q (qs_ext (vs := [.string (bs (spA p)), .string (bs (spB p)), .int .i64 (spE p)]) rfl rfl) ?_
  refine j_q (qs_ext (vs := [.string (bs (spA p)), .string (bs (spB p)), .int .i64 (spE p)]) rfl rfl) ?_
  refine j_q (qs_eql rfl rfl) ?_
  refine j_ret_con (vs := [_]) (fun w' hw' => ⟨rfl, trivial⟩) ?_
  show Value.bool _ = _
  congr 1
  unfold spE
  cases isPath p <;> rfl
theorem rcheck0_con (d : PD) (x : DV) (w : World) (h : DR w d x) (hb : big2 d ≤ 200000) (hou : ∀ y ∈ d.ins, ∀ o ∈ y.outs, o.length ≤ 9223372036854775807) : Con Tryz.prog 42 [dval d x] w [] fun v _ => v = .int .i64 (chk0 d) := by
  refine con_of_tree mix Tryz.func42 T42_ok (by kernel_rfl) ?_
  unfold T42
  have few := few_of hb
  have few1 := few.nm
  have few4 := few.la
  have few5 := few.le
  have few6 := few.li
  have few7 := few.lo
  have few8 := few.ls
  have hni : d.ins.length = x.mi.length := by rw [h.im, List.length_map]
  obtain ⟨Ao, capo, go, offo, hvo, hcapo, hAo⟩ := rsln_form h.o
  obtain ⟨Ai, capi, gi, offi, hvi, hcapi, hAi⟩ := rsln_form h.i
  obtain ⟨Ae, cape, ge, offe, hve, hcape, hAe⟩ := rsln_form h.e
  obtain ⟨As, caps, hvs, hcaps⟩ := strz_form h.s
  have hmem : ∀ m ∈ x.mi, m.pi ∈ d.ins := fun m hm => by rw [h.im]; exact List.mem_map_of_mem hm
  refine j_box (l := dcells d x) rfl (fun g0 hg0 hs0 => ?_)
  refine j_q (qs_ac) ?_
  refine j_q (qs_field Tryz.underlying28 rfl sz9 (by decide) rfl) ?_
  first
    | refine j_q (qs_load 0 Tryz.underlying9 rfl rfl rfl rfl) ?_
    | refine j_q (qs_load 1 Tryz.underlying9 rfl rfl rfl rfl) ?_
    | refine j_q (qs_load 2 Tryz.underlying9 rfl rfl rfl rfl) ?_
    | refine j_q (qs_load 3 Tryz.underlying9 rfl rfl rfl rfl) ?_
  refine j_q (qs_call ent59 rfl rfl rfl (fun w' hw' => risName_con d.name w' (by omega))) ?_
  refine j_q (qs_not rfl) ?_
  refine j_g rfl (fun hb => qs_field Tryz.underlying28 rfl sz9 (by decide) rfl) ?_
  first
    | refine j_g rfl (fun hb => qs_load 0 Tryz.underlying9 rfl (gd_eq hb) rfl rfl) ?_
    | refine j_g rfl (fun hb => qs_load 1 Tryz.underlying9 rfl (gd_eq hb) rfl rfl) ?_
    | refine j_g rfl (fun hb => qs_load 2 Tryz.underlying9 rfl (gd_eq hb) rfl rfl) ?_
    | refine j_g rfl (fun hb => qs_load 3 Tryz.underlying9 rfl (gd_eq hb) rfl rfl) ?_
  refine j_g rfl (fun hb1 => qs_sadd (l' := sDrv) (gd_eq hb1) rfl (by simp only [List.length_cons, List.length_nil]; omega)) ?_
  refine j_g rfl (fun hb => qs_call ent59 rfl rfl (args1 (gd_eq hb)) (fun w' hw' => risName_con (d.name ++ sDrv) w' (by simp only [List.length_append, List.length_cons, List.length_nil]; omega))) ?_
  refine j_g rfl (fun hb => qs_not (gd_eq hb)) ?_
  refine j_q (qs_or rfl rfl) ?_
  refine j_cond rfl (fun hc0 => ?_) (fun hc0 => ?_)
  · skip
    have hn0 := nm_or hc0
    refine j_q (qs_ac) ?_
    refine j_ret_con (vs := [_]) (fun w' hw' => ⟨rfl, trivial⟩) ?_
    symm
    show _ = Value.int .i64 9
    congr 1
    exact ck_1 hn0
  · skip
    have hn0 := nm_and hc0
    refine j_q (qs_field Tryz.underlying28 rfl sz26 (by decide) rfl) ?_
    refine j_q (qs_load (l := dcells d x) 0 Tryz.underlying26 rfl rfl rfl (congrArg some hvo)) ?_
    refine j_q (qs_lenl Tryz.underlying26 rfl) ?_
    refine j_q (qs_lss rfl rfl) ?_
    refine j_g rfl (fun hb => qs_field Tryz.underlying28 rfl sz26 (by decide) rfl) ?_
    refine j_g rfl (fun hb1 => qs_load (l := dcells d x) 0 Tryz.underlying26 rfl (gd_eq hb1) rfl (congrArg some hvo)) ?_
    refine j_g rfl (fun hb => qs_lenl Tryz.underlying26 (gd_eq hb)) ?_
    refine j_g rfl (fun hb => qs_gtr (gd_eq hb) rfl) ?_
    refine j_q (qs_or rfl rfl) ?_
    refine j_cond rfl (fun hc1 => ?_) (fun hc1 => ?_)
    · skip
      have hol : d.outs.length < 1 ∨ 16 < d.outs.length := by
        simp only [bnA] at *
        omega
      refine j_q (qs_ac) ?_
      refine j_ret_con (vs := [_]) (fun w' hw' => ⟨rfl, trivial⟩) ?_
      symm
      show _ = Value.int .i64 1
      congr 1
      exact ck_2 hn0 (outs_len hol) (by decide)
    · skip
      have hnn : ¬ (d.outs.length < 1 ∨ 16 < d.outs.length) := by
        simp only [bnA] at *
        omega
      refine j_q (qs_ac) ?_
      refine j_loop (fun m vs S' => ∃ i : Nat, vs = [.int .i64 (i : Int)] ∧ S' = [[(g0, .cells (dcells d x).toArray 28 (0, 0))], []] ∧ i ≤ d.outs.length ∧ (∀ j < i, chkO d.outs j = 0) ∧ m = d.outs.length - i) ⟨_, 0, rfl, rfl, Nat.zero_le _, (fun j hj => absurd hj (Nat.not_lt_zero _)), rfl⟩ ?_
      rintro m vs S' hlen ⟨i, rfl, rfl, hin, hz, rfl⟩
      refine j_q (qs_field Tryz.underlying28 rfl sz26 (by decide) rfl) ?_
      refine j_q (qs_load (l := dcells d x) 0 Tryz.underlying26 rfl rfl rfl (congrArg some hvo)) ?_
      refine j_q (qs_lenl Tryz.underlying26 rfl) ?_
      refine j_q (qs_lss rfl rfl) ?_
      refine j_cond rfl (fun hc2 => ?_) (fun hc2 => ?_)
      · skip
        have hi : i < d.outs.length := by
          simp only [bnA] at *
          omega
        obtain ⟨rfl, hgo, hcells⟩ := hAo (by omega)
        have hl1 := few.ou _ (getD_mem (d := o0) hi)
        refine j_q (qs_field Tryz.underlying28 rfl sz26 (by decide) rfl) ?_
        refine j_q (qs_load (l := dcells d x) 0 Tryz.underlying26 rfl rfl rfl (congrArg some hvo)) ?_
        refine j_q (qs_ixn (g := go) (off := offo) (i := i) Tryz.underlying26 sz53 rfl rfl (by omega)) ?_
        refine j_q (qs_loadrecw (encA := encO) (rs := d.outs) (d := o0) (i := i) encO_len (rd_cells hcells (by simp)) hi Tryz.underlying53 rfl sz53 rfl) ?_
        refine j_alloc zero53 (fun g32 hg32 hs32 => ?_)
        refine j_storew (vs := encO (d.outs.getD i o0)) 0 sz53 rfl rfl (encO_len _) (encO_one _) rfl rfl ?_
        refine j_q (qs_field Tryz.underlying53 rfl sz9 (by decide) rfl) ?_
        first
          | refine j_q (qs_load 0 Tryz.underlying9 rfl rfl rfl rfl) ?_
          | refine j_q (qs_load 1 Tryz.underlying9 rfl rfl rfl rfl) ?_
          | refine j_q (qs_load 2 Tryz.underlying9 rfl rfl rfl rfl) ?_
          | refine j_q (qs_load 3 Tryz.underlying9 rfl rfl rfl rfl) ?_
        refine j_q (qs_call ent59 rfl rfl rfl (fun w' hw' => risName_con _ w' (by omega))) ?_
        refine j_q (qs_not rfl) ?_
        refine j_cond rfl (fun hc3 => ?_) (fun hc3 => ?_)
        · skip
          have hnm : isName (d.outs.getD i o0).name = false := by simpa using hc3
          refine j_q (qs_ac) ?_
          refine j_ret_con (vs := [_]) (fun w' hw' => ⟨rfl, trivial⟩) ?_
          symm
          show _ = Value.int .i64 9
          congr 1
          exact ck_2 hn0 (chkOuts_at hnn hz hi (chkO_name hnm) (by decide)) (by decide)
        · skip
          have hnm : isName (d.outs.getD i o0).name = true := by simpa using hc3
          refine j_draw ?_
          refine jq_q (qs_gtr rfl rfl) ?_
          refine jq_g rfl (fun hb => qs_field Tryz.underlying53 rfl sz9 (by decide) rfl) ?_
          first
            | refine jq_g rfl (fun hb => qs_load 0 Tryz.underlying9 rfl (gd_eq hb) rfl rfl) ?_
            | refine jq_g rfl (fun hb => qs_load 1 Tryz.underlying9 rfl (gd_eq hb) rfl rfl) ?_
            | refine jq_g rfl (fun hb => qs_load 2 Tryz.underlying9 rfl (gd_eq hb) rfl rfl) ?_
            | refine jq_g rfl (fun hb => qs_load 3 Tryz.underlying9 rfl (gd_eq hb) rfl rfl) ?_
          refine jq_g rfl (fun hb => qs_field Tryz.underlying28 rfl sz26 (by decide) rfl) ?_
          refine jq_g rfl (fun hb1 => qs_load (l := dcells d x) 1 Tryz.underlying26 rfl (gd_eq hb1) rfl (congrArg some hvo)) ?_
          refine jq_g rfl (fun hb => qs_mt rfl) ?_
          refine jq_g rfl (fun hb => qs_sub64 (gd_eq hb) rfl (by first | omega | (simp only [bnA] at *; omega))) ?_
          refine jq_g rfl (fun hb1 => qs_ixm (g := go) (off := offo) (i := i - 1) Tryz.underlying26 sz53 (gd_eq hb1) (gd_eq hb1) (by simp only [bnA] at *; omega) (by omega)) ?_
          refine jq_g rfl (fun hb => qs_field Tryz.underlying53 rfl sz9 (by decide) (gd_eq hb)) ?_
          refine jq_g rfl (fun hb1 => qs_loadrec (v := .string (bs (d.outs.getD (i - 1) o0).name)) (encA := encO) (rs := d.outs) (d := o0) (i := i - 1) (fo := 0) encO_len (rd_cells hcells (by simp)) (by omega) Tryz.underlying9 rfl (gd_eq hb1) rfl) ?_
          refine jq_g rfl (fun hb => qs_sleq (gd_eq hb) (gd_eq hb)) ?_
          refine jq_q (qs_and rfl rfl) ?_
          refine jq_g rfl (fun hb => qs_field Tryz.underlying53 rfl sz49 (by decide) rfl) ?_
          first
            | refine jq_g rfl (fun hb => qs_load 0 Tryz.underlying49 rfl (gd_eq hb) rfl rfl) ?_
            | refine jq_g rfl (fun hb => qs_load 1 Tryz.underlying49 rfl (gd_eq hb) rfl rfl) ?_
            | refine jq_g rfl (fun hb => qs_load 2 Tryz.underlying49 rfl (gd_eq hb) rfl rfl) ?_
            | refine jq_g rfl (fun hb => qs_load 3 Tryz.underlying49 rfl (gd_eq hb) rfl rfl) ?_
          refine jq_g rfl (fun hb1 => qs_sneq (l' := []) (gd_eq hb1) rfl) ?_
          refine jq_g rfl (fun hb => qs_move (gd_eq hb)) ?_
          refine jq_gg rfl (fun hb hb1 => qs_field Tryz.underlying53 rfl sz49 (by decide) rfl) ?_
          first
            | refine jq_gg rfl (fun hb hb1 => qs_load 0 Tryz.underlying49 rfl (gd_eq2 hb hb1) rfl rfl) ?_
            | refine jq_gg rfl (fun hb hb1 => qs_load 1 Tryz.underlying49 rfl (gd_eq2 hb hb1) rfl rfl) ?_
            | refine jq_gg rfl (fun hb hb1 => qs_load 2 Tryz.underlying49 rfl (gd_eq2 hb hb1) rfl rfl) ?_
            | refine jq_gg rfl (fun hb hb1 => qs_load 3 Tryz.underlying49 rfl (gd_eq2 hb hb1) rfl rfl) ?_
          refine jq_gg rfl (fun hb hb1 => qs_call ent24 rfl rfl (args1 (gd_eq2 hb hb1)) (fun w' hw' => isP_con _ w' (by omega))) ?_
          refine jq_gg rfl (fun hb hb1 => qs_not (gd_eq2 hb hb1)) ?_
          refine jq_g rfl (fun hb => qs_and (gd_eq hb) (gd_eq hb)) ?_
          refine jq_q (qs_or rfl rfl) ?_
          refine jq_g rfl (fun hb => qs_field Tryz.underlying53 rfl sz4 (by decide) rfl) ?_
          first
            | refine jq_g rfl (fun hb => qs_load 0 Tryz.underlying4 rfl (gd_eq hb) rfl rfl) ?_
            | refine jq_g rfl (fun hb => qs_load 1 Tryz.underlying4 rfl (gd_eq hb) rfl rfl) ?_
            | refine jq_g rfl (fun hb => qs_load 2 Tryz.underlying4 rfl (gd_eq hb) rfl rfl) ?_
            | refine jq_g rfl (fun hb => qs_load 3 Tryz.underlying4 rfl (gd_eq hb) rfl rfl) ?_
          refine jq_g rfl (fun hb => qs_move (gd_eq hb)) ?_
          refine jq_gg rfl (fun hb hb1 => qs_field Tryz.underlying28 rfl sz26 (by decide) rfl) ?_
          refine jq_gg rfl (fun hb1 hb2 => qs_load (l := dcells d x) 1 Tryz.underlying26 rfl (gd_eq2 hb1 hb2) rfl (congrArg some hvo)) ?_
          refine jq_gg rfl (fun hb hb1 => qs_lenl Tryz.underlying26 (gd_eq2 hb hb1)) ?_
          refine jq_gg rfl (fun hb hb1 => qs_gtr (gd_eq2 hb hb1) rfl) ?_
          refine jq_gg rfl (fun hb hb1 => qs_move (gd_eq2 hb hb1)) ?_
          refine jq_ggg rfl (fun hb hb1 hb2 => qs_field Tryz.underlying53 rfl sz9 (by decide) rfl) ?_
          first
            | refine jq_ggg rfl (fun hb hb1 hb2 => qs_load 0 Tryz.underlying9 rfl (gd_eq3 hb hb1 hb2) rfl rfl) ?_
            | refine jq_ggg rfl (fun hb hb1 hb2 => qs_load 1 Tryz.underlying9 rfl (gd_eq3 hb hb1 hb2) rfl rfl) ?_
            | refine jq_ggg rfl (fun hb hb1 hb2 => qs_load 2 Tryz.underlying9 rfl (gd_eq3 hb hb1 hb2) rfl rfl) ?_
            | refine jq_ggg rfl (fun hb hb1 hb2 => qs_load 3 Tryz.underlying9 rfl (gd_eq3 hb hb1 hb2) rfl rfl) ?_
          refine jq_ggg rfl (fun hb1 hb2 hb3 => qs_sneq (l' := sOut) (gd_eq3 hb1 hb2 hb3) rfl) ?_
          refine jq_gg rfl (fun hb hb1 => qs_or (gd_eq2 hb hb1) (gd_eq2 hb hb1)) ?_
          refine jq_g rfl (fun hb => qs_and (gd_eq hb) (gd_eq hb)) ?_
          refine jq_q (qs_or rfl rfl) ?_
          refine jq_g rfl (fun hb => qs_field Tryz.underlying53 rfl sz4 (by decide) rfl) ?_
          first
            | refine jq_g rfl (fun hb => qs_load 0 Tryz.underlying4 rfl (gd_eq hb) rfl rfl) ?_
            | refine jq_g rfl (fun hb => qs_load 1 Tryz.underlying4 rfl (gd_eq hb) rfl rfl) ?_
            | refine jq_g rfl (fun hb => qs_load 2 Tryz.underlying4 rfl (gd_eq hb) rfl rfl) ?_
            | refine jq_g rfl (fun hb => qs_load 3 Tryz.underlying4 rfl (gd_eq hb) rfl rfl) ?_
          refine jq_g rfl (fun hb => qs_not (gd_eq hb)) ?_
          refine jq_g rfl (fun hb => qs_move (gd_eq hb)) ?_
          refine jq_gg rfl (fun hb hb1 => qs_field Tryz.underlying53 rfl sz51 (by decide) rfl) ?_
          refine jq_gg rfl (fun hb1 hb2 => qs_loada (i := 3) (n := 32) (l := encO (d.outs.getD i o0)) 0 Tryz.underlying51 rfl sz51 (gd_eq2 hb1 hb2) rfl (by rw [encO_len]; omega)) ?_
          rw [show ((encO (d.outs.getD i o0)).drop 3).take 32 = ints (d.outs.getD i o0).hash.1 by show (ints _).take 32 = _; rw [List.take_of_length_le (by rw [ints_length, (d.outs.getD i o0).hash.2]; omega)]]
          refine jq_gg rfl (fun hb1 hb2 => qs_run (v := .agg (ints (List.replicate 32 0)).toArray) (fun w => by kernel_rfl)) ?_
          refine jq_gg rfl (fun hb1 hb2 => qs_ane (l := (d.outs.getD i o0).hash.1) (m := List.replicate 32 0) Tryz.underlying51 Tryz.underlying5 (by kernel_rfl) (by kernel_rfl) (by kernel_rfl) (gd_eq2 hb1 hb2) (gd_eq2 hb1 hb2) (d.outs.getD i o0).hash.2 (by simp)) ?_
          refine jq_g rfl (fun hb => qs_and (gd_eq hb) (gd_eq hb)) ?_
          refine jq_q (qs_or rfl rfl) ?_
          refine jq_nil ?_
          refine j_cond rfl (fun hc4 => ?_) (fun hc4 => ?_)
          · skip
            have hbad : badO d.outs i = true := by
              rw [badO_eq]
              unfold bo1
              rw [← gt0]
              exact hc4
            refine j_q (qs_ac) ?_
            refine j_ret_con (vs := [_]) (fun w' hw' => ⟨rfl, trivial⟩) ?_
            symm
            show _ = Value.int .i64 3
            congr 1
            exact ck_2 hn0 (chkOuts_at hnn hz hi (chkO_bad hnm hbad) (by decide)) (by decide)
          · skip
            have hbad : badO d.outs i = false := by
              rw [badO_eq]
              unfold bo1
              rw [← gt0]
              exact hc4
            refine j_q (qs_add64 rfl rfl (by first | omega | (simp only [bnA] at *; omega))) ?_
            refine j_subl (S' := [[(g0, .cells (dcells d x).toArray 28 (0, 0))], []]) (by repeat first | exact slR _ | exact slN _ | apply slC | apply slD) ?_
            refine j_back rfl ?_
            exact ⟨d.outs.length - (i + 1), by omega, i + 1, rfl, rfl, by omega, zero_snoc hz (chkO_ok hnm hbad), rfl⟩
      · skip
        obtain rfl : i = d.outs.length := by
          simp only [bnA] at *
          omega
        have hO0 := outs_zero hnn hz
        refine j_q (qs_ac) ?_
        refine j_loop (fun m vs S' => ∃ i : Nat, vs = [.int .i64 (i : Int)] ∧ S' = [[(g0, .cells (dcells d x).toArray 28 (0, 0))], []] ∧ i ≤ d.ins.length ∧ (∀ j < i, chkI d.ins j = 0) ∧ m = d.ins.length - i) ⟨_, 0, rfl, rfl, Nat.zero_le _, (fun j hj => absurd hj (Nat.not_lt_zero _)), rfl⟩ ?_
        rintro m vs S' hlen ⟨i, rfl, rfl, hin, hz, rfl⟩
        refine j_q (qs_field Tryz.underlying28 rfl sz24 (by decide) rfl) ?_
        refine j_q (qs_load (l := dcells d x) 0 Tryz.underlying24 rfl rfl rfl (congrArg some hvi)) ?_
        refine j_q (qs_lenl Tryz.underlying24 rfl) ?_
        refine j_q (qs_lss rfl rfl) ?_
        refine j_cond rfl (fun hc5 => ?_) (fun hc5 => ?_)
        · skip
          have hi : i < x.mi.length := by
            simp only [bnA] at *
            omega
          obtain ⟨rfl, hgi, hcells⟩ := hAi (by omega)
          have hip := few.ip _ (hmem _ (getD_mem (d := m0) hi))
          simp only [MI.pi] at hip
          have hsx := h.io _ (getD_mem (d := m0) hi)
          obtain ⟨Ax, capx, hvx, hcapx⟩ := strz_form hsx
          have hone := MI.one hsx
          refine j_q (qs_field Tryz.underlying28 rfl sz24 (by decide) rfl) ?_
          refine j_q (qs_load (l := dcells d x) 0 Tryz.underlying24 rfl rfl rfl (congrArg some hvi)) ?_
          refine j_q (qs_ixn (g := gi) (off := offi) (i := i) Tryz.underlying24 sz68 rfl rfl (by omega)) ?_
          refine j_q (qs_loadrecw (encA := encI) (rs := x.mi) (d := m0) (i := i) encI_len (rd_cells hcells (by simp)) hi Tryz.underlying68 rfl sz68 rfl) ?_
          refine j_alloc zero68 (fun g96 hg96 hs96 => ?_)
          refine j_storew (vs := encI (x.mi.getD i m0)) 0 sz68 rfl rfl (encI_len _) hone rfl rfl ?_
          refine j_draw ?_
          refine jq_q (qs_field Tryz.underlying68 rfl sz49 (by decide) rfl) ?_
          first
            | refine jq_q (qs_load 0 Tryz.underlying49 rfl rfl rfl rfl) ?_
            | refine jq_q (qs_load 1 Tryz.underlying49 rfl rfl rfl rfl) ?_
            | refine jq_q (qs_load 2 Tryz.underlying49 rfl rfl rfl rfl) ?_
            | refine jq_q (qs_load 3 Tryz.underlying49 rfl rfl rfl rfl) ?_
          refine jq_q (qs_call ent80 rfl rfl rfl (fun w' hw' => risDrv_con _ w' (by omega))) ?_
          refine jq_q (qs_not rfl) ?_
          refine jq_g rfl (fun hb => qs_mt rfl) ?_
          refine jq_g rfl (fun hb => qs_gtr (gd_eq hb) rfl) ?_
          refine jq_g rfl (fun hb => qs_move (gd_eq hb)) ?_
          refine jq_gg rfl (fun hb hb1 => qs_field Tryz.underlying68 rfl sz49 (by decide) rfl) ?_
          first
            | refine jq_gg rfl (fun hb hb1 => qs_load 0 Tryz.underlying49 rfl (gd_eq2 hb hb1) rfl rfl) ?_
            | refine jq_gg rfl (fun hb hb1 => qs_load 1 Tryz.underlying49 rfl (gd_eq2 hb hb1) rfl rfl) ?_
            | refine jq_gg rfl (fun hb hb1 => qs_load 2 Tryz.underlying49 rfl (gd_eq2 hb hb1) rfl rfl) ?_
            | refine jq_gg rfl (fun hb hb1 => qs_load 3 Tryz.underlying49 rfl (gd_eq2 hb hb1) rfl rfl) ?_
          refine jq_gg rfl (fun hb hb1 => qs_field Tryz.underlying28 rfl sz24 (by decide) rfl) ?_
          refine jq_gg rfl (fun hb1 hb2 => qs_load (l := dcells d x) 1 Tryz.underlying24 rfl (gd_eq2 hb1 hb2) rfl (congrArg some hvi)) ?_
          refine jq_gg rfl (fun hb hb1 => qs_mt rfl) ?_
          refine jq_gg rfl (fun hb hb1 => qs_sub64 (gd_eq2 hb hb1) rfl (by first | omega | (simp only [bnA] at *; omega))) ?_
          refine jq_gg rfl (fun hb1 hb2 => qs_ixm (g := gi) (off := offi) (i := i - 1) Tryz.underlying24 sz68 (gd_eq2 hb1 hb2) (gd_eq2 hb1 hb2) (by simp only [bnA] at *; omega) (by omega)) ?_
          refine jq_gg rfl (fun hb hb1 => qs_field Tryz.underlying68 rfl sz49 (by decide) (gd_eq2 hb hb1)) ?_
          refine jq_gg rfl (fun hb1 hb2 => qs_loadrec (v := .string (bs (x.mi.getD (i - 1) m0).drv)) (encA := encI) (rs := x.mi) (d := m0) (i := i - 1) (fo := 0) encI_len (rd_cells hcells (by simp)) (by omega) Tryz.underlying49 rfl (gd_eq2 hb1 hb2) rfl) ?_
          refine jq_gg rfl (fun hb hb1 => qs_sleq (gd_eq2 hb hb1) (gd_eq2 hb hb1)) ?_
          refine jq_g rfl (fun hb => qs_and (gd_eq hb) (gd_eq hb)) ?_
          refine jq_q (qs_or rfl rfl) ?_
          refine jq_g rfl (fun hb => qs_field Tryz.underlying68 rfl sz22 (by decide) rfl) ?_
          refine jq_g rfl (fun hb1 => qs_load 0 Tryz.underlying22 rfl (gd_eq hb1) rfl (congrArg some hvx)) ?_
          refine jq_g rfl (fun hb => qs_lenl Tryz.underlying22 (gd_eq hb)) ?_
          refine jq_g rfl (fun hb => qs_eql (gd_eq hb) rfl) ?_
          refine jq_q (qs_or rfl rfl) ?_
          refine jq_nil ?_
          refine j_cond rfl (fun hc6 => ?_) (fun hc6 => ?_)
          · skip
            have hbad : badI d.ins i = true := by
              rw [h.im, ← bi_eq]
              exact hc6
            refine j_q (qs_ac) ?_
            refine j_ret_con (vs := [_]) (fun w' hw' => ⟨rfl, trivial⟩) ?_
            symm
            show _ = Value.int .i64 3
            congr 1
            exact ck_3 hn0 hO0 (by unfold chkIns; rw [firstE_at hz (by omega) (by rw [chkI_bad hbad]; decide), chkI_bad hbad]) (by decide)
          · skip
            have hbad : badI d.ins i = false := by
              rw [h.im, ← bi_eq]
              exact hc6
            have hci := chkI_in hbad
            have hgd : d.ins.getD i i0 = (x.mi.getD i m0).pi := by rw [h.im, getD_pi]
            rw [hgd] at hci
            change chkI d.ins i = firstE (chkN (x.mi.getD i m0).outs) (x.mi.getD i m0).outs.length at hci
            refine j_q (qs_ac) ?_
            refine j_loop (fun m vs S' => ∃ k : Nat, vs = [.int .i64 (k : Int)] ∧ S' = [[(g96, .cells (encI (x.mi.getD i m0)).toArray 68 (0, 0))], [(g0, .cells (dcells d x).toArray 28 (0, 0))], []] ∧ k ≤ (x.mi.getD i m0).outs.length ∧ (∀ j < k, chkN (x.mi.getD i m0).outs j = 0) ∧ m = (x.mi.getD i m0).outs.length - k) ⟨_, 0, rfl, rfl, Nat.zero_le _, (fun j hj => absurd hj (Nat.not_lt_zero _)), rfl⟩ ?_
            rintro m vs S' hlen ⟨k, rfl, rfl, hkn, hzk, rfl⟩
            refine j_q (qs_field Tryz.underlying68 rfl sz22 (by decide) rfl) ?_
            refine j_q (qs_load 0 Tryz.underlying22 rfl rfl rfl (congrArg some hvx)) ?_
            refine j_q (qs_lenl Tryz.underlying22 rfl) ?_
            refine j_q (qs_lss rfl rfl) ?_
            refine j_cond rfl (fun hc7 => ?_) (fun hc7 => ?_)
            · skip
              have hk : k < (x.mi.getD i m0).outs.length := by
                simp only [bnA] at *
                omega
              obtain ⟨gx, offx, rfl, hgx, hcellx⟩ := strz_addr (hvx ▸ hsx) (by omega)
              have hl4 := hou _ (hmem _ (getD_mem (d := m0) hi)) _ (getD_mem (l := (x.mi.getD i m0).outs) (d := []) hk)
              refine j_q (qs_field Tryz.underlying68 rfl sz22 (by decide) rfl) ?_
              refine j_q (qs_load 0 Tryz.underlying22 rfl rfl rfl (congrArg some hvx)) ?_
              refine j_q (qs_ixm (g := gx) (off := offx) (i := k) Tryz.underlying22 sz9 rfl rfl rfl (by omega)) ?_
              refine j_q (qs_loadrs (i := k) (rd_cells hcellx (by simp)) Tryz.underlying9 (by rw [add_off, Nat.mul_one]; rfl) (by omega)) ?_
              refine j_q (qs_call ent59 rfl rfl rfl (fun w' hw' => risName_con _ w' (by omega))) ?_
              refine j_q (qs_not rfl) ?_
              refine j_cond rfl (fun hc8 => ?_) (fun hc8 => ?_)
              · skip
                have hnm : isName ((x.mi.getD i m0).outs.getD k []) = false := by simpa using hc8
                refine j_q (qs_ac) ?_
                refine j_ret_con (vs := [_]) (fun w' hw' => ⟨rfl, trivial⟩) ?_
                symm
                show _ = Value.int .i64 9
                congr 1
                have h9 : chkI d.ins i = 9 := by rw [hci, firstE_at hzk hk (by rw [chkN_name hnm]; decide), chkN_name hnm]
                exact ck_3 hn0 hO0 (by unfold chkIns; rw [firstE_at hz (by omega) (by rw [h9]; decide), h9]) (by decide)
              · skip
                have hnm : isName ((x.mi.getD i m0).outs.getD k []) = true := by simpa using hc8
                refine j_draw ?_
                refine jq_q (qs_gtr rfl rfl) ?_
                refine jq_g rfl (fun hb => qs_field Tryz.underlying68 rfl sz22 (by decide) rfl) ?_
                refine jq_g rfl (fun hb1 => qs_load 0 Tryz.underlying22 rfl (gd_eq hb1) rfl (congrArg some hvx)) ?_
                refine jq_g rfl (fun hb => qs_mt rfl) ?_
                refine jq_g rfl (fun hb1 => qs_ixm (g := gx) (off := offx) (i := k) Tryz.underlying22 sz9 (gd_eq hb1) (gd_eq hb1) rfl (by omega)) ?_
                refine jq_g rfl (fun hb1 => qs_loadrs (i := k) (rd_cells hcellx (by simp)) Tryz.underlying9 ((gd_eq hb1).trans (by rw [add_off, Nat.mul_one])) (by omega)) ?_
                refine jq_g rfl (fun hb => qs_field Tryz.underlying68 rfl sz22 (by decide) rfl) ?_
                refine jq_g rfl (fun hb1 => qs_load 0 Tryz.underlying22 rfl (gd_eq hb1) rfl (congrArg some hvx)) ?_
                refine jq_g rfl (fun hb => qs_mt rfl) ?_
                refine jq_g rfl (fun hb => qs_sub64 (gd_eq hb) rfl (by first | omega | (simp only [bnA] at *; omega))) ?_
                refine jq_g rfl (fun hb1 => qs_ixm (g := gx) (off := offx) (i := k - 1) Tryz.underlying22 sz9 (gd_eq hb1) (gd_eq hb1) (by simp only [bnA] at *; omega) (by omega)) ?_
                refine jq_g rfl (fun hb1 => qs_loadrs (i := k - 1) (rd_cells hcellx (by simp)) Tryz.underlying9 ((gd_eq hb1).trans (by rw [add_off, Nat.mul_one])) (by omega)) ?_
                refine jq_g rfl (fun hb => qs_sleq (gd_eq hb) (gd_eq hb)) ?_
                refine jq_q (qs_and rfl rfl) ?_
                refine jq_nil ?_
                refine j_cond rfl (fun hc9 => ?_) (fun hc9 => ?_)
                · skip
                  rw [gt0] at hc9
                  have hck := chkN_at hnm hc9
                  refine j_q (qs_ac) ?_
                  refine j_ret_con (vs := [_]) (fun w' hw' => ⟨rfl, trivial⟩) ?_
                  symm
                  show _ = Value.int .i64 3
                  congr 1
                  have h9 : chkI d.ins i = 3 := by rw [hci, firstE_at hzk hk (by rw [hck]; decide), hck]; rfl
                  exact ck_3 hn0 hO0 (by unfold chkIns; rw [firstE_at hz (by omega) (by rw [h9]; decide), h9]) (by decide)
                · skip
                  rw [gt0] at hc9
                  have hck := chkN_at hnm hc9
                  refine j_q (qs_add64 rfl rfl (by first | omega | (simp only [bnA] at *; omega))) ?_
                  refine j_back rfl ?_
                  exact ⟨(x.mi.getD i m0).outs.length - (k + 1), by omega, k + 1, rfl, rfl, by omega, zero_snoc hzk hck, rfl⟩
            · skip
              obtain rfl : k = (x.mi.getD i m0).outs.length := by
                simp only [bnA] at *
                omega
              have hc0' : chkI d.ins i = 0 := by rw [hci]; exact firstE_zero hzk
              refine j_q (qs_add64 rfl rfl (by first | omega | (simp only [bnA] at *; omega))) ?_
              refine j_subl (S' := [[(g0, .cells (dcells d x).toArray 28 (0, 0))], []]) (by repeat first | exact slR _ | exact slN _ | apply slC | apply slD) ?_
              refine j_back rfl ?_
              exact ⟨d.ins.length - (i + 1), by omega, i + 1, rfl, rfl, by omega, zero_snoc hz hc0', rfl⟩
        · skip
          obtain rfl : i = d.ins.length := by
            simp only [bnA] at *
            omega
          have hI0 : chkIns d.ins = 0 := by unfold chkIns; exact firstE_zero hz
          refine j_q (qs_ac) ?_
          refine j_loop (fun m vs S' => ∃ i : Nat, vs = [.int .i64 (i : Int)] ∧ S' = [[(g0, .cells (dcells d x).toArray 28 (0, 0))], []] ∧ i ≤ d.srcs.length ∧ (∀ j < i, chkS d.srcs j = 0) ∧ m = d.srcs.length - i) ⟨_, 0, rfl, rfl, Nat.zero_le _, (fun j hj => absurd hj (Nat.not_lt_zero _)), rfl⟩ ?_
          rintro m vs S' hlen ⟨i, rfl, rfl, hin, hz, rfl⟩
          refine j_q (qs_field Tryz.underlying28 rfl sz25 (by decide) rfl) ?_
          refine j_q (qs_load (l := dcells d x) 0 Tryz.underlying25 rfl rfl rfl (congrArg some hvs)) ?_
          refine j_q (qs_lenl Tryz.underlying25 rfl) ?_
          refine j_q (qs_lss rfl rfl) ?_
          refine j_cond rfl (fun hc10 => ?_) (fun hc10 => ?_)
          · skip
            have hi : i < d.srcs.length := by
              simp only [bnA] at *
              omega
            obtain ⟨gs, offs, rfl, hgs, hcells⟩ := strz_addr (hvs ▸ h.s) (by omega)
            have hsl := few.sr _ (getD_mem (d := []) hi)
            refine j_draw ?_
            refine jq_q (qs_field Tryz.underlying28 rfl sz25 (by decide) rfl) ?_
            refine jq_q (qs_load (l := dcells d x) 0 Tryz.underlying25 rfl rfl rfl (congrArg some hvs)) ?_
            refine jq_q (qs_ixm (g := gs) (off := offs) (i := i) Tryz.underlying25 sz49 rfl rfl rfl (by omega)) ?_
            refine jq_q (qs_loadrs (i := i) (rd_cells hcells (by simp)) Tryz.underlying49 (by rw [add_off, Nat.mul_one]; rfl) (by omega)) ?_
            refine jq_q (qs_call ent24 rfl rfl rfl (fun w' hw' => isP_con _ w' (by omega))) ?_
            refine jq_q (qs_not rfl) ?_
            refine jq_g rfl (fun hb => qs_mt rfl) ?_
            refine jq_g rfl (fun hb => qs_gtr (gd_eq hb) rfl) ?_
            refine jq_g rfl (fun hb => qs_move (gd_eq hb)) ?_
            refine jq_gg rfl (fun hb hb1 => qs_field Tryz.underlying28 rfl sz25 (by decide) rfl) ?_
            refine jq_gg rfl (fun hb1 hb2 => qs_load (l := dcells d x) 0 Tryz.underlying25 rfl (gd_eq2 hb1 hb2) rfl (congrArg some hvs)) ?_
            refine jq_gg rfl (fun hb hb1 => qs_mt rfl) ?_
            refine jq_gg rfl (fun hb1 hb2 => qs_ixm (g := gs) (off := offs) (i := i) Tryz.underlying25 sz49 (gd_eq2 hb1 hb2) (gd_eq2 hb1 hb2) rfl (by omega)) ?_
            refine jq_gg rfl (fun hb1 hb2 => qs_loadrs (i := i) (rd_cells hcells (by simp)) Tryz.underlying49 ((gd_eq2 hb1 hb2).trans (by rw [add_off, Nat.mul_one])) (by omega)) ?_
            refine jq_gg rfl (fun hb hb1 => qs_field Tryz.underlying28 rfl sz25 (by decide) rfl) ?_
            refine jq_gg rfl (fun hb1 hb2 => qs_load (l := dcells d x) 0 Tryz.underlying25 rfl (gd_eq2 hb1 hb2) rfl (congrArg some hvs)) ?_
            refine jq_gg rfl (fun hb hb1 => qs_mt rfl) ?_
            refine jq_gg rfl (fun hb hb1 => qs_sub64 (gd_eq2 hb hb1) rfl (by first | omega | (simp only [bnA] at *; omega))) ?_
            refine jq_gg rfl (fun hb1 hb2 => qs_ixm (g := gs) (off := offs) (i := i - 1) Tryz.underlying25 sz49 (gd_eq2 hb1 hb2) (gd_eq2 hb1 hb2) (by simp only [bnA] at *; omega) (by omega)) ?_
            refine jq_gg rfl (fun hb1 hb2 => qs_loadrs (i := i - 1) (rd_cells hcells (by simp)) Tryz.underlying49 ((gd_eq2 hb1 hb2).trans (by rw [add_off, Nat.mul_one])) (by omega)) ?_
            refine jq_gg rfl (fun hb hb1 => qs_sleq (gd_eq2 hb hb1) (gd_eq2 hb hb1)) ?_
            refine jq_g rfl (fun hb => qs_and (gd_eq hb) (gd_eq hb)) ?_
            refine jq_q (qs_or rfl rfl) ?_
            refine jq_nil ?_
            refine j_cond rfl (fun hc11 => ?_) (fun hc11 => ?_)
            · skip
              have hcs := chkS_at hc11
              refine j_q (qs_ac) ?_
              refine j_ret_con (vs := [_]) (fun w' hw' => ⟨rfl, trivial⟩) ?_
              symm
              show _ = Value.int .i64 3
              congr 1
              exact ck_4 hn0 hO0 hI0 (by rw [firstE_at hz hi (by rw [hcs]; decide), hcs]; rfl) (by decide)
            · skip
              have hcs := chkS_at hc11
              refine j_q (qs_add64 rfl rfl (by first | omega | (simp only [bnA] at *; omega))) ?_
              refine j_back rfl ?_
              exact ⟨d.srcs.length - (i + 1), by omega, i + 1, rfl, rfl, by omega, zero_snoc hz hcs, rfl⟩
          · skip
            obtain rfl : i = d.srcs.length := by
              simp only [bnA] at *
              omega
            have hS0 := firstE_zero hz
            refine j_q (qs_ac) ?_
            refine j_loop (fun m vs S' => ∃ i : Nat, vs = [.int .i64 (i : Int)] ∧ S' = [[(g0, .cells (dcells d x).toArray 28 (0, 0))], []] ∧ i ≤ d.env.length ∧ (∀ j < i, chkV d.env j = 0) ∧ m = d.env.length - i) ⟨_, 0, rfl, rfl, Nat.zero_le _, (fun j hj => absurd hj (Nat.not_lt_zero _)), rfl⟩ ?_
            rintro m vs S' hlen ⟨i, rfl, rfl, hin, hz, rfl⟩
            refine j_q (qs_field Tryz.underlying28 rfl sz23 (by decide) rfl) ?_
            refine j_q (qs_load (l := dcells d x) 0 Tryz.underlying23 rfl rfl rfl (congrArg some hve)) ?_
            refine j_q (qs_lenl Tryz.underlying23 rfl) ?_
            refine j_q (qs_lss rfl rfl) ?_
            refine j_cond rfl (fun hc12 => ?_) (fun hc12 => ?_)
            · skip
              have hi : i < d.env.length := by
                simp only [bnA] at *
                omega
              obtain ⟨rfl, hge, hcells⟩ := hAe (by omega)
              have hsl := few.ev _ (getD_mem (d := v0) hi)
              refine j_draw ?_
              refine jq_q (qs_field Tryz.underlying28 rfl sz23 (by decide) rfl) ?_
              refine jq_q (qs_load (l := dcells d x) 0 Tryz.underlying23 rfl rfl rfl (congrArg some hve)) ?_
              refine jq_q (qs_ixm (g := ge) (off := offe) (i := i) Tryz.underlying23 sz48 rfl rfl rfl (by omega)) ?_
              refine jq_q (qs_field Tryz.underlying48 rfl sz9 (by decide) rfl) ?_
              refine jq_q (qs_loadrec (v := .string (bs (d.env.getD i v0).name)) (encA := encV) (rs := d.env) (d := v0) (i := i) (fo := 0) encV_len (rd_cells hcells (by simp)) (by omega) Tryz.underlying9 rfl rfl rfl) ?_
              refine jq_q (qs_seql (l' := []) rfl rfl) ?_
              refine jq_g rfl (fun hb => qs_mt rfl) ?_
              refine jq_g rfl (fun hb => qs_gtr (gd_eq hb) rfl) ?_
              refine jq_g rfl (fun hb => qs_move (gd_eq hb)) ?_
              refine jq_gg rfl (fun hb hb1 => qs_field Tryz.underlying28 rfl sz23 (by decide) rfl) ?_
              refine jq_gg rfl (fun hb1 hb2 => qs_load (l := dcells d x) 0 Tryz.underlying23 rfl (gd_eq2 hb1 hb2) rfl (congrArg some hve)) ?_
              refine jq_gg rfl (fun hb hb1 => qs_mt rfl) ?_
              refine jq_gg rfl (fun hb1 hb2 => qs_ixm (g := ge) (off := offe) (i := i) Tryz.underlying23 sz48 (gd_eq2 hb1 hb2) (gd_eq2 hb1 hb2) rfl (by omega)) ?_
              refine jq_gg rfl (fun hb hb1 => qs_field Tryz.underlying48 rfl sz9 (by decide) (gd_eq2 hb hb1)) ?_
              refine jq_gg rfl (fun hb1 hb2 => qs_loadrec (v := .string (bs (d.env.getD i v0).name)) (encA := encV) (rs := d.env) (d := v0) (i := i) (fo := 0) encV_len (rd_cells hcells (by simp)) (by omega) Tryz.underlying9 rfl (gd_eq2 hb1 hb2) rfl) ?_
              refine jq_gg rfl (fun hb hb1 => qs_field Tryz.underlying28 rfl sz23 (by decide) rfl) ?_
              refine jq_gg rfl (fun hb1 hb2 => qs_load (l := dcells d x) 0 Tryz.underlying23 rfl (gd_eq2 hb1 hb2) rfl (congrArg some hve)) ?_
              refine jq_gg rfl (fun hb hb1 => qs_mt rfl) ?_
              refine jq_gg rfl (fun hb hb1 => qs_sub64 (gd_eq2 hb hb1) rfl (by first | omega | (simp only [bnA] at *; omega))) ?_
              refine jq_gg rfl (fun hb1 hb2 => qs_ixm (g := ge) (off := offe) (i := i - 1) Tryz.underlying23 sz48 (gd_eq2 hb1 hb2) (gd_eq2 hb1 hb2) (by simp only [bnA] at *; omega) (by omega)) ?_
              refine jq_gg rfl (fun hb hb1 => qs_field Tryz.underlying48 rfl sz9 (by decide) (gd_eq2 hb hb1)) ?_
              refine jq_gg rfl (fun hb1 hb2 => qs_loadrec (v := .string (bs (d.env.getD (i - 1) v0).name)) (encA := encV) (rs := d.env) (d := v0) (i := i - 1) (fo := 0) encV_len (rd_cells hcells (by simp)) (by omega) Tryz.underlying9 rfl (gd_eq2 hb1 hb2) rfl) ?_
              refine jq_gg rfl (fun hb hb1 => qs_sleq (gd_eq2 hb hb1) (gd_eq2 hb hb1)) ?_
              refine jq_g rfl (fun hb => qs_and (gd_eq hb) (gd_eq hb)) ?_
              refine jq_q (qs_or rfl rfl) ?_
              refine jq_nil ?_
              refine j_cond rfl (fun hc13 => ?_) (fun hc13 => ?_)
              · skip
                have hcs := chkV_at hc13
                refine j_q (qs_ac) ?_
                refine j_ret_con (vs := [_]) (fun w' hw' => ⟨rfl, trivial⟩) ?_
                symm
                show _ = Value.int .i64 3
                congr 1
                exact ck_5 hn0 hO0 hI0 hS0 (by rw [firstE_at hz hi (by rw [hcs]; decide), hcs]; rfl)
              · skip
                have hcs := chkV_at hc13
                refine j_q (qs_add64 rfl rfl (by first | omega | (simp only [bnA] at *; omega))) ?_
                refine j_back rfl ?_
                exact ⟨d.env.length - (i + 1), by omega, i + 1, rfl, rfl, by omega, zero_snoc hz hcs, rfl⟩
            · skip
              obtain rfl : i = d.env.length := by
                simp only [bnA] at *
                omega
              have hV0 := firstE_zero hz
              refine j_q (qs_ac) ?_
              refine j_ret_con (vs := [_]) (fun w' hw' => ⟨rfl, trivial⟩) ?_
              symm
              show _ = Value.int .i64 0
              congr 1
              exact ck_5 hn0 hO0 hI0 hS0 hV0
theorem rcheck_con (d : PD) (x : DV) (w : World) (h : DR w d x) (hb : big2 d ≤ 200000) (hou : ∀ y ∈ d.ins, ∀ o ∈ y.outs, o.length ≤ 9223372036854775807) : Con Tryz.prog 16 [dval d x] w [] fun v _ => v = .int .i64 (chk d) := by
  refine con_of_tree mix Tryz.func16 T16_ok (by kernel_rfl) ?_
  unfold T16
  refine j_box (l := dcells d x) rfl (fun g0 hg0 hs0 => ?_)
  refine j_q (qs_ac) ?_
  refine j_q (qs_loadw (l := dcells d x) 0 Tryz.underlying28 rfl sz28 rfl rfl rfl) ?_
  refine j_q (qs_call ent42 rfl rfl rfl (fun w' hw' => rcheck0_con d x w' (h.keep hw') hb hou)) ?_
  refine j_q (qs_neq rfl rfl) ?_
  refine j_cond rfl (fun hc0 => ?_) (fun hc0 => ?_)
  · skip
    have hck : chk0 d ≠ 0 := by simpa using hc0
    refine j_ret_con (vs := [_]) (fun w' hw' => ⟨rfl, trivial⟩) ?_
    rw [chk_of, if_pos hck]
    rfl
  · skip
    have hck : chk0 d = 0 := by simpa using hc0
    refine j_q (qs_loadw (l := dcells d x) 0 Tryz.underlying28 rfl sz28 rfl rfl rfl) ?_
    refine j_call0 ent37 rfl rfl rfl (fun w' hw' => rdtext_con d x w' (h.keep hw') (tb_of (chk0_parts hck).2.2.2.1 hb)) (fun u S2 hu => ?_)
    obtain ⟨ct, rfl, hot⟩ := hu
    obtain ⟨nt, At, capt, rfl, hnt⟩ := own_form hot (by decide)
    rw [ints_length, Nat.mul_one] at hnt
    subst hnt
    refine j_q (qs_lenl Tryz.underlying46 rfl) ?_
    refine j_q (qs_gtr rfl rfl) ?_
    refine j_cond rfl (fun hc1 => ?_) (fun hc1 => ?_)
    · skip
      refine j_q (qs_ac) ?_
      refine j_ret_con (vs := [_]) (fun w' hw' => ⟨rfl, trivial⟩) ?_
      rw [chk_of, if_neg (by simp [hck]), if_pos (by simp only [bnA] at *; omega)]
      rfl
    · skip
      refine j_q (qs_ac) ?_
      refine j_ret_con (vs := [_]) (fun w' hw' => ⟨rfl, trivial⟩) ?_
      rw [chk_of, if_neg (by simp [hck]), if_neg (by simp only [bnA] at *; omega)]
      rfl
end Go.Proofs.YtfeabbeebkkhaaaGreat
/-! Dv21 -/
namespace Go.Proofs.YtfeabbeebkkhaaaGreat
open Go Go.Sx
set_option maxRecDepth 100000
set_option maxHeartbeats 4000000
set_option linter.unusedVariables false
set_option linter.unusedSimpArgs false
attribute [local irreducible] J JQ QS Con W opW
theorem ent45 : Sx.Enters Tryz.prog 45 := ⟨_, Tryz.func45, by kernel_rfl, by kernel_rfl⟩
abbrev RF (gr : Nat) (s : Bs) (b : Bool) : Nat × Obj := (gr, .cells [Value.string (bs s), .bool b].toArray 91 (0, 0))
def comb2 (x : UInt8) (n : Int) : UInt8 := by8 (IntKind.u8.wrap ((x.toNat : Int) * 16) + n)
theorem comb2_0 (c : UInt8) : comb2 0 ((c.toNat : Int) / 16) = by8 ((c.toNat : Int) / 16) := by
  have : ∀ k : Fin 256, comb2 0 (((UInt8.ofNat k.val).toNat : Int) / 16) = by8 (((UInt8.ofNat k.val).toNat : Int) / 16) := by decide +kernel
  have h := this ⟨c.toNat, c.toNat_lt⟩
  rwa [ofNat_lt] at h
theorem comb2_1 (c : UInt8) : comb2 (by8 ((c.toNat : Int) / 16)) ((c.toNat : Int) % 16) = c := by
  have : ∀ k : Fin 256, comb2 (by8 (((UInt8.ofNat k.val).toNat : Int) / 16)) (((UInt8.ofNat k.val).toNat : Int) % 16) = UInt8.ofNat k.val := by decide +kernel
  have h := this ⟨c.toNat, c.toNat_lt⟩
  rwa [ofNat_lt] at h
theorem hx_step2 {h : Bs} {i : Nat} (hi : i < 64) : (hx h i).set (i / 2) (comb2 ((hx h i).getD (i / 2) 0) (nibs h i)) = hx h (i + 1) := by
  apply List.ext_getElem?
  intro j
  by_cases hj : j < 32
  · rw [List.getElem?_set, hx_get h (i + 1) j hj]
    by_cases hij : i / 2 = j
    · rw [if_pos hij, if_pos (by rw [hx_len]; omega)]
      subst hij
      rw [List.getD_eq_getElem?_getD, hx_get h i (i / 2) (by omega), Option.getD_some]
      unfold nibs
      by_cases he : i % 2 = 0
      · rw [if_pos he, if_neg (by omega), if_neg (by omega), comb2_0, if_neg (by omega), if_pos (by omega)]
      · rw [if_neg he, if_neg (by omega), if_pos (by omega), comb2_1, if_pos (by omega)]
    · rw [if_neg hij, hx_get h i j hj]
      congr 1
      by_cases h1 : 2 * j + 2 ≤ i
      · rw [if_pos h1, if_pos (by omega)]
      · rw [if_neg h1, if_neg (by omega), if_neg (by omega), if_neg (by omega)]
  · rw [List.getElem?_eq_none (by rw [List.length_set, hx_len]; omega), List.getElem?_eq_none (by rw [hx_len]; omega)]
theorem hxk_step2 {s l : Bs} {i : Nat} {n : Int} (hk : HxK s l i) (hi : i < 64) (hn : ∀ h : Bs, h.length = 32 → s = hex h → n = nibs h i) : HxK s (l.set (i / 2) (comb2 (l.getD (i / 2) 0) n)) (i + 1) := by
  unfold HxK at hk ⊢
  intro h hl hs
  rw [hk h hl hs, hn h hl hs]
  exact hx_step2 hi
theorem esc_nl {d c : UInt8} {t u : Bs} (h : esc d ++ t = c :: u) : c ≠ 9 ∧ c ≠ 10 ∧ c ≠ 13 := by
  unfold esc at h
  repeat' split at h
  all_goals (simp only [List.cons_append, List.nil_append, List.cons.injEq] at h)
  all_goals first
    | exact ⟨by rw [← h.1]; decide, by rw [← h.1]; decide, by rw [← h.1]; decide⟩
    | (rename_i h1 h2 h3 h4 h5; rw [← h.1]; exact ⟨h5, h3, h4⟩)
theorem txk_nl {r r1 acc : Bs} {i : Nat} (h : TxK r r1 acc i) (hi : i < r1.length) (hc : r1.getD i 0 = 10 ∨ r1.getD i 0 = 13 ∨ r1.getD i 0 = 9) : ∀ x z, r ≠ qt x ++ z := fun x z hx => by
  unfold TxK at h
  obtain ⟨x2, h1, h2⟩ := h x z hx
  rw [drop_at hi] at h2
  cases x2 with
  | nil =>
    simp only [es, List.map_nil, List.flatten_nil, List.cons_append, List.nil_append, List.cons.injEq] at h2
    rw [h2.1] at hc
    revert hc
    decide
  | cons d x2 =>
    rw [es_cons, List.append_assoc] at h2
    obtain ⟨h3, h4, h5⟩ := esc_nl h2.symm
    rcases hc with hc | hc | hc
    · exact h4 hc
    · exact h5 hc
    · exact h3 hc
def RK (bad : Bool) (s r1 : Bs) (b1 : Bool) (acc : Bs) (i : Nat) : Prop := bad = false → TxK s r1 acc i ∧ ∀ x z, s = qt x ++ z → b1 = false
theorem rk_start {bad b1 : Bool} {s r1 : Bs} (h : bad = false → ∀ z, s = [34] ++ z → r1 = z ∧ b1 = false) : RK bad s r1 b1 [] 0 := fun hb => by
  have key : ∀ x z, s = qt x ++ z → s = [34] ++ (es x ++ ([34] ++ z)) := fun x z hx => by
    rw [hx]
    unfold qt
    simp
  unfold TxK
  exact ⟨fun x z hx => ⟨x, rfl, by rw [List.drop_zero]; exact (h hb _ (key x z hx)).1⟩, fun x z hx => (h hb _ (key x z hx)).2⟩
theorem rk_bad {bad b1 b2 : Bool} {s r1 acc acc2 : Bs} {i j : Nat} (h : RK bad s r1 b1 acc i) (hno : TxK s r1 acc i → ∀ x z, s ≠ qt x ++ z) : RK bad s r1 b2 acc2 j := fun hb => by
  have h1 := hno (h hb).1
  unfold TxK
  exact ⟨fun x z hx => absurd hx (h1 x z), fun x z hx => absurd hx (h1 x z)⟩
theorem rk_plain {bad b1 : Bool} {s r1 acc : Bs} {i : Nat} (h : RK bad s r1 b1 acc i) (hi : i < r1.length) (h34 : r1.getD i 0 ≠ 34) (h92 : r1.getD i 0 ≠ 92) : RK bad s r1 b1 (acc ++ [r1.getD i 0]) (i + 1) := fun hb => ⟨txk_plain (h hb).1 hi h34 h92, (h hb).2⟩
theorem rk_esc {bad b1 : Bool} {s r1 acc : Bs} {i : Nat} {d : UInt8} (h : RK bad s r1 b1 acc i) (hi : i < r1.length) (h92 : r1.getD i 0 = 92) (hd : unesc (r1.getD (i + 1) 0) = d) : RK bad s r1 b1 (acc ++ [d]) (i + 1 + 1) := fun hb => by
  refine ⟨?_, (h hb).2⟩
  have hk := (h hb).1
  have := txk_esc hk hi h92
  unfold TxK
  intro x z hx
  obtain ⟨_, _, h3⟩ := this x z hx
  rwa [hd] at h3
theorem idx_no (e : UInt8) (h1 : e ≠ 110) (h2 : e ≠ 114) (h3 : e ≠ 116) (h4 : e ≠ 34) (h5 : e ≠ 92) : firstIdx (bs [34, 92, 110, 114, 116]) e < 0 := by
  have : ∀ k : Fin 256, UInt8.ofNat k.val ≠ 110 → UInt8.ofNat k.val ≠ 114 → UInt8.ofNat k.val ≠ 116 → UInt8.ofNat k.val ≠ 34 → UInt8.ofNat k.val ≠ 92 → firstIdx (bs [34, 92, 110, 114, 116]) (UInt8.ofNat k.val) < 0 := by decide +kernel
  have h := this ⟨e.toNat, e.toNat_lt⟩
  rw [ofNat_lt] at h
  exact h h1 h2 h3 h4 h5
theorem nl_of {c : UInt8} (h : ((((c.toNat : Int) == 10) || ((c.toNat : Int) == 13)) || ((c.toNat : Int) == 9)) = true) : c = 10 ∨ c = 13 ∨ c = 9 := by
  simp only [Bool.or_eq_true] at h
  rcases h with (h | h) | h
  · exact .inl (byt_is (d := 10) h)
  · exact .inr (.inl (byt_is (d := 13) h))
  · exact .inr (.inr (byt_is (d := 9) h))
attribute [local irreducible] es qt cms hex Tbl Half lst TxK HxK hx comb comb2 nibs digit firstIdx
theorem rfromHex_con (s : Bs) (w : World) (hs : s.length ≤ 1099511627776) : Con Tryz.prog 93 [.string (bs s)] w [] fun v _ => ∃ l e, v = .tuple #[.agg (ints l).toArray, .int .i64 e] ∧ l.length = 32 ∧ ∀ h : Bs, h.length = 32 → s = hex h → l = h ∧ e = 0 := by
  refine con_of_tree mix Tryz.func93 T93_ok (by kernel_rfl) ?_
  unfold T93
  refine j_alloc zero51 (fun g0 hg0 hs0 => ?_)
  refine j_q (qs_ac) ?_
  refine j_alloc zero51 (fun g2 hg2 hs2 => ?_)
  refine j_q (qs_lens Tryz.underlying9 rfl) ?_
  refine j_q (qs_neq rfl rfl) ?_
  refine j_cond rfl (fun hc0 => ?_) (fun hc0 => ?_)
  · skip
    have hne : s.length ≠ 64 := by simp only [bnA] at *; omega
    refine j_q (qs_loadw (l := ints (List.replicate 32 0)) 0 Tryz.underlying51 rfl sz51 rfl rfl rfl) ?_
    refine j_storew (l := ints (List.replicate 32 0)) (vs := ints (List.replicate 32 0)) 1 sz51 rfl rfl rfl ints_one rfl rfl ?_
    refine j_q (qs_ac) ?_
    first
      | refine j_ret_con (vs := [_, _]) (fun w' hw' => ⟨rv_agg 0 Tryz.underlying51 rfl sz51 rfl rfl (by first | (rw [ints_length]; exact hl32) | rfl) hw', rfl, trivial⟩) ?_
      | refine j_ret_con (vs := [_, _]) (fun w' hw' => ⟨rv_agg 1 Tryz.underlying51 rfl sz51 rfl rfl (by first | (rw [ints_length]; exact hl32) | rfl) hw', rfl, trivial⟩) ?_
      | refine j_ret_con (vs := [_, _]) (fun w' hw' => ⟨rv_agg 2 Tryz.underlying51 rfl sz51 rfl rfl (by first | (rw [ints_length]; exact hl32) | rfl) hw', rfl, trivial⟩) ?_
    exact ⟨_, _, rfl, by simp, fun h hl hs => absurd (by rw [hs]; exact hexL h) hne⟩
  · skip
    have h64 : s.length = 64 := by simp only [bnA] at *; omega
    refine j_q (qs_ac) ?_
    refine j_loop (fun m vs S' => ∃ (i : Nat) (l : Bs), vs = [.int .i64 (i : Int)] ∧ S' = [[(g2, .cells (ints l).toArray 51 (0, 0))], [(g0, .cells (ints (List.replicate 32 0)).toArray 51 (0, 0))], []] ∧ l.length = 32 ∧ HxK s l i ∧ i ≤ 64 ∧ m = 64 - i) ⟨_, 0, List.replicate 32 0, rfl, rfl, by simp, (by unfold HxK; exact fun h hl hs => (hx_0 h).symm), by omega, rfl⟩ ?_
    rintro m vs S' hlen ⟨i, l, rfl, rfl, hl32, hk, hin, rfl⟩
    refine j_q (qs_lss rfl rfl) ?_
    refine j_cond rfl (fun hc1 => ?_) (fun hc1 => ?_)
    · skip
      have hi : i < 64 := by
        simp only [bnA] at *
        omega
      have hcl := (s.getD i 0).toNat_lt
      refine j_q (qs_idx Tryz.underlying9 rfl rfl ⟨(by first | omega | (simp only [bnA] at *; omega)), (by first | omega | (simp only [bnA] at *; omega))⟩) ?_
      simp only [Int.toNat_natCast]
      refine j_q (qs_ac) ?_
      refine j_q (qs_geq rfl rfl) ?_
      refine j_g rfl (fun hb => qs_mt rfl) ?_
      refine j_g rfl (fun hb => qs_leq (gd_eq hb) rfl) ?_
      refine j_q (qs_and rfl rfl) ?_
      refine j_cond rfl (fun hc2 => ?_) (fun hc2 => ?_)
      · skip
        have hd : 48 ≤ ((s.getD i 0).toNat : Int) ∧ ((s.getD i 0).toNat : Int) ≤ 57 := by simp only [bnA] at *; omega
        have hk2 : HxK s (l.set (i / 2) (comb2 (l.getD (i / 2) 0) (IntKind.u8.wrap (((s.getD i 0).toNat : Int) - 48)))) (i + 1) := hxk_step2 hk hi (fun h hl hs => by rw [hex_char hi hs] at hd ⊢; exact digit_lo (nibs_rng h i).1 (nibs_rng h i).2 hd)
        refine j_q (qs_sub rfl rfl) ?_
        refine j_q (qs_quo64 rfl rfl (by first | omega | (simp only [bnA] at *; omega)) (by first | omega | (simp only [bnA] at *; omega)) (by first | omega | (simp only [bnA] at *; omega))) ?_
        rw [show ((i : Int) / 2) = ((i / 2 : Nat) : Int) by omega]
        refine j_q (qs_quo64 rfl rfl (by first | omega | (simp only [bnA] at *; omega)) (by first | omega | (simp only [bnA] at *; omega)) (by first | omega | (simp only [bnA] at *; omega))) ?_
        rw [show ((i : Int) / 2) = ((i / 2 : Nat) : Int) by omega]
        refine j_q (qs_ix0 Tryz.underlying51 sz5 rfl rfl ⟨by omega, by omega⟩) ?_
        rw [Int.toNat_natCast]
        refine j_q (qs_loadi (l := l) 0 Tryz.underlying5 rfl rfl (by omega)) ?_
        refine j_q (qs_mul rfl rfl) ?_
        refine j_q (qs_add rfl rfl) ?_
        rw [wrap_by8 (IntKind.u8.wrap (((l.getD (i / 2) 0).toNat : Int) * 16) + (IntKind.u8.wrap (((s.getD i 0).toNat : Int) - 48)))]
        rw [show (by8 (IntKind.u8.wrap (((l.getD (i / 2) 0).toNat : Int) * 16) + (IntKind.u8.wrap (((s.getD i 0).toNat : Int) - 48)))) = comb2 (l.getD (i / 2) 0) (IntKind.u8.wrap (((s.getD i 0).toNat : Int) - 48)) by unfold comb2; rfl]
        refine j_q (qs_ix0 Tryz.underlying51 sz5 rfl rfl ⟨by omega, by omega⟩) ?_
        rw [Int.toNat_natCast]
        refine j_storei (l := l) (c := comb2 (l.getD (i / 2) 0) (IntKind.u8.wrap (((s.getD i 0).toNat : Int) - 48))) 0 sz5 rfl rfl rfl (by omega) ?_
        refine j_q (qs_add64 rfl rfl (by first | omega | (simp only [bnA] at *; omega))) ?_
        refine j_back rfl ?_
        exact ⟨64 - (i + 1), by omega, i + 1, _, rfl, rfl, by rw [List.length_set]; exact hl32, hk2, by omega, rfl⟩
      · skip
        have hd : ¬ (48 ≤ ((s.getD i 0).toNat : Int) ∧ ((s.getD i 0).toNat : Int) ≤ 57) := by simp only [bnA] at *; omega
        refine j_q (qs_geq rfl rfl) ?_
        refine j_g rfl (fun hb => qs_mt rfl) ?_
        refine j_g rfl (fun hb => qs_leq (gd_eq hb) rfl) ?_
        refine j_q (qs_and rfl rfl) ?_
        refine j_cond rfl (fun hc3 => ?_) (fun hc3 => ?_)
        · skip
          have hk2 : HxK s (l.set (i / 2) (comb2 (l.getD (i / 2) 0) (IntKind.u8.wrap (IntKind.u8.wrap (((s.getD i 0).toNat : Int) - 97) + 10)))) (i + 1) := hxk_step2 hk hi (fun h hl hs => by rw [hex_char hi hs] at hd ⊢; exact (digit_hi (nibs_rng h i).1 (nibs_rng h i).2 hd).2)
          refine j_q (qs_sub rfl rfl) ?_
          refine j_q (qs_add rfl rfl) ?_
          refine j_q (qs_quo64 rfl rfl (by first | omega | (simp only [bnA] at *; omega)) (by first | omega | (simp only [bnA] at *; omega)) (by first | omega | (simp only [bnA] at *; omega))) ?_
          rw [show ((i : Int) / 2) = ((i / 2 : Nat) : Int) by omega]
          refine j_q (qs_quo64 rfl rfl (by first | omega | (simp only [bnA] at *; omega)) (by first | omega | (simp only [bnA] at *; omega)) (by first | omega | (simp only [bnA] at *; omega))) ?_
          rw [show ((i : Int) / 2) = ((i / 2 : Nat) : Int) by omega]
          refine j_q (qs_ix0 Tryz.underlying51 sz5 rfl rfl ⟨by omega, by omega⟩) ?_
          rw [Int.toNat_natCast]
          refine j_q (qs_loadi (l := l) 0 Tryz.underlying5 rfl rfl (by omega)) ?_
          refine j_q (qs_mul rfl rfl) ?_
          refine j_q (qs_add rfl rfl) ?_
          rw [wrap_by8 (IntKind.u8.wrap (((l.getD (i / 2) 0).toNat : Int) * 16) + (IntKind.u8.wrap (IntKind.u8.wrap (((s.getD i 0).toNat : Int) - 97) + 10)))]
          rw [show (by8 (IntKind.u8.wrap (((l.getD (i / 2) 0).toNat : Int) * 16) + (IntKind.u8.wrap (IntKind.u8.wrap (((s.getD i 0).toNat : Int) - 97) + 10)))) = comb2 (l.getD (i / 2) 0) (IntKind.u8.wrap (IntKind.u8.wrap (((s.getD i 0).toNat : Int) - 97) + 10)) by unfold comb2; rfl]
          refine j_q (qs_ix0 Tryz.underlying51 sz5 rfl rfl ⟨by omega, by omega⟩) ?_
          rw [Int.toNat_natCast]
          refine j_storei (l := l) (c := comb2 (l.getD (i / 2) 0) (IntKind.u8.wrap (IntKind.u8.wrap (((s.getD i 0).toNat : Int) - 97) + 10))) 0 sz5 rfl rfl rfl (by omega) ?_
          refine j_q (qs_add64 rfl rfl (by first | omega | (simp only [bnA] at *; omega))) ?_
          refine j_back rfl ?_
          exact ⟨64 - (i + 1), by omega, i + 1, _, rfl, rfl, by rw [List.length_set]; exact hl32, hk2, by omega, rfl⟩
        · skip
          have hno : ∀ h : Bs, h.length = 32 → s ≠ hex h := fun h hl hs => by
            rw [hex_char hi hs] at hd hc3
            have h2 := (digit_hi (nibs_rng h i).1 (nibs_rng h i).2 hd).1
            simp only [bnA] at *
            omega
          refine j_q (qs_run (v := .agg (ints (List.replicate 32 0)).toArray) (fun w => by kernel_rfl)) ?_
          refine j_storew (l := ints (List.replicate 32 0)) (vs := ints (List.replicate 32 0)) 1 sz51 rfl rfl rfl ints_one rfl rfl ?_
          refine j_q (qs_ac) ?_
          first
            | refine j_ret_con (vs := [_, _]) (fun w' hw' => ⟨rv_agg 0 Tryz.underlying51 rfl sz51 rfl rfl (by first | (rw [ints_length]; exact hl32) | rfl) hw', rfl, trivial⟩) ?_
            | refine j_ret_con (vs := [_, _]) (fun w' hw' => ⟨rv_agg 1 Tryz.underlying51 rfl sz51 rfl rfl (by first | (rw [ints_length]; exact hl32) | rfl) hw', rfl, trivial⟩) ?_
            | refine j_ret_con (vs := [_, _]) (fun w' hw' => ⟨rv_agg 2 Tryz.underlying51 rfl sz51 rfl rfl (by first | (rw [ints_length]; exact hl32) | rfl) hw', rfl, trivial⟩) ?_
          exact ⟨_, _, rfl, by simp, fun h hl hs => absurd hs (hno h hl)⟩
    · skip
      obtain rfl : i = 64 := by
        simp only [bnA] at *
        omega
      refine j_q (qs_loadw (l := ints l) 0 Tryz.underlying51 rfl sz51 rfl rfl (by rw [ints_length]; exact hl32)) ?_
      refine j_storew (l := ints (List.replicate 32 0)) (vs := ints l) 1 sz51 rfl rfl (by rw [ints_length]; exact hl32) ints_one rfl rfl ?_
      refine j_q (qs_ac) ?_
      first
        | refine j_ret_con (vs := [_, _]) (fun w' hw' => ⟨rv_agg 0 Tryz.underlying51 rfl sz51 rfl rfl (by first | (rw [ints_length]; exact hl32) | rfl) hw', rfl, trivial⟩) ?_
        | refine j_ret_con (vs := [_, _]) (fun w' hw' => ⟨rv_agg 1 Tryz.underlying51 rfl sz51 rfl rfl (by first | (rw [ints_length]; exact hl32) | rfl) hw', rfl, trivial⟩) ?_
        | refine j_ret_con (vs := [_, _]) (fun w' hw' => ⟨rv_agg 2 Tryz.underlying51 rfl sz51 rfl rfl (by first | (rw [ints_length]; exact hl32) | rfl) hw', rfl, trivial⟩) ?_
      exact ⟨_, _, rfl, hl32, fun h hl hs => ⟨by unfold HxK at hk; rw [hk h hl hs, hx_64 hl], rfl⟩⟩
theorem rsign_con (gr : Nat) (x s : Bs) (bad : Bool) (w : World) (hx : x.length ≤ 9223372036854775807) (hs : s.length ≤ 9223372036854775807) : Con Tryz.prog 45 [rp gr, .string (bs x)] w [RF gr s bad] fun v S' => v = .tuple #[] ∧ ∃ s' b', S' = [[RF gr s' b']] ∧ s'.length ≤ s.length ∧ (b' = false → s'.length + x.length ≤ s.length) ∧ (bad = false → ∀ z, s = x ++ z → s' = z ∧ b' = false) := by
  refine con_of_tree mix Tryz.func45 T45_ok (by kernel_rfl) ?_
  unfold T45
  refine j_q (qs_nil rfl) ?_
  refine j_q (qs_field Tryz.underlying91 rfl sz4 (by decide) rfl) ?_
  refine j_q (qs_load (l := [.string (bs s), .bool bad]) 0 Tryz.underlying4 rfl rfl rfl rfl) ?_
  refine j_g rfl (fun hb => qs_mt rfl) ?_
  refine j_g rfl (fun hb => qs_nil (gd_eq hb)) ?_
  refine j_g rfl (fun hb => qs_field Tryz.underlying91 rfl sz9 (by decide) (gd_eq hb)) ?_
  refine j_g rfl (fun hb => (qs_load (l := [.string (bs s), .bool bad]) 0 Tryz.underlying9 rfl (gd_eq hb) rfl rfl)) ?_
  refine j_g rfl (fun hb => qs_lens Tryz.underlying9 (gd_eq hb)) ?_
  refine j_g rfl (fun hb => qs_mt rfl) ?_
  refine j_g rfl (fun hb => qs_lens Tryz.underlying9 (gd_eq hb)) ?_
  refine j_g rfl (fun hb => qs_lss (gd_eq hb) (gd_eq hb)) ?_
  refine j_q (qs_or rfl rfl) ?_
  refine j_g rfl (fun hb => qs_mt rfl) ?_
  refine j_g rfl (fun hb => qs_nil (gd_eq hb)) ?_
  refine j_g rfl (fun hb => qs_field Tryz.underlying91 rfl sz9 (by decide) (gd_eq hb)) ?_
  refine j_g rfl (fun hb => (qs_load (l := [.string (bs s), .bool bad]) 0 Tryz.underlying9 rfl (gd_eq hb) rfl rfl)) ?_
  refine j_g rfl (fun hb => qs_mt rfl) ?_
  refine j_g rfl (fun hb => qs_lens Tryz.underlying9 (gd_eq hb)) ?_
  refine j_g rfl (fun hb => qs_cuts (a := 0) (z := x.length) Tryz.underlying9 (gd_eq hb) rfl ⟨.i64, gd_eq hb⟩ (by omega) (by simp only [bnA] at *; omega)) ?_
  refine j_g rfl (fun hb => qs_mt rfl) ?_
  refine j_g rfl (fun hb => qs_sneq (gd_eq hb) (gd_eq hb)) ?_
  refine j_q (qs_or rfl rfl) ?_
  refine j_cond rfl (fun hc0 => ?_) (fun hc0 => ?_)
  · skip
    have hno : bad = false → ∀ z, s ≠ x ++ z := fun hb z hz => by
      subst hz hb
      simp at hc0
      try omega
    refine j_q (qs_nil rfl) ?_
    refine j_q (qs_field Tryz.underlying91 rfl sz4 (by decide) rfl) ?_
    refine j_store (l := [.string (bs s), .bool bad]) (v := .bool true) 0 sz4 rfl rfl rfl rfl (by simp) (by simp) ?_
    refine j_ret_con (vs := []) (fun w' hw' => trivial) ?_
    exact ⟨rfl, s, true, rfl, Nat.le_refl _, (fun h => by cases h), fun hb z hz => absurd hz (hno hb z)⟩
  · skip
    refine j_q (qs_nil rfl) ?_
    refine j_q (qs_field Tryz.underlying91 rfl sz9 (by decide) rfl) ?_
    refine j_q (qs_load (l := [.string (bs s), .bool bad]) 0 Tryz.underlying9 rfl rfl rfl rfl) ?_
    refine j_q (qs_lens Tryz.underlying9 rfl) ?_
    refine j_q (qs_cuts (a := x.length) (z := s.length) Tryz.underlying9 rfl ⟨.i64, rfl⟩ rfl (by have := hc0; simp only [bnA] at *; omega) (by omega)) ?_
    rw [List.take_length]
    refine j_q (qs_nil rfl) ?_
    refine j_q (qs_field Tryz.underlying91 rfl sz9 (by decide) rfl) ?_
    refine j_store (l := [.string (bs s), .bool bad]) (v := .string (bs (s.drop x.length))) 0 sz9 rfl rfl rfl rfl (by simp) (by simp) ?_
    refine j_ret_con (vs := []) (fun w' hw' => trivial) ?_
    have hxl : x.length ≤ s.length := by have := hc0; simp only [bnA] at *; omega
    exact ⟨rfl, s.drop x.length, bad, rfl, by rw [List.length_drop]; omega, (fun _ => by rw [List.length_drop]; omega), fun hb z hz => ⟨by rw [hz]; simp, hb⟩⟩
theorem rnext_con (gr : Nat) (c : UInt8) (s : Bs) (bad : Bool) (w : World) (hs : s.length ≤ 9223372036854775807) : Con Tryz.prog 92 [rp gr, .int .u8 (c.toNat : Int)] w [RF gr s bad] fun v S' => ∃ m, v = .bool m ∧ S' = [[RF gr s bad]] ∧ (m = true → bad = false ∧ ∃ z, s = c :: z) ∧ (bad = false → ∀ z, s = c :: z → m = true) := by
  refine con_of_tree mix Tryz.func92 T92_ok (by kernel_rfl) ?_
  unfold T92
  refine j_q (qs_ac) ?_
  refine j_q (qs_nil rfl) ?_
  refine j_q (qs_field Tryz.underlying91 rfl sz4 (by decide) rfl) ?_
  refine j_q (qs_load (l := [.string (bs s), .bool bad]) 0 Tryz.underlying4 rfl rfl rfl rfl) ?_
  refine j_q (qs_not rfl) ?_
  refine j_g rfl (fun hb => qs_mt rfl) ?_
  refine j_g rfl (fun hb => qs_nil (gd_eq hb)) ?_
  refine j_g rfl (fun hb => qs_field Tryz.underlying91 rfl sz9 (by decide) (gd_eq hb)) ?_
  refine j_g rfl (fun hb => (qs_load (l := [.string (bs s), .bool bad]) 0 Tryz.underlying9 rfl (gd_eq hb) rfl rfl)) ?_
  refine j_g rfl (fun hb => qs_lens Tryz.underlying9 (gd_eq hb)) ?_
  refine j_g rfl (fun hb => qs_gtr (gd_eq hb) rfl) ?_
  refine j_q (qs_and rfl rfl) ?_
  refine j_g rfl (fun hb => qs_mt rfl) ?_
  refine j_g rfl (fun hb => qs_nil (gd_eq hb)) ?_
  refine j_g rfl (fun hb => qs_field Tryz.underlying91 rfl sz9 (by decide) (gd_eq hb)) ?_
  refine j_g rfl (fun hb => (qs_load (l := [.string (bs s), .bool bad]) 0 Tryz.underlying9 rfl (gd_eq hb) rfl rfl)) ?_
  refine j_g rfl (fun hb => qs_idx Tryz.underlying9 (gd_eq hb) rfl ⟨by omega, by simp only [bnA] at *; omega⟩) ?_
  refine j_g rfl (fun hb => qs_mt rfl) ?_
  refine j_g rfl (fun hb => qs_eql (gd_eq hb) (gd_eq hb)) ?_
  refine j_q (qs_and rfl rfl) ?_
  refine j_ret_con (vs := [_]) (fun w' hw' => ⟨rfl, trivial⟩) ?_
  refine ⟨_, rfl, rfl, fun hm => ?_, fun hb z hz => ?_⟩
  · simp only [Bool.and_eq_true, Bool.not_eq_true', decide_eq_true_eq] at hm
    obtain ⟨⟨h1, h2⟩, h3⟩ := hm
    refine ⟨h1, s.drop 1, ?_⟩
    have h4 := byt_is h3
    cases s with
    | nil => simp at h2
    | cons y s => rw [show y = c from h4]; rfl
  · subst hz hb
    simp
theorem rtx_con (gr : Nat) (s : Bs) (bad : Bool) (w : World) (hs : s.length ≤ 1099511627776) : Con Tryz.prog 46 [rp gr] w [RF gr s bad] fun v S' => ∃ t s' b', v = .string (bs t) ∧ S' = [[RF gr s' b']] ∧ t.length + s'.length ≤ s.length ∧ (bad = false → ∀ x z, s = qt x ++ z → t = x ∧ s' = z ∧ b' = false) := by
  refine con_of_tree mix Tryz.func46 T46_ok (by kernel_rfl) ?_
  unfold T46
  refine j_q (qs_ac) ?_
  refine j_call 0 ent45 rfl rfl rfl rfl (fun w' hw' => rsign_con gr [34] s bad w' (by simp) (by omega)) (fun u S2 hu => ?_)
  obtain ⟨rfl, r1, b10, rfl, hrl, _, hr1⟩ := hu
  have hk0 := rk_start hr1
  refine j_perm (S' := [[], [RF gr r1 b10]]) (by simp) ?_
  refine j_q (qs_ac) ?_
  refine j_q (qs_ac) ?_
  refine j_loop (fun m vs S' => ∃ (i : Nat) (bv : Value) (cb : SH) (acc : Bs) (b1 : Bool), vs = [bv, .int .i64 (i : Int)] ∧ S' = [cb, [RF gr r1 b1]] ∧ Sx.Own 5 1 (ints acc) bv cb ∧ RK bad s r1 b1 acc i ∧ acc.length ≤ i ∧ i ≤ r1.length + 2 ∧ m = r1.length + 2 - i) ⟨_, 0, .slice none 0 0, [], [], b10, rfl, rfl, own_nil, hk0, Nat.le_refl _, Nat.zero_le _, rfl⟩ ?_
  rintro m vs S' hlen ⟨i, bv, cb, acc, b1, rfl, rfl, hob, hk, hal, hin, rfl⟩
  refine j_q (qs_nil rfl) ?_
  refine j_q (qs_field Tryz.underlying91 rfl sz4 (by decide) rfl) ?_
  refine j_q (qs_load (l := [.string (bs r1), .bool b1]) 1 Tryz.underlying4 rfl rfl rfl rfl) ?_
  refine j_q (qs_not rfl) ?_
  refine j_g rfl (fun hb => qs_mt rfl) ?_
  refine j_g rfl (fun hb => qs_mt rfl) ?_
  refine j_g rfl (fun hb => qs_nil (gd_eq hb)) ?_
  refine j_g rfl (fun hb => qs_field Tryz.underlying91 rfl sz9 (by decide) (gd_eq hb)) ?_
  refine j_g rfl (fun hb => qs_load (l := [.string (bs r1), .bool b1]) 1 Tryz.underlying9 rfl (gd_eq hb) rfl rfl) ?_
  refine j_g rfl (fun hb => qs_lens Tryz.underlying9 (gd_eq hb)) ?_
  refine j_g rfl (fun hb => qs_lss (gd_eq hb) (gd_eq hb)) ?_
  refine j_q (qs_and rfl rfl) ?_
  refine j_cond rfl (fun hc0 => ?_) (fun hc0 => ?_)
  · skip
    have hi : i < r1.length := by
      simp only [bnA] at *
      omega
    refine j_q (qs_nil rfl) ?_
    refine j_q (qs_field Tryz.underlying91 rfl sz9 (by decide) rfl) ?_
    refine j_q (qs_load (l := [.string (bs r1), .bool b1]) 1 Tryz.underlying9 rfl rfl rfl rfl) ?_
    refine j_q (qs_idx Tryz.underlying9 rfl rfl ⟨(by first | omega | (simp only [bnA] at *; omega)), (by first | omega | (simp only [bnA] at *; omega))⟩) ?_
    simp only [Int.toNat_natCast]
    refine j_q (qs_eql rfl rfl) ?_
    refine j_cond rfl (fun hc1 => ?_) (fun hc1 => ?_)
    · skip
      have h34 : r1.getD i 0 = 34 := byt_is (d := 34) hc1
      refine j_q (qs_nil rfl) ?_
      refine j_q (qs_field Tryz.underlying91 rfl sz9 (by decide) rfl) ?_
      refine j_q (qs_load (l := [.string (bs r1), .bool b1]) 1 Tryz.underlying9 rfl rfl rfl rfl) ?_
      refine j_q (qs_add64 rfl rfl (by first | omega | (simp only [bnA] at *; omega))) ?_
      refine j_q (qs_cuts (a := i + 1) (z := r1.length) Tryz.underlying9 rfl ⟨.i64, congrArg (Value.int .i64) (by omega)⟩ rfl (by omega) (by omega)) ?_
      rw [List.take_length]
      refine j_q (qs_nil rfl) ?_
      refine j_q (qs_field Tryz.underlying91 rfl sz9 (by decide) rfl) ?_
      refine j_store (l := [.string (bs r1), .bool b1]) (v := .string (bs (r1.drop (i + 1)))) 1 sz9 rfl rfl rfl rfl (by simp) (by simp) ?_
      refine j_q (qs_stro 0 Tryz.underlying46 Tryz.underlying5 Tryz.underlying9 hob rfl) ?_
      refine j_subl (S' := [[RF gr (r1.drop (i + 1)) b1]]) (by repeat first | exact slR _ | exact slN _ | apply slC | apply slD) ?_
      refine j_ret_con (vs := [_]) (fun w' hw' => ⟨rfl, trivial⟩) ?_
      exact ⟨acc, _, b1, rfl, rfl, by rw [List.length_drop]; omega, fun hb x z hx => by have h1 := txk_quote (hk hb).1 hi h34 x z hx; exact ⟨h1.1, h1.2, (hk hb).2 x z hx⟩⟩
    · skip
      have h34 : r1.getD i 0 ≠ 34 := byt_not (d := 34) hc1
      refine j_q (qs_eql rfl rfl) ?_
      refine j_g rfl (fun hb => qs_mt rfl) ?_
      refine j_g rfl (fun hb => qs_eql (gd_eq hb) rfl) ?_
      refine j_q (qs_or rfl rfl) ?_
      refine j_g rfl (fun hb => qs_mt rfl) ?_
      refine j_g rfl (fun hb => qs_eql (gd_eq hb) rfl) ?_
      refine j_q (qs_or rfl rfl) ?_
      refine j_cond rfl (fun hc2 => ?_) (fun hc2 => ?_)
      · skip
        have hnl := nl_of hc2
        refine j_q (qs_nil rfl) ?_
        refine j_q (qs_field Tryz.underlying91 rfl sz4 (by decide) rfl) ?_
        refine j_store (l := [.string (bs r1), .bool b1]) (v := .bool true) 1 sz4 rfl rfl rfl rfl (by simp) (by simp) ?_
        refine j_q (qs_add64 rfl rfl (by first | omega | (simp only [bnA] at *; omega))) ?_
        refine j_back rfl ?_
        exact ⟨r1.length + 2 - (i + 1), by omega, i + 1, bv, cb, acc, true, congrArg (fun t => [bv, Value.int .i64 t]) (by omega), rfl, hob, rk_bad hk (fun ht => txk_nl ht hi hnl), by omega, by omega, rfl⟩
      · skip
        refine j_q (qs_eql rfl rfl) ?_
        refine j_cond rfl (fun hc3 => ?_) (fun hc3 => ?_)
        · skip
          have h92 : r1.getD i 0 = 92 := byt_is (d := 92) hc3
          refine j_q (qs_add64 rfl rfl (by first | omega | (simp only [bnA] at *; omega))) ?_
          refine j_q (qs_nil rfl) ?_
          refine j_q (qs_field Tryz.underlying91 rfl sz9 (by decide) rfl) ?_
          refine j_q (qs_load (l := [.string (bs r1), .bool b1]) 1 Tryz.underlying9 rfl rfl rfl rfl) ?_
          refine j_q (qs_lens Tryz.underlying9 rfl) ?_
          refine j_q (qs_geq rfl rfl) ?_
          refine j_cond rfl (fun hc4 => ?_) (fun hc4 => ?_)
          · skip
            have hge : r1.length ≤ i + 1 := by
              simp only [bnA] at *
              omega
            refine j_q (qs_nil rfl) ?_
            refine j_q (qs_field Tryz.underlying91 rfl sz4 (by decide) rfl) ?_
            refine j_store (l := [.string (bs r1), .bool b1]) (v := .bool true) 1 sz4 rfl rfl rfl rfl (by simp) (by simp) ?_
            refine j_q (qs_add64 rfl rfl (by first | omega | (simp only [bnA] at *; omega))) ?_
            refine j_back rfl ?_
            exact ⟨r1.length + 2 - (i + 1 + 1), by omega, i + 1 + 1, bv, cb, acc, true, congrArg (fun t => [bv, Value.int .i64 t]) (by omega), rfl, hob, rk_bad hk (fun ht x z hx => by have h1 := (txk_esc ht hi h92 x z hx).1; omega), by omega, by omega, rfl⟩
          · skip
            have hlt : i + 1 < r1.length := by
              simp only [bnA] at *
              omega
            refine j_q (qs_nil rfl) ?_
            refine j_q (qs_field Tryz.underlying91 rfl sz9 (by decide) rfl) ?_
            refine j_q (qs_load (l := [.string (bs r1), .bool b1]) 1 Tryz.underlying9 rfl rfl rfl rfl) ?_
            refine j_q (qs_idx (l := r1) Tryz.underlying9 rfl rfl (by simp only [bnA] at *; omega)) ?_
            rw [show ((i : Int) + 1).toNat = i + 1 by omega]
            refine j_q (qs_eql rfl rfl) ?_
            refine j_cond rfl (fun hc5 => ?_) (fun hc5 => ?_)
            · skip
              have he : (r1.getD (i + 1) 0) = 110 := byt_is (d := 110) hc5
              refine j_lit (vs := [.int .u8 ((10 : UInt8).toNat : Int)]) Tryz.underlying46 sz5 zero5 rfl (by simp [oneV]) ⟨rfl, by decide⟩ (fun g57 v57 c57 hv57 hc57 ho57 => ?_)
              subst hv57 hc57
              refine j_append 1 Tryz.underlying46 Tryz.underlying46 (.inr ⟨_, rfl⟩) sb5 zero5 rfl hob rfl (.inl ⟨_, _, rfl, rd_own (off := 0) (n := 1) 0 rfl rfl, rfl⟩) (by simp [oneV]) ⟨(by simp only [ints_length, List.drop_zero, List.take_succ_cons, List.take_zero, List.length_cons, List.length_nil]; omega), (by decide)⟩ (fun v58 c58 ho58 => ?_)
              have ho58 : Sx.Own 5 1 (ints (acc ++ [10])) v58 c58 := by
                rw [ints_append]
                exact ho58
              refine j_subl (S' := [c58, [RF gr r1 b1]]) (by repeat first | exact slR _ | exact slN _ | apply slC | apply slD) ?_
              refine j_q (qs_add64 rfl rfl (by first | omega | (simp only [bnA] at *; omega))) ?_
              refine j_back rfl ?_
              exact ⟨r1.length + 2 - (i + 1 + 1), by omega, i + 1 + 1, v58, c58, acc ++ [10], b1, congrArg (fun t => [v58, Value.int .i64 t]) (by omega), rfl, ho58, rk_esc hk hi h92 (by rw [he]; decide +kernel), by rw [List.length_append, List.length_cons, List.length_nil]; omega, by omega, rfl⟩
            · skip
              have he110 : (r1.getD (i + 1) 0) ≠ 110 := byt_not (d := 110) hc5
              refine j_q (qs_eql rfl rfl) ?_
              refine j_cond rfl (fun hc6 => ?_) (fun hc6 => ?_)
              · skip
                have he : (r1.getD (i + 1) 0) = 114 := byt_is (d := 114) hc6
                refine j_lit (vs := [.int .u8 ((13 : UInt8).toNat : Int)]) Tryz.underlying46 sz5 zero5 rfl (by simp [oneV]) ⟨rfl, by decide⟩ (fun g61 v61 c61 hv61 hc61 ho61 => ?_)
                subst hv61 hc61
                refine j_append 1 Tryz.underlying46 Tryz.underlying46 (.inr ⟨_, rfl⟩) sb5 zero5 rfl hob rfl (.inl ⟨_, _, rfl, rd_own (off := 0) (n := 1) 0 rfl rfl, rfl⟩) (by simp [oneV]) ⟨(by simp only [ints_length, List.drop_zero, List.take_succ_cons, List.take_zero, List.length_cons, List.length_nil]; omega), (by decide)⟩ (fun v62 c62 ho62 => ?_)
                have ho62 : Sx.Own 5 1 (ints (acc ++ [13])) v62 c62 := by
                  rw [ints_append]
                  exact ho62
                refine j_subl (S' := [c62, [RF gr r1 b1]]) (by repeat first | exact slR _ | exact slN _ | apply slC | apply slD) ?_
                refine j_q (qs_add64 rfl rfl (by first | omega | (simp only [bnA] at *; omega))) ?_
                refine j_back rfl ?_
                exact ⟨r1.length + 2 - (i + 1 + 1), by omega, i + 1 + 1, v62, c62, acc ++ [13], b1, congrArg (fun t => [v62, Value.int .i64 t]) (by omega), rfl, ho62, rk_esc hk hi h92 (by rw [he]; decide +kernel), by rw [List.length_append, List.length_cons, List.length_nil]; omega, by omega, rfl⟩
              · skip
                have he114 : (r1.getD (i + 1) 0) ≠ 114 := byt_not (d := 114) hc6
                refine j_q (qs_eql rfl rfl) ?_
                refine j_cond rfl (fun hc7 => ?_) (fun hc7 => ?_)
                · skip
                  have he : (r1.getD (i + 1) 0) = 116 := byt_is (d := 116) hc7
                  refine j_lit (vs := [.int .u8 ((9 : UInt8).toNat : Int)]) Tryz.underlying46 sz5 zero5 rfl (by simp [oneV]) ⟨rfl, by decide⟩ (fun g65 v65 c65 hv65 hc65 ho65 => ?_)
                  subst hv65 hc65
                  refine j_append 1 Tryz.underlying46 Tryz.underlying46 (.inr ⟨_, rfl⟩) sb5 zero5 rfl hob rfl (.inl ⟨_, _, rfl, rd_own (off := 0) (n := 1) 0 rfl rfl, rfl⟩) (by simp [oneV]) ⟨(by simp only [ints_length, List.drop_zero, List.take_succ_cons, List.take_zero, List.length_cons, List.length_nil]; omega), (by decide)⟩ (fun v66 c66 ho66 => ?_)
                  have ho66 : Sx.Own 5 1 (ints (acc ++ [9])) v66 c66 := by
                    rw [ints_append]
                    exact ho66
                  refine j_subl (S' := [c66, [RF gr r1 b1]]) (by repeat first | exact slR _ | exact slN _ | apply slC | apply slD) ?_
                  refine j_q (qs_add64 rfl rfl (by first | omega | (simp only [bnA] at *; omega))) ?_
                  refine j_back rfl ?_
                  exact ⟨r1.length + 2 - (i + 1 + 1), by omega, i + 1 + 1, v66, c66, acc ++ [9], b1, congrArg (fun t => [v66, Value.int .i64 t]) (by omega), rfl, ho66, rk_esc hk hi h92 (by rw [he]; decide +kernel), by rw [List.length_append, List.length_cons, List.length_nil]; omega, by omega, rfl⟩
                · skip
                  have he116 : (r1.getD (i + 1) 0) ≠ 116 := byt_not (d := 116) hc7
                  refine j_q (qs_eql rfl rfl) ?_
                  refine j_cond rfl (fun hc8 => ?_) (fun hc8 => ?_)
                  · skip
                    have he : (r1.getD (i + 1) 0) = 34 := byt_is (d := 34) hc8
                    refine j_cond rfl (fun hc9 => ?_) (fun hc9 => ?_)
                    · skip
                      refine j_q (qs_nil rfl) ?_
                      refine j_q (qs_field Tryz.underlying91 rfl sz9 (by decide) rfl) ?_
                      refine j_q (qs_load (l := [.string (bs r1), .bool b1]) 1 Tryz.underlying9 rfl rfl rfl rfl) ?_
                      refine j_q (qs_idx (l := r1) Tryz.underlying9 rfl rfl (by simp only [bnA] at *; omega)) ?_
                      rw [show ((i : Int) + 1).toNat = i + 1 by omega]
                      refine j_lit (vs := [.int .u8 (((r1.getD (i + 1) 0) : UInt8).toNat : Int)]) Tryz.underlying46 sz5 zero5 rfl (by simp [oneV]) ⟨rfl, by decide⟩ (fun g73 v73 c73 hv73 hc73 ho73 => ?_)
                      subst hv73 hc73
                      refine j_append 1 Tryz.underlying46 Tryz.underlying46 (.inr ⟨_, rfl⟩) sb5 zero5 rfl hob rfl (.inl ⟨_, _, rfl, rd_own (off := 0) (n := 1) 0 rfl rfl, rfl⟩) (by simp [oneV]) ⟨(by simp only [ints_length, List.drop_zero, List.take_succ_cons, List.take_zero, List.length_cons, List.length_nil]; omega), (by decide)⟩ (fun v74 c74 ho74 => ?_)
                      have ho74 : Sx.Own 5 1 (ints (acc ++ [(r1.getD (i + 1) 0)])) v74 c74 := by
                        rw [ints_append]
                        exact ho74
                      refine j_subl (S' := [c74, [RF gr r1 b1]]) (by repeat first | exact slR _ | exact slN _ | apply slC | apply slD) ?_
                      refine j_q (qs_add64 rfl rfl (by first | omega | (simp only [bnA] at *; omega))) ?_
                      refine j_back rfl ?_
                      exact ⟨r1.length + 2 - (i + 1 + 1), by omega, i + 1 + 1, v74, c74, acc ++ [(r1.getD (i + 1) 0)], b1, congrArg (fun t => [v74, Value.int .i64 t]) (by omega), rfl, ho74, rk_esc hk hi h92 (by rw [he]; decide +kernel), by rw [List.length_append, List.length_cons, List.length_nil]; omega, by omega, rfl⟩
                    · skip
                      rw [hc8] at hc9
                      cases hc9
                  · skip
                    have he34 : (r1.getD (i + 1) 0) ≠ 34 := byt_not (d := 34) hc8
                    refine j_q (qs_eql rfl rfl) ?_
                    refine j_cond rfl (fun hc10 => ?_) (fun hc10 => ?_)
                    · skip
                      have he : (r1.getD (i + 1) 0) = 92 := byt_is (d := 92) hc10
                      refine j_q (qs_nil rfl) ?_
                      refine j_q (qs_field Tryz.underlying91 rfl sz9 (by decide) rfl) ?_
                      refine j_q (qs_load (l := [.string (bs r1), .bool b1]) 1 Tryz.underlying9 rfl rfl rfl rfl) ?_
                      refine j_q (qs_idx (l := r1) Tryz.underlying9 rfl rfl (by simp only [bnA] at *; omega)) ?_
                      rw [show ((i : Int) + 1).toNat = i + 1 by omega]
                      refine j_lit (vs := [.int .u8 (((r1.getD (i + 1) 0) : UInt8).toNat : Int)]) Tryz.underlying46 sz5 zero5 rfl (by simp [oneV]) ⟨rfl, by decide⟩ (fun g85 v85 c85 hv85 hc85 ho85 => ?_)
                      subst hv85 hc85
                      refine j_append 1 Tryz.underlying46 Tryz.underlying46 (.inr ⟨_, rfl⟩) sb5 zero5 rfl hob rfl (.inl ⟨_, _, rfl, rd_own (off := 0) (n := 1) 0 rfl rfl, rfl⟩) (by simp [oneV]) ⟨(by simp only [ints_length, List.drop_zero, List.take_succ_cons, List.take_zero, List.length_cons, List.length_nil]; omega), (by decide)⟩ (fun v86 c86 ho86 => ?_)
                      have ho86 : Sx.Own 5 1 (ints (acc ++ [(r1.getD (i + 1) 0)])) v86 c86 := by
                        rw [ints_append]
                        exact ho86
                      refine j_subl (S' := [c86, [RF gr r1 b1]]) (by repeat first | exact slR _ | exact slN _ | apply slC | apply slD) ?_
                      refine j_q (qs_add64 rfl rfl (by first | omega | (simp only [bnA] at *; omega))) ?_
                      refine j_back rfl ?_
                      exact ⟨r1.length + 2 - (i + 1 + 1), by omega, i + 1 + 1, v86, c86, acc ++ [(r1.getD (i + 1) 0)], b1, congrArg (fun t => [v86, Value.int .i64 t]) (by omega), rfl, ho86, rk_esc hk hi h92 (by rw [he]; decide +kernel), by rw [List.length_append, List.length_cons, List.length_nil]; omega, by omega, rfl⟩
                    · skip
                      have he92 : (r1.getD (i + 1) 0) ≠ 92 := byt_not (d := 92) hc10
                      refine j_q (qs_nil rfl) ?_
                      refine j_q (qs_field Tryz.underlying91 rfl sz4 (by decide) rfl) ?_
                      refine j_store (l := [.string (bs r1), .bool b1]) (v := .bool true) 1 sz4 rfl rfl rfl rfl (by simp) (by simp) ?_
                      refine j_q (qs_add64 rfl rfl (by first | omega | (simp only [bnA] at *; omega))) ?_
                      refine j_back rfl ?_
                      exact ⟨r1.length + 2 - (i + 1 + 1), by omega, i + 1 + 1, bv, cb, acc, true, congrArg (fun t => [bv, Value.int .i64 t]) (by omega), rfl, hob, rk_bad hk (fun ht x z hx => by have h1 := (txk_esc ht hi h92 x z hx).2.1; have h2 := idx_no _ he110 he114 he116 he34 he92; omega), by omega, by omega, rfl⟩
        · skip
          have h92 : r1.getD i 0 ≠ 92 := byt_not (d := 92) hc3
          refine j_lit (vs := [.int .u8 (((r1.getD i 0) : UInt8).toNat : Int)]) Tryz.underlying46 sz5 zero5 rfl (by simp [oneV]) ⟨rfl, by decide⟩ (fun g92 v92 c92 hv92 hc92 ho92 => ?_)
          subst hv92 hc92
          refine j_append 1 Tryz.underlying46 Tryz.underlying46 (.inr ⟨_, rfl⟩) sb5 zero5 rfl hob rfl (.inl ⟨_, _, rfl, rd_own (off := 0) (n := 1) 0 rfl rfl, rfl⟩) (by simp [oneV]) ⟨(by simp only [ints_length, List.drop_zero, List.take_succ_cons, List.take_zero, List.length_cons, List.length_nil]; omega), (by decide)⟩ (fun v93 c93 ho93 => ?_)
          have ho93 : Sx.Own 5 1 (ints (acc ++ [(r1.getD i 0)])) v93 c93 := by
            rw [ints_append]
            exact ho93
          refine j_subl (S' := [c93, [RF gr r1 b1]]) (by repeat first | exact slR _ | exact slN _ | apply slC | apply slD) ?_
          refine j_q (qs_add64 rfl rfl (by first | omega | (simp only [bnA] at *; omega))) ?_
          refine j_back rfl ?_
          exact ⟨r1.length + 2 - (i + 1), by omega, i + 1, v93, c93, acc ++ [(r1.getD i 0)], b1, congrArg (fun t => [v93, Value.int .i64 t]) (by omega), rfl, ho93, rk_plain hk hi h34 h92, by rw [List.length_append, List.length_cons, List.length_nil]; omega, by omega, rfl⟩
  · skip
    have hend : RK bad s r1 b1 acc i → bad = false → ∀ x z, s ≠ qt x ++ z := fun hk hb x z hx => by
      have h1 := (hk hb).2 x z hx
      have h2 := hc0
      rw [h1] at h2
      simp only [Bool.not_false, Bool.true_and, decide_eq_false_iff_not] at h2
      have h3 : r1.length ≤ i := by omega
      exact txk_end (hk hb).1 h3 x z hx
    refine j_q (qs_nil rfl) ?_
    refine j_q (qs_field Tryz.underlying91 rfl sz4 (by decide) rfl) ?_
    refine j_store (l := [.string (bs r1), .bool b1]) (v := .bool true) 1 sz4 rfl rfl rfl rfl (by simp) (by simp) ?_
    refine j_q (qs_ac) ?_
    refine j_subl (S' := [[RF gr r1 true]]) (by repeat first | exact slR _ | exact slN _ | apply slC | apply slD) ?_
    refine j_ret_con (vs := [_]) (fun w' hw' => ⟨rfl, trivial⟩) ?_
    exact ⟨[], r1, true, rfl, rfl, by simp only [List.length_nil]; omega, fun hb x z hx => absurd hx (hend hk hb x z)⟩
end Go.Proofs.YtfeabbeebkkhaaaGreat
/-! Dv22 -/
namespace Go.Proofs.YtfeabbeebkkhaaaGreat
open Go Go.Sx
set_option maxRecDepth 100000
set_option maxHeartbeats 4000000
set_option linter.unusedVariables false
set_option linter.unusedSimpArgs false
attribute [local irreducible] J JQ QS Con W opW
theorem ent46 : Sx.Enters Tryz.prog 46 := ⟨_, Tryz.func46, by kernel_rfl, by kernel_rfl⟩
theorem ent47 : Sx.Enters Tryz.prog 47 := ⟨_, Tryz.func47, by kernel_rfl, by kernel_rfl⟩
theorem ent92 : Sx.Enters Tryz.prog 92 := ⟨_, Tryz.func92, by kernel_rfl, by kernel_rfl⟩
theorem ent93 : Sx.Enters Tryz.prog 93 := ⟨_, Tryz.func93, by kernel_rfl, by kernel_rfl⟩
def MRel (bad : Bool) (s : Bs) (n : Nat) (m : Bool) (s' : Bs) (b' : Bool) : Prop := bad = false → ∀ y, s = (if n = 0 then [91] else []) ++ y → (∀ z, y = 93 :: z → m = false ∧ s' = z ∧ b' = false) ∧ (∀ u, (¬ ∃ z, y = 93 :: z) → y = (if n = 0 then [] else [44]) ++ u → m = true ∧ s' = u ∧ b' = false)
section
variable {α : Type} {g : α → Bs} {ok : α → Prop} {bad b b1 b2 : Bool} {r0 r s1 s2 : Bs} {acc : List α}
def MQ (g : α → Bs) (ok : α → Prop) (bad : Bool) (r0 r : Bs) (b : Bool) (acc : List α) : Prop := bad = false → ∀ (l : List α) (z : Bs), (∀ a ∈ l, ok a) → r0 = lst [91] (l.map g) [93] ++ z → b = false ∧ ∃ l2, l = acc ++ l2 ∧ r = (if acc.length = 0 then [91] else []) ++ ((if acc.length = 0 then cms (l2.map g) else tl g l2) ++ ([93] ++ z))
theorem mq_start : MQ g ok bad r0 r0 bad [] := fun hb l z hok hx => ⟨hb, l, rfl, by rw [hx]; unfold lst; show _ = [91] ++ (cms (l.map g) ++ ([93] ++ z)); simp⟩
theorem tl_nil : tl g [] = [] := by unfold tl; rfl
theorem tl_cons (a : α) (l : List α) : tl g (a :: l) = 44 :: (g a ++ tl g l) := by unfold tl; simp
theorem mq_exit (hg : ∀ a, ∃ c t, g a = c :: t ∧ c ≠ 93) (hk : MQ g ok bad r0 r b acc) (hm : MRel b r acc.length false s1 b1) : bad = false → ∀ (l : List α) (z : Bs), (∀ a ∈ l, ok a) → r0 = lst [91] (l.map g) [93] ++ z → acc = l ∧ s1 = z ∧ b1 = false := fun hb l z hok hx => by
  obtain ⟨h1, l2, h2, h3⟩ := hk hb l z hok hx
  obtain ⟨h4, h5⟩ := hm h1 _ h3
  cases l2 with
  | nil =>
    have e : (if acc.length = 0 then cms (([] : List α).map g) else tl g []) = [] := by rw [tl_nil]; split <;> rfl
    obtain ⟨_, h6, h7⟩ := h4 z (by rw [e]; rfl)
    exact ⟨by rw [h2, List.append_nil], h6, h7⟩
  | cons a l2 =>
    exfalso
    obtain ⟨c, t, hc1, hc2⟩ := hg a
    by_cases h0 : acc.length = 0
    · have := (h5 (g a ++ (tl g l2 ++ ([93] ++ z))) (by
        rintro ⟨z', hz'⟩
        rw [if_pos h0, cms_tl, hc1] at hz'
        simp only [List.cons_append, List.append_assoc, List.cons.injEq] at hz'
        exact hc2 hz'.1) (by rw [if_pos h0, if_pos h0, cms_tl]; simp)).1
      cases this
    · have := (h5 (g a ++ (tl g l2 ++ ([93] ++ z))) (by
        rintro ⟨z', hz'⟩
        rw [if_neg h0, tl_cons] at hz'
        simp at hz') (by rw [if_neg h0, if_neg h0, tl_cons]; simp)).1
      cases this
theorem mq_next (hg : ∀ a, ∃ c t, g a = c :: t ∧ c ≠ 93) (hk : MQ g ok bad r0 r b acc) (hm : MRel b r acc.length true s1 b1) {a : α} (ha : b1 = false → ∀ a2 z, ok a2 → s1 = g a2 ++ z → a = a2 ∧ s2 = z ∧ b2 = false) : MQ g ok bad r0 s2 b2 (acc ++ [a]) := fun hb l z hok hx => by
  obtain ⟨h1, l2, h2, h3⟩ := hk hb l z hok hx
  obtain ⟨h4, h5⟩ := hm h1 _ h3
  cases l2 with
  | nil =>
    exfalso
    have e : (if acc.length = 0 then cms (([] : List α).map g) else tl g []) = [] := by rw [tl_nil]; split <;> rfl
    have := (h4 z (by rw [e]; rfl)).1
    cases this
  | cons a2 l2 =>
    obtain ⟨c, t, hc1, hc2⟩ := hg a2
    have key : s1 = g a2 ++ (tl g l2 ++ ([93] ++ z)) ∧ b1 = false := by
      by_cases h0 : acc.length = 0
      · exact (h5 (g a2 ++ (tl g l2 ++ ([93] ++ z))) (by
          rintro ⟨z', hz'⟩
          rw [if_pos h0, cms_tl, hc1] at hz'
          simp only [List.cons_append, List.append_assoc, List.cons.injEq] at hz'
          exact hc2 hz'.1) (by rw [if_pos h0, if_pos h0, cms_tl]; simp)).2
      · exact (h5 (g a2 ++ (tl g l2 ++ ([93] ++ z))) (by
          rintro ⟨z', hz'⟩
          rw [if_neg h0, tl_cons] at hz'
          simp at hz') (by rw [if_neg h0, if_neg h0, tl_cons]; simp)).2
    obtain ⟨e1, e2, e3⟩ := ha key.2 a2 _ (hok a2 (by rw [h2]; simp)) key.1
    refine ⟨e3, l2, by rw [h2, e1]; simp, ?_⟩
    rw [e2, if_neg (by simp), if_neg (by simp)]
    rfl
end
theorem po_F {n p k t : Bs} {a : PO} (hc : (k == sSha) = false) (hok : okOut a) (h1 : n = a.name) (h2 : p = a.path) (h3 : k = tK a) (h4 : t = tH a) : (⟨n, p, false, zHash⟩ : PO) = a ∧ k = [] ∧ t = [] := by
  refine ⟨po_eqF hc hok h1 h2 h3, ?_⟩
  have hf : a.fixed = false := by
    cases hf : a.fixed with
    | false => rfl
    | true =>
      rw [h3] at hc
      unfold tK at hc
      rw [hf] at hc
      simp at hc
  unfold tK at h3
  unfold tH at h4
  rw [hf] at h3 h4
  exact ⟨h3, h4⟩
attribute [local irreducible] es qt cms hex Tbl Half lst TxK HxK hx comb comb2 nibs digit firstIdx MnK tl tV tI tO tK tH MQ MRel
theorem rmember_con (gr : Nat) (s : Bs) (bad : Bool) (n : Nat) (w : World) (hs : s.length ≤ 1099511627776) : Con Tryz.prog 47 [rp gr, .int .i64 (n : Int)] w [RF gr s bad] fun v S' => ∃ m s' b', v = .bool m ∧ S' = [[RF gr s' b']] ∧ s'.length ≤ s.length ∧ (m = true → s'.length + 1 ≤ s.length) ∧ MRel bad s n m s' b' := by
  refine con_of_tree mix Tryz.func47 T47_ok (by kernel_rfl) ?_
  unfold T47
  refine j_q (qs_ac) ?_
  refine j_q (qs_eql rfl rfl) ?_
  refine j_cond rfl (fun hc0 => ?_) (fun hc0 => ?_)
  · skip
    have hn : n = 0 := by simp only [bnA] at *; omega
    refine j_call 0 ent45 rfl rfl rfl rfl (fun w' hw' => rsign_con gr [91] s bad w' (by simp) (by omega)) (fun u S2 hu => ?_)
    obtain ⟨rfl, s1, b1, rfl, ls1, cs1, hs1⟩ := hu
    refine j_subl (S' := [[RF gr s1 b1]]) (by repeat first | exact slR _ | exact slN _ | apply slC | apply slD) ?_
    refine j_q (qs_nil rfl) ?_
    refine j_q (qs_field Tryz.underlying91 rfl sz4 (by decide) rfl) ?_
    refine j_q (qs_load (l := [.string (bs s1), .bool b1]) 0 Tryz.underlying4 rfl rfl rfl rfl) ?_
    refine j_cond rfl (fun hc1 => ?_) (fun hc1 => ?_)
    · skip
      refine j_q (qs_ac) ?_
      refine j_ret_con (vs := [_]) (fun w' hw' => ⟨rfl, trivial⟩) ?_
      refine ⟨false, s1, b1, rfl, rfl, by omega, (fun h => by cases h), ?_⟩
      unfold MRel
      rw [if_pos hn]
      intro hb y hy
      obtain ⟨rfl, hb1⟩ := hs1 hb y hy
      rw [hc1] at hb1
      cases hb1
    · skip
      refine j_call 0 ent92 rfl rfl rfl rfl (fun w' hw' => rnext_con gr 93 s1 b1 w' (by omega)) (fun u S2 hu => ?_)
      obtain ⟨m7, rfl, rfl, n7a, n7b⟩ := hu
      refine j_subl (S' := [[RF gr s1 b1]]) (by repeat first | exact slR _ | exact slN _ | apply slC | apply slD) ?_
      refine j_cond rfl (fun hc2 => ?_) (fun hc2 => ?_)
      · skip
        refine j_call 0 ent45 rfl rfl rfl rfl (fun w' hw' => rsign_con gr [93] s1 b1 w' (by simp) (by omega)) (fun u S2 hu => ?_)
        obtain ⟨rfl, s8, b8, rfl, ls8, cs8, hs8⟩ := hu
        refine j_subl (S' := [[RF gr s8 b8]]) (by repeat first | exact slR _ | exact slN _ | apply slC | apply slD) ?_
        refine j_q (qs_ac) ?_
        refine j_ret_con (vs := [_]) (fun w' hw' => ⟨rfl, trivial⟩) ?_
        refine ⟨false, s8, b8, rfl, rfl, by omega, (fun h => by cases h), ?_⟩
        unfold MRel
        rw [if_pos hn]
        intro hb y hy
        obtain ⟨rfl, hb1⟩ := hs1 hb y hy
        refine ⟨fun z hz => ?_, fun u hu _ => absurd (n7a hc2).2 hu⟩
        obtain ⟨e1, e2⟩ := hs8 hb1 z hz
        exact ⟨rfl, e1, e2⟩
      · skip
        refine j_q (qs_gtr rfl rfl) ?_
        refine j_cond rfl (fun hc3 => ?_) (fun hc3 => ?_)
        · skip
          exfalso
          simp only [bnA] at *
          omega
        · skip
          refine j_q (qs_nil rfl) ?_
          refine j_q (qs_field Tryz.underlying91 rfl sz4 (by decide) rfl) ?_
          refine j_q (qs_load (l := [.string (bs s1), .bool b1]) 0 Tryz.underlying4 rfl rfl rfl rfl) ?_
          refine j_q (qs_not rfl) ?_
          refine j_ret_con (vs := [_]) (fun w' hw' => ⟨rfl, trivial⟩) ?_
          refine ⟨!b1, s1, b1, rfl, rfl, by omega, (fun h => by have := cs1 (by simpa using h); simp only [List.length_cons, List.length_nil] at this; omega), ?_⟩
          unfold MRel
          rw [if_pos hn]
          intro hb y hy
          obtain ⟨rfl, hb1⟩ := hs1 hb y hy
          refine ⟨fun z hz => ?_, fun u hu hy2 => ?_⟩
          · have := n7b hb1 z hz
            rw [hc2] at this
            cases this
          · rw [if_pos hn] at hy2
            exact ⟨by rw [hb1]; rfl, hy2, hb1⟩
  · skip
    have hn : n ≠ 0 := by simp only [bnA] at *; omega
    refine j_q (qs_nil rfl) ?_
    refine j_q (qs_field Tryz.underlying91 rfl sz4 (by decide) rfl) ?_
    refine j_q (qs_load (l := [.string (bs s), .bool bad]) 0 Tryz.underlying4 rfl rfl rfl rfl) ?_
    refine j_cond rfl (fun hc4 => ?_) (fun hc4 => ?_)
    · skip
      refine j_q (qs_ac) ?_
      refine j_ret_con (vs := [_]) (fun w' hw' => ⟨rfl, trivial⟩) ?_
      refine ⟨false, s, bad, rfl, rfl, by omega, (fun h => by cases h), ?_⟩
      unfold MRel
      intro hb
      rw [hc4] at hb
      cases hb
    · skip
      refine j_call 0 ent92 rfl rfl rfl rfl (fun w' hw' => rnext_con gr 93 s bad w' (by omega)) (fun u S2 hu => ?_)
      obtain ⟨m24, rfl, rfl, n24a, n24b⟩ := hu
      refine j_subl (S' := [[RF gr s bad]]) (by repeat first | exact slR _ | exact slN _ | apply slC | apply slD) ?_
      refine j_cond rfl (fun hc5 => ?_) (fun hc5 => ?_)
      · skip
        refine j_call 0 ent45 rfl rfl rfl rfl (fun w' hw' => rsign_con gr [93] s bad w' (by simp) (by omega)) (fun u S2 hu => ?_)
        obtain ⟨rfl, s25, b25, rfl, ls25, cs25, hs25⟩ := hu
        refine j_subl (S' := [[RF gr s25 b25]]) (by repeat first | exact slR _ | exact slN _ | apply slC | apply slD) ?_
        refine j_q (qs_ac) ?_
        refine j_ret_con (vs := [_]) (fun w' hw' => ⟨rfl, trivial⟩) ?_
        refine ⟨false, s25, b25, rfl, rfl, by omega, (fun h => by cases h), ?_⟩
        unfold MRel
        rw [if_neg hn]
        intro hb y hy
        rw [List.nil_append] at hy
        subst hy
        refine ⟨fun z hz => ?_, fun u hu _ => absurd (n24a hc5).2 hu⟩
        obtain ⟨e1, e2⟩ := hs25 hb z hz
        exact ⟨rfl, e1, e2⟩
      · skip
        refine j_q (qs_gtr rfl rfl) ?_
        refine j_cond rfl (fun hc6 => ?_) (fun hc6 => ?_)
        · skip
          refine j_call 0 ent45 rfl rfl rfl rfl (fun w' hw' => rsign_con gr [44] s bad w' (by simp) (by omega)) (fun u S2 hu => ?_)
          obtain ⟨rfl, s28, b28, rfl, ls28, cs28, hs28⟩ := hu
          refine j_subl (S' := [[RF gr s28 b28]]) (by repeat first | exact slR _ | exact slN _ | apply slC | apply slD) ?_
          refine j_q (qs_nil rfl) ?_
          refine j_q (qs_field Tryz.underlying91 rfl sz4 (by decide) rfl) ?_
          refine j_q (qs_load (l := [.string (bs s28), .bool b28]) 0 Tryz.underlying4 rfl rfl rfl rfl) ?_
          refine j_q (qs_not rfl) ?_
          refine j_ret_con (vs := [_]) (fun w' hw' => ⟨rfl, trivial⟩) ?_
          refine ⟨!b28, s28, b28, rfl, rfl, by omega, (fun h => by have := cs28 (by simpa using h); simp only [List.length_cons, List.length_nil] at this; omega), ?_⟩
          unfold MRel
          rw [if_neg hn, if_neg hn]
          intro hb y hy
          rw [List.nil_append] at hy
          subst hy
          refine ⟨fun z hz => ?_, fun u hu hy2 => ?_⟩
          · have := n24b hb z hz
            rw [hc5] at this
            cases this
          · obtain ⟨e1, e2⟩ := hs28 hb u hy2
            exact ⟨by rw [e2]; rfl, e1, e2⟩
        · skip
          exfalso
          simp only [bnA] at *
          omega
theorem rtexts_con (gr : Nat) (s : Bs) (bad : Bool) (w : World) (hs : s.length ≤ 1099511) : Con Tryz.prog 49 [rp gr] w [RF gr s bad] fun v S' => ∃ (l : List Bs) (cl : SH) (s' : Bs) (b' : Bool), S' = [cl, [RF gr s' b']] ∧ Sx.Own 9 1 (strs l) v cl ∧ (l.map wS).sum + 10 * s'.length ≤ 10 * s.length ∧ (bad = false → ∀ (l3 : List Bs) (z : Bs), (∀ a ∈ l3, True) → s = lst [91] (l3.map qt) [93] ++ z → l = l3 ∧ s' = z ∧ b' = false) := by
  refine con_of_tree mix Tryz.func49 T49_ok (by kernel_rfl) ?_
  unfold T49
  refine j_q (qs_ac) ?_
  refine j_q (qs_ac) ?_
  refine j_perm (S' := [[], [RF gr s bad]]) (by simp) ?_
  refine j_loop (fun m vs S' => ∃ (lv : Value) (cl : SH) (r : Bs) (b : Bool) (acc : List Bs), vs = [lv] ∧ S' = [cl, [RF gr r b]] ∧ Sx.Own 9 1 (strs acc) lv cl ∧ MQ qt (fun _ => True) bad s r b acc ∧ (acc.map wS).sum + 10 * r.length ≤ 10 * s.length ∧ m = r.length) ⟨_, .slice none 0 0, [], s, bad, [], rfl, rfl, own_nil, mq_start, (by simp only [List.map_nil, List.sum_nil]; omega), rfl⟩ ?_
  rintro m vs S' hlen ⟨lv, cl, r, b, acc, rfl, rfl, hol, hk, hsum, rfl⟩
  obtain ⟨nl, Al, capl, rfl, hnl⟩ := own_form hol (by decide)
  rw [strs_length] at hnl
  have hnl2 : nl = acc.length := by omega
  subst hnl2
  have hal := sumS acc
  refine j_q (qs_lenl Tryz.underlying22 rfl) ?_
  refine j_call 1 ent47 rfl rfl rfl rfl (fun w' hw' => rmember_con gr r b acc.length w' (by omega)) (fun u S2 hu => ?_)
  obtain ⟨m3, s3, b3, rfl, rfl, l3, c3, hm3⟩ := hu
  refine j_subl (S' := [[RF gr s3 b3], cl]) (by repeat first | exact slR _ | exact slN _ | apply slC | apply slD) ?_
  refine j_cond rfl (fun hc0 => ?_) (fun hc0 => ?_)
  · skip
    subst hc0
    have hc3 := c3 rfl
    refine j_call 0 ent46 rfl rfl rfl rfl (fun w' hw' => rtx_con gr s3 b3 w' (by omega)) (fun u S2 hu => ?_)
    obtain ⟨t4, s4, b4, rfl, rfl, l4, h4⟩ := hu
    refine j_subl (S' := [[RF gr s4 b4], cl]) (by repeat first | exact slR _ | exact slN _ | apply slC | apply slD) ?_
    refine j_lit (vs := [.string (bs t4)]) Tryz.underlying22 sz9 zero9 rfl (by simp [oneV]) ⟨rfl, by decide⟩ (fun g5 v5 c5 hv5 hc5 ho5 => ?_)
    subst hv5 hc5
    refine j_append 2 Tryz.underlying22 Tryz.underlying22 (.inr ⟨_, rfl⟩) sb9 zero9 rfl hol rfl (.inl ⟨_, _, rfl, rd_own (off := 0) (n := 1) 0 rfl rfl, rfl⟩) (by simp [oneV]) ⟨(by simp only [strs_length, List.drop_zero, List.length_take, List.length_cons, List.length_nil]; omega), (by decide)⟩ (fun v6 c6 ho6 => ?_)
    have ho6 : Sx.Own 9 1 (strs (acc ++ [t4])) v6 c6 := by
      rw [strs_append]
      exact ho6
    refine j_subl (S' := [[RF gr s4 b4], c6]) (by repeat first | exact slR _ | exact slN _ | apply slC | apply slD) ?_
    refine j_perm (S' := [c6, [RF gr s4 b4]]) (List.perm_append_comm (l₁ := [RF gr s4 b4]) (l₂ := c6 ++ []) |>.trans (by simp)) ?_
    refine j_back rfl ?_
    exact ⟨s4.length, by omega, v6, c6, s4, b4, acc ++ [t4], rfl, rfl, ho6, mq_next qt_head hk hm3 (fun hb a2 z _ hx => h4 hb a2 z hx), by rw [List.map_append, List.sum_append]; simp only [List.map_cons, List.map_nil, List.sum_cons, List.sum_nil, wS]; omega, rfl⟩
  · skip
    subst hc0
    refine j_perm (S' := [cl, [RF gr s3 b3]]) (List.perm_append_comm (l₁ := [RF gr s3 b3]) (l₂ := cl ++ []) |>.trans (by simp)) ?_
    refine j_ret_con (vs := [_]) (fun w' hw' => ⟨rfl, trivial⟩) ?_
    exact ⟨acc, cl, s3, b3, rfl, hol, by omega, mq_exit qt_head hk hm3⟩
theorem rout_con (gr : Nat) (s : Bs) (bad : Bool) (w : World) (hs : s.length ≤ 1099511) : Con Tryz.prog 48 [rp gr] w [RF gr s bad] fun v S' => ∃ (a : PO) (s' : Bs) (b' : Bool), v = .agg (encO a).toArray ∧ S' = [[RF gr s' b']] ∧ a.name.length + a.path.length + s'.length ≤ s.length ∧ (bad = false → ∀ a2 z, okOut a2 → s = tO a2 ++ z → a = a2 ∧ s' = z ∧ b' = false) := by
  refine con_of_tree mix Tryz.func48 T48_ok (by kernel_rfl) ?_
  unfold T48
  refine j_alloc zero53e (fun g0 hg0 hs0 => ?_)
  refine j_alloc zero53e (fun g1 hg1 hs1 => ?_)
  have K0 := fun (hb : bad = false) (a2 : PO) (z : Bs) (hok : okOut a2) (hx : s = tO a2 ++ z) => And.intro hb (hx.trans (tO_split a2 z))
  refine j_call 2 ent45 rfl rfl rfl rfl (fun w' hw' => rsign_con gr [40] s bad w' (by simp) (by omega)) (fun u S2 hu => ?_)
  obtain ⟨rfl, r1, b1, rfl, lr1, _, hr1⟩ := hu
  have K1 := fun (hb : bad = false) (a2 : PO) (z : Bs) (hok : okOut a2) (hx : s = tO a2 ++ z) => (have h0 := hr1 (K0 hb a2 z hok hx).1 _ (K0 hb a2 z hok hx).2; And.intro h0.2 h0.1)
  refine j_subl (S' := [[RF gr r1 b1], [(g1, .cells (encO ⟨[], [], false, zHash⟩).toArray 53 (0, 0))], [(g0, .cells (encO ⟨[], [], false, zHash⟩).toArray 53 (0, 0))]]) (by repeat first | exact slR _ | exact slN _ | apply slC | apply slD) ?_
  refine j_call 0 ent46 rfl rfl rfl rfl (fun w' hw' => rtx_con gr r1 b1 w' (by omega)) (fun u S2 hu => ?_)
  obtain ⟨t2, r2, b2, rfl, rfl, lr2, hr2⟩ := hu
  have Et2 := fun (hb : bad = false) (a2 : PO) (z : Bs) (hok : okOut a2) (hx : s = tO a2 ++ z) => (hr2 (K1 hb a2 z hok hx).1 _ _ (K1 hb a2 z hok hx).2).1
  have K2 := fun (hb : bad = false) (a2 : PO) (z : Bs) (hok : okOut a2) (hx : s = tO a2 ++ z) => (have h0 := hr2 (K1 hb a2 z hok hx).1 _ _ (K1 hb a2 z hok hx).2; And.intro h0.2.2 h0.2.1)
  refine j_subl (S' := [[RF gr r2 b2], [(g1, .cells (encO ⟨[], [], false, zHash⟩).toArray 53 (0, 0))], [(g0, .cells (encO ⟨[], [], false, zHash⟩).toArray 53 (0, 0))]]) (by repeat first | exact slR _ | exact slN _ | apply slC | apply slD) ?_
  refine j_q (qs_field Tryz.underlying53 rfl sz9 (by decide) rfl) ?_
  refine j_store (g := g1) (i := 0) (l := encO ⟨[], [], false, zHash⟩) (v := .string (bs t2)) 1 sz9 rfl rfl rfl rfl (by rw [encO_len]; omega) (by simp) ?_
  refine j_call 0 ent45 rfl rfl rfl rfl (fun w' hw' => rsign_con gr [44] r2 b2 w' (by simp) (by omega)) (fun u S2 hu => ?_)
  obtain ⟨rfl, r3, b3, rfl, lr3, _, hr3⟩ := hu
  have K3 := fun (hb : bad = false) (a2 : PO) (z : Bs) (hok : okOut a2) (hx : s = tO a2 ++ z) => (have h0 := hr3 (K2 hb a2 z hok hx).1 _ (K2 hb a2 z hok hx).2; And.intro h0.2 h0.1)
  refine j_subl (S' := [[RF gr r3 b3], [(g1, .cells (encO ⟨t2, [], false, zHash⟩).toArray 53 (0, 0))], [(g0, .cells (encO ⟨[], [], false, zHash⟩).toArray 53 (0, 0))]]) (by repeat first | exact slR _ | exact slN _ | apply slC | apply slD) ?_
  refine j_call 0 ent46 rfl rfl rfl rfl (fun w' hw' => rtx_con gr r3 b3 w' (by omega)) (fun u S2 hu => ?_)
  obtain ⟨t6, r4, b4, rfl, rfl, lr4, hr4⟩ := hu
  have Et6 := fun (hb : bad = false) (a2 : PO) (z : Bs) (hok : okOut a2) (hx : s = tO a2 ++ z) => (hr4 (K3 hb a2 z hok hx).1 _ _ (K3 hb a2 z hok hx).2).1
  have K4 := fun (hb : bad = false) (a2 : PO) (z : Bs) (hok : okOut a2) (hx : s = tO a2 ++ z) => (have h0 := hr4 (K3 hb a2 z hok hx).1 _ _ (K3 hb a2 z hok hx).2; And.intro h0.2.2 h0.2.1)
  refine j_subl (S' := [[RF gr r4 b4], [(g1, .cells (encO ⟨t2, [], false, zHash⟩).toArray 53 (0, 0))], [(g0, .cells (encO ⟨[], [], false, zHash⟩).toArray 53 (0, 0))]]) (by repeat first | exact slR _ | exact slN _ | apply slC | apply slD) ?_
  refine j_q (qs_field Tryz.underlying53 rfl sz49 (by decide) rfl) ?_
  refine j_store (g := g1) (i := 1) (l := encO ⟨t2, [], false, zHash⟩) (v := .string (bs t6)) 1 sz49 rfl rfl rfl rfl (by rw [encO_len]; omega) (by simp) ?_
  refine j_call 0 ent45 rfl rfl rfl rfl (fun w' hw' => rsign_con gr [44] r4 b4 w' (by simp) (by omega)) (fun u S2 hu => ?_)
  obtain ⟨rfl, r5, b5, rfl, lr5, _, hr5⟩ := hu
  have K5 := fun (hb : bad = false) (a2 : PO) (z : Bs) (hok : okOut a2) (hx : s = tO a2 ++ z) => (have h0 := hr5 (K4 hb a2 z hok hx).1 _ (K4 hb a2 z hok hx).2; And.intro h0.2 h0.1)
  refine j_subl (S' := [[RF gr r5 b5], [(g1, .cells (encO ⟨t2, t6, false, zHash⟩).toArray 53 (0, 0))], [(g0, .cells (encO ⟨[], [], false, zHash⟩).toArray 53 (0, 0))]]) (by repeat first | exact slR _ | exact slN _ | apply slC | apply slD) ?_
  refine j_call 0 ent46 rfl rfl rfl rfl (fun w' hw' => rtx_con gr r5 b5 w' (by omega)) (fun u S2 hu => ?_)
  obtain ⟨t10, r6, b6, rfl, rfl, lr6, hr6⟩ := hu
  have Et10 := fun (hb : bad = false) (a2 : PO) (z : Bs) (hok : okOut a2) (hx : s = tO a2 ++ z) => (hr6 (K5 hb a2 z hok hx).1 _ _ (K5 hb a2 z hok hx).2).1
  have K6 := fun (hb : bad = false) (a2 : PO) (z : Bs) (hok : okOut a2) (hx : s = tO a2 ++ z) => (have h0 := hr6 (K5 hb a2 z hok hx).1 _ _ (K5 hb a2 z hok hx).2; And.intro h0.2.2 h0.2.1)
  refine j_subl (S' := [[RF gr r6 b6], [(g1, .cells (encO ⟨t2, t6, false, zHash⟩).toArray 53 (0, 0))], [(g0, .cells (encO ⟨[], [], false, zHash⟩).toArray 53 (0, 0))]]) (by repeat first | exact slR _ | exact slN _ | apply slC | apply slD) ?_
  refine j_call 0 ent45 rfl rfl rfl rfl (fun w' hw' => rsign_con gr [44] r6 b6 w' (by simp) (by omega)) (fun u S2 hu => ?_)
  obtain ⟨rfl, r7, b7, rfl, lr7, _, hr7⟩ := hu
  have K7 := fun (hb : bad = false) (a2 : PO) (z : Bs) (hok : okOut a2) (hx : s = tO a2 ++ z) => (have h0 := hr7 (K6 hb a2 z hok hx).1 _ (K6 hb a2 z hok hx).2; And.intro h0.2 h0.1)
  refine j_subl (S' := [[RF gr r7 b7], [(g1, .cells (encO ⟨t2, t6, false, zHash⟩).toArray 53 (0, 0))], [(g0, .cells (encO ⟨[], [], false, zHash⟩).toArray 53 (0, 0))]]) (by repeat first | exact slR _ | exact slN _ | apply slC | apply slD) ?_
  refine j_call 0 ent46 rfl rfl rfl rfl (fun w' hw' => rtx_con gr r7 b7 w' (by omega)) (fun u S2 hu => ?_)
  obtain ⟨t15, r8, b8, rfl, rfl, lr8, hr8⟩ := hu
  have Et15 := fun (hb : bad = false) (a2 : PO) (z : Bs) (hok : okOut a2) (hx : s = tO a2 ++ z) => (hr8 (K7 hb a2 z hok hx).1 _ _ (K7 hb a2 z hok hx).2).1
  have K8 := fun (hb : bad = false) (a2 : PO) (z : Bs) (hok : okOut a2) (hx : s = tO a2 ++ z) => (have h0 := hr8 (K7 hb a2 z hok hx).1 _ _ (K7 hb a2 z hok hx).2; And.intro h0.2.2 h0.2.1)
  refine j_subl (S' := [[RF gr r8 b8], [(g1, .cells (encO ⟨t2, t6, false, zHash⟩).toArray 53 (0, 0))], [(g0, .cells (encO ⟨[], [], false, zHash⟩).toArray 53 (0, 0))]]) (by repeat first | exact slR _ | exact slN _ | apply slC | apply slD) ?_
  refine j_call 0 ent45 rfl rfl rfl rfl (fun w' hw' => rsign_con gr [41] r8 b8 w' (by simp) (by omega)) (fun u S2 hu => ?_)
  obtain ⟨rfl, r9, b9, rfl, lr9, _, hr9⟩ := hu
  have K9 := fun (hb : bad = false) (a2 : PO) (z : Bs) (hok : okOut a2) (hx : s = tO a2 ++ z) => (have h0 := hr9 (K8 hb a2 z hok hx).1 _ (K8 hb a2 z hok hx).2; And.intro h0.2 h0.1)
  refine j_subl (S' := [[RF gr r9 b9], [(g1, .cells (encO ⟨t2, t6, false, zHash⟩).toArray 53 (0, 0))], [(g0, .cells (encO ⟨[], [], false, zHash⟩).toArray 53 (0, 0))]]) (by repeat first | exact slR _ | exact slN _ | apply slC | apply slD) ?_
  refine j_q (qs_seql rfl rfl) ?_
  refine j_cond rfl (fun hc0 => ?_) (fun hc0 => ?_)
  · skip
    refine j_q (qs_field Tryz.underlying53 rfl sz4 (by decide) rfl) ?_
    refine j_store (g := g1) (i := 2) (l := encO ⟨t2, t6, false, zHash⟩) (v := .bool true) 1 sz4 rfl rfl rfl rfl (by rw [encO_len]; omega) (by simp) ?_
    refine j_call0 ent93 rfl rfl rfl (fun w' hw' => rfromHex_con t15 w' (by omega)) (fun u S2 hu => ?_)
    obtain ⟨hl, he, rfl, h32, hh⟩ := hu
    refine j_subl (S' := [[RF gr r9 b9], [(g1, .cells (encO ⟨t2, t6, true, zHash⟩).toArray 53 (0, 0))], [(g0, .cells (encO ⟨[], [], false, zHash⟩).toArray 53 (0, 0))]]) (List.sublist_append_right _ _) ?_
    refine j_q (qs_ext (vs := [.agg (ints hl).toArray, .int .i64 he]) rfl rfl) ?_
    refine j_q (qs_ext (vs := [.agg (ints hl).toArray, .int .i64 he]) rfl rfl) ?_
    refine j_alloc zero51 (fun g21 hg21 hs21 => ?_)
    refine j_storew (l := ints (List.replicate 32 0)) (vs := ints hl) 0 sz51 rfl rfl (by rw [ints_length]; exact h32) ints_one rfl rfl ?_
    refine j_q (qs_loadw (l := ints hl) 0 Tryz.underlying51 rfl sz51 rfl rfl (by rw [ints_length]; exact h32)) ?_
    refine j_q (qs_field Tryz.underlying53 rfl sz51 (by decide) rfl) ?_
    refine j_storea (g := g1) (l := encO ⟨t2, t6, true, zHash⟩) (vs := ints hl) (i := 3) 2 sz51 rfl rfl (by rw [ints_length]; exact h32) ints_one rfl (by rw [encO_len]; decide) (fun j _ _ h => by omega) ?_
    rw [storeH h32]
    refine j_subl (S' := [[RF gr r9 b9], [(g1, .cells (encO ⟨t2, t6, true, ⟨hl, h32⟩⟩).toArray 53 (0, 0))], [(g0, .cells (encO ⟨[], [], false, zHash⟩).toArray 53 (0, 0))]]) (by repeat first | exact slR _ | exact slN _ | apply slC | apply slD) ?_
    refine j_q (qs_nil rfl) ?_
    refine j_q (qs_field Tryz.underlying91 rfl sz4 (by decide) rfl) ?_
    refine j_q (qs_load (l := [.string (bs r9), .bool b9]) 0 Tryz.underlying4 rfl rfl rfl rfl) ?_
    refine j_g rfl (fun hb => qs_mt rfl) ?_
    refine j_g rfl (fun hb => qs_neq (gd_eq hb) rfl) ?_
    refine j_q (qs_or rfl rfl) ?_
    refine j_q (qs_nil rfl) ?_
    refine j_q (qs_field Tryz.underlying91 rfl sz4 (by decide) rfl) ?_
    refine j_store (l := [.string (bs r9), .bool b9]) (v := .bool (b9 || (he != 0))) 0 sz4 rfl rfl rfl rfl (by simp) (by simp) ?_
    refine j_q (qs_loadw (g := g1) (l := encO ⟨t2, t6, true, ⟨hl, h32⟩⟩) 1 Tryz.underlying53 rfl sz53 rfl rfl (encO_len _)) ?_
    refine j_storew (g := g0) (l := encO ⟨[], [], false, zHash⟩) (vs := encO ⟨t2, t6, true, ⟨hl, h32⟩⟩) 2 sz53 rfl rfl (encO_len _) (encO_one _) rfl (encO_len _) ?_
    -- no @RET
    refine j_ret_sub [[RF gr r9 (b9 || (he != 0))]] (by repeat first | exact slR _ | exact slN _ | apply slC | apply slD) (vs := [_]) (fun w' hw' => ⟨rv_agg (g := g0) (l := encO ⟨t2, t6, true, ⟨hl, h32⟩⟩) 2 Tryz.underlying53 rfl sz53 rfl rfl (encO_len _) hw', trivial⟩) ?_
    exact ⟨⟨t2, t6, true, ⟨hl, h32⟩⟩, r9, _, rfl, rfl, by simp only []; omega, fun hb a2 z hok hx => ⟨po_eqT hc0 hh (Et2 hb a2 z hok hx) (Et6 hb a2 z hok hx) (Et10 hb a2 z hok hx) (Et15 hb a2 z hok hx), (K9 hb a2 z hok hx).2, by
      have h1 := po_eqT (h := ⟨hl, h32⟩) hc0 hh (Et2 hb a2 z hok hx) (Et6 hb a2 z hok hx) (Et10 hb a2 z hok hx) (Et15 hb a2 z hok hx)
      have h2 := Et15 hb a2 z hok hx
      rw [← h1] at h2
      unfold tH at h2
      rw [(hh hl h32 (h2.trans (if_pos rfl))).2, (K9 hb a2 z hok hx).1]
      rfl⟩⟩
  · skip
    refine j_q (qs_sneq rfl rfl) ?_
    refine j_g rfl (fun hb => qs_mt rfl) ?_
    refine j_g rfl (fun hb => qs_sneq (gd_eq hb) rfl) ?_
    refine j_q (qs_or rfl rfl) ?_
    refine j_cond rfl (fun hc1 => ?_) (fun hc1 => ?_)
    · skip
      refine j_q (qs_nil rfl) ?_
      refine j_q (qs_field Tryz.underlying91 rfl sz4 (by decide) rfl) ?_
      refine j_store (l := [.string (bs r9), .bool b9]) (v := .bool true) 0 sz4 rfl rfl rfl rfl (by simp) (by simp) ?_
      refine j_q (qs_loadw (g := g1) (l := encO ⟨t2, t6, false, zHash⟩) 1 Tryz.underlying53 rfl sz53 rfl rfl (encO_len _)) ?_
      refine j_storew (g := g0) (l := encO ⟨[], [], false, zHash⟩) (vs := encO ⟨t2, t6, false, zHash⟩) 2 sz53 rfl rfl (encO_len _) (encO_one _) rfl (encO_len _) ?_
      -- no @RET
      refine j_ret_sub [[RF gr r9 true]] (by repeat first | exact slR _ | exact slN _ | apply slC | apply slD) (vs := [_]) (fun w' hw' => ⟨rv_agg (g := g0) (l := encO ⟨t2, t6, false, zHash⟩) 2 Tryz.underlying53 rfl sz53 rfl rfl (encO_len _) hw', trivial⟩) ?_
      exact ⟨⟨t2, t6, false, zHash⟩, r9, true, rfl, rfl, by simp only []; omega, fun hb a2 z hok hx => by
        obtain ⟨_, h2, h3⟩ := po_F hc0 hok (Et2 hb a2 z hok hx) (Et6 hb a2 z hok hx) (Et10 hb a2 z hok hx) (Et15 hb a2 z hok hx)
        rw [h2, h3] at hc1
        simp at hc1⟩
    · skip
      refine j_q (qs_loadw (g := g1) (l := encO ⟨t2, t6, false, zHash⟩) 1 Tryz.underlying53 rfl sz53 rfl rfl (encO_len _)) ?_
      refine j_storew (g := g0) (l := encO ⟨[], [], false, zHash⟩) (vs := encO ⟨t2, t6, false, zHash⟩) 2 sz53 rfl rfl (encO_len _) (encO_one _) rfl (encO_len _) ?_
      -- no @RET
      refine j_ret_sub [[RF gr r9 b9]] (by repeat first | exact slR _ | exact slN _ | apply slC | apply slD) (vs := [_]) (fun w' hw' => ⟨rv_agg (g := g0) (l := encO ⟨t2, t6, false, zHash⟩) 2 Tryz.underlying53 rfl sz53 rfl rfl (encO_len _) hw', trivial⟩) ?_
      exact ⟨⟨t2, t6, false, zHash⟩, r9, b9, rfl, rfl, by simp only []; omega, fun hb a2 z hok hx => ⟨(po_F hc0 hok (Et2 hb a2 z hok hx) (Et6 hb a2 z hok hx) (Et10 hb a2 z hok hx) (Et15 hb a2 z hok hx)).1, (K9 hb a2 z hok hx).2, (K9 hb a2 z hok hx).1⟩⟩
end Go.Proofs.YtfeabbeebkkhaaaGreat
