/- Derivations: Check and Print. -/
import Derived.Test.YtfeabbeebkkhaaaGreatTa
import Derived.Test.YtfeabbeebkkhaaaGreatDv6
namespace Go.Proofs.YtfeabbeebkkhaaaGreat
open Go Go.Sx
set_option maxRecDepth 100000
set_option maxHeartbeats 4000000
set_option linter.unusedVariables false
set_option linter.unusedSimpArgs false
attribute [local irreducible] J JQ QS Con W opW
theorem ent15 : Sx.Enters Tryz.prog 15 := ⟨_, Tryz.func15, by kernel_rfl, by kernel_rfl⟩
theorem ent36 : Sx.Enters Tryz.prog 36 := ⟨_, Tryz.func36, by kernel_rfl, by kernel_rfl⟩
theorem ent39 : Sx.Enters Tryz.prog 39 := ⟨_, Tryz.func39, by kernel_rfl, by kernel_rfl⟩
theorem ent40 : Sx.Enters Tryz.prog 40 := ⟨_, Tryz.func40, by kernel_rfl, by kernel_rfl⟩

theorem chkS_at {l : List Bs} {i : Nat} {b : Bool} (hb : (!isPath (l.getD i []) || (decide ((i : Int) > 0) && (Op.bytesLess (l.getD i []) (l.getD (i - 1) []) || l.getD i [] == l.getD (i - 1) []))) = b) : chkS l i = if b then 3 else 0 := by
  rw [gt0] at hb
  unfold chkS leB
  rw [hb]
theorem chkV_at {l : List PV} {i : Nat} {b : Bool} (hb : ((l.getD i v0).name == [] || (decide ((i : Int) > 0) && (Op.bytesLess (l.getD i v0).name (l.getD (i - 1) v0).name || (l.getD i v0).name == (l.getD (i - 1) v0).name))) = b) : chkV l i = if b then 3 else 0 := by
  rw [gt0] at hb
  unfold chkV leB
  rw [hb]
theorem nm_or {a b : Bool} (h : (!a || !b) = true) : (a && b) = false := by cases a <;> cases b <;> simp_all
theorem nm_and {a b : Bool} (h : (!a || !b) = false) : (a && b) = true := by cases a <;> cases b <;> simp_all
section
variable {d : PD}
theorem chk_1 (h : (isName d.name && isName (d.name ++ sDrv)) = false) : chk d = 9 := by unfold chk chk0 orE; rw [h]; rfl
theorem chk_2 {e : Int} (h : (isName d.name && isName (d.name ++ sDrv)) = true) (h2 : chkOuts d.outs = e) (he : e ≠ 0) : chk d = e := by
  unfold chk chk0
  rw [if_pos h, h2]
  unfold orE
  rw [if_neg he, if_neg he]
theorem chk_3 {e : Int} (h : (isName d.name && isName (d.name ++ sDrv)) = true) (h2 : chkOuts d.outs = 0) (h3 : chkIns d.ins = e) (he : e ≠ 0) : chk d = e := by
  unfold chk chk0
  rw [if_pos h, h2, h3]
  unfold orE
  rw [if_pos rfl, if_neg he, if_neg he]
theorem chk_4 {e : Int} (h : (isName d.name && isName (d.name ++ sDrv)) = true) (h2 : chkOuts d.outs = 0) (h3 : chkIns d.ins = 0) (h4 : firstE (chkS d.srcs) d.srcs.length = e) (he : e ≠ 0) : chk d = e := by
  unfold chk chk0
  rw [if_pos h, h2, h3, h4]
  unfold orE
  rw [if_pos rfl, if_pos rfl, if_neg he, if_neg he]
theorem chk_5 {e : Int} (h : (isName d.name && isName (d.name ++ sDrv)) = true) (h2 : chkOuts d.outs = 0) (h3 : chkIns d.ins = 0) (h4 : firstE (chkS d.srcs) d.srcs.length = 0) (h5 : firstE (chkV d.env) d.env.length = e) (he : e ≠ 0) : chk d = e := by
  unfold chk chk0
  rw [if_pos h, h2, h3, h4, h5]
  unfold orE
  rw [if_pos rfl, if_pos rfl, if_pos rfl, if_neg he]
theorem chk_6 (h : (isName d.name && isName (d.name ++ sDrv)) = true) (h2 : chkOuts d.outs = 0) (h3 : chkIns d.ins = 0) (h4 : firstE (chkS d.srcs) d.srcs.length = 0) (h5 : firstE (chkV d.env) d.env.length = 0) : chk d = if 262144 < (dtext d).length then 5 else 0 := by
  unfold chk chk0
  rw [if_pos h, h2, h3, h4, h5]
  unfold orE
  rw [if_pos rfl, if_pos rfl, if_pos rfl, if_pos rfl]
end
theorem chk_zero {d : PD} (h : chk d = 0) : chk0 d = 0 := by
  unfold chk at h
  exact (orE_zero.1 h).1
theorem tb_chk {d : PD} (h : chk d = 0) (hb : big2 d ≤ 200000) : TB d := tb_of (chk0_parts (chk_zero h)).2.2.2.1 hb
/-- what Print answers -/
def prS (d : PD) : Bs := if chk d = 0 then dtext d else []
attribute [local irreducible] es qt cms hex Tbl Half lst isName isPath isDrvP leB chkO chkOuts chkN chkI chkIns firstE spA spB spE chkS chkV dtext chk chk0
/-- pantry.drv.Check -/
theorem dcheck_con (d : PD) (x : DV) (w : World) (h : DR w d x) (hb : big2 d ≤ 200000) (hou : ∀ y ∈ d.ins, ∀ o ∈ y.outs, o.length ≤ 9223372036854775807) : Con Tryz.prog 15 [dval d x] w [] fun v _ => v = .int .i64 (chk d) := by
  refine con_of_tree mix Tryz.func15 T15_ok (by kernel_rfl) ?_
  unfold T15
  have few := few_of hb
  have few1 := few.nm
  have few4 := few.la
  have few5 := few.le
  have few6 := few.li
  have few7 := few.lo
  have few8 := few.ls
  have hni : d.ins.length = x.mi.length := by rw [h.im, List.length_map]
  obtain ⟨As, caps, hvs, hcaps⟩ := strz_form h.s
  obtain ⟨Ae, cape, ge, offe, hve, hcape, hAe⟩ := rsln_form h.e
  have hmem : ∀ m ∈ x.mi, m.pi ∈ d.ins := fun m hm => by rw [h.im]; exact List.mem_map_of_mem hm
  refine j_box (l := dcells d x) rfl (fun g0 hg0 hs0 => ?_)
  refine j_q (qs_ac) ?_
  refine j_q (qs_field Tryz.underlying28 rfl sz9 (by decide) rfl) ?_
  first
    | refine j_q (qs_load 0 Tryz.underlying9 rfl rfl rfl rfl) ?_
    | refine j_q (qs_load 1 Tryz.underlying9 rfl rfl rfl rfl) ?_
    | refine j_q (qs_load 2 Tryz.underlying9 rfl rfl rfl rfl) ?_
    | refine j_q (qs_load 3 Tryz.underlying9 rfl rfl rfl rfl) ?_
  refine j_q (qs_call ent38 rfl rfl rfl (fun w' hw' => isName_con d.name w' (by omega))) ?_
  refine j_q (qs_not rfl) ?_
  refine j_g rfl (fun hb => qs_field Tryz.underlying28 rfl sz9 (by decide) rfl) ?_
  first
    | refine j_g rfl (fun hb => qs_load 0 Tryz.underlying9 rfl (gd_eq hb) rfl rfl) ?_
    | refine j_g rfl (fun hb => qs_load 1 Tryz.underlying9 rfl (gd_eq hb) rfl rfl) ?_
    | refine j_g rfl (fun hb => qs_load 2 Tryz.underlying9 rfl (gd_eq hb) rfl rfl) ?_
    | refine j_g rfl (fun hb => qs_load 3 Tryz.underlying9 rfl (gd_eq hb) rfl rfl) ?_
  refine j_g rfl (fun hb1 => qs_sadd (l' := sDrv) (gd_eq hb1) rfl (by simp only [List.length_cons, List.length_nil]; omega)) ?_
  refine j_g rfl (fun hb => qs_call ent38 rfl rfl (args1 (gd_eq hb)) (fun w' hw' => isName_con (d.name ++ sDrv) w' (by simp only [List.length_append, List.length_cons, List.length_nil]; omega))) ?_
  refine j_g rfl (fun hb => qs_not (gd_eq hb)) ?_
  refine j_q (qs_or rfl rfl) ?_
  refine j_cond rfl (fun hc0 => ?_) (fun hc0 => ?_)
  · skip
    have hn0 := nm_or hc0
    refine j_q (qs_ac) ?_
    refine j_ret_con (vs := [_]) (fun w' hw' => ⟨rfl, trivial⟩) ?_
    symm
    show _ = Value.int .i64 9
    congr 1
    exact chk_1 hn0
  · skip
    have hn0 := nm_and hc0
    refine j_q (qs_field Tryz.underlying28 rfl sz26 (by decide) rfl) ?_
    first
      | refine j_q (qs_load 0 Tryz.underlying26 rfl rfl rfl rfl) ?_
      | refine j_q (qs_load 1 Tryz.underlying26 rfl rfl rfl rfl) ?_
      | refine j_q (qs_load 2 Tryz.underlying26 rfl rfl rfl rfl) ?_
      | refine j_q (qs_load 3 Tryz.underlying26 rfl rfl rfl rfl) ?_
    refine j_q (qs_call ent39 rfl rfl rfl (fun w' hw' => outputs_con d.outs x.vo w' (rsln_keep h.o hw') (fun y hy => by have := few.ou y hy; omega))) ?_
    refine j_q (qs_neq rfl rfl) ?_
    refine j_cond rfl (fun hc1 => ?_) (fun hc1 => ?_)
    · skip
      have ho1 : chkOuts d.outs ≠ 0 := by simpa using hc1
      refine j_ret_con (vs := [_]) (fun w' hw' => ⟨rfl, trivial⟩) ?_
      symm
      show _ = Value.int .i64 (chkOuts d.outs)
      congr 1
      exact chk_2 hn0 rfl ho1
    · skip
      have ho1 : chkOuts d.outs = 0 := by simpa using hc1
      refine j_q (qs_field Tryz.underlying28 rfl sz24 (by decide) rfl) ?_
      first
        | refine j_q (qs_load 0 Tryz.underlying24 rfl rfl rfl rfl) ?_
        | refine j_q (qs_load 1 Tryz.underlying24 rfl rfl rfl rfl) ?_
        | refine j_q (qs_load 2 Tryz.underlying24 rfl rfl rfl rfl) ?_
        | refine j_q (qs_load 3 Tryz.underlying24 rfl rfl rfl rfl) ?_
      refine j_q (qs_call ent40 rfl rfl rfl (fun w' hw' => inputs_con x.mi x.vi w' (rsln_keep h.i hw') (fun m hm => strz_keep (h.io m hm) hw') (fun m hm => ⟨by have := few.ip _ (hmem m hm); simp only [MI.pi] at this; omega, by have := few.ip _ (hmem m hm); simp only [MI.pi] at this; omega, hou _ (hmem m hm)⟩) (by omega))) ?_
      refine j_q (qs_neq rfl rfl) ?_
      refine j_cond rfl (fun hc2 => ?_) (fun hc2 => ?_)
      · skip
        have hi1 : chkIns d.ins ≠ 0 := by rw [h.im]; simpa using hc2
        refine j_ret_con (vs := [_]) (fun w' hw' => ⟨rfl, trivial⟩) ?_
        symm
        show _ = Value.int .i64 (chkIns (x.mi.map MI.pi))
        congr 1
        rw [← h.im]
        exact chk_3 hn0 ho1 rfl hi1
      · skip
        have hi1 : chkIns d.ins = 0 := by rw [h.im]; simpa using hc2
        refine j_q (qs_field Tryz.underlying28 rfl sz25 (by decide) rfl) ?_
        refine j_q (qs_load (l := dcells d x) (v := .slice As d.srcs.length caps) 0 Tryz.underlying25 rfl rfl rfl (congrArg some hvs)) ?_
        refine j_q (qs_lenl Tryz.underlying25 rfl) ?_
        refine j_q (qs_mc) ?_
        refine j_loop (fun m vs S' => ∃ i : Nat, vs = [.int .i64 (i : Int)] ∧ S' = [[(g0, .cells (dcells d x).toArray 28 (0, 0))], []] ∧ i ≤ d.srcs.length ∧ (∀ j < i, chkS d.srcs j = 0) ∧ m = d.srcs.length - i) ⟨_, 0, rfl, rfl, Nat.zero_le _, (fun j hj => absurd hj (Nat.not_lt_zero _)), rfl⟩ ?_
        rintro m vs S' hlen ⟨i, rfl, rfl, hin, hz, rfl⟩
        refine j_q (qs_lss rfl rfl) ?_
        refine j_cond rfl (fun hc3 => ?_) (fun hc3 => ?_)
        · skip
          have hi : i < d.srcs.length := by
            simp only [Bool.and_eq_true, Bool.or_eq_true, Bool.and_eq_false_iff, Bool.or_eq_false_iff, Bool.not_eq_true', Bool.not_eq_false', decide_eq_true_eq, decide_eq_false_iff_not, beq_iff_eq, beq_eq_false_iff_ne, bne_iff_ne, bne_eq_false_iff_eq, ne_eq, Int.toNat_natCast] at *
            omega
          obtain ⟨gs, offs, rfl, hgs, hcells⟩ := strz_addr (hvs ▸ h.s) (by omega)
          have hsl := few.sr _ (getD_mem (d := []) hi)
          refine j_q (qs_ixl0 Tryz.underlying25 sz49 rfl rfl (by omega)) ?_
          refine j_q (qs_loadrs (rd_cells hcells (by simp)) Tryz.underlying49 rfl (by simp only [Int.toNat_natCast]; omega)) ?_
          simp only [Int.toNat_natCast]
          refine j_q (qs_call ent41 rfl rfl rfl (fun w' hw' => disPath_con _ w' (by omega))) ?_
          refine j_q (qs_not rfl) ?_
          refine j_g rfl (fun hb => qs_mt rfl) ?_
          refine j_g rfl (fun hb => qs_gtr (gd_eq hb) rfl) ?_
          refine j_g rfl (fun hb => qs_move (gd_eq hb)) ?_
          refine j_gg rfl (fun hb hb1 => qs_mt rfl) ?_
          refine j_gg rfl (fun hb hb1 => qs_field Tryz.underlying28 rfl sz25 (by decide) rfl) ?_
          refine j_gg rfl (fun hb1 hb2 => qs_load (l := dcells d x) (v := .slice (some ⟨gs, offs, none⟩) d.srcs.length caps) 0 Tryz.underlying25 rfl (gd_eq2 hb1 hb2) rfl (congrArg some hvs)) ?_
          refine j_gg rfl (fun hb hb1 => qs_mt rfl) ?_
          refine j_gg rfl (fun hb hb1 => qs_sub64 (gd_eq2 hb hb1) rfl (by first | omega | (simp only [Bool.and_eq_true, Bool.or_eq_true, Bool.and_eq_false_iff, Bool.or_eq_false_iff, Bool.not_eq_true', Bool.not_eq_false', decide_eq_true_eq, decide_eq_false_iff_not, beq_iff_eq, beq_eq_false_iff_ne, bne_iff_ne, bne_eq_false_iff_eq, ne_eq, Int.toNat_natCast] at *; omega))) ?_
          refine j_gg rfl (fun hb1 hb2 => qs_ixm (g := gs) (off := offs) (i := i - 1) Tryz.underlying25 sz49 (gd_eq2 hb1 hb2) (gd_eq2 hb1 hb2) (by simp only [Bool.and_eq_true, Bool.or_eq_true, Bool.and_eq_false_iff, Bool.or_eq_false_iff, Bool.not_eq_true', Bool.not_eq_false', decide_eq_true_eq, decide_eq_false_iff_not, beq_iff_eq, beq_eq_false_iff_ne, bne_iff_ne, bne_eq_false_iff_eq, ne_eq, Int.toNat_natCast] at *; omega) (by omega)) ?_
          refine j_gg rfl (fun hb1 hb2 => qs_loadrs (i := i - 1) (rd_cells hcells (by simp)) Tryz.underlying49 ((gd_eq2 hb1 hb2).trans (by rw [add_off, Nat.mul_one])) (by omega)) ?_
          refine j_gg rfl (fun hb hb1 => qs_sleq (gd_eq2 hb hb1) (gd_eq2 hb hb1)) ?_
          refine j_g rfl (fun hb => qs_and (gd_eq hb) (gd_eq hb)) ?_
          refine j_q (qs_or rfl rfl) ?_
          refine j_cond rfl (fun hc4 => ?_) (fun hc4 => ?_)
          · skip
            have hcs := chkS_at hc4
            refine j_q (qs_ac) ?_
            refine j_ret_con (vs := [_]) (fun w' hw' => ⟨rfl, trivial⟩) ?_
            symm
            show _ = Value.int .i64 3
            congr 1
            exact chk_4 hn0 ho1 hi1 (by rw [firstE_at hz hi (by rw [hcs]; decide), hcs]; rfl) (by decide)
          · skip
            have hcs := chkS_at hc4
            refine j_q (qs_add64 rfl rfl (by first | omega | (simp only [Bool.and_eq_true, Bool.or_eq_true, Bool.and_eq_false_iff, Bool.or_eq_false_iff, Bool.not_eq_true', Bool.not_eq_false', decide_eq_true_eq, decide_eq_false_iff_not, beq_iff_eq, beq_eq_false_iff_ne, bne_iff_ne, bne_eq_false_iff_eq, ne_eq, Int.toNat_natCast] at *; omega))) ?_
            refine j_back rfl ?_
            exact ⟨d.srcs.length - (i + 1), by omega, i + 1, rfl, rfl, by omega, zero_snoc hz hcs, rfl⟩
        · skip
          obtain rfl : i = d.srcs.length := by
            simp only [Bool.and_eq_true, Bool.or_eq_true, Bool.and_eq_false_iff, Bool.or_eq_false_iff, Bool.not_eq_true', Bool.not_eq_false', decide_eq_true_eq, decide_eq_false_iff_not, beq_iff_eq, beq_eq_false_iff_ne, bne_iff_ne, bne_eq_false_iff_eq, ne_eq, Int.toNat_natCast] at *
            omega
          have hS0 := firstE_zero hz
          refine j_q (qs_field Tryz.underlying28 rfl sz23 (by decide) rfl) ?_
          refine j_q (qs_load (l := dcells d x) (v := .slice Ae d.env.length cape) 0 Tryz.underlying23 rfl rfl rfl (congrArg some hve)) ?_
          refine j_q (qs_lenl Tryz.underlying23 rfl) ?_
          refine j_q (qs_mc) ?_
          refine j_loop (fun m vs S' => ∃ i : Nat, vs = [.int .i64 (i : Int)] ∧ S' = [[(g0, .cells (dcells d x).toArray 28 (0, 0))], []] ∧ i ≤ d.env.length ∧ (∀ j < i, chkV d.env j = 0) ∧ m = d.env.length - i) ⟨_, 0, rfl, rfl, Nat.zero_le _, (fun j hj => absurd hj (Nat.not_lt_zero _)), rfl⟩ ?_
          rintro m vs S' hlen ⟨i, rfl, rfl, hin, hz, rfl⟩
          refine j_q (qs_lss rfl rfl) ?_
          refine j_cond rfl (fun hc5 => ?_) (fun hc5 => ?_)
          · skip
            have hi : i < d.env.length := by
              simp only [Bool.and_eq_true, Bool.or_eq_true, Bool.and_eq_false_iff, Bool.or_eq_false_iff, Bool.not_eq_true', Bool.not_eq_false', decide_eq_true_eq, decide_eq_false_iff_not, beq_iff_eq, beq_eq_false_iff_ne, bne_iff_ne, bne_eq_false_iff_eq, ne_eq, Int.toNat_natCast] at *
              omega
            obtain ⟨rfl, hge, hcells⟩ := hAe (by omega)
            have hsl := few.ev _ (getD_mem (d := v0) hi)
            refine j_q (qs_ixn (g := ge) (off := offe) (i := i) Tryz.underlying23 sz48 rfl rfl (by omega)) ?_
            refine j_q (qs_loadrecw (encA := encV) (rs := d.env) (d := v0) (i := i) encV_len (rd_cells hcells (by simp)) hi Tryz.underlying48 rfl sz48 rfl) ?_
            refine j_alloc zero48 (fun g52 hg52 hs52 => ?_)
            refine j_storew (vs := encV (d.env.getD i v0)) 0 sz48 rfl rfl (encV_len _) (encV_one _) rfl rfl ?_
            refine j_draw ?_
            refine jq_q (qs_field Tryz.underlying48 rfl sz9 (by decide) rfl) ?_
            first
              | refine jq_q (qs_load 0 Tryz.underlying9 rfl rfl rfl rfl) ?_
              | refine jq_q (qs_load 1 Tryz.underlying9 rfl rfl rfl rfl) ?_
              | refine jq_q (qs_load 2 Tryz.underlying9 rfl rfl rfl rfl) ?_
              | refine jq_q (qs_load 3 Tryz.underlying9 rfl rfl rfl rfl) ?_
            refine jq_q (qs_seql (l' := []) rfl rfl) ?_
            refine jq_g rfl (fun hb => qs_mt rfl) ?_
            refine jq_g rfl (fun hb => qs_gtr (gd_eq hb) rfl) ?_
            refine jq_g rfl (fun hb => qs_move (gd_eq hb)) ?_
            refine jq_gg rfl (fun hb hb1 => qs_field Tryz.underlying48 rfl sz9 (by decide) rfl) ?_
            first
              | refine jq_gg rfl (fun hb hb1 => qs_load 0 Tryz.underlying9 rfl (gd_eq2 hb hb1) rfl rfl) ?_
              | refine jq_gg rfl (fun hb hb1 => qs_load 1 Tryz.underlying9 rfl (gd_eq2 hb hb1) rfl rfl) ?_
              | refine jq_gg rfl (fun hb hb1 => qs_load 2 Tryz.underlying9 rfl (gd_eq2 hb hb1) rfl rfl) ?_
              | refine jq_gg rfl (fun hb hb1 => qs_load 3 Tryz.underlying9 rfl (gd_eq2 hb hb1) rfl rfl) ?_
            refine jq_gg rfl (fun hb hb1 => qs_field Tryz.underlying28 rfl sz23 (by decide) rfl) ?_
            refine jq_gg rfl (fun hb1 hb2 => qs_load (l := dcells d x) (v := .slice (some ⟨ge, offe, none⟩) d.env.length cape) 1 Tryz.underlying23 rfl (gd_eq2 hb1 hb2) rfl (congrArg some hve)) ?_
            refine jq_gg rfl (fun hb hb1 => qs_mt rfl) ?_
            refine jq_gg rfl (fun hb hb1 => qs_sub64 (gd_eq2 hb hb1) rfl (by first | omega | (simp only [Bool.and_eq_true, Bool.or_eq_true, Bool.and_eq_false_iff, Bool.or_eq_false_iff, Bool.not_eq_true', Bool.not_eq_false', decide_eq_true_eq, decide_eq_false_iff_not, beq_iff_eq, beq_eq_false_iff_ne, bne_iff_ne, bne_eq_false_iff_eq, ne_eq, Int.toNat_natCast] at *; omega))) ?_
            refine jq_gg rfl (fun hb1 hb2 => qs_ixm (g := ge) (off := offe) (i := i - 1) Tryz.underlying23 sz48 (gd_eq2 hb1 hb2) (gd_eq2 hb1 hb2) (by simp only [Bool.and_eq_true, Bool.or_eq_true, Bool.and_eq_false_iff, Bool.or_eq_false_iff, Bool.not_eq_true', Bool.not_eq_false', decide_eq_true_eq, decide_eq_false_iff_not, beq_iff_eq, beq_eq_false_iff_ne, bne_iff_ne, bne_eq_false_iff_eq, ne_eq, Int.toNat_natCast] at *; omega) (by omega)) ?_
            refine jq_gg rfl (fun hb hb1 => qs_field Tryz.underlying48 rfl sz9 (by decide) (gd_eq2 hb hb1)) ?_
            refine jq_gg rfl (fun hb1 hb2 => qs_loadrec (v := .string (bs (d.env.getD (i - 1) v0).name)) (encA := encV) (rs := d.env) (d := v0) (i := i - 1) (fo := 0) encV_len (rd_cells hcells (by simp)) (by omega) Tryz.underlying9 rfl (gd_eq2 hb1 hb2) rfl) ?_
            refine jq_gg rfl (fun hb hb1 => qs_sleq (gd_eq2 hb hb1) (gd_eq2 hb hb1)) ?_
            refine jq_g rfl (fun hb => qs_and (gd_eq hb) (gd_eq hb)) ?_
            refine jq_q (qs_or rfl rfl) ?_
            refine jq_nil ?_
            refine j_cond rfl (fun hc6 => ?_) (fun hc6 => ?_)
            · skip
              have hcs := chkV_at hc6
              refine j_q (qs_ac) ?_
              refine j_ret_con (vs := [_]) (fun w' hw' => ⟨rfl, trivial⟩) ?_
              symm
              show _ = Value.int .i64 3
              congr 1
              exact chk_5 hn0 ho1 hi1 hS0 (by rw [firstE_at hz hi (by rw [hcs]; decide), hcs]; rfl) (by decide)
            · skip
              have hcs := chkV_at hc6
              refine j_q (qs_add64 rfl rfl (by first | omega | (simp only [Bool.and_eq_true, Bool.or_eq_true, Bool.and_eq_false_iff, Bool.or_eq_false_iff, Bool.not_eq_true', Bool.not_eq_false', decide_eq_true_eq, decide_eq_false_iff_not, beq_iff_eq, beq_eq_false_iff_ne, bne_iff_ne, bne_eq_false_iff_eq, ne_eq, Int.toNat_natCast] at *; omega))) ?_
              refine j_subl (S' := [[(g0, .cells (dcells d x).toArray 28 (0, 0))], []]) (by repeat first | exact List.Sublist.refl _ | exact List.nil_sublist _ | apply List.Sublist.cons_cons | apply List.Sublist.cons) ?_
              refine j_back rfl ?_
              exact ⟨d.env.length - (i + 1), by omega, i + 1, rfl, rfl, by omega, zero_snoc hz hcs, rfl⟩
          · skip
            obtain rfl : i = d.env.length := by
              simp only [Bool.and_eq_true, Bool.or_eq_true, Bool.and_eq_false_iff, Bool.or_eq_false_iff, Bool.not_eq_true', Bool.not_eq_false', decide_eq_true_eq, decide_eq_false_iff_not, beq_iff_eq, beq_eq_false_iff_ne, bne_iff_ne, bne_eq_false_iff_eq, ne_eq, Int.toNat_natCast] at *
              omega
            have hV0 := firstE_zero hz
            have hchk := chk_6 hn0 ho1 hi1 hS0 hV0
            have tb : TB d := tb_of hi1 hb
            refine j_q (qs_loadw (l := dcells d x) 0 Tryz.underlying28 rfl sz28 rfl rfl rfl) ?_
            refine j_q (qs_call ent36 rfl rfl rfl (fun w' hw' => dtext_con d x w' (h.keep hw') tb)) ?_
            refine j_q (qs_lens Tryz.underlying9 rfl) ?_
            refine j_q (qs_gtr rfl rfl) ?_
            refine j_cond rfl (fun hc7 => ?_) (fun hc7 => ?_)
            · skip
              refine j_q (qs_ac) ?_
              refine j_ret_con (vs := [_]) (fun w' hw' => ⟨rfl, trivial⟩) ?_
              symm
              show _ = Value.int .i64 5
              congr 1
              rw [hchk, if_pos (by simp only [Bool.and_eq_true, Bool.or_eq_true, Bool.and_eq_false_iff, Bool.or_eq_false_iff, Bool.not_eq_true', Bool.not_eq_false', decide_eq_true_eq, decide_eq_false_iff_not, beq_iff_eq, beq_eq_false_iff_ne, bne_iff_ne, bne_eq_false_iff_eq, ne_eq, Int.toNat_natCast] at *; omega)]
            · skip
              refine j_q (qs_ac) ?_
              refine j_ret_con (vs := [_]) (fun w' hw' => ⟨rfl, trivial⟩) ?_
              symm
              show _ = Value.int .i64 0
              congr 1
              rw [hchk, if_neg (by simp only [Bool.and_eq_true, Bool.or_eq_true, Bool.and_eq_false_iff, Bool.or_eq_false_iff, Bool.not_eq_true', Bool.not_eq_false', decide_eq_true_eq, decide_eq_false_iff_not, beq_iff_eq, beq_eq_false_iff_ne, bne_iff_ne, bne_eq_false_iff_eq, ne_eq, Int.toNat_natCast] at *; omega)]
/-- pantry.drv.Print -/
theorem dprint_con (d : PD) (x : DV) (w : World) (h : DR w d x) (hb : big2 d ≤ 200000) (hou : ∀ y ∈ d.ins, ∀ o ∈ y.outs, o.length ≤ 9223372036854775807) : Con Tryz.prog 13 [dval d x] w [] fun v _ => v = .tuple #[.string (bs (prS d)), .int .i64 (chk d)] := by
  refine con_of_tree mix Tryz.func13 T13_ok (by kernel_rfl) ?_
  unfold T13
  refine j_box (l := dcells d x) rfl (fun g0 hg0 hs0 => ?_)
  refine j_q (qs_ac) ?_
  refine j_q (qs_ac) ?_
  refine j_q (qs_loadw (l := dcells d x) 0 Tryz.underlying28 rfl sz28 rfl rfl rfl) ?_
  refine j_q (qs_call ent15 rfl rfl rfl (fun w' hw' => dcheck_con d x w' (h.keep hw') hb hou)) ?_
  refine j_q (qs_neq rfl rfl) ?_
  refine j_cond rfl (fun hc0 => ?_) (fun hc0 => ?_)
  · skip
    have hck : chk d ≠ 0 := by simpa using hc0
    refine j_q (qs_ac) ?_
    refine j_ret_con (vs := [_, _]) (fun w' hw' => ⟨rfl, rfl, trivial⟩) ?_
    show Value.tuple #[_, _] = _
    unfold prS
    rw [if_neg hck]
    rfl
  · skip
    have hck : chk d = 0 := by simpa using hc0
    refine j_q (qs_loadw (l := dcells d x) 0 Tryz.underlying28 rfl sz28 rfl rfl rfl) ?_
    refine j_q (qs_call ent36 rfl rfl rfl (fun w' hw' => dtext_con d x w' (h.keep hw') (tb_chk hck hb))) ?_
    refine j_q (qs_ac) ?_
    refine j_ret_con (vs := [_, _]) (fun w' hw' => ⟨rfl, rfl, trivial⟩) ?_
    show Value.tuple #[_, _] = _
    unfold prS
    rw [if_pos hck, hck]
    rfl
end Go.Proofs.YtfeabbeebkkhaaaGreat
