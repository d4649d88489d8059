/- Derivations: one in memory of its own; the law DrvPrints. -/
import Derived.Test.YtfeabbeebkkhaaaGreatTa
import Derived.Test.YtfeabbeebkkhaaaGreatDv12
namespace Go.Proofs.YtfeabbeebkkhaaaGreat
open Go Go.Sx
set_option maxRecDepth 100000
set_option maxHeartbeats 4000000
set_option linter.unusedVariables false
set_option linter.unusedSimpArgs false
attribute [local irreducible] J JQ QS Con W opW
theorem ent11 : Sx.Enters Tryz.prog 11 := ⟨_, Tryz.func11, by kernel_rfl, by kernel_rfl⟩
theorem ent12 : Sx.Enters Tryz.prog 12 := ⟨_, Tryz.func12, by kernel_rfl, by kernel_rfl⟩
theorem ent13 : Sx.Enters Tryz.prog 13 := ⟨_, Tryz.func13, by kernel_rfl, by kernel_rfl⟩
theorem ent14 : Sx.Enters Tryz.prog 14 := ⟨_, Tryz.func14, by kernel_rfl, by kernel_rfl⟩
theorem ent17 : Sx.Enters Tryz.prog 17 := ⟨_, Tryz.func17, by kernel_rfl, by kernel_rfl⟩
theorem ent18 : Sx.Enters Tryz.prog 18 := ⟨_, Tryz.func18, by kernel_rfl, by kernel_rfl⟩
theorem sb48 : (Tryz.prog.info? 48).map (fun i => (i.size, i.bytes)) = some (2, 32) := by kernel_rfl
theorem sb49 : (Tryz.prog.info? 49).map (fun i => (i.size, i.bytes)) = some (1, 16) := by kernel_rfl
theorem sb53 : (Tryz.prog.info? 53).map (fun i => (i.size, i.bytes)) = some (35, 72) := by kernel_rfl
theorem sb68 : (Tryz.prog.info? 68).map (fun i => (i.size, i.bytes)) = some (2, 40) := by kernel_rfl
theorem zero28 : zeroL Tryz.prog 28 = some ([.string (bs []), .string (bs []), .string (bs []), .slice none 0 0, .slice none 0 0, .slice none 0 0, .slice none 0 0, .slice none 0 0]) := by kernel_rfl

abbrev kd : PD := ⟨[120], [115], [98], [], [], [], [], [⟨sOut, [], false, zHash⟩]⟩
theorem kd_chk : chk kd = 0 := by decide +kernel
theorem kd_text : dtext kd = [68, 101, 114, 105, 118, 101, 40, 34, 120, 34, 44, 91, 40, 34, 111, 117, 116, 34, 44, 34, 34, 44, 34, 34, 44, 34, 34, 41, 93, 44, 91, 93, 44, 91, 93, 44, 34, 115, 34, 44, 34, 98, 34, 44, 91, 93, 44, 91, 93, 41] := by decide +kernel
theorem heavy_no {d : PD} (h : heavyP d = false) : big2 d ≤ 16000 := by
  unfold heavyP at h
  simp only [Bool.or_eq_false_iff, decide_eq_false_iff_not] at h
  omega
theorem Szd.outs {d : PD} (h : Szd d) : ∀ y ∈ d.ins, ∀ o ∈ y.outs, o.length ≤ 140737488355328 := fun y hy => (h.ip y hy).2.2
theorem Szd.outs2 {d : PD} (h : Szd d) : ∀ y ∈ d.ins, ∀ o ∈ y.outs, o.length ≤ 9223372036854775807 := fun y hy o ho => by
  have := h.outs y hy o ho
  omega
attribute [local irreducible] es qt cms hex Tbl Half lst isName isPath isDrvP leB chkO chkOuts chkN chkI chkIns firstE spA spB spE chkS chkV dtext chk chk0 tTs dshow big1 big2 heavyP
/-- pantry.pantryref14.Clone -/
theorem dclone_con (d : PD) (x : DV) (w : World) (h : DR w d x) (hb : big2 d ≤ 16000) : Con Tryz.prog 12 [dval d x] w [] fun v S' => ∃ x', v = dval d x' ∧ (∀ u ∈ dcells d x', oneV u = true) ∧ ∀ w' : World, (∀ p ∈ S'.flatten, w'.heap[p.1]? = some p.2) → DR w' d x' := by
  refine con_of_tree mix Tryz.func12 T12_ok (by kernel_rfl) ?_
  unfold T12
  have hni : d.ins.length = x.mi.length := by rw [h.im, List.length_map]
  obtain ⟨Ao, capo, go, offo, hvo, hcapo, hAo⟩ := rsln_form h.o
  obtain ⟨Ai, capi, gi, offi, hvi, hcapi, hAi⟩ := rsln_form h.i
  obtain ⟨Ae, cape, ge, offe, hve, hcape, hAe⟩ := rsln_form h.e
  obtain ⟨As, caps, hvs, hcaps⟩ := strz_form h.s
  obtain ⟨Aa, capa, hva, hcapa⟩ := strz_form h.a
  have hmem : ∀ m ∈ x.mi, m.pi ∈ d.ins := fun m hm => by rw [h.im]; exact List.mem_map_of_mem hm
  have few := few_of hb
  have few4 := few.la
  have few5 := few.le
  have few6 := few.li
  have few7 := few.lo
  have few8 := few.ls
  refine j_box (l := [.string (bs d.name), .string (bs d.sys), .string (bs d.bld), x.va, x.ve, x.vi, x.vs, x.vo]) rfl (fun g0 hg0 hs0 => ?_)
  refine j_alloc zero28 (fun g1 hg1 hs1 => ?_)
  refine j_lit (vs := []) Tryz.underlying22 sz9 zero9 rfl (by simp) ⟨rfl, by decide⟩ (fun g2 v2 c2 hv2 hc2 ho2 => ?_)
  subst hv2 hc2
  refine j_q (qs_field Tryz.underlying28 rfl sz22 (by decide) rfl) ?_
  refine j_q (qs_load (l := [.string (bs d.name), .string (bs d.sys), .string (bs d.bld), x.va, x.ve, x.vi, x.vs, x.vo]) 2 Tryz.underlying22 rfl rfl rfl (congrArg some hva)) ?_
  refine j_append 0 Tryz.underlying22 Tryz.underlying22 (.inr ⟨_, rfl⟩) sb9 zero9 rfl ho2 rfl (src_strz (hva ▸ h.a)) (strs_one _) ⟨(by simp only [List.length_nil, strs_length, flat_len encV_len, flat_len encO_len]; omega), (by decide)⟩ (fun v5 c5 ho5 => ?_)
  rw [List.nil_append] at ho5
  obtain ⟨n5, A5, cap5, rfl, hn5⟩ := own_form ho5 (by decide)
  refine j_q (qs_field Tryz.underlying28 rfl sz22 (by decide) rfl) ?_
  refine j_store (g := g0) (i := 3) (l := [.string (bs d.name), .string (bs d.sys), .string (bs d.bld), x.va, x.ve, x.vi, x.vs, x.vo]) (v := .slice A5 n5 cap5) 2 sz22 rfl rfl rfl rfl (by simp) (by simp) ?_
  refine j_perm (S' := [[(g1, .cells ([.string (bs []), .string (bs []), .string (bs []), .slice none 0 0, .slice none 0 0, .slice none 0 0, .slice none 0 0, .slice none 0 0] : List Value).toArray 28 (0, 0))], [(g0, .cells ([.string (bs d.name), .string (bs d.sys), .string (bs d.bld), .slice A5 n5 cap5, x.ve, x.vi, x.vs, x.vo] : List Value).toArray 28 (0, 0))], c5, []]) (by classical exact List.perm_iff_count.2 fun a => by simp only [List.set_cons_succ, List.set_cons_zero, List.flatten_cons, List.flatten_nil, List.append_nil, List.nil_append, List.cons_append, List.count_append, List.count_cons, List.count_nil] <;> omega) ?_
  refine j_lit0 Tryz.underlying23 sz48 (fun g8 hg8 ho8 => ?_)
  refine j_q (qs_field Tryz.underlying28 rfl sz23 (by decide) rfl) ?_
  refine j_q (qs_load (l := [.string (bs d.name), .string (bs d.sys), .string (bs d.bld), .slice A5 n5 cap5, x.ve, x.vi, x.vs, x.vo]) 2 Tryz.underlying23 rfl rfl rfl (congrArg some hve)) ?_
  refine j_append 0 Tryz.underlying23 Tryz.underlying23 (.inr ⟨_, rfl⟩) sb48 zero48 rfl ho8 rfl (src_rsln (hve ▸ h.e)) (flat_one (fun y _ => encV_one y)) ⟨(by simp only [List.length_nil, strs_length, flat_len encV_len, flat_len encO_len]; omega), (by decide)⟩ (fun v11 c11 ho11 => ?_)
  rw [List.nil_append] at ho11
  obtain ⟨n11, A11, cap11, rfl, hn11⟩ := own_form ho11 (by decide)
  refine j_q (qs_field Tryz.underlying28 rfl sz23 (by decide) rfl) ?_
  refine j_store (g := g0) (i := 4) (l := [.string (bs d.name), .string (bs d.sys), .string (bs d.bld), .slice A5 n5 cap5, x.ve, x.vi, x.vs, x.vo]) (v := .slice A11 n11 cap11) 2 sz23 rfl rfl rfl rfl (by simp) (by simp) ?_
  refine j_perm (S' := [[(g1, .cells ([.string (bs []), .string (bs []), .string (bs []), .slice none 0 0, .slice none 0 0, .slice none 0 0, .slice none 0 0, .slice none 0 0] : List Value).toArray 28 (0, 0))], [(g0, .cells ([.string (bs d.name), .string (bs d.sys), .string (bs d.bld), .slice A5 n5 cap5, .slice A11 n11 cap11, x.vi, x.vs, x.vo] : List Value).toArray 28 (0, 0))], (c11 ++ c5), []]) (by classical exact List.perm_iff_count.2 fun a => by simp only [List.set_cons_succ, List.set_cons_zero, List.flatten_cons, List.flatten_nil, List.append_nil, List.nil_append, List.cons_append, List.count_append, List.count_cons, List.count_nil] <;> omega) ?_
  refine j_lit (vs := []) Tryz.underlying25 sz49 zero49 rfl (by simp) ⟨rfl, by decide⟩ (fun g14 v14 c14 hv14 hc14 ho14 => ?_)
  subst hv14 hc14
  refine j_q (qs_field Tryz.underlying28 rfl sz25 (by decide) rfl) ?_
  refine j_q (qs_load (l := [.string (bs d.name), .string (bs d.sys), .string (bs d.bld), .slice A5 n5 cap5, .slice A11 n11 cap11, x.vi, x.vs, x.vo]) 2 Tryz.underlying25 rfl rfl rfl (congrArg some hvs)) ?_
  refine j_append 0 Tryz.underlying25 Tryz.underlying25 (.inr ⟨_, rfl⟩) sb49 zero49 rfl ho14 rfl (src_strz (hvs ▸ h.s)) (strs_one _) ⟨(by simp only [List.length_nil, strs_length, flat_len encV_len, flat_len encO_len]; omega), (by decide)⟩ (fun v17 c17 ho17 => ?_)
  rw [List.nil_append] at ho17
  obtain ⟨n17, A17, cap17, rfl, hn17⟩ := own_form ho17 (by decide)
  refine j_q (qs_field Tryz.underlying28 rfl sz25 (by decide) rfl) ?_
  refine j_store (g := g0) (i := 6) (l := [.string (bs d.name), .string (bs d.sys), .string (bs d.bld), .slice A5 n5 cap5, .slice A11 n11 cap11, x.vi, x.vs, x.vo]) (v := .slice A17 n17 cap17) 2 sz25 rfl rfl rfl rfl (by simp) (by simp) ?_
  refine j_perm (S' := [[(g1, .cells ([.string (bs []), .string (bs []), .string (bs []), .slice none 0 0, .slice none 0 0, .slice none 0 0, .slice none 0 0, .slice none 0 0] : List Value).toArray 28 (0, 0))], [(g0, .cells ([.string (bs d.name), .string (bs d.sys), .string (bs d.bld), .slice A5 n5 cap5, .slice A11 n11 cap11, x.vi, .slice A17 n17 cap17, x.vo] : List Value).toArray 28 (0, 0))], (c17 ++ (c11 ++ c5)), []]) (by classical exact List.perm_iff_count.2 fun a => by simp only [List.set_cons_succ, List.set_cons_zero, List.flatten_cons, List.flatten_nil, List.append_nil, List.nil_append, List.cons_append, List.count_append, List.count_cons, List.count_nil] <;> omega) ?_
  refine j_lit0 Tryz.underlying26 sz53 (fun g20 hg20 ho20 => ?_)
  refine j_q (qs_field Tryz.underlying28 rfl sz26 (by decide) rfl) ?_
  refine j_q (qs_load (l := [.string (bs d.name), .string (bs d.sys), .string (bs d.bld), .slice A5 n5 cap5, .slice A11 n11 cap11, x.vi, .slice A17 n17 cap17, x.vo]) 2 Tryz.underlying26 rfl rfl rfl (congrArg some hvo)) ?_
  refine j_append 0 Tryz.underlying26 Tryz.underlying26 (.inr ⟨_, rfl⟩) sb53 zero53 rfl ho20 rfl (src_rsln (hvo ▸ h.o)) (flat_one (fun y _ => encO_one y)) ⟨(by simp only [List.length_nil, strs_length, flat_len encV_len, flat_len encO_len]; omega), (by decide)⟩ (fun v23 c23 ho23 => ?_)
  rw [List.nil_append] at ho23
  obtain ⟨n23, A23, cap23, rfl, hn23⟩ := own_form ho23 (by decide)
  refine j_q (qs_field Tryz.underlying28 rfl sz26 (by decide) rfl) ?_
  refine j_store (g := g0) (i := 7) (l := [.string (bs d.name), .string (bs d.sys), .string (bs d.bld), .slice A5 n5 cap5, .slice A11 n11 cap11, x.vi, .slice A17 n17 cap17, x.vo]) (v := .slice A23 n23 cap23) 2 sz26 rfl rfl rfl rfl (by simp) (by simp) ?_
  refine j_perm (S' := [[(g1, .cells ([.string (bs []), .string (bs []), .string (bs []), .slice none 0 0, .slice none 0 0, .slice none 0 0, .slice none 0 0, .slice none 0 0] : List Value).toArray 28 (0, 0))], [(g0, .cells ([.string (bs d.name), .string (bs d.sys), .string (bs d.bld), .slice A5 n5 cap5, .slice A11 n11 cap11, x.vi, .slice A17 n17 cap17, .slice A23 n23 cap23] : List Value).toArray 28 (0, 0))], (c23 ++ (c17 ++ (c11 ++ c5))), []]) (by classical exact List.perm_iff_count.2 fun a => by simp only [List.set_cons_succ, List.set_cons_zero, List.flatten_cons, List.flatten_nil, List.append_nil, List.nil_append, List.cons_append, List.count_append, List.count_cons, List.count_nil] <;> omega) ?_
  refine j_q (qs_ac) ?_
  refine j_q (qs_ac) ?_
  refine j_perm (S' := [[], [], [(g1, .cells ([.string (bs []), .string (bs []), .string (bs []), .slice none 0 0, .slice none 0 0, .slice none 0 0, .slice none 0 0, .slice none 0 0] : List Value).toArray 28 (0, 0))], [(g0, .cells ([.string (bs d.name), .string (bs d.sys), .string (bs d.bld), .slice A5 n5 cap5, .slice A11 n11 cap11, x.vi, .slice A17 n17 cap17, .slice A23 n23 cap23] : List Value).toArray 28 (0, 0))], (c23 ++ (c17 ++ (c11 ++ c5))), []]) (by classical exact List.perm_iff_count.2 fun a => by simp only [List.set_cons_succ, List.set_cons_zero, List.flatten_cons, List.flatten_nil, List.append_nil, List.nil_append, List.cons_append, List.count_append, List.count_cons, List.count_nil] <;> omega) ?_
  refine j_loop (fun m vs S' => ∃ (i : Nat) (iv : Value) (ci F : SH) (mi : List MI), vs = [iv, .int .i64 (i : Int)] ∧ S' = [ci, F, [(g1, .cells ([.string (bs []), .string (bs []), .string (bs []), .slice none 0 0, .slice none 0 0, .slice none 0 0, .slice none 0 0, .slice none 0 0] : List Value).toArray 28 (0, 0))], [(g0, .cells ([.string (bs d.name), .string (bs d.sys), .string (bs d.bld), .slice A5 n5 cap5, .slice A11 n11 cap11, x.vi, .slice A17 n17 cap17, .slice A23 n23 cap23] : List Value).toArray 28 (0, 0))], (c23 ++ (c17 ++ (c11 ++ c5))), []] ∧ Sx.Own 68 2 ((mi.map encI).flatten) iv ci ∧ Mine mi F ∧ mi.map MI.pi = (x.mi.take i).map MI.pi ∧ i ≤ x.mi.length ∧ m = x.mi.length - i) ⟨_, 0, .slice none 0 0, [], [], [], rfl, rfl, own_nil, mine_nil, rfl, Nat.zero_le _, rfl⟩ ?_
  rintro m vs S' hlen ⟨i, iv, ci, F, mi, rfl, rfl, hoi, hmine, hmi, hin, rfl⟩
  refine j_q (qs_field Tryz.underlying28 rfl sz24 (by decide) rfl) ?_
  refine j_q (qs_load (l := [.string (bs d.name), .string (bs d.sys), .string (bs d.bld), .slice A5 n5 cap5, .slice A11 n11 cap11, x.vi, .slice A17 n17 cap17, .slice A23 n23 cap23]) 3 Tryz.underlying24 rfl rfl rfl (congrArg some hvi)) ?_
  refine j_q (qs_lenl Tryz.underlying24 rfl) ?_
  refine j_q (qs_lss rfl rfl) ?_
  refine j_cond rfl (fun hc0 => ?_) (fun hc0 => ?_)
  · skip
    have hi : i < x.mi.length := by
      simp only [Bool.and_eq_true, Bool.or_eq_true, Bool.and_eq_false_iff, Bool.or_eq_false_iff, Bool.not_eq_true', Bool.not_eq_false', decide_eq_true_eq, decide_eq_false_iff_not, beq_iff_eq, beq_eq_false_iff_ne, bne_iff_ne, bne_eq_false_iff_eq, ne_eq, Int.toNat_natCast] at *
      omega
    obtain ⟨rfl, hgi, hcells⟩ := hAi (by omega)
    have hip := few.ip _ (hmem _ (getD_mem (d := m0) hi))
    simp only [MI.pi] at hip
    have hsx := h.io _ (getD_mem (d := m0) hi)
    obtain ⟨Ax, capx, hvx, hcapx⟩ := strz_form hsx
    have hml : mi.length = i := by
      have := congrArg List.length hmi
      simp only [List.length_map, List.length_take] at this
      omega
    refine j_mix [[(g0, .cells ([.string (bs d.name), .string (bs d.sys), .string (bs d.bld), .slice A5 n5 cap5, .slice A11 n11 cap11, x.vi, .slice A17 n17 cap17, .slice A23 n23 cap23] : List Value).toArray 28 (0, 0))]] (Le.of_sub (by repeat first | exact List.Sublist.refl _ | exact List.nil_sublist _ | apply List.Sublist.cons_cons | apply List.Sublist.cons)) ?_
    refine j_mq (qs_field Tryz.underlying28 rfl sz24 (by decide) rfl) ?_
    refine j_mq (qs_load (l := [.string (bs d.name), .string (bs d.sys), .string (bs d.bld), .slice A5 n5 cap5, .slice A11 n11 cap11, x.vi, .slice A17 n17 cap17, .slice A23 n23 cap23]) 0 Tryz.underlying24 rfl rfl rfl (congrArg some hvi)) ?_
    refine j_mq (qs_ixn (g := gi) (off := offi) (i := i) Tryz.underlying24 sz68 rfl rfl (by omega)) ?_
    refine j_mq (qs_field Tryz.underlying68 rfl sz49 (by decide) rfl) ?_
    refine j_mq (qs_loadrec (v := .string (bs (x.mi.getD i m0).drv)) (encA := encI) (rs := x.mi) (d := m0) (i := i) (fo := 0) encI_len (rd_cells hcells (by simp)) hi Tryz.underlying49 rfl rfl rfl) ?_
    refine j_mq (qs_field Tryz.underlying28 rfl sz24 (by decide) rfl) ?_
    refine j_mq (qs_load (l := [.string (bs d.name), .string (bs d.sys), .string (bs d.bld), .slice A5 n5 cap5, .slice A11 n11 cap11, x.vi, .slice A17 n17 cap17, .slice A23 n23 cap23]) 0 Tryz.underlying24 rfl rfl rfl (congrArg some hvi)) ?_
    refine j_mq (qs_ixn (g := gi) (off := offi) (i := i) Tryz.underlying24 sz68 rfl rfl (by omega)) ?_
    refine j_mq (qs_field Tryz.underlying68 rfl sz22 (by decide) rfl) ?_
    refine j_mq (qs_loadrec (v := .slice Ax (x.mi.getD i m0).outs.length capx) (encA := encI) (rs := x.mi) (d := m0) (i := i) (fo := 1) encI_len (rd_cells hcells (by simp)) hi Tryz.underlying22 rfl rfl (congrArg some hvx)) ?_
    refine j_lit (vs := []) Tryz.underlying22 sz9 zero9 rfl (by simp) ⟨rfl, by decide⟩ (fun g42 v42 c42 hv42 hc42 ho42 => ?_)
    subst hv42 hc42
    refine j_mD0 (Le.of_sub (by repeat first | exact List.Sublist.refl _ | exact List.nil_sublist _ | apply List.Sublist.cons_cons | apply List.Sublist.cons)) ?_
    refine j_append 0 Tryz.underlying22 Tryz.underlying22 (.inr ⟨_, rfl⟩) sb9 zero9 rfl ho42 rfl (src_strz (hvx ▸ hsx)) (strs_one _) ⟨(by simp only [List.length_nil, strs_length, flat_len encV_len, flat_len encO_len]; omega), (by decide)⟩ (fun v43 c43 ho43 => ?_)
    rw [List.nil_append] at ho43
    obtain ⟨n43, A43, cap43, rfl, hn43⟩ := own_form ho43 (by decide)
    refine j_mD0 (Le.of_sub (by repeat first | exact List.Sublist.refl _ | exact List.nil_sublist _ | apply List.Sublist.cons_cons | apply List.Sublist.cons)) ?_
    refine j_mq (v := .agg (encI ⟨(x.mi.getD i m0).drv, (x.mi.getD i m0).outs, .slice A43 n43 cap43⟩).toArray) (qs_build (places := [(0, 1), (1, 1)]) (offs := [(0, [.string (bs (x.mi.getD i m0).drv)]), (1, [.slice A43 n43 cap43])]) Tryz.underlying68 zero68 (by kernel_rfl) rfl (by rintro (_ | _ | j) p q hp hq <;> first | (simp at hp hq; subst hp hq; exact ⟨rfl, rfl, by simp⟩) | (simp at hp))) ?_
    refine j_litw (vs := encI ⟨(x.mi.getD i m0).drv, (x.mi.getD i m0).outs, .slice A43 n43 cap43⟩) Tryz.underlying24 sz68 zero68 rfl rfl ⟨rfl, by decide, by decide⟩ (fun g45 hg45 ho45 => ?_)
    refine j_mD0 (Le.of_sub (by repeat first | exact List.Sublist.refl _ | exact List.nil_sublist _ | apply List.Sublist.cons_cons | apply List.Sublist.cons)) ?_
    refine j_append 2 Tryz.underlying24 Tryz.underlying24 (.inr ⟨_, rfl⟩) sb68 zero68 rfl hoi rfl (.inl ⟨_, _, rfl, rd_own (off := 0) (n := 2) 0 rfl rfl, rfl⟩) (by intro u hu; simp [encI] at hu; rcases hu with rfl | rfl <;> rfl) ⟨(by simp only [flat_len encI_len, List.length_take, List.drop_zero, encI_len]; omega), (by decide)⟩ (fun v46 c46 ho46 => ?_)
    have ho46 : Sx.Own 68 2 (((mi ++ [MI.mk (x.mi.getD i m0).drv (x.mi.getD i m0).outs (.slice A43 n43 cap43)]).map encI).flatten) v46 c46 := by
      have e : ((mi ++ [MI.mk (x.mi.getD i m0).drv (x.mi.getD i m0).outs (.slice A43 n43 cap43)]).map encI).flatten = (mi.map encI).flatten ++ encI (MI.mk (x.mi.getD i m0).drv (x.mi.getD i m0).outs (.slice A43 n43 cap43)) := by simp
      rw [e]
      exact ho46
    refine j_subl (S' := [c43, c46, F, [(g1, .cells ([.string (bs []), .string (bs []), .string (bs []), .slice none 0 0, .slice none 0 0, .slice none 0 0, .slice none 0 0, .slice none 0 0] : List Value).toArray 28 (0, 0))], [(g0, .cells ([.string (bs d.name), .string (bs d.sys), .string (bs d.bld), .slice A5 n5 cap5, .slice A11 n11 cap11, x.vi, .slice A17 n17 cap17, .slice A23 n23 cap23] : List Value).toArray 28 (0, 0))], (c23 ++ (c17 ++ (c11 ++ c5))), []]) (by repeat first | exact List.Sublist.refl _ | exact List.nil_sublist _ | apply List.Sublist.cons_cons | apply List.Sublist.cons) ?_
    refine j_perm (S' := [c46, c43 ++ F, [(g1, .cells ([.string (bs []), .string (bs []), .string (bs []), .slice none 0 0, .slice none 0 0, .slice none 0 0, .slice none 0 0, .slice none 0 0] : List Value).toArray 28 (0, 0))], [(g0, .cells ([.string (bs d.name), .string (bs d.sys), .string (bs d.bld), .slice A5 n5 cap5, .slice A11 n11 cap11, x.vi, .slice A17 n17 cap17, .slice A23 n23 cap23] : List Value).toArray 28 (0, 0))], (c23 ++ (c17 ++ (c11 ++ c5))), []]) (by classical exact List.perm_iff_count.2 fun a => by simp only [List.set_cons_succ, List.set_cons_zero, List.flatten_cons, List.flatten_nil, List.append_nil, List.nil_append, List.cons_append, List.count_append, List.count_cons, List.count_nil] <;> omega) ?_
    refine j_mR _ (.refl _) ?_
    refine j_mend ?_
    refine j_q (qs_add64 rfl rfl (by first | omega | (simp only [Bool.and_eq_true, Bool.or_eq_true, Bool.and_eq_false_iff, Bool.or_eq_false_iff, Bool.not_eq_true', Bool.not_eq_false', decide_eq_true_eq, decide_eq_false_iff_not, beq_iff_eq, beq_eq_false_iff_ne, bne_iff_ne, bne_eq_false_iff_eq, ne_eq, Int.toNat_natCast] at *; omega))) ?_
    refine j_back rfl ?_
    exact ⟨x.mi.length - (i + 1), by omega, i + 1, v46, c46, c43 ++ F, mi ++ [MI.mk (x.mi.getD i m0).drv (x.mi.getD i m0).outs (.slice A43 n43 cap43)], bools2 rfl (by omega), rfl, ho46, mine_snoc hmine ho43, ins_take hmi hi _, by omega, rfl⟩
  · skip
    obtain rfl : i = x.mi.length := by
      simp only [Bool.and_eq_true, Bool.or_eq_true, Bool.and_eq_false_iff, Bool.or_eq_false_iff, Bool.not_eq_true', Bool.not_eq_false', decide_eq_true_eq, decide_eq_false_iff_not, beq_iff_eq, beq_eq_false_iff_ne, bne_iff_ne, bne_eq_false_iff_eq, ne_eq, Int.toNat_natCast] at *
      omega
    rw [List.take_length] at hmi
    obtain ⟨ni2, Ai2, capi2, rfl, hni2⟩ := own_form hoi (by decide)
    refine j_q (qs_field Tryz.underlying28 rfl sz24 (by decide) rfl) ?_
    refine j_store (g := g0) (i := 5) (l := [.string (bs d.name), .string (bs d.sys), .string (bs d.bld), .slice A5 n5 cap5, .slice A11 n11 cap11, x.vi, .slice A17 n17 cap17, .slice A23 n23 cap23]) (v := .slice Ai2 ni2 capi2) 3 sz24 rfl rfl rfl rfl (by simp) (by simp) ?_
    refine j_q (qs_loadw (l := [.string (bs d.name), .string (bs d.sys), .string (bs d.bld), .slice A5 n5 cap5, .slice A11 n11 cap11, .slice Ai2 ni2 capi2, .slice A17 n17 cap17, .slice A23 n23 cap23]) 3 Tryz.underlying28 rfl sz28 rfl rfl rfl) ?_
    refine j_storew (l := [.string (bs []), .string (bs []), .string (bs []), .slice none 0 0, .slice none 0 0, .slice none 0 0, .slice none 0 0, .slice none 0 0]) (vs := [.string (bs d.name), .string (bs d.sys), .string (bs d.bld), .slice A5 n5 cap5, .slice A11 n11 cap11, .slice Ai2 ni2 capi2, .slice A17 n17 cap17, .slice A23 n23 cap23]) 2 sz28 rfl rfl rfl (by intro u hu; simp only [List.mem_cons, List.not_mem_nil, or_false] at hu; rcases hu with rfl | rfl | rfl | rfl | rfl | rfl | rfl | rfl <;> rfl) rfl rfl ?_
    first
      | refine j_ret_con (vs := [_]) (fun w' hw' => ⟨rv_agg 0 Tryz.underlying28 rfl sz28 rfl rfl rfl hw', trivial⟩) ?_
      | refine j_ret_con (vs := [_]) (fun w' hw' => ⟨rv_agg 1 Tryz.underlying28 rfl sz28 rfl rfl rfl hw', trivial⟩) ?_
      | refine j_ret_con (vs := [_]) (fun w' hw' => ⟨rv_agg 2 Tryz.underlying28 rfl sz28 rfl rfl rfl hw', trivial⟩) ?_
      | refine j_ret_con (vs := [_]) (fun w' hw' => ⟨rv_agg 3 Tryz.underlying28 rfl sz28 rfl rfl rfl hw', trivial⟩) ?_
    have hone8 : ∀ u ∈ dcells d ⟨.slice A5 n5 cap5, .slice A11 n11 cap11, .slice Ai2 ni2 capi2, .slice A17 n17 cap17, .slice A23 n23 cap23, mi⟩, oneV u = true := by
      intro u hu
      simp only [dcells, List.mem_cons, List.not_mem_nil, or_false] at hu
      rcases hu with rfl | rfl | rfl | rfl | rfl | rfl | rfl | rfl <;> rfl
    refine ⟨⟨.slice A5 n5 cap5, .slice A11 n11 cap11, .slice Ai2 ni2 capi2, .slice A17 n17 cap17, .slice A23 n23 cap23, mi⟩, rfl, hone8, fun w' hw' => ?_⟩
    exact ⟨strz_ownw ho5 (fun p hp => hw' p (by simp [hp])), rsln_ownw ho11 (by decide) (flat_len encV_len _) (fun p hp => hw' p (by simp [hp])), rsln_ownw hoi (by decide) (flat_len encI_len _) (fun p hp => hw' p (by simp [hp])), fun m hm => by obtain ⟨c, h1, h2⟩ := hmine m hm; exact strz_ownw h1 (fun p hp => hw' p (by simp [h2 p hp])), by rw [h.im, ← hmi], strz_ownw ho17 (fun p hp => hw' p (by simp [hp])), rsln_ownw ho23 (by decide) (flat_len encO_len _) (fun p hp => hw' p (by simp [hp]))⟩
/-- pantry.pantrylaw14.known -/
theorem known_con (w : World) : Con Tryz.prog 18 [] w [] fun v _ => v = .bool true := by
  refine con_of_tree mix Tryz.func18 T18_ok (by kernel_rfl) ?_
  unfold T18
  refine j_q (qs_ac) ?_
  refine j_q (v := .agg (encO ⟨sOut, [], false, zHash⟩).toArray) (qs_build (places := [(0, 1), (1, 1), (2, 1), (3, 32)]) (offs := [(0, [.string (bs sOut)])]) Tryz.underlying53 zero53 (by kernel_rfl) rfl (by rintro (_ | j) p q hp hq <;> first | (simp at hp hq; subst hp hq; exact ⟨rfl, rfl, by simp⟩) | (simp at hp))) ?_
  refine j_litw (vs := encO ⟨sOut, [], false, zHash⟩) Tryz.underlying26 sz53 zero53 rfl rfl ⟨rfl, by decide, by decide⟩ (fun g2 hg2 ho2 => ?_)
  refine j_q (v := dval kd ⟨.slice none 0 0, .slice none 0 0, .slice none 0 0, .slice none 0 0, .slice (some ⟨g2, 0, none⟩) 1 1, []⟩) (qs_build (places := [(0, 1), (1, 1), (2, 1), (3, 1), (4, 1), (5, 1), (6, 1), (7, 1)]) (offs := [(0, [.string (bs [120])]), (1, [.string (bs [115])]), (2, [.string (bs [98])]), (7, [.slice (some ⟨g2, 0, none⟩) 1 1])]) Tryz.underlying28 zero28 (by kernel_rfl) rfl (by rintro (_ | _ | _ | _ | j) p q hp hq <;> first | (simp at hp hq; subst hp hq; exact ⟨rfl, rfl, by simp⟩) | (simp at hp))) ?_
  refine j_q (qs_call ent13 rfl rfl rfl (fun w' hw' => dprint_con kd _ w' ⟨strz_nil, ⟨rfl, .inl ⟨rfl, rfl⟩⟩, ⟨rfl, .inl ⟨rfl, rfl⟩⟩, (fun m hm => by cases hm), rfl, strz_nil, rsln_ownw (len := 1) (xs := (kd.outs.map encO).flatten) (by simpa using ho2) (by decide) rfl (fun p hp => hw'.own p (by simp at hp; subst hp; simp))⟩ (by unfold big2 big1; decide) (fun y hy => by cases hy))) ?_
  refine j_q (qs_ext (vs := [.string (bs (prS kd)), .int .i64 (chk kd)]) rfl rfl) ?_
  refine j_q (qs_ext (vs := [.string (bs (prS kd)), .int .i64 (chk kd)]) rfl rfl) ?_
  refine j_q (qs_eql rfl rfl) ?_
  refine j_g rfl (fun hb => qs_mt rfl) ?_
  refine j_g rfl (fun hb => qs_seql (gd_eq hb) rfl) ?_
  refine j_q (qs_and rfl rfl) ?_
  refine j_ret_con (vs := [_]) (fun w' hw' => ⟨rfl, trivial⟩) ?_
  show Value.bool _ = Value.bool true
  congr 1
  unfold prS
  rw [kd_chk, if_pos rfl, kd_text]
  rfl
/-- pantry.pantrylaw14.DrvPrints -/
theorem drvPrints_con (d : PD) (x : DV) (w : World) (h : DR w d x) (sz : Szd d) : Con Tryz.prog 3 [dval d x] w [] fun v _ => v = .bool true := by
  refine con_of_tree mix Tryz.func3 T3_ok (by kernel_rfl) ?_
  unfold T3
  refine j_box (l := dcells d x) rfl (fun g0 hg0 hs0 => ?_)
  refine j_q (qs_ac) ?_
  refine j_q (qs_loadw (l := dcells d x) 0 Tryz.underlying28 rfl sz28 rfl rfl rfl) ?_
  refine j_q (qs_call ent11 rfl rfl rfl (fun w' hw' => heavy_con d x w' (h.keep hw') sz)) ?_
  refine j_cond rfl (fun hc0 => ?_) (fun hc0 => ?_)
  · skip
    refine j_q (qs_ac) ?_
    refine j_ret_con (vs := [_]) (fun w' hw' => ⟨rfl, trivial⟩) ?_
    rfl
  · skip
    have hb : big2 d ≤ 16000 := heavy_no hc0
    refine j_q (qs_loadw (l := dcells d x) 0 Tryz.underlying28 rfl sz28 rfl rfl rfl) ?_
    refine j_call0 ent12 rfl rfl rfl (fun w' hw' => dclone_con d x w' (h.keep hw') hb) (fun u S2 hu => ?_)
    obtain ⟨x2, rfl, hone, hF⟩ := hu
    refine j_perm (S' := [S2.flatten, [(g0, .cells (dcells d x).toArray 28 (0, 0))], []]) (by simp) ?_
    refine j_alloc zero28 (fun g7 hg7 hs7 => ?_)
    refine j_storew (l := [.string (bs []), .string (bs []), .string (bs []), .slice none 0 0, .slice none 0 0, .slice none 0 0, .slice none 0 0, .slice none 0 0]) (vs := dcells d x2) 0 sz28 rfl rfl rfl hone rfl rfl ?_
    refine j_q (qs_loadw (l := dcells d x2) 0 Tryz.underlying28 rfl sz28 rfl rfl rfl) ?_
    refine j_q (qs_call ent13 rfl rfl rfl (fun w' hw' => dprint_con d x2 w' (hF w' (fun p hp => hw'.own p (by simp [hp]))) hb sz.outs2)) ?_
    refine j_q (qs_ext (vs := [.string (bs (prS d)), .int .i64 (chk d)]) rfl rfl) ?_
    refine j_q (qs_ext (vs := [.string (bs (prS d)), .int .i64 (chk d)]) rfl rfl) ?_
    refine j_q (qs_loadw (l := dcells d x) 2 Tryz.underlying28 rfl sz28 rfl rfl rfl) ?_
    refine j_q (qs_call ent14 rfl rfl rfl (fun w' hw' => rprint_con d x w' (h.keep hw') hb sz.outs2)) ?_
    refine j_q (qs_ext (vs := [.string (bs (prS d)), .int .i64 (chk d)]) rfl rfl) ?_
    refine j_q (qs_ext (vs := [.string (bs (prS d)), .int .i64 (chk d)]) rfl rfl) ?_
    refine j_draw ?_
    refine jq_q (qs_loadw (l := dcells d x2) 0 Tryz.underlying28 rfl sz28 rfl rfl rfl) ?_
    refine jq_q (qs_call ent15 rfl rfl rfl (fun w' hw' => dcheck_con d x2 w' (hF w' (fun p hp => hw'.own p (by simp [hp]))) hb sz.outs2)) ?_
    refine jq_q (qs_loadw (l := dcells d x) 2 Tryz.underlying28 rfl sz28 rfl rfl rfl) ?_
    refine jq_q (qs_call ent16 rfl rfl rfl (fun w' hw' => rcheck_con d x w' (h.keep hw') hb sz.outs2)) ?_
    refine jq_q (qs_eql rfl rfl) ?_
    refine jq_g rfl (fun hb => qs_mt rfl) ?_
    refine jq_g rfl (fun hb => qs_mt rfl) ?_
    refine jq_g rfl (fun hb => qs_seql (gd_eq hb) (gd_eq hb)) ?_
    refine jq_q (qs_and rfl rfl) ?_
    refine jq_g rfl (fun hb => qs_mt rfl) ?_
    refine jq_g rfl (fun hb => qs_mt rfl) ?_
    refine jq_g rfl (fun hb => qs_eql (gd_eq hb) (gd_eq hb)) ?_
    refine jq_q (qs_and rfl rfl) ?_
    refine jq_g rfl (fun hb1 => qs_loadw (l := dcells d x2) 0 Tryz.underlying28 rfl sz28 rfl rfl rfl) ?_
    refine jq_g rfl (fun hb1 => qs_call ent17 rfl rfl (args1 (gd_eq hb1)) (fun w' hw' => ltext_con d x2 w' (hF w' (fun p hp => hw'.own p (by simp [hp]))) hb sz.outs)) ?_
    refine jq_g rfl (fun hb1 => qs_loadw (l := dcells d x) 2 Tryz.underlying28 rfl sz28 rfl rfl rfl) ?_
    refine jq_g rfl (fun hb1 => qs_call ent17 rfl rfl (args1 (gd_eq hb1)) (fun w' hw' => ltext_con d x w' (h.keep hw') hb sz.outs)) ?_
    refine jq_g rfl (fun hb => qs_seql (gd_eq hb) (gd_eq hb)) ?_
    refine jq_q (qs_and rfl rfl) ?_
    refine jq_g rfl (fun hb1 => qs_call ent18 rfl rfl rfl (fun w' hw' => known_con w')) ?_
    refine jq_q (qs_and rfl rfl) ?_
    refine jq_nil ?_
    refine j_ret_con (vs := [_]) (fun w' hw' => ⟨rfl, trivial⟩) ?_
    show Value.bool _ = Value.bool true
    congr 1
    simp
end Go.Proofs.YtfeabbeebkkhaaaGreat
