/- Part 8. -/
import Derived.Test.YtfeabbeebkkhaaaGreatPC2
import Derived.Test.YtfeabbeebkkhaaaGreatPC3
import Derived.Test.YtfeabbeebkkhaaaGreatPC7
import Derived.Test.YtfeabbeebkkhaaaGreatPC5
import Derived.Lib.SmallJoins
import Derived.SizedLaws
import Derived.OpenShut
import Derived.SliceStrings
import Derived.Test.YtfeabbeebkkhaaaGreatRows
import Derived.ProofKit
import Derived.Carry
/-! Dv37 -/
namespace Go.Proofs.YtfeabbeebkkhaaaGreat
open Go Go.Sx
set_option maxRecDepth 100000
set_option maxHeartbeats 4000000
set_option linter.unusedVariables false
set_option linter.unusedSimpArgs false
attribute [local irreducible] J JQ QS Con W opW
def dSrc (d : PD) (zs : List Bs) : PD := ⟨d.name, d.sys, d.bld, d.args, d.env, d.ins, zs, d.outs⟩
theorem sl_le (zs : List Bs) (k : Nat) (h : ∀ z ∈ zs, z.length ≤ k) : sl zs ≤ k * zs.length := by
  induction zs with
  | nil => simp [sl]
  | cons a l ih =>
    have h1 := h a (by simp)
    have h2 := ih fun x hx => h x (by simp [hx])
    simp only [sl, List.map_cons, List.sum_cons, List.length_cons, Nat.mul_add, Nat.mul_one] at h2 ⊢
    omega
theorem dSrc_big {d : PD} {zs : List Bs} (hb : big2 d ≤ 16000) (hn : zs.length ≤ 30) (hp : zs.all isPath = true) : big2 (dSrc d zs) ≤ 200000 := by
  have h1 := sl_le zs 113 (fun z hz => path_len (all_get hp hz))
  unfold big2 big1 at hb ⊢
  simp only [dSrc]
  omega
theorem strict_nil : Strict [] := List.Pairwise.nil
theorem refsP_paths {d : PD} (h : chk d = 0) : (refsP d).all isPath = true := by
  rw [List.all_eq_true]
  intro r hr
  obtain ⟨_, _, _, p4, p5, _⟩ := chk0_parts (chk_zero h)
  rcases (refsP_mem h r).1 hr with h1 | h1
  · obtain ⟨y, hy, rfl⟩ := List.mem_map.1 h1
    obtain ⟨i, hi, rfl⟩ := List.getElem_of_mem hy
    have := firstE_all p4 i hi
    unfold chkI at this
    have hg : d.ins.getD i i0 = d.ins[i] := by rw [List.getD_eq_getElem?_getD, List.getElem?_eq_getElem hi]; rfl
    rw [hg] at this
    split at this
    · cases this
    · rename_i hno
      have h2 : isDrvP d.ins[i].drv = true := by
        cases hx : isDrvP d.ins[i].drv with
        | true => rfl
        | false => rw [hx] at hno; simp at hno
      unfold isDrvP at h2
      simp only [Bool.and_eq_true] at h2
      exact h2.1.1
  · obtain ⟨i, hi, rfl⟩ := List.getElem_of_mem h1
    have := firstE_all p5 i hi
    unfold chkS at this
    have hg : d.srcs.getD i [] = d.srcs[i] := by rw [List.getD_eq_getElem?_getD, List.getElem?_eq_getElem hi]; rfl
    rw [hg] at this
    split at this
    · cases this
    · rename_i hno
      cases hx : isPath d.srcs[i] with
      | true => rfl
      | false => rw [hx] at hno; simp at hno
theorem path_law {d : PD} (h : chk d = 0) : (withE (refsP d) (d.name ++ sDrv) = 0 ∧ spE (withP kText (sum (dtext d)) (refsP d) (d.name ++ sDrv)) = 0 ∧ spB (withP kText (sum (dtext d)) (refsP d) (d.name ++ sDrv)) = d.name ++ sDrv) ∨ withE (refsP d) (d.name ++ sDrv) = 5 := by
  have hn := (chk0_parts (chk_zero h)).2.1
  have hr := refsP_paths h
  unfold withE withP
  rw [if_pos hn, if_pos hr, hn, hr]
  by_cases hl : (refsP d).length ≤ 1024
  · left
    have hp := path_is (kind := kText ++ refsOf (rise (refsP d))) (h := sum (dtext d)) hn
    rw [if_pos hl, decide_eq_true hl]
    refine ⟨rfl, ?_, ?_⟩
    · rw [if_pos (by decide)]
      unfold spE
      rw [if_pos hp]
    · rw [if_pos (by decide)]
      unfold spB
      rw [if_pos hp, path_drop]
  · right
    rw [if_neg hl]
theorem withP_len (k h : Bs) (rs : List Bs) (n : Bs) : (withP k h rs n).length ≤ 33 + n.length := by
  unfold withP
  split
  · rw [pathOf_length]; exact Nat.le_refl _
  · simp
theorem rise_refs (d : PD) : rise (refsP d) = refsP d := by
  unfold refsP
  split
  · exact (rise_eq (rise_strict _) (fun _ => Iff.rfl)).symm
  · exact (rise_eq strict_nil (fun _ => Iff.rfl)).symm
attribute [local irreducible] es qt cms hex sum Tbl Half lst isName isPath isDrvP leB chkO chkOuts chkN chkI chkIns firstE spA spB spE chkS chkV dtext chk chk0 tTs hget big1 big2 heavyP rise sortS cp withP withE refsP prS
theorem dclone2_con (d : PD) (x : DV) (w : World) (h : DR w d x) (hb : big2 d ≤ 16000) : Con Tryz.prog 12 [dval d x] w [] fun v S' => ∃ x' cO cI FI cS cA cV, v = dval d x' ∧ S' = [cI, FI, cO ++ (cS ++ (cV ++ cA))] ∧ DOwnE d x' cO cI FI cS cA cV := by
  refine con_of_tree mix Tryz.func12 T12_ok (by kernel_rfl) ?_
  unfold T12
  have hni : d.ins.length = x.mi.length := by rw [h.im, List.length_map]
  obtain ⟨Ao, capo, go, offo, hvo, hcapo, hAo⟩ := rsln_form h.o
  obtain ⟨Ai, capi, gi, offi, hvi, hcapi, hAi⟩ := rsln_form h.i
  obtain ⟨Ae, cape, ge, offe, hve, hcape, hAe⟩ := rsln_form h.e
  obtain ⟨As, caps, hvs, hcaps⟩ := strz_form h.s
  obtain ⟨Aa, capa, hva, hcapa⟩ := strz_form h.a
  have hmem : ∀ m ∈ x.mi, m.pi ∈ d.ins := fun m hm => by rw [h.im]; exact List.mem_map_of_mem hm
  have few := few_of (Nat.le_trans hb (by decide))
  have few4 := few.la
  have few5 := few.le
  have few6 := few.li
  have few7 := few.lo
  have few8 := few.ls
  refine j_box (l := [.string (bs d.name), .string (bs d.sys), .string (bs d.bld), x.va, x.ve, x.vi, x.vs, x.vo]) rfl (fun g0 hg0 hs0 => ?_)
  refine j_alloc zero28 (fun g1 hg1 hs1 => ?_)
  refine j_lit (vs := []) Tryz.underlying22 sz9 zero9 rfl (by simp) ⟨rfl, by decide⟩ (fun g2 v2 c2 hv2 hc2 ho2 => ?_)
  subst hv2 hc2
  refine j_q (qs_field Tryz.underlying28 rfl sz22 (by decide) rfl) ?_
  refine j_q (qs_load (l := [.string (bs d.name), .string (bs d.sys), .string (bs d.bld), x.va, x.ve, x.vi, x.vs, x.vo]) 2 Tryz.underlying22 rfl rfl rfl (congrArg some hva)) ?_
  refine j_append 0 Tryz.underlying22 Tryz.underlying22 (.inr ⟨_, rfl⟩) sb9 zero9 rfl ho2 rfl (src_strz (hva ▸ h.a)) (strs_one _) ⟨(by simp only [List.length_nil, strs_length, flat_len encV_len, flat_len encO_len]; omega), (by decide)⟩ (fun v5 c5 ho5 => ?_)
  rw [List.nil_append] at ho5
  obtain ⟨n5, A5, cap5, rfl, hn5⟩ := own_form ho5 (by decide)
  refine j_q (qs_field Tryz.underlying28 rfl sz22 (by decide) rfl) ?_
  refine j_store (g := g0) (i := 3) (l := [.string (bs d.name), .string (bs d.sys), .string (bs d.bld), x.va, x.ve, x.vi, x.vs, x.vo]) (v := .slice A5 n5 cap5) 2 sz22 rfl rfl rfl rfl (by simp) (by simp) ?_
  refine j_perm (S' := [[(g1, .cells ([.string (bs []), .string (bs []), .string (bs []), .slice none 0 0, .slice none 0 0, .slice none 0 0, .slice none 0 0, .slice none 0 0] : List Value).toArray 28 (0, 0))], [(g0, .cells ([.string (bs d.name), .string (bs d.sys), .string (bs d.bld), .slice A5 n5 cap5, x.ve, x.vi, x.vs, x.vo] : List Value).toArray 28 (0, 0))], c5, []]) (by classical exact List.perm_iff_count.2 fun a => by simp only [List.set_cons_succ, List.set_cons_zero, List.flatten_cons, List.flatten_nil, List.append_nil, List.nil_append, List.cons_append, List.count_append, List.count_cons, List.count_nil] <;> omega) ?_
  refine j_lit0 Tryz.underlying23 sz48 (fun g8 hg8 ho8 => ?_)
  refine j_q (qs_field Tryz.underlying28 rfl sz23 (by decide) rfl) ?_
  refine j_q (qs_load (l := [.string (bs d.name), .string (bs d.sys), .string (bs d.bld), .slice A5 n5 cap5, x.ve, x.vi, x.vs, x.vo]) 2 Tryz.underlying23 rfl rfl rfl (congrArg some hve)) ?_
  refine j_append 0 Tryz.underlying23 Tryz.underlying23 (.inr ⟨_, rfl⟩) sb48 zero48 rfl ho8 rfl (src_rsln (hve ▸ h.e)) (flat_one (fun y _ => encV_one y)) ⟨(by simp only [List.length_nil, strs_length, flat_len encV_len, flat_len encO_len]; omega), (by decide)⟩ (fun v11 c11 ho11 => ?_)
  rw [List.nil_append] at ho11
  obtain ⟨n11, A11, cap11, rfl, hn11⟩ := own_form ho11 (by decide)
  refine j_q (qs_field Tryz.underlying28 rfl sz23 (by decide) rfl) ?_
  refine j_store (g := g0) (i := 4) (l := [.string (bs d.name), .string (bs d.sys), .string (bs d.bld), .slice A5 n5 cap5, x.ve, x.vi, x.vs, x.vo]) (v := .slice A11 n11 cap11) 2 sz23 rfl rfl rfl rfl (by simp) (by simp) ?_
  refine j_perm (S' := [[(g1, .cells ([.string (bs []), .string (bs []), .string (bs []), .slice none 0 0, .slice none 0 0, .slice none 0 0, .slice none 0 0, .slice none 0 0] : List Value).toArray 28 (0, 0))], [(g0, .cells ([.string (bs d.name), .string (bs d.sys), .string (bs d.bld), .slice A5 n5 cap5, .slice A11 n11 cap11, x.vi, x.vs, x.vo] : List Value).toArray 28 (0, 0))], (c11 ++ c5), []]) (by classical exact List.perm_iff_count.2 fun a => by simp only [List.set_cons_succ, List.set_cons_zero, List.flatten_cons, List.flatten_nil, List.append_nil, List.nil_append, List.cons_append, List.count_append, List.count_cons, List.count_nil] <;> omega) ?_
  refine j_lit (vs := []) Tryz.underlying25 sz49 zero49 rfl (by simp) ⟨rfl, by decide⟩ (fun g14 v14 c14 hv14 hc14 ho14 => ?_)
  subst hv14 hc14
  refine j_q (qs_field Tryz.underlying28 rfl sz25 (by decide) rfl) ?_
  refine j_q (qs_load (l := [.string (bs d.name), .string (bs d.sys), .string (bs d.bld), .slice A5 n5 cap5, .slice A11 n11 cap11, x.vi, x.vs, x.vo]) 2 Tryz.underlying25 rfl rfl rfl (congrArg some hvs)) ?_
  refine j_append 0 Tryz.underlying25 Tryz.underlying25 (.inr ⟨_, rfl⟩) sb49 zero49 rfl ho14 rfl (src_strz (hvs ▸ h.s)) (strs_one _) ⟨(by simp only [List.length_nil, strs_length, flat_len encV_len, flat_len encO_len]; omega), (by decide)⟩ (fun v17 c17 ho17 => ?_)
  rw [List.nil_append] at ho17
  obtain ⟨n17, A17, cap17, rfl, hn17⟩ := own_form ho17 (by decide)
  refine j_q (qs_field Tryz.underlying28 rfl sz25 (by decide) rfl) ?_
  refine j_store (g := g0) (i := 6) (l := [.string (bs d.name), .string (bs d.sys), .string (bs d.bld), .slice A5 n5 cap5, .slice A11 n11 cap11, x.vi, x.vs, x.vo]) (v := .slice A17 n17 cap17) 2 sz25 rfl rfl rfl rfl (by simp) (by simp) ?_
  refine j_perm (S' := [[(g1, .cells ([.string (bs []), .string (bs []), .string (bs []), .slice none 0 0, .slice none 0 0, .slice none 0 0, .slice none 0 0, .slice none 0 0] : List Value).toArray 28 (0, 0))], [(g0, .cells ([.string (bs d.name), .string (bs d.sys), .string (bs d.bld), .slice A5 n5 cap5, .slice A11 n11 cap11, x.vi, .slice A17 n17 cap17, x.vo] : List Value).toArray 28 (0, 0))], (c17 ++ (c11 ++ c5)), []]) (by classical exact List.perm_iff_count.2 fun a => by simp only [List.set_cons_succ, List.set_cons_zero, List.flatten_cons, List.flatten_nil, List.append_nil, List.nil_append, List.cons_append, List.count_append, List.count_cons, List.count_nil] <;> omega) ?_
  refine j_lit0 Tryz.underlying26 sz53 (fun g20 hg20 ho20 => ?_)
  refine j_q (qs_field Tryz.underlying28 rfl sz26 (by decide) rfl) ?_
  refine j_q (qs_load (l := [.string (bs d.name), .string (bs d.sys), .string (bs d.bld), .slice A5 n5 cap5, .slice A11 n11 cap11, x.vi, .slice A17 n17 cap17, x.vo]) 2 Tryz.underlying26 rfl rfl rfl (congrArg some hvo)) ?_
  refine j_append 0 Tryz.underlying26 Tryz.underlying26 (.inr ⟨_, rfl⟩) sb53 zero53 rfl ho20 rfl (src_rsln (hvo ▸ h.o)) (flat_one (fun y _ => encO_one y)) ⟨(by simp only [List.length_nil, strs_length, flat_len encV_len, flat_len encO_len]; omega), (by decide)⟩ (fun v23 c23 ho23 => ?_)
  rw [List.nil_append] at ho23
  obtain ⟨n23, A23, cap23, rfl, hn23⟩ := own_form ho23 (by decide)
  refine j_q (qs_field Tryz.underlying28 rfl sz26 (by decide) rfl) ?_
  refine j_store (g := g0) (i := 7) (l := [.string (bs d.name), .string (bs d.sys), .string (bs d.bld), .slice A5 n5 cap5, .slice A11 n11 cap11, x.vi, .slice A17 n17 cap17, x.vo]) (v := .slice A23 n23 cap23) 2 sz26 rfl rfl rfl rfl (by simp) (by simp) ?_
  refine j_perm (S' := [[(g1, .cells ([.string (bs []), .string (bs []), .string (bs []), .slice none 0 0, .slice none 0 0, .slice none 0 0, .slice none 0 0, .slice none 0 0] : List Value).toArray 28 (0, 0))], [(g0, .cells ([.string (bs d.name), .string (bs d.sys), .string (bs d.bld), .slice A5 n5 cap5, .slice A11 n11 cap11, x.vi, .slice A17 n17 cap17, .slice A23 n23 cap23] : List Value).toArray 28 (0, 0))], (c23 ++ (c17 ++ (c11 ++ c5))), []]) (by classical exact List.perm_iff_count.2 fun a => by simp only [List.set_cons_succ, List.set_cons_zero, List.flatten_cons, List.flatten_nil, List.append_nil, List.nil_append, List.cons_append, List.count_append, List.count_cons, List.count_nil] <;> omega) ?_
  refine j_q (qs_ac) ?_
  refine j_q (qs_ac) ?_
  refine j_perm (S' := [[], [], [(g1, .cells ([.string (bs []), .string (bs []), .string (bs []), .slice none 0 0, .slice none 0 0, .slice none 0 0, .slice none 0 0, .slice none 0 0] : List Value).toArray 28 (0, 0))], [(g0, .cells ([.string (bs d.name), .string (bs d.sys), .string (bs d.bld), .slice A5 n5 cap5, .slice A11 n11 cap11, x.vi, .slice A17 n17 cap17, .slice A23 n23 cap23] : List Value).toArray 28 (0, 0))], (c23 ++ (c17 ++ (c11 ++ c5))), []]) (by classical exact List.perm_iff_count.2 fun a => by simp only [List.set_cons_succ, List.set_cons_zero, List.flatten_cons, List.flatten_nil, List.append_nil, List.nil_append, List.cons_append, List.count_append, List.count_cons, List.count_nil] <;> omega) ?_
  refine j_loop (fun m vs S' => ∃ (i : Nat) (iv : Value) (ci F : SH) (mi : List MI), vs = [iv, .int .i64 (i : Int)] ∧ S' = [ci, F, [(g1, .cells ([.string (bs []), .string (bs []), .string (bs []), .slice none 0 0, .slice none 0 0, .slice none 0 0, .slice none 0 0, .slice none 0 0] : List Value).toArray 28 (0, 0))], [(g0, .cells ([.string (bs d.name), .string (bs d.sys), .string (bs d.bld), .slice A5 n5 cap5, .slice A11 n11 cap11, x.vi, .slice A17 n17 cap17, .slice A23 n23 cap23] : List Value).toArray 28 (0, 0))], (c23 ++ (c17 ++ (c11 ++ c5))), []] ∧ Sx.Own 68 2 ((mi.map encI).flatten) iv ci ∧ Mine mi F ∧ mi.map MI.pi = (x.mi.take i).map MI.pi ∧ i ≤ x.mi.length ∧ m = x.mi.length - i) ⟨_, 0, .slice none 0 0, [], [], [], rfl, rfl, own_nil, mine_nil, rfl, Nat.zero_le _, rfl⟩ ?_
  rintro m vs S' hlen ⟨i, iv, ci, F, mi, rfl, rfl, hoi, hmine, hmi, hin, rfl⟩
  refine j_q (qs_field Tryz.underlying28 rfl sz24 (by decide) rfl) ?_
  refine j_q (qs_load (l := [.string (bs d.name), .string (bs d.sys), .string (bs d.bld), .slice A5 n5 cap5, .slice A11 n11 cap11, x.vi, .slice A17 n17 cap17, .slice A23 n23 cap23]) 3 Tryz.underlying24 rfl rfl rfl (congrArg some hvi)) ?_
  refine j_q (qs_lenl Tryz.underlying24 rfl) ?_
  refine j_q (qs_lss rfl rfl) ?_
  refine j_cond rfl (fun hc0 => ?_) (fun hc0 => ?_)
  · skip
    have hi : i < x.mi.length := by
      simp only [bnA] at *
      omega
    obtain ⟨rfl, hgi, hcells⟩ := hAi (by omega)
    have hip := few.ip _ (hmem _ (getD_mem (d := m0) hi))
    simp only [MI.pi] at hip
    have hsx := h.io _ (getD_mem (d := m0) hi)
    obtain ⟨Ax, capx, hvx, hcapx⟩ := strz_form hsx
    have hml : mi.length = i := by
      have := congrArg List.length hmi
      simp only [List.length_map, List.length_take] at this
      omega
    refine j_mix [[(g0, .cells ([.string (bs d.name), .string (bs d.sys), .string (bs d.bld), .slice A5 n5 cap5, .slice A11 n11 cap11, x.vi, .slice A17 n17 cap17, .slice A23 n23 cap23] : List Value).toArray 28 (0, 0))]] (Le.of_sub (by repeat first | exact slR _ | exact slN _ | apply slC | apply slD)) ?_
    refine j_mq (qs_field Tryz.underlying28 rfl sz24 (by decide) rfl) ?_
    refine j_mq (qs_load (l := [.string (bs d.name), .string (bs d.sys), .string (bs d.bld), .slice A5 n5 cap5, .slice A11 n11 cap11, x.vi, .slice A17 n17 cap17, .slice A23 n23 cap23]) 0 Tryz.underlying24 rfl rfl rfl (congrArg some hvi)) ?_
    refine j_mq (qs_ixn (g := gi) (off := offi) (i := i) Tryz.underlying24 sz68 rfl rfl (by omega)) ?_
    refine j_mq (qs_field Tryz.underlying68 rfl sz49 (by decide) rfl) ?_
    refine j_mq (qs_loadrec (v := .string (bs (x.mi.getD i m0).drv)) (encA := encI) (rs := x.mi) (d := m0) (i := i) (fo := 0) encI_len (rd_cells hcells (by simp)) hi Tryz.underlying49 rfl rfl rfl) ?_
    refine j_mq (qs_field Tryz.underlying28 rfl sz24 (by decide) rfl) ?_
    refine j_mq (qs_load (l := [.string (bs d.name), .string (bs d.sys), .string (bs d.bld), .slice A5 n5 cap5, .slice A11 n11 cap11, x.vi, .slice A17 n17 cap17, .slice A23 n23 cap23]) 0 Tryz.underlying24 rfl rfl rfl (congrArg some hvi)) ?_
    refine j_mq (qs_ixn (g := gi) (off := offi) (i := i) Tryz.underlying24 sz68 rfl rfl (by omega)) ?_
    refine j_mq (qs_field Tryz.underlying68 rfl sz22 (by decide) rfl) ?_
    refine j_mq (qs_loadrec (v := .slice Ax (x.mi.getD i m0).outs.length capx) (encA := encI) (rs := x.mi) (d := m0) (i := i) (fo := 1) encI_len (rd_cells hcells (by simp)) hi Tryz.underlying22 rfl rfl (congrArg some hvx)) ?_
    refine j_lit (vs := []) Tryz.underlying22 sz9 zero9 rfl (by simp) ⟨rfl, by decide⟩ (fun g42 v42 c42 hv42 hc42 ho42 => ?_)
    subst hv42 hc42
    refine j_mD0 (Le.of_sub (by repeat first | exact slR _ | exact slN _ | apply slC | apply slD)) ?_
    refine j_append 0 Tryz.underlying22 Tryz.underlying22 (.inr ⟨_, rfl⟩) sb9 zero9 rfl ho42 rfl (src_strz (hvx ▸ hsx)) (strs_one _) ⟨(by simp only [List.length_nil, strs_length, flat_len encV_len, flat_len encO_len]; omega), (by decide)⟩ (fun v43 c43 ho43 => ?_)
    rw [List.nil_append] at ho43
    obtain ⟨n43, A43, cap43, rfl, hn43⟩ := own_form ho43 (by decide)
    refine j_mD0 (Le.of_sub (by repeat first | exact slR _ | exact slN _ | apply slC | apply slD)) ?_
    refine j_mq (v := .agg (encI ⟨(x.mi.getD i m0).drv, (x.mi.getD i m0).outs, .slice A43 n43 cap43⟩).toArray) (qs_build (places := [(0, 1), (1, 1)]) (offs := [(0, [.string (bs (x.mi.getD i m0).drv)]), (1, [.slice A43 n43 cap43])]) Tryz.underlying68 zero68 (by kernel_rfl) rfl (by rintro (_ | _ | j) p q hp hq <;> first | (simp at hp hq; subst hp hq; exact ⟨rfl, rfl, by simp⟩) | (simp at hp))) ?_
    refine j_litw (vs := encI ⟨(x.mi.getD i m0).drv, (x.mi.getD i m0).outs, .slice A43 n43 cap43⟩) Tryz.underlying24 sz68 zero68 rfl rfl ⟨rfl, by decide, by decide⟩ (fun g45 hg45 ho45 => ?_)
    refine j_mD0 (Le.of_sub (by repeat first | exact slR _ | exact slN _ | apply slC | apply slD)) ?_
    refine j_append 2 Tryz.underlying24 Tryz.underlying24 (.inr ⟨_, rfl⟩) sb68 zero68 rfl hoi rfl (.inl ⟨_, _, rfl, rd_own (off := 0) (n := 2) 0 rfl rfl, rfl⟩) (by intro u hu; simp [encI] at hu; rcases hu with rfl | rfl <;> rfl) ⟨(by simp only [flat_len encI_len, List.length_take, List.drop_zero, encI_len]; omega), (by decide)⟩ (fun v46 c46 ho46 => ?_)
    have ho46 : Sx.Own 68 2 (((mi ++ [MI.mk (x.mi.getD i m0).drv (x.mi.getD i m0).outs (.slice A43 n43 cap43)]).map encI).flatten) v46 c46 := by
      have e : ((mi ++ [MI.mk (x.mi.getD i m0).drv (x.mi.getD i m0).outs (.slice A43 n43 cap43)]).map encI).flatten = (mi.map encI).flatten ++ encI (MI.mk (x.mi.getD i m0).drv (x.mi.getD i m0).outs (.slice A43 n43 cap43)) := by simp
      rw [e]
      exact ho46
    refine j_subl (S' := [c43, c46, F, [(g1, .cells ([.string (bs []), .string (bs []), .string (bs []), .slice none 0 0, .slice none 0 0, .slice none 0 0, .slice none 0 0, .slice none 0 0] : List Value).toArray 28 (0, 0))], [(g0, .cells ([.string (bs d.name), .string (bs d.sys), .string (bs d.bld), .slice A5 n5 cap5, .slice A11 n11 cap11, x.vi, .slice A17 n17 cap17, .slice A23 n23 cap23] : List Value).toArray 28 (0, 0))], (c23 ++ (c17 ++ (c11 ++ c5))), []]) (by repeat first | exact slR _ | exact slN _ | apply slC | apply slD) ?_
    refine j_perm (S' := [c46, c43 ++ F, [(g1, .cells ([.string (bs []), .string (bs []), .string (bs []), .slice none 0 0, .slice none 0 0, .slice none 0 0, .slice none 0 0, .slice none 0 0] : List Value).toArray 28 (0, 0))], [(g0, .cells ([.string (bs d.name), .string (bs d.sys), .string (bs d.bld), .slice A5 n5 cap5, .slice A11 n11 cap11, x.vi, .slice A17 n17 cap17, .slice A23 n23 cap23] : List Value).toArray 28 (0, 0))], (c23 ++ (c17 ++ (c11 ++ c5))), []]) (by classical exact List.perm_iff_count.2 fun a => by simp only [List.set_cons_succ, List.set_cons_zero, List.flatten_cons, List.flatten_nil, List.append_nil, List.nil_append, List.cons_append, List.count_append, List.count_cons, List.count_nil] <;> omega) ?_
    refine j_mR _ (.refl _) ?_
    refine j_mend ?_
    refine j_q (qs_add64 rfl rfl (by omega)) ?_
    refine j_back rfl ?_
    exact ⟨x.mi.length - (i + 1), by omega, i + 1, v46, c46, c43 ++ F, mi ++ [MI.mk (x.mi.getD i m0).drv (x.mi.getD i m0).outs (.slice A43 n43 cap43)], bools2 rfl (by omega), rfl, ho46, mine_snoc hmine ho43, ins_take hmi hi _, by omega, rfl⟩
  · skip
    obtain rfl : i = x.mi.length := by
      simp only [bnA] at *
      omega
    rw [List.take_length] at hmi
    obtain ⟨ni2, Ai2, capi2, rfl, hni2⟩ := own_form hoi (by decide)
    refine j_q (qs_field Tryz.underlying28 rfl sz24 (by decide) rfl) ?_
    refine j_store (g := g0) (i := 5) (l := [.string (bs d.name), .string (bs d.sys), .string (bs d.bld), .slice A5 n5 cap5, .slice A11 n11 cap11, x.vi, .slice A17 n17 cap17, .slice A23 n23 cap23]) (v := .slice Ai2 ni2 capi2) 3 sz24 rfl rfl rfl rfl (by simp) (by simp) ?_
    refine j_q (qs_loadw (l := [.string (bs d.name), .string (bs d.sys), .string (bs d.bld), .slice A5 n5 cap5, .slice A11 n11 cap11, .slice Ai2 ni2 capi2, .slice A17 n17 cap17, .slice A23 n23 cap23]) 3 Tryz.underlying28 rfl sz28 rfl rfl rfl) ?_
    refine j_storew (l := [.string (bs []), .string (bs []), .string (bs []), .slice none 0 0, .slice none 0 0, .slice none 0 0, .slice none 0 0, .slice none 0 0]) (vs := [.string (bs d.name), .string (bs d.sys), .string (bs d.bld), .slice A5 n5 cap5, .slice A11 n11 cap11, .slice Ai2 ni2 capi2, .slice A17 n17 cap17, .slice A23 n23 cap23]) 2 sz28 rfl rfl rfl (by intro u hu; simp only [List.mem_cons, List.not_mem_nil, or_false] at hu; rcases hu with rfl | rfl | rfl | rfl | rfl | rfl | rfl | rfl <;> rfl) rfl rfl ?_
    -- no @RET
    refine j_ret_sub [ci, F, (c23 ++ (c17 ++ (c11 ++ c5)))] (by repeat first | exact slR _ | exact slN _ | apply slC | apply slD) (vs := [_]) (fun w' hw' => ⟨rv_agg (g := g1) (l := [.string (bs d.name), .string (bs d.sys), .string (bs d.bld), .slice A5 n5 cap5, .slice A11 n11 cap11, .slice Ai2 ni2 capi2, .slice A17 n17 cap17, .slice A23 n23 cap23]) 2 Tryz.underlying28 rfl sz28 rfl rfl rfl hw', trivial⟩) ?_
    exact ⟨⟨.slice A5 n5 cap5, .slice A11 n11 cap11, .slice Ai2 ni2 capi2, .slice A17 n17 cap17, .slice A23 n23 cap23, mi⟩, c23, ci, F, c17, c5, c11, rfl, rfl, ⟨ho23, hoi, hmine, by rw [h.im, ← hmi], ho17, ho5, ho11⟩⟩
theorem drvRefs_con (d : PD) (x : DV) (rs : List Bs) (v : Value) (w : World) (h : DR w d x) (sz : Szd d) (hv : StrSl w v rs) (hl : ∀ r ∈ rs, r.length ≤ 9223372036854775807) : Con Tryz.prog 9 [dval d x, v] w [] fun u _ => u = .bool true := by
  refine con_of_tree mix Tryz.func9 T9_ok (by kernel_rfl) ?_
  unfold T9
  obtain ⟨A, cap, rfl, hcap⟩ := strsl_form hv
  refine j_box (l := dcells d x) rfl (fun g0 hg0 hs0 => ?_)
  refine j_q (qs_ac) ?_
  refine j_q (qs_loadw (l := dcells d x) 0 Tryz.underlying28 rfl sz28 rfl rfl rfl) ?_
  refine j_q (qs_call ent11 rfl rfl rfl (fun w' hw' => heavy_con d x w' (h.keep hw') sz)) ?_
  refine j_g rfl (fun hb => qs_mt rfl) ?_
  refine j_g rfl (fun hb => qs_lenl Tryz.underlying25 (gd_eq hb)) ?_
  refine j_g rfl (fun hb => qs_gtr (gd_eq hb) rfl) ?_
  refine j_q (qs_or rfl rfl) ?_
  refine j_cond rfl (fun hc0 => ?_) (fun hc0 => ?_)
  · skip
    refine j_q (qs_ac) ?_
    refine j_ret_con (vs := [_]) (fun w' hw' => ⟨rfl, trivial⟩) ?_
    rfl
  · skip
    have hb := heavy4_no hc0
    have hrn : rs.length ≤ 30 := by
      simp only [bnA] at *
      omega
    refine j_q (qs_loadw (l := dcells d x) 0 Tryz.underlying28 rfl sz28 rfl rfl rfl) ?_
    refine j_call0 ent12 rfl rfl rfl (fun w' hw' => dclone2_con d x w' (h.keep hw') hb.2) (fun u S2 hu => ?_)
    obtain ⟨y, cO, cI, FI, cS, cA, cV, rfl, rfl, ho⟩ := hu
    refine j_storew (l := dcells d x) (vs := dcells d y) 3 sz28 rfl rfl rfl ho.one rfl rfl ?_
    obtain ⟨nI, AI, capI, hvi, hnI⟩ := own_form ho.i (by decide)
    have hlI : nI = y.mi.length := by
      rw [flat_len encI_len] at hnI
      omega
    subst hlI
    have hoi := ho.i
    rw [hvi] at hoi
    have few := few_of (Nat.le_trans hb.2 (by decide))
    have few1 := few.nm
    have few6 := few.li
    have hrb := refs_big (Nat.le_trans hb.2 (by decide))
    have hni : d.ins.length = y.mi.length := by rw [ho.im, List.length_map]
    refine j_q (qs_field Tryz.underlying28 rfl sz25 (by decide) rfl) ?_
    refine j_store (g := g0) (i := 6) (l := [.string (bs d.name), .string (bs d.sys), .string (bs d.bld), y.va, y.ve, y.vi, y.vs, y.vo]) (v := .slice none 0 0) 3 sz25 rfl rfl rfl rfl (by simp) (by simp) ?_
    refine j_perm (S' := [[], cS, cI, FI, cO, cV, cA, [(g0, .cells ([.string (bs d.name), .string (bs d.sys), .string (bs d.bld), y.va, y.ve, y.vi, .slice none 0 0, y.vo] : List Value).toArray 28 (0, 0))], []]) (by classical exact List.perm_iff_count.2 fun a => by simp only [List.set_cons_succ, List.set_cons_zero, List.flatten_cons, List.flatten_nil, List.append_nil, List.nil_append, List.cons_append, List.count_append, List.count_cons, List.count_nil] <;> omega) ?_
    refine j_subl (S' := [[], cI, FI, cO, cV, cA, [(g0, .cells ([.string (bs d.name), .string (bs d.sys), .string (bs d.bld), y.va, y.ve, y.vi, .slice none 0 0, y.vo] : List Value).toArray 28 (0, 0))], []]) (by repeat first | exact slR _ | exact slN _ | apply slC | apply slD) ?_
    refine j_q (qs_ac) ?_
    refine j_loop (fun m vs S' => ∃ (i : Nat) (zs : List Bs) (AS : Option Addr) (capS : Nat) (cs : SH), vs = [.int .i64 (i : Int)] ∧ S' = [cs, cI, FI, cO, cV, cA, [(g0, .cells ([.string (bs d.name), .string (bs d.sys), .string (bs d.bld), y.va, y.ve, y.vi, .slice AS zs.length capS, y.vo] : List Value).toArray 28 (0, 0))], []] ∧ Sx.Own 49 1 (strs zs) (.slice AS zs.length capS) cs ∧ Strict zs ∧ zs.all isPath = true ∧ zs.length ≤ i ∧ i ≤ rs.length ∧ m = rs.length - i) ⟨_, 0, [], none, 0, [], rfl, rfl, own_nil, strict_nil, rfl, Nat.zero_le _, Nat.zero_le _, rfl⟩ ?_
    rintro m vs S' hlen ⟨i, zs, AS, capS, cs, rfl, rfl, hoz, hst, hpa, hzl, hin, rfl⟩
    refine j_q (qs_lenl Tryz.underlying25 rfl) ?_
    refine j_q (qs_lss rfl rfl) ?_
    refine j_cond rfl (fun hc1 => ?_) (fun hc1 => ?_)
    · skip
      have hi : i < rs.length := by
        simp only [bnA] at *
        omega
      obtain ⟨ga, off, rfl, hga, hcells⟩ := strsl_addr hv (by omega)
      refine j_q (qs_ixl0 Tryz.underlying25 sz49 rfl rfl (by omega)) ?_
      refine j_q (qs_loadrs (rd_cells hcells (by simp)) Tryz.underlying49 rfl (by simp only [Int.toNat_natCast]; omega)) ?_
      simp only [Int.toNat_natCast]
      refine j_q (qs_call ent24 rfl rfl rfl (fun w' hw' => is_con (rs.getD i []) w' (get_len hl hi))) ?_
      refine j_cond rfl (fun hc2 => ?_) (fun hc2 => ?_)
      · skip
        have hip : isPath (rs.getD i []) = true := hc2
        refine j_mix _ (.refl _) ?_
        refine j_mq (qs_field Tryz.underlying28 rfl sz25 (by decide) rfl) ?_
        refine j_mq (qs_load (l := [.string (bs d.name), .string (bs d.sys), .string (bs d.bld), y.va, y.ve, y.vi, .slice AS zs.length capS, y.vo]) (v := .slice AS zs.length capS) 6 Tryz.underlying25 rfl rfl rfl rfl) ?_
        refine j_mq (qs_ixl0 Tryz.underlying25 sz49 rfl rfl (by omega)) ?_
        refine j_mq (qs_loadrs (rd_cells hcells (by simp)) Tryz.underlying49 rfl (by simp only [Int.toNat_natCast]; omega)) ?_
        simp only [Int.toNat_natCast]
        refine j_call 0 ent25 rfl rfl rfl rfl (fun w' hw' => lay_con zs (rs.getD i []) _ cs hoz hst (by omega) w') (fun u S2 hu => ?_)
        obtain ⟨zs2, c24, rfl, ho24, hst2, hmem2, hl2⟩ := hu
        obtain ⟨n24, A24, cap24, rfl, hn24⟩ := own_form ho24 (by decide)
        rw [strs_length, Nat.mul_one] at hn24
        subst hn24
        refine j_mR _ (.refl _) ?_
        refine j_mq (qs_field Tryz.underlying28 rfl sz25 (by decide) rfl) ?_
        refine j_store (g := g0) (i := 6) (l := [.string (bs d.name), .string (bs d.sys), .string (bs d.bld), y.va, y.ve, y.vi, .slice AS zs.length capS, y.vo]) (v := .slice A24 zs2.length cap24) 7 sz25 rfl rfl rfl rfl (by simp) (by simp) ?_
        refine j_subl (S' := [c24, cI, FI, cO, cV, cA, [(g0, .cells ([.string (bs d.name), .string (bs d.sys), .string (bs d.bld), y.va, y.ve, y.vi, .slice A24 zs2.length cap24, y.vo] : List Value).toArray 28 (0, 0))], []]) (by repeat first | exact slR _ | exact slN _ | apply slC | apply slD) ?_
        refine j_mR _ (.refl _) ?_
        refine j_mend ?_
        refine j_q (qs_add64 rfl rfl (by omega)) ?_
        refine j_back rfl ?_
        exact ⟨rs.length - (i + 1), by omega, i + 1, zs2, A24, cap24, c24, rfl, rfl, ho24, hst2, (List.all_eq_true.2 fun z hz => by rcases (hmem2 z).1 hz with h1 | rfl; exact all_get hpa h1; exact hip), by omega, by omega, rfl⟩
      · skip
        refine j_q (qs_add64 rfl rfl (by omega)) ?_
        refine j_back rfl ?_
        exact ⟨rs.length - (i + 1), by omega, i + 1, zs, AS, capS, cs, rfl, rfl, hoz, hst, hpa, by omega, by omega, rfl⟩
    · skip
      obtain rfl : i = rs.length := by
        simp only [bnA] at *
        omega
      have hb1 := dSrc_big (zs := zs) hb.2 (by omega) hpa
      have hDR1 : ∀ w' : World, (∀ p ∈ cO ++ cI ++ FI ++ cs ++ cA ++ cV, w'.heap[p.1]? = some p.2) → DR w' (dSrc d zs) (⟨y.va, y.ve, y.vi, .slice AS zs.length capS, y.vo, y.mi⟩ : DV) := fun w' hw => DOwnE.dr ⟨ho.o, ho.i, ho.io, ho.im, hoz, ho.a, ho.e⟩ hw
      have hrl : (refsP (dSrc d zs)).length ≤ d.ins.length + zs.length := refsP_len (dSrc d zs)
      refine j_q (qs_loadw (l := dcells (dSrc d zs) (⟨y.va, y.ve, y.vi, .slice AS zs.length capS, y.vo, y.mi⟩ : DV)) 6 Tryz.underlying28 rfl sz28 rfl rfl rfl) ?_
      refine j_call0 ent26 rfl rfl rfl (fun w' hw' => dref_con (dSrc d zs) (⟨y.va, y.ve, y.vi, .slice AS zs.length capS, y.vo, y.mi⟩ : DV) w' (hDR1 w' (fun p hp => hw'.own p (by simp only [List.mem_append] at hp; rcases hp with ((((h | h) | h) | h) | h) | h <;> simp [h]))) hb1 sz.outs2) (fun u S2 hu => ?_)
      obtain ⟨c30, rfl, ho30⟩ := hu
      obtain ⟨n30, A30, cap30, rfl, hn30⟩ := own_form ho30 (by decide)
      rw [strs_length, Nat.mul_one] at hn30
      subst hn30
      refine j_q (qs_loadw (l := dcells (dSrc d zs) (⟨y.va, y.ve, y.vi, .slice AS zs.length capS, y.vo, y.mi⟩ : DV)) 7 Tryz.underlying28 rfl sz28 rfl rfl rfl) ?_
      refine j_q (qs_call ent15 rfl rfl rfl (fun w' hw' => dcheck_con (dSrc d zs) (⟨y.va, y.ve, y.vi, .slice AS zs.length capS, y.vo, y.mi⟩ : DV) w' (hDR1 w' (fun p hp => hw'.own p (by simp only [List.mem_append] at hp; rcases hp with ((((h | h) | h) | h) | h) | h <;> simp [h]))) hb1 sz.outs2)) ?_
      refine j_q (qs_neq rfl rfl) ?_
      refine j_cond rfl (fun hc3 => ?_) (fun hc3 => ?_)
      · skip
        have hck : chk (dSrc d zs) ≠ 0 := by simpa using hc3
        refine j_q (qs_lenl Tryz.underlying25 rfl) ?_
        refine j_q (qs_eql rfl rfl) ?_
        refine j_g rfl (fun hb1 => qs_call ent18 rfl rfl rfl (fun w' hw' => known_con w')) ?_
        refine j_q (qs_and rfl rfl) ?_
        refine j_ret_con (vs := [_]) (fun w' hw' => ⟨rfl, trivial⟩) ?_
        show Value.bool _ = Value.bool true
        have e : refsP (dSrc d zs) = [] := by unfold refsP; rw [if_neg hck]
        rw [e]
        rfl
      · skip
        have hck : chk (dSrc d zs) = 0 := by simpa using hc3
        refine j_q (qs_ac) ?_
        refine j_loop (fun m vs S' => ∃ i : Nat, vs = [.int .i64 (i : Int)] ∧ S' = [c30, cs, cI, FI, cO, cV, cA, [(g0, .cells ([.string (bs d.name), .string (bs d.sys), .string (bs d.bld), y.va, y.ve, y.vi, .slice AS zs.length capS, y.vo] : List Value).toArray 28 (0, 0))], []] ∧ i ≤ zs.length ∧ m = zs.length - i) ⟨_, 0, rfl, rfl, Nat.zero_le _, rfl⟩ ?_
        rintro m vs S' hlen ⟨i, rfl, rfl, hin2, rfl⟩
        refine j_q (qs_field Tryz.underlying28 rfl sz25 (by decide) rfl) ?_
        refine j_q (qs_load (l := [.string (bs d.name), .string (bs d.sys), .string (bs d.bld), y.va, y.ve, y.vi, .slice AS zs.length capS, y.vo]) (v := .slice AS zs.length capS) 7 Tryz.underlying25 rfl rfl rfl rfl) ?_
        refine j_q (qs_lenl Tryz.underlying25 rfl) ?_
        refine j_q (qs_lss rfl rfl) ?_
        refine j_cond rfl (fun hc4 => ?_) (fun hc4 => ?_)
        · skip
          have hi : i < zs.length := by
            simp only [bnA] at *
            omega
          obtain ⟨gz, rfl⟩ := own_addr hoz (by rw [strs_length]; omega)
          refine j_q (qs_field Tryz.underlying28 rfl sz25 (by decide) rfl) ?_
          refine j_q (qs_load (l := [.string (bs d.name), .string (bs d.sys), .string (bs d.bld), y.va, y.ve, y.vi, .slice (some ⟨gz, 0, none⟩) zs.length capS, y.vo]) (v := .slice (some ⟨gz, 0, none⟩) zs.length capS) 7 Tryz.underlying25 rfl rfl rfl rfl) ?_
          refine j_q (qs_ixl0 Tryz.underlying25 sz49 rfl rfl (by omega)) ?_
          refine j_q (qs_loadrs (own_rd hoz 1 rfl) Tryz.underlying49 rfl (by simp only [Int.toNat_natCast]; omega)) ?_
          simp only [Int.toNat_natCast]
          refine j_q (qs_call ent27 rfl rfl rfl (fun w' hw' => has_con (refsP (dSrc d zs)) (zs.getD i []) _ w' (strsl_own ho30 0 rfl hw') (by omega) ((refsP_mem hck _).2 (.inr (getD_mem hi))))) ?_
          refine j_q (qs_not rfl) ?_
          refine j_cond rfl (fun hc5 => ?_) (fun hc5 => ?_)
          · skip
            cases hc5
          · skip
            refine j_q (qs_add64 rfl rfl (by omega)) ?_
            refine j_back rfl ?_
            exact ⟨zs.length - (i + 1), by omega, i + 1, rfl, rfl, by omega, rfl⟩
        · skip
          refine j_q (qs_ac) ?_
          refine j_loop (fun m vs S' => ∃ i : Nat, vs = [.int .i64 (i : Int)] ∧ S' = [c30, cs, cI, FI, cO, cV, cA, [(g0, .cells ([.string (bs d.name), .string (bs d.sys), .string (bs d.bld), y.va, y.ve, y.vi, .slice AS zs.length capS, y.vo] : List Value).toArray 28 (0, 0))], []] ∧ i ≤ y.mi.length ∧ m = y.mi.length - i) ⟨_, 0, rfl, rfl, Nat.zero_le _, rfl⟩ ?_
          rintro m vs S' hlen ⟨i, rfl, rfl, hin3, rfl⟩
          refine j_q (qs_field Tryz.underlying28 rfl sz24 (by decide) rfl) ?_
          refine j_q (qs_load (l := [.string (bs d.name), .string (bs d.sys), .string (bs d.bld), y.va, y.ve, y.vi, .slice AS zs.length capS, y.vo]) (v := .slice AI y.mi.length capI) 7 Tryz.underlying24 rfl rfl rfl (congrArg some hvi)) ?_
          refine j_q (qs_lenl Tryz.underlying24 rfl) ?_
          refine j_q (qs_lss rfl rfl) ?_
          refine j_cond rfl (fun hc6 => ?_) (fun hc6 => ?_)
          · skip
            have hi : i < y.mi.length := by
              simp only [bnA] at *
              omega
            obtain ⟨gI, rfl⟩ := own_at hoi (fl_pos encI_len (by decide) (by omega))
            refine j_q (qs_field Tryz.underlying28 rfl sz24 (by decide) rfl) ?_
            refine j_q (qs_load (l := [.string (bs d.name), .string (bs d.sys), .string (bs d.bld), y.va, y.ve, y.vi, .slice AS zs.length capS, y.vo]) (v := .slice (some ⟨gI, 0, none⟩) y.mi.length capI) 7 Tryz.underlying24 rfl rfl rfl (congrArg some hvi)) ?_
            refine j_q (qs_ixn (g := gI) (off := 0) (i := i) Tryz.underlying24 sz68 rfl rfl (by omega)) ?_
            refine j_q (qs_field Tryz.underlying68 rfl sz49 (by decide) rfl) ?_
            refine j_q (qs_loadrec (v := .string (bs (y.mi.getD i m0).drv)) (encA := encI) (rs := y.mi) (d := m0) (i := i) (fo := 0) encI_len (own_rd hoi 2 rfl) hi Tryz.underlying49 rfl rfl rfl) ?_
            refine j_q (qs_call ent27 rfl rfl rfl (fun w' hw' => has_con (refsP (dSrc d zs)) (y.mi.getD i m0).drv _ w' (strsl_own ho30 0 rfl hw') (by omega) ((refsP_mem hck _).2 (.inl (by show _ ∈ d.ins.map PI.drv; rw [refs_in ho.im]; exact List.mem_map_of_mem (getD_mem hi)))))) ?_
            refine j_q (qs_not rfl) ?_
            refine j_cond rfl (fun hc7 => ?_) (fun hc7 => ?_)
            · skip
              cases hc7
            · skip
              refine j_q (qs_add64 rfl rfl (by omega)) ?_
              refine j_back rfl ?_
              exact ⟨y.mi.length - (i + 1), by omega, i + 1, rfl, rfl, by omega, rfl⟩
          · skip
            refine j_q (qs_loadw (l := dcells (dSrc d zs) (⟨y.va, y.ve, y.vi, .slice AS zs.length capS, y.vo, y.mi⟩ : DV)) 7 Tryz.underlying28 rfl sz28 rfl rfl rfl) ?_
            refine j_q (qs_call ent28 rfl rfl rfl (fun w' hw' => dpath_con (dSrc d zs) (⟨y.va, y.ve, y.vi, .slice AS zs.length capS, y.vo, y.mi⟩ : DV) w' (hDR1 w' (fun p hp => hw'.own p (by simp only [List.mem_append] at hp; rcases hp with ((((h | h) | h) | h) | h) | h <;> simp [h]))) hb1 sz.outs2)) ?_
            unfold pathV
            rw [if_pos hck]
            unfold withV
            refine j_q (qs_ext (vs := [.string (bs (withP kText (sum (dtext (dSrc d zs))) (refsP (dSrc d zs)) (d.name ++ sDrv))), .int .i64 (withE (refsP (dSrc d zs)) (d.name ++ sDrv))]) rfl rfl) ?_
            refine j_q (qs_ext (vs := [.string (bs (withP kText (sum (dtext (dSrc d zs))) (refsP (dSrc d zs)) (d.name ++ sDrv))), .int .i64 (withE (refsP (dSrc d zs)) (d.name ++ sDrv))]) rfl rfl) ?_
            refine j_q (qs_call ent29 rfl rfl rfl (fun w' hw' => rsplit_con (withP kText (sum (dtext (dSrc d zs))) (refsP (dSrc d zs)) (d.name ++ sDrv)) w' (by have := withP_len kText (sum (dtext (dSrc d zs))) (refsP (dSrc d zs)) (d.name ++ sDrv); rw [List.length_append] at this; simp only [List.length_cons, List.length_nil] at this; omega))) ?_
            unfold spl
            refine j_q (qs_ext (vs := [.string (bs (spA (withP kText (sum (dtext (dSrc d zs))) (refsP (dSrc d zs)) (d.name ++ sDrv)))), .string (bs (spB (withP kText (sum (dtext (dSrc d zs))) (refsP (dSrc d zs)) (d.name ++ sDrv)))), .int .i64 (spE (withP kText (sum (dtext (dSrc d zs))) (refsP (dSrc d zs)) (d.name ++ sDrv)))]) rfl rfl) ?_
            refine j_q (qs_ext (vs := [.string (bs (spA (withP kText (sum (dtext (dSrc d zs))) (refsP (dSrc d zs)) (d.name ++ sDrv)))), .string (bs (spB (withP kText (sum (dtext (dSrc d zs))) (refsP (dSrc d zs)) (d.name ++ sDrv)))), .int .i64 (spE (withP kText (sum (dtext (dSrc d zs))) (refsP (dSrc d zs)) (d.name ++ sDrv)))]) rfl rfl) ?_
            refine j_q (qs_ext (vs := [.string (bs (spA (withP kText (sum (dtext (dSrc d zs))) (refsP (dSrc d zs)) (d.name ++ sDrv)))), .string (bs (spB (withP kText (sum (dtext (dSrc d zs))) (refsP (dSrc d zs)) (d.name ++ sDrv)))), .int .i64 (spE (withP kText (sum (dtext (dSrc d zs))) (refsP (dSrc d zs)) (d.name ++ sDrv)))]) rfl rfl) ?_
            refine j_q (qs_lenl Tryz.underlying25 rfl) ?_
            refine j_q (qs_field Tryz.underlying28 rfl sz25 (by decide) rfl) ?_
            refine j_q (qs_load (l := [.string (bs d.name), .string (bs d.sys), .string (bs d.bld), y.va, y.ve, y.vi, .slice AS zs.length capS, y.vo]) (v := .slice AS zs.length capS) 7 Tryz.underlying25 rfl rfl rfl rfl) ?_
            refine j_q (qs_lenl Tryz.underlying25 rfl) ?_
            refine j_q (qs_field Tryz.underlying28 rfl sz24 (by decide) rfl) ?_
            refine j_q (qs_load (l := [.string (bs d.name), .string (bs d.sys), .string (bs d.bld), y.va, y.ve, y.vi, .slice AS zs.length capS, y.vo]) (v := .slice AI y.mi.length capI) 7 Tryz.underlying24 rfl rfl rfl (congrArg some hvi)) ?_
            refine j_q (qs_lenl Tryz.underlying24 rfl) ?_
            refine j_q (qs_add64 rfl rfl (by omega)) ?_
            refine j_q (qs_leq rfl rfl) ?_
            rw [show decide (((refsP (dSrc d zs)).length : Int) ≤ (zs.length : Int) + (y.mi.length : Int)) = true by rw [decide_eq_true_eq]; omega]
            refine j_gt rfl (qs_mt rfl) ?_
            refine j_ga rfl ?_
            refine j_call0 ent31 rfl rfl rfl (fun w' hw' => rising_con (refsP (dSrc d zs)) _ w' (strsl_own ho30 0 rfl hw') (by omega)) (fun u S2 hu => ?_)
            obtain ⟨c83, rfl, ho83⟩ := hu
            rw [rise_refs] at ho83
            refine j_gt rfl (qs_mt rfl) ?_
            refine j_gt rfl (qs_call ent30 rfl rfl rfl (fun w' hw' => paths_con (refsP (dSrc d zs)) _ _ w' (strsl_own ho83 0 rfl hw') (strsl_own ho30 1 rfl hw') (by omega))) ?_
            refine j_q (qs_and rfl rfl) ?_
            rw [show (true && true) = true from rfl]
            refine j_gt rfl (qs_mt rfl) ?_
            refine j_gt rfl (qs_eql rfl rfl) ?_
            refine j_gt rfl (qs_move rfl) ?_
            refine j_g rfl (fun hb1 => qs_mt rfl) ?_
            refine j_g rfl (fun hb1 => qs_eql (gd_eq hb1) rfl) ?_
            refine j_gt rfl (qs_and rfl rfl) ?_
            refine j_gt rfl (qs_move rfl) ?_
            refine j_g rfl (fun hb1 => qs_mt rfl) ?_
            refine j_g rfl (fun hb1 => qs_field Tryz.underlying28 rfl sz9 (by decide) rfl) ?_
            refine j_g rfl (fun hb1 => qs_load (l := [.string (bs d.name), .string (bs d.sys), .string (bs d.bld), y.va, y.ve, y.vi, .slice AS zs.length capS, y.vo]) (v := .string (bs d.name)) 8 Tryz.underlying9 rfl (gd_eq hb1) rfl rfl) ?_
            refine j_g rfl (fun hb1 => qs_sadd (l' := sDrv) (gd_eq hb1) rfl (by simp only [List.length_cons, List.length_nil]; omega)) ?_
            refine j_g rfl (fun hb1 => qs_seql (gd_eq hb1) (gd_eq hb1)) ?_
            refine j_gt rfl (qs_and rfl rfl) ?_
            refine j_gt rfl (qs_move rfl) ?_
            refine j_g rfl (fun hb1 => qs_mt rfl) ?_
            refine j_g rfl (fun hb1 => qs_eql (gd_eq hb1) rfl) ?_
            refine j_gt rfl (qs_or rfl rfl) ?_
            refine j_q (qs_and rfl rfl) ?_
            refine j_g rfl (fun hb1 => qs_call ent18 rfl rfl rfl (fun w' hw' => known_con w')) ?_
            refine j_q (qs_and rfl rfl) ?_
            refine j_ret_con (vs := [_]) (fun w' hw' => ⟨rfl, trivial⟩) ?_
            show Value.bool _ = Value.bool true
            have pl := path_law hck
            have en : (dSrc d zs).name = d.name := rfl
            rw [en] at pl
            rcases pl with ⟨h1, h2, h3⟩ | h1
            · rw [h1, h2, h3]
              simp [gd]
            · rw [h1]
              simp [gd]
end Go.Proofs.YtfeabbeebkkhaaaGreat
/-! Arg14 -/
namespace Go.Proofs.YtfeabbeebkkhaaaGreat
open Go Go.Sx Go.ChangeShapes Go.WideShapes Go.ChangeAt Go.RowKit
set_option linter.unusedVariables false
set_option maxRecDepth 100000
theorem weights_at {H : Type} {P : Program} {ts : List TypeId} {ds : List (DataW H)} (h : (DataW.weightsEach P ts ds).all (· ≤ reachBytes) = true) {j : Nat} {t : TypeId} {d : DataW H} (ht : ts[j]? = some t) (hd : ds[j]? = some d) : (d.weights P t).all (· ≤ reachBytes) = true :=
  List.all_eq_true.2 fun n hn => List.all_eq_true.1 h n (DataW.weights_mem_each ht hd n hn)
theorem weights_all {H : Type} {P : Program} {e : TypeId} : ∀ (l : List (DataW H)), (DataW.weightsAll P e l).all (· ≤ reachBytes) = true → ∀ d ∈ l, (d.weights P e).all (· ≤ reachBytes) = true
  | [], _, d, hd => by cases hd
  | d :: l, hh, d', hd' => by
    unfold DataW.weightsAll at hh
    rw [List.all_append, Bool.and_eq_true] at hh
    rcases List.mem_cons.1 hd' with rfl | hd'
    · exact hh.1
    · exact weights_all l hh.2 d' hd'
theorem cell_spot {w : World} {a : Addr} {v : Value} (h : w.cell? a = some v) : a.spot = none ∧ a.block < w.heap.size := by
  unfold World.cell? at h
  split at h
  · rename_i hh
    refine ⟨?_, (Array.getElem?_eq_some_iff.1 hh).1⟩
    cases hs : a.spot with
    | none => rfl
    | some s => rw [hs] at h; simp at h
  · cases h
section
variable {H : Type} {enc : TypeId × Value → H} {w : World} {b0 : Nat} {sp : Nat → Bool} {held : Bool}
theorem str_weight {s : Bs} {t : TypeId} (ht : Tryz.prog.underlying t = some .string) (hw : ((DataW.lit (.string s) : DataW H).weights Tryz.prog t).all (· ≤ reachBytes) = true) : s.length ≤ 140737488351232 := by
  have hreach : reachBytes = 140737488351232 := rfl
  unfold DataW.weights at hw
  simp only [List.all_cons, List.all_nil, Bool.and_eq_true, decide_eq_true_eq] at hw
  omega
theorem strz_trod {t e : TypeId} (ht : Tryz.prog.underlying t = some (.slice e)) (he : Tryz.prog.underlying e = some .string) (hc : Tryz.prog.cellsOf e = 1) (hb16 : Tryz.prog.bytesOf e = 16) (fuel : Nat) (cs : List Value) (y : DataW H × List MemPlace) (h : DataW.trod enc Tryz.prog w b0 sp held fuel t cs = some y) (hw : (y.1.weights Tryz.prog t).all (· ≤ reachBytes) = true) :
    ∃ v rs, cs = [v] ∧ StrZ w v rs ∧ rs.length ≤ 140737488351232 ∧ ∀ o ∈ rs, o.length ≤ 140737488351232 := by
  rcases open_strings ht he hc h with ⟨hcs, _⟩ | ⟨a, len, cap, ss, hcs, hb, hl, hm, hz, hx, hcell, hsz⟩
  · exact ⟨_, [], hcs, strz_nil, Nat.zero_le _, fun o ho => by cases ho⟩
  · have hlen : len ≤ ss.length := by rw [hz]; split <;> omega
    have hll : ((ss.take len).map fun s => s.data.toList).length = len := by simp [Nat.min_eq_left hlen]
    have hreach : reachBytes = 140737488351232 := rfl
    rw [hx] at hw
    unfold DataW.weights at hw
    simp only [ht, List.all_cons, Bool.and_eq_true, decide_eq_true_eq, List.all_append] at hw
    obtain ⟨hw1, hw2, _⟩ := hw
    have hl1 : (Go.ChangeShapes.strs (ss.take len) : List (DataW H)).length = len := by simp [Go.ChangeShapes.strs, Nat.min_eq_left hlen]
    rw [hb16, hl1] at hw1
    refine ⟨_, (ss.take len).map fun s => s.data.toList, hcs, ⟨some a, cap, by rw [hll], by rw [hll]; exact hl, fun h0 => ?_, fun e => by cases e⟩, by rw [hll]; omega, fun o ho => ?_⟩
    · rw [hll] at h0
      have h1 := cell_spot (hcell 0 (by omega))
      obtain ⟨g, off, spot⟩ := a
      obtain ⟨h2, h3⟩ := h1
      have h4 : spot = none := h2
      subst h4
      refine ⟨g, off, rfl, h3, fun j u hu => ?_⟩
      simp only [Sx.strs, List.map_map, List.getElem?_map] at hu
      cases hj : (ss.take len)[j]? with
      | none => rw [hj] at hu; simp at hu
      | some s =>
        rw [hj] at hu
        simp only [Option.map_some, Option.some.injEq, Function.comp] at hu
        subst hu
        have hj2 : ss[j]? = some s := by
          rw [List.getElem?_take] at hj
          split at hj
          · exact hj
          · cases hj
        have hlt := (List.getElem?_eq_some_iff.1 hj2).1
        have h5 := hcell j hlt
        rw [h5, ← bs_of]
        simp [List.getD_eq_getElem?_getD, hj2]
    · obtain ⟨s, hs, rfl⟩ := List.mem_map.1 ho
      exact str_weight he (weights_all _ hw2 (.lit (.string s.data.toList)) (by unfold Go.ChangeShapes.strs; exact List.mem_map.2 ⟨s, hs, rfl⟩))
def okV (x : PV) : Prop := x.name.length ≤ 140737488351232 ∧ x.val.length ≤ 140737488351232
theorem env_trod (fuel : Nat) (cs : List Value) (y : DataW H × List MemPlace) (h : DataW.trod enc Tryz.prog w b0 sp held fuel 48 cs = some y) (hw : (y.1.weights Tryz.prog 48).all (· ≤ reachBytes) = true) : ∃ a : PV, okV a ∧ cs = encV a := by
  obtain ⟨y0, y1, n, rfl, hl, h0, h1⟩ := trod_struct2 Tryz.underlying48 h
  have hc : Tryz.prog.cellsOf 48 = 2 := by kernel_rfl
  have e9 : Tryz.prog.cellsOf 9 = 1 := by kernel_rfl
  rw [hc] at hl
  match cs, hl with
  | [c0, c1], _ =>
    simp only [e9, List.drop_zero, List.take_succ_cons, List.take_zero, List.drop_succ_cons] at h0 h1
    obtain ⟨s0, hs0, e0, w0⟩ := DataW.trod_string Tryz.underlying9 h0
    obtain ⟨s1, hs1, e1, w1⟩ := DataW.trod_string Tryz.underlying9 h1
    injection hs0 with hs0
    injection hs1 with hs1
    subst hs0 hs1 e0 e1
    unfold DataW.weights at hw
    rw [Tryz.underlying48] at hw
    simp only [List.map_cons, List.map_nil, DataW.weightsEach, List.all_append, List.all_nil, Bool.and_eq_true] at hw
    exact ⟨⟨s0.data.toList, s1.data.toList⟩, ⟨str_weight Tryz.underlying9 hw.1, str_weight Tryz.underlying9 hw.2.1⟩, by unfold encV; simp only [← bs_of]⟩
def okMI (w : World) (x : MI) : Prop := StrZ w x.v x.outs ∧ x.drv.length ≤ 140737488351232 ∧ x.outs.length ≤ 140737488351232 ∧ ∀ o ∈ x.outs, o.length ≤ 140737488351232
theorem ins_trod (fuel : Nat) (cs : List Value) (y : DataW H × List MemPlace) (h : DataW.trod enc Tryz.prog w b0 sp held fuel 68 cs = some y) (hw : (y.1.weights Tryz.prog 68).all (· ≤ reachBytes) = true) : ∃ a : MI, okMI w a ∧ cs = encI a := by
  obtain ⟨y0, y1, n, rfl, hl, h0, h1⟩ := trod_struct2 Tryz.underlying68 h
  have hc : Tryz.prog.cellsOf 68 = 2 := by kernel_rfl
  have e49 : Tryz.prog.cellsOf 49 = 1 := by kernel_rfl
  have e22 : Tryz.prog.cellsOf 22 = 1 := by kernel_rfl
  rw [hc] at hl
  match cs, hl with
  | [c0, c1], _ =>
    simp only [e49, e22, List.drop_zero, List.take_succ_cons, List.take_zero, List.drop_succ_cons] at h0 h1
    obtain ⟨s0, hs0, e0, w0⟩ := DataW.trod_string Tryz.underlying49 h0
    injection hs0 with hs0
    subst hs0 e0
    unfold DataW.weights at hw
    rw [Tryz.underlying68] at hw
    simp only [List.map_cons, List.map_nil, DataW.weightsEach, List.all_append, List.all_nil, Bool.and_eq_true] at hw
    obtain ⟨v, rs, hv, hz, hn, ho⟩ := strz_trod Tryz.underlying22 Tryz.underlying9 (by kernel_rfl) (by kernel_rfl) _ _ _ h1 hw.2.1
    injection hv with hv
    subst hv
    exact ⟨⟨s0.data.toList, rs, c1⟩, ⟨hz, str_weight Tryz.underlying49 hw.1, hn, ho⟩, by unfold encI; simp only [← bs_of]⟩
theorem split35 {cs : List Value} (h : cs.length = 35) : cs = cs.take 1 ++ ((cs.drop 1).take 1 ++ ((cs.drop 2).take 1 ++ (cs.drop 3).take 32)) := by
  have h3 : (cs.drop 3).take 32 = cs.drop 3 := List.take_of_length_le (by simp; omega)
  have e2 : (cs.drop 2).take 1 ++ cs.drop 3 = cs.drop 2 := by
    have := List.take_append_drop 1 (cs.drop 2)
    rwa [List.drop_drop] at this
  have e1 : (cs.drop 1).take 1 ++ cs.drop 2 = cs.drop 1 := by
    have := List.take_append_drop 1 (cs.drop 1)
    rwa [List.drop_drop] at this
  rw [h3, e2, e1, List.take_append_drop]
theorem hash_trod {n : Nat} {cs : List Value} {y : DataW H × List MemPlace} (hl : cs.length = 32) (h : DataW.trod enc Tryz.prog w b0 sp held n 51 cs = some y) : ∃ l : Hsh, cs = ints l.1 := by
  obtain ⟨xs, m, _, _, _, hxl, hel⟩ := DataW.trod_array Tryz.underlying51 h
  have e5 : Tryz.prog.cellsOf 5 = 1 := by kernel_rfl
  have each : ∀ i, i < 32 → ∃ k : Int, cs[i]? = some (.int .u8 k) ∧ 0 ≤ k ∧ k ≤ 255 := fun i hi => by
    have h1 := hel i hi
    obtain ⟨z, hz⟩ : ∃ z, xs[i]? = some z := ⟨_, List.getElem?_eq_getElem (by omega)⟩
    rw [hz, e5, Nat.mul_one] at h1
    obtain ⟨k, hk, _, hwf⟩ := DataW.trod_int Tryz.underlying5 h1
    have h2 : cs[i]? = some (.int .u8 k) := by
      have := congrArg (fun l => l[0]?) hk
      simp only [List.getElem?_take, List.getElem?_drop, List.getElem?_cons_zero, Nat.add_zero] at this
      simpa using this
    have h3 : IntKind.u8.min = 0 := rfl
    have h4 : IntKind.u8.max = 255 := rfl
    simp only [Lit.wf, h3, h4, Bool.and_eq_true, decide_eq_true_eq] at hwf
    exact ⟨k, h2, hwf.1, hwf.2⟩
  refine ⟨⟨cs.map (fun v => match v with | .int _ m => by8 m | _ => 0), by rw [List.length_map, hl]⟩, ?_⟩
  apply List.ext_getElem?
  intro i
  by_cases hi : i < 32
  · obtain ⟨k, h1, h2, h3⟩ := each i hi
    have hw : IntKind.u8.wrap k = k := by rw [IntKind.wrap_u8]; omega
    rw [ints_get, List.getElem?_map, h1]
    simp only [Option.map_some]
    rw [← wrap_by8, hw]
  · rw [List.getElem?_eq_none (by omega), List.getElem?_eq_none (by rw [ints_length, List.length_map]; omega)]
def okO (x : PO) : Prop := x.name.length ≤ 140737488351232 ∧ x.path.length ≤ 140737488351232
theorem outs_trod (fuel : Nat) (cs : List Value) (y : DataW H × List MemPlace) (h : DataW.trod enc Tryz.prog w b0 sp held fuel 53 cs = some y) (hw : (y.1.weights Tryz.prog 53).all (· ≤ reachBytes) = true) : ∃ a : PO, okO a ∧ cs = encO a := by
  obtain ⟨y0, y1, y2, y3, n, rfl, hl, h0, h1, h2, h3⟩ := Go.Joins.trod_struct4 Tryz.underlying53 h
  have hc : Tryz.prog.cellsOf 53 = 35 := by kernel_rfl
  have e9 : Tryz.prog.cellsOf 9 = 1 := by kernel_rfl
  have e49 : Tryz.prog.cellsOf 49 = 1 := by kernel_rfl
  have e4 : Tryz.prog.cellsOf 4 = 1 := by kernel_rfl
  have e51 : Tryz.prog.cellsOf 51 = 32 := by kernel_rfl
  rw [hc] at hl
  simp only [e9, e49, e4, e51, List.drop_zero] at h0 h1 h2 h3
  obtain ⟨s0, hs0, e0, w0⟩ := DataW.trod_string Tryz.underlying9 h0
  obtain ⟨s1, hs1, e1, w1⟩ := DataW.trod_string Tryz.underlying49 h1
  obtain ⟨b2, hb2, _⟩ := DataW.trod_bool Tryz.underlying4 h2
  obtain ⟨l, hl3⟩ := hash_trod (by simp; omega) h3
  subst e0 e1
  unfold DataW.weights at hw
  rw [Tryz.underlying53] at hw
  simp only [List.map_cons, List.map_nil, DataW.weightsEach, List.all_append, List.all_nil, Bool.and_eq_true] at hw
  refine ⟨⟨s0.data.toList, s1.data.toList, b2, l⟩, ⟨str_weight Tryz.underlying9 hw.1, str_weight Tryz.underlying49 hw.2.1⟩, ?_⟩
  rw [split35 hl, hs0, hs1, hb2, hl3]
  unfold encO
  simp only [← bs_of]
  rfl
theorem trod_struct8 {P : Program} {t : TypeId} {f0 f1 f2 f3 f4 f5 f6 f7 : Field} {fuel : Nat} {cs : List Value} {x : DataW H × List MemPlace} (ht : P.underlying t = some (.struct #[f0, f1, f2, f3, f4, f5, f6, f7])) (h : DataW.trod enc P w b0 sp held fuel t cs = some x) :
    ∃ (y0 y1 y2 y3 y4 y5 y6 y7 : DataW H × List MemPlace) (n : Nat), x.1 = .agg [y0.1, y1.1, y2.1, y3.1, y4.1, y5.1, y6.1, y7.1] ∧ cs.length = P.cellsOf t ∧ DataW.trod enc P w b0 sp held n f0.type ((cs.drop f0.offset).take (P.cellsOf f0.type)) = some y0 ∧
      DataW.trod enc P w b0 sp held n f1.type ((cs.drop f1.offset).take (P.cellsOf f1.type)) = some y1 ∧ DataW.trod enc P w b0 sp held n f2.type ((cs.drop f2.offset).take (P.cellsOf f2.type)) = some y2 ∧
      DataW.trod enc P w b0 sp held n f3.type ((cs.drop f3.offset).take (P.cellsOf f3.type)) = some y3 ∧ DataW.trod enc P w b0 sp held n f4.type ((cs.drop f4.offset).take (P.cellsOf f4.type)) = some y4 ∧
      DataW.trod enc P w b0 sp held n f5.type ((cs.drop f5.offset).take (P.cellsOf f5.type)) = some y5 ∧ DataW.trod enc P w b0 sp held n f6.type ((cs.drop f6.offset).take (P.cellsOf f6.type)) = some y6 ∧
      DataW.trod enc P w b0 sp held n f7.type ((cs.drop f7.offset).take (P.cellsOf f7.type)) = some y7 := by
  obtain ⟨xs, n, _, rfl, hl, hlen, hf⟩ := DataW.trod_struct ht h
  match xs, hlen with
  | [y0, y1, y2, y3, y4, y5, y6, y7], _ => exact ⟨y0, y1, y2, y3, y4, y5, y6, y7, n, by simp, hl, by simpa using hf 0 f0 rfl, by simpa using hf 1 f1 rfl, by simpa using hf 2 f2 rfl, by simpa using hf 3 f3 rfl, by simpa using hf 4 f4 rfl, by simpa using hf 5 f5 rfl, by simpa using hf 6 f6 rfl, by simpa using hf 7 f7 rfl⟩
theorem list8 {cs : List Value} (h : cs.length = 8) : ∃ c0 c1 c2 c3 c4 c5 c6 c7, cs = [c0, c1, c2, c3, c4, c5, c6, c7] := by
  match cs, h with
  | [c0, c1, c2, c3, c4, c5, c6, c7], _ => exact ⟨c0, c1, c2, c3, c4, c5, c6, c7, rfl⟩
end
theorem open_drv {H : Type} {enc : TypeId × Value → H} {w : World} {r : Go.Reach} {base b0 : Nat} {sp : Nat → Bool} {held : Bool} {v : Value} {x : DataW H × List MemPlace} (hv : Value.okWide Tryz.prog w r base 28 v)
    (h : ∃ fuel, DataW.trod enc Tryz.prog w b0 sp held fuel 28 v.cells.toList = some x) (hw : (x.1.weights Tryz.prog 28).all (· ≤ reachBytes) = true) : ∃ d dv, v = dval d dv ∧ DR w d dv ∧ Szd d := by
  obtain ⟨fuel, hf⟩ := h
  have hvO := hv
  unfold Value.okWide at hvO
  simp only [Tryz.underlying28] at hvO
  obtain ⟨cs, rfl, hsz, ts, hts, _, hall⟩ := hvO
  have hct : Tryz.prog.cellTypes Tryz.prog.depth 28 = some [9, 9, 9, 22, 23, 24, 25, 26] := by kernel_rfl
  rw [hct] at hts
  injection hts with hts
  subst hts
  have hcells : (Value.agg cs).cells.toList = cs.toList := rfl
  rw [hcells] at hf
  obtain ⟨y0, y1, y2, y3, y4, y5, y6, y7, n, hx, hl, h0, h1, h2, h3, h4, h5, h6, h7⟩ := trod_struct8 Tryz.underlying28 hf
  have e28 : Tryz.prog.cellsOf 28 = 8 := by kernel_rfl
  have e9 : Tryz.prog.cellsOf 9 = 1 := by kernel_rfl
  have e22 : Tryz.prog.cellsOf 22 = 1 := by kernel_rfl
  have e23 : Tryz.prog.cellsOf 23 = 1 := by kernel_rfl
  have e24 : Tryz.prog.cellsOf 24 = 1 := by kernel_rfl
  have e25 : Tryz.prog.cellsOf 25 = 1 := by kernel_rfl
  have e26 : Tryz.prog.cellsOf 26 = 1 := by kernel_rfl
  rw [e28] at hl
  obtain ⟨c0, c1, c2, c3, c4, c5, c6, c7, hcs⟩ := list8 hl
  have hcsA : cs = #[c0, c1, c2, c3, c4, c5, c6, c7] := by apply Array.ext'; exact hcs
  subst hcsA
  clear hcs
  simp only [e9, e22, e23, e24, e25, e26, List.drop_zero, List.take_succ_cons, List.take_zero, List.drop_succ_cons] at h0 h1 h2 h3 h4 h5 h6 h7
  obtain ⟨s0, hs0, q0, w0⟩ := DataW.trod_string Tryz.underlying9 h0
  obtain ⟨s1, hs1, q1, w1⟩ := DataW.trod_string Tryz.underlying9 h1
  obtain ⟨s2, hs2, q2, w2⟩ := DataW.trod_string Tryz.underlying9 h2
  injection hs0 with hs0
  injection hs1 with hs1
  injection hs2 with hs2
  subst hs0 hs1 hs2 q0 q1 q2
  rw [hx] at hw
  unfold DataW.weights at hw
  rw [Tryz.underlying28] at hw
  simp only [List.map_cons, List.map_nil, DataW.weightsEach, List.all_append, List.all_nil, Bool.and_eq_true] at hw
  obtain ⟨k0, k1, k2, k3, k4, k5, k6, k7, _⟩ := hw
  have okv : ∀ (i : Nat) (t : TypeId) (c : Value) (e : TypeId), (#[Value.string s0, .string s1, .string s2, c3, c4, c5, c6, c7] : Array Value)[i]? = some c → ([9, 9, 9, 22, 23, 24, 25, 26] : List TypeId)[i % 8]? = some t → Tryz.prog.underlying t = some (.slice e) → Value.okWide Tryz.prog w r base t c := fun i t c e hi ht hu => by
    obtain ⟨u, hu1, hu2⟩ := hall i c hi
    have : ([9, 9, 9, 22, 23, 24, 25, 26] : List TypeId).length = 8 := rfl
    rw [this, ht] at hu1
    injection hu1 with hu1
    subst hu1
    unfold Value.okWide
    simp only [hu]
    exact hu2
  obtain ⟨va, args, hva, hza, hna, hoa⟩ := strz_trod Tryz.underlying22 Tryz.underlying9 (by kernel_rfl) (by kernel_rfl) _ _ _ h3 k3
  injection hva with hva
  subst hva
  obtain ⟨vs, srcs, hvs, hzs, hns, hos⟩ := strz_trod Tryz.underlying25 Tryz.underlying49 (by kernel_rfl) (by kernel_rfl) _ _ _ h6 k6
  injection hvs with hvs
  subst hvs
  have okv4 := okv 4 23 c4 48 rfl rfl Tryz.underlying23
  have okv5 := okv 5 24 c5 68 rfl rfl Tryz.underlying24
  have okv7 := okv 7 26 c7 53 rfl rfl Tryz.underlying26
  have cl : ∀ (i : Nat) (t : TypeId) (c : Value) (e : TypeId), Value.okWide Tryz.prog w r base t c → Tryz.prog.underlying t = some (.slice e) → c.cells.toList = [c] := fun i t c e ho hu => by
    obtain ⟨a, l, cap, rfl⟩ := okWide_slice hu ho
    rfl
  obtain ⟨env, he1, he2, he3⟩ := open_sln (α := PV) encV okV encV_len (by decide) Tryz.underlying23 (by kernel_rfl) okv4 env_trod ⟨n, by rw [cl 4 23 c4 48 okv4 Tryz.underlying23]; exact h4⟩ k4
  obtain ⟨mi, hi1, hi2, hi3⟩ := open_sln (α := MI) encI (okMI w) encI_len (by decide) Tryz.underlying24 (by kernel_rfl) okv5 ins_trod ⟨n, by rw [cl 5 24 c5 68 okv5 Tryz.underlying24]; exact h5⟩ k5
  obtain ⟨outs, ho1, ho2, ho3⟩ := open_sln (α := PO) encO okO encO_len (by decide) Tryz.underlying26 (by kernel_rfl) okv7 outs_trod ⟨n, by rw [cl 7 26 c7 53 okv7 Tryz.underlying26]; exact h7⟩ k7
  have b48 : Tryz.prog.bytesOf 48 = 32 := by kernel_rfl
  have b68 : Tryz.prog.bytesOf 68 = 40 := by kernel_rfl
  have b53 : Tryz.prog.bytesOf 53 = 72 := by kernel_rfl
  have hreach : reachBytes = 140737488351232 := rfl
  rw [b48] at he3
  rw [b68] at hi3
  rw [b53] at ho3
  refine ⟨⟨s0.data.toList, s1.data.toList, s2.data.toList, args, env, mi.map MI.pi, srcs, outs⟩, ⟨c3, c4, c5, c6, c7, mi⟩, by unfold dval dcells; simp only [← bs_of], ⟨hza, he1, hi1, fun m hm => (hi2 m hm).1, rfl, hzs, ho1⟩, ?_⟩
  have a0 := str_weight Tryz.underlying9 k0
  have a1 := str_weight Tryz.underlying9 k1
  have a2 := str_weight Tryz.underlying9 k2
  refine ⟨by show s0.data.toList.length ≤ _; omega, by show s1.data.toList.length ≤ _; omega, by show s2.data.toList.length ≤ _; omega, fun y hy => by have := hoa y hy; omega, fun y hy => by have := he2 y hy; unfold okV at this; omega, fun y hy => ?_, fun y hy => by have := ho2 y hy; unfold okO at this; omega, fun y hy => by have := hos y hy; omega, by show args.length ≤ _; omega, by show env.length ≤ _; omega, by show (mi.map MI.pi).length ≤ _; rw [List.length_map]; omega, by show outs.length ≤ _; omega, by show srcs.length ≤ _; omega⟩
  obtain ⟨m, hm, rfl⟩ := List.mem_map.1 hy
  obtain ⟨_, g1, g2, g3⟩ := hi2 m hm
  exact ⟨by show m.drv.length ≤ _; omega, by show m.outs.length ≤ _; omega, fun o ho => by have := g3 o ho; omega⟩
end Go.Proofs.YtfeabbeebkkhaaaGreat
/-! SxT -/
namespace Go.Sx
open Go Go.ChangeShapes Go.WideShapes Go.ChangeAt Go.RowKit
set_option linter.unusedVariables false
theorem open_strsl {H : Type} {enc : TypeId × Value → H} {P : Program} {w : World} {r : Reach} {base b0 : Nat} {sp : Nat → Bool} {held : Bool} {t e : TypeId} {v : Value} {x : DataW H × List MemPlace} (ht : P.underlying t = some (.slice e)) (he : P.underlying e = some .string) (hc : P.cellsOf e = 1) (hv : Value.okWide P w r base t v)
    (h : ∃ fuel, DataW.trod enc P w b0 sp held fuel t v.cells.toList = some x) : ∃ rs, StrSl w v rs ∧ ∀ l ∈ rs, l.length ≤ 9223372036854775807 := by
  obtain ⟨a0, len, cap, rfl⟩ := okWide_slice ht hv
  obtain ⟨fuel, hf⟩ := h
  rcases open_strings ht he hc hf with ⟨hcs, _⟩ | ⟨a, len', cap', ss, hcs, hb, hl, hm, hz, hx, hcell, hsz⟩
  · have : (Value.slice a0 len cap).cells.toList = [Value.slice a0 len cap] := rfl
    rw [this] at hcs
    injection hcs with hcs
    rw [hcs]
    exact ⟨[], .inl ⟨rfl, rfl⟩, by simp⟩
  · have : (Value.slice a0 len cap).cells.toList = [Value.slice a0 len cap] := rfl
    rw [this] at hcs
    injection hcs with hcs
    injection hcs with h1 h2 h3
    subst h1 h2 h3
    simp only [Value.okWide, ht, Cell.okWide, Cell.ok] at hv
    obtain ⟨_, _, _, hspot, row, cells, hshape, _⟩ := hv
    obtain ⟨g, off, spot⟩ := a
    simp only at hspot hshape
    subst hspot
    have hlen : len ≤ ss.length := by rw [hz]; split <;> omega
    have hg : g < w.heap.size := by
      unfold World.shape? at hshape
      split at hshape
      · rename_i hh; exact (Array.getElem?_eq_some_iff.1 hh).1
      · cases hshape
    refine ⟨(ss.take len).map fun s => s.data.toList, .inr ⟨g, off, cap, by simp [Nat.min_eq_left hlen], hg, by simp [Nat.min_eq_left hlen]; exact hl, fun j u hu => ?_⟩, ?_⟩
    · simp only [Sx.strs, List.map_map, List.getElem?_map] at hu
      cases hj : (ss.take len)[j]? with
      | none => rw [hj] at hu; simp at hu
      | some s =>
        rw [hj] at hu
        simp only [Option.map_some, Option.some.injEq, Function.comp] at hu
        subst hu
        have hj2 : ss[j]? = some s := by
          rw [List.getElem?_take] at hj
          split at hj
          · exact hj
          · cases hj
        have hlt := (List.getElem?_eq_some_iff.1 hj2).1
        have h5 := hcell j hlt
        rw [h5, ← bs_of]
        simp [List.getD_eq_getElem?_getD, hj2]
    · intro l hl2
      obtain ⟨s, hs, rfl⟩ := List.mem_map.1 hl2
      have := hsz s (List.mem_of_mem_take hs)
      simp only [maxLen] at this
      have e : s.data.toList.length = s.size := Array.length_toList
      omega
end Go.Sx
/-! RowC -/
namespace Go.Proofs.YtfeabbeebkkhaaaGreat
open Go Go.Sx Go.ChangeShapes Go.WideShapes Go.ChangeAt Go.RowKit
set_option linter.unusedVariables false
theorem own_drvRefs : ownKnob Tryz.prog.godebug = none := by kernel_rfl
theorem laid_drvRefs : laidOutB Tryz.prog = true := by kernel_rfl
set_option maxRecDepth 100000 in
theorem drvRefs_lifted (os : Os) (started : os.Started) (H : Type) (enc : TypeId × Value → H) :
    ReturnsInHanded {} Tryz.checked os 9 .any (Rows.drvRefsSpec.pre6 enc Tryz.prog Tryz.f9 Rows.drvRefsRow.domain false) (Rows.drvRefsSpec.post enc Tryz.prog Tryz.f9 false true false false) := by
  refine returnsInHanded_of_change_sized (C := Tryz.checked) own_drvRefs started (by kernel_rfl) Tryz.func9
    (ChangeSpec.witness6 (enc := enc) (C := Tryz.checked) false ⟨#[], #[.agg #[.string ⟨#[]⟩, .string ⟨#[]⟩, .string ⟨#[]⟩, .slice none 0 0, .slice none 0 0, .slice none 0 0, .slice none 0 0, .slice none 0 0], .slice none 0 0], []⟩ 8 (by kernel_rfl) (by kernel_rfl) (by kernel_rfl) (by kernel_rfl)) ?_
  intro W base args ds gs before hval0 hW hcnd hsz0 _
  have hsz : (DataW.weightsEach Tryz.prog (Tryz.f9.params.toList ++ Rows.drvRefsSpec.plain.varTypes Tryz.prog) (ds ++ gs)).all (· ≤ reachBytes) = true := hsz0
  have hreach : reachBytes = 140737488351232 := rfl
  have hval : ∀ (j : Nat) t v, Tryz.f9.params[j]? = some t → args[j]? = some v → Value.okWide Tryz.prog W .any base t v := hval0
  have hW' := hW
  obtain ⟨p, q, hA0, hV, rfl, hfz, hnd⟩ := hW
  have hA : DataW.TrodAll enc Tryz.prog W 0 (fun _ => true) true Tryz.f9.params.toList args.toList ds p := hA0
  rw [Tryz.params9] at hA hval
  obtain ⟨v0, v1, d0, d1, p0, p1, rfl, rfl, rfl, h0, h1⟩ := trodAll_two hA
  obtain ⟨rfl, rfl⟩ := trodVars_none hV
  obtain ⟨a0, x0, rfl, wa0, sz0⟩ := open_drv (hval 0 28 v0 rfl rfl) h0 (weights_at hsz (j := 0) (t := 28) (by rw [Tryz.params9]; rfl) rfl)
  obtain ⟨a1, wa1, wl1⟩ := open_strsl Tryz.underlying25 Tryz.underlying49 (by kernel_rfl) (hval 1 25 v1 rfl rfl) h1
  clear hA0 hval0
  have hc := drvRefs_con a0 x0 a1 v1 W wa0 sz0 wa1 wl1 (by simp) (by simp)
  refine hc.mono fun e W' h => ?_
  obtain ⟨v, S', rfl, rfl, hS⟩ := h
  exact ⟨_, rfl, post_law hW' rfl rfl laid_drvRefs (by decide +kernel) rfl Tryz.underlying4 (below_of_sig hS)⟩
theorem drvRefs_holds : Rows.DrvRefsSaid :=
  OpenClaim.holds_of_wide 9 Tryz.f9 rfl rfl rfl rfl rfl rfl rfl ⟨rfl, rfl, rfl, rfl, rfl⟩ rfl rfl rfl rfl rfl (by kernel_rfl) Tryz.func9 (by kernel_rfl)
    (of_decide_eq_true (by kernel_rfl)) (by unfold Func.isWrapper; first | (rw [if_pos (by decide +kernel)]; kernel_rfl) | (rw [if_neg (by decide +kernel)]; exact ⟨rfl, rfl⟩))
    (fun os started H enc _ => drvRefs_lifted os started H enc)
end Go.Proofs.YtfeabbeebkkhaaaGreat
