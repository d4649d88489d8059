/- Part 7. -/
import Derived.Test.YtfeabbeebkkhaaaGreatPC2
import Derived.Test.YtfeabbeebkkhaaaGreatPC3
import Derived.Test.YtfeabbeebkkhaaaGreatPC6
import Derived.Test.YtfeabbeebkkhaaaGreatPC5
import Derived.Tactics
import Derived.Defers
import Derived.Recover
/-! Dv6 -/
namespace Go.Proofs.YtfeabbeebkkhaaaGreat
open Go Go.Sx
set_option maxRecDepth 100000
set_option maxHeartbeats 4000000
set_option linter.unusedVariables false
set_option linter.unusedSimpArgs false
attribute [local irreducible] J JQ QS Con W opW
theorem qs_ixm {P : Program} {env : Env} {b : Base} {S : List SH} {ty t e : TypeId} {x y : Operand} {n c sz g off i : Nat} {k : IntKind} {m : Int} (ht : P.underlying t = some (.slice e)) (hz : (P.info? e).map (·.size) = some sz) (hx : ev env x = .slice (some ⟨g, off, none⟩) n c) (hy : ev env y = .int k m) (hm : m = (i : Int)) (h : i < n) :
    QS P (O (.indexAddr t x y) ty) env b S (.pointer (some ⟨g, off + i * sz, none⟩)) := qs_ixn ht hz hx (by rw [hy, hm]) h
theorem gt0 (i : Nat) : decide ((i : Int) > 0) = decide (0 < i) := by
  rw [Bool.eq_iff_iff, decide_eq_true_eq, decide_eq_true_eq]
  omega
theorem suf4 {n : Bs} (h : isName n = true) : (decide (4 ≤ n.length) && (n.drop (n.length - 4) == sDrv)) = (decide (4 < n.length) && (n.drop (n.length - 4) == sDrv)) := by
  by_cases h4 : n.length = 4
  · have hne : (n.drop (n.length - 4) == sDrv) = false := by
      rw [h4, Nat.sub_self, List.drop_zero, beq_eq_false_iff_ne]
      rintro rfl
      revert h
      decide
    rw [hne, Bool.and_false, Bool.and_false]
  · congr 1
    rw [Bool.eq_iff_iff, decide_eq_true_eq, decide_eq_true_eq]
    omega
theorem isPath_name {p : Bs} (h : isPath p = true) : isName (p.drop 33) = true := by
  simp only [isPath, Bool.and_eq_true] at h
  exact h.1.2
theorem chkO_name {l : List PO} {i : Nat} (h : isName (l.getD i o0).name = false) : chkO l i = 9 := by unfold chkO; rw [h]; rfl
theorem chkO_bad {l : List PO} {i : Nat} (h : isName (l.getD i o0).name = true) (hb : badO l i = true) : chkO l i = 3 := by unfold chkO; rw [h, hb]; rfl
theorem chkO_ok {l : List PO} {i : Nat} (h : isName (l.getD i o0).name = true) (hb : badO l i = false) : chkO l i = 0 := by unfold chkO; rw [h, hb]; rfl
theorem chkOuts_at {l : List PO} {i : Nat} {e : Int} (hn : ¬ (l.length < 1 ∨ 16 < l.length)) (hz : ∀ j < i, chkO l j = 0) (hi : i < l.length) (h : chkO l i = e) (he : e ≠ 0) : chkOuts l = e := by
  unfold chkOuts
  rw [if_neg hn, firstE_at hz hi (by rw [h]; exact he), h]
theorem chkN_name {l : List Bs} {i : Nat} (h : isName (l.getD i []) = false) : chkN l i = 9 := by unfold chkN; rw [h]; rfl
theorem chkN_at {l : List Bs} {i : Nat} {b : Bool} (h : isName (l.getD i []) = true) (hb : (decide (0 < i) && (Op.bytesLess (l.getD i []) (l.getD (i - 1) []) || l.getD i [] == l.getD (i - 1) [])) = b) : chkN l i = if b then 3 else 0 := by
  have hb2 : (decide (0 < i) && leB (l.getD i []) (l.getD (i - 1) [])) = b := hb
  unfold chkN
  rw [h, hb2]
  rfl
abbrev badI (l : List PI) (i : Nat) : Bool := !isDrvP (l.getD i i0).drv || (decide (0 < i) && leB (l.getD i i0).drv (l.getD (i - 1) i0).drv) || (l.getD i i0).outs.length == 0
theorem chkI_bad {l : List PI} {i : Nat} (h : badI l i = true) : chkI l i = 3 := by unfold chkI; rw [if_pos h]
theorem chkI_in {l : List PI} {i : Nat} (h : badI l i = false) : chkI l i = firstE (chkN (l.getD i i0).outs) (l.getD i i0).outs.length := by unfold chkI; rw [if_neg (by unfold badI at h; rw [h]; decide)]
theorem getD_pi (l : List MI) (i : Nat) : (l.map MI.pi).getD i i0 = (l.getD i m0).pi := by
  rw [List.getD_eq_getElem?_getD, List.getD_eq_getElem?_getD, List.getElem?_map]
  cases l[i]? <;> rfl
section
variable {l : List PO} {i : Nat}
abbrev bo1 (l : List PO) (i : Nat) : Bool := decide (0 < i) && (Op.bytesLess (l.getD i o0).name (l.getD (i - 1) o0).name || (l.getD i o0).name == (l.getD (i - 1) o0).name)
abbrev bo2 (l : List PO) (i : Nat) : Bool := !((l.getD i o0).path == []) && !isPath (l.getD i o0).path
abbrev bo3 (l : List PO) (i : Nat) : Bool := (l.getD i o0).fixed && (decide ((l.length : Int) > 1) || !((l.getD i o0).name == sOut))
abbrev bo4 (l : List PO) (i : Nat) : Bool := !(l.getD i o0).fixed && !((l.getD i o0).hash.1 == List.replicate 32 0)
theorem badO_eq : badO l i = (bo1 l i || bo2 l i || bo3 l i || bo4 l i) := by
  have h : decide ((l.length : Int) > 1) = decide (1 < l.length) := by
    rw [Bool.eq_iff_iff, decide_eq_true_eq, decide_eq_true_eq]
    omega
  unfold badO leB bo1 bo2 bo3 bo4
  rw [h]
theorem badO_1 (h : bo1 l i = true) : badO l i = true := by rw [badO_eq, h]; rfl
theorem badO_2 (h : bo2 l i = true) : badO l i = true := by rw [badO_eq, h, Bool.or_true]; rfl
theorem badO_3 (h : bo3 l i = true) : badO l i = true := by rw [badO_eq, h, Bool.or_true]; rfl
theorem badO_4 (h : bo4 l i = true) : badO l i = true := by rw [badO_eq, h, Bool.or_true]
theorem badO_0 (h1 : bo1 l i = false) (h2 : bo2 l i = false) (h3 : bo3 l i = false) (h4 : bo4 l i = false) : badO l i = false := by rw [badO_eq, h1, h2, h3, h4]; rfl
end
theorem bi_eq {l : List MI} {i : Nat} : (!isDrvP (l.getD i m0).drv || (decide ((i : Int) > 0) && (Op.bytesLess (l.getD i m0).drv (l.getD (i - 1) m0).drv || (l.getD i m0).drv == (l.getD (i - 1) m0).drv)) || (((l.getD i m0).outs.length : Int) == 0)) = badI (l.map MI.pi) i := by
  have h : (((l.getD i m0).outs.length : Int) == 0) = ((l.getD i m0).outs.length == 0) := by
    rw [Bool.eq_iff_iff, beq_iff_eq, beq_iff_eq]
    omega
  unfold badI leB
  rw [gt0, getD_pi, getD_pi, h]
  rfl
attribute [local irreducible] es qt cms hex Tbl Half lst isName isPath isDrvP leB chkO chkOuts chkN chkI chkIns firstE spA spB spE
theorem disPath_con (p : Bs) (w : World) (hp : p.length ≤ 9223372036854775807) : Con Tryz.prog 41 [.string (bs p)] w [] fun v _ => v = .bool (isPath p) := by
  refine con_of_tree mix Tryz.func41 T41_ok (by kernel_rfl) ?_
  unfold T41
  refine j_q (qs_ac) ?_
  refine j_q (qs_call ent79 rfl rfl rfl (fun w' hw' => split_con p w' hp)) ?_
  unfold spl
  refine j_q (qs_ext (vs := [.string (bs (spA p)), .string (bs (spB p)), .int .i64 (spE p)]) rfl rfl) ?_
  refine j_q (qs_ext (vs := [.string (bs (spA p)), .string (bs (spB p)), .int .i64 (spE p)]) rfl rfl) ?_
  refine j_q (qs_ext (vs := [.string (bs (spA p)), .string (bs (spB p)), .int .i64 (spE p)]) rfl rfl) ?_
  refine j_q (qs_eql rfl rfl) ?_
  refine j_ret_con (vs := [_]) (fun w' hw' => ⟨rfl, trivial⟩) ?_
  show Value.bool _ = _
  congr 1
  unfold spE
  cases isPath p <;> rfl
theorem hasSuf0_con (s t : Bs) (w : World) (hs : s.length ≤ 9223372036854775807) (ht : t.length ≤ 9223372036854775807) : Con Tryz.prog 146 [.string (bs s), .string (bs t)] w [] fun v _ => v = .bool (decide (t.length ≤ s.length) && (s.drop (s.length - t.length) == t)) := by
  refine con_of_tree mix Tryz.func146 T146_ok (by kernel_rfl) ?_
  unfold T146
  refine j_q (qs_ac) ?_
  refine j_q (qs_lens Tryz.underlying9 rfl) ?_
  refine j_q (qs_lens Tryz.underlying9 rfl) ?_
  refine j_q (qs_geq rfl rfl) ?_
  refine j_g rfl (fun hb => qs_mt rfl) ?_
  refine j_g rfl (fun hb => qs_mt rfl) ?_
  refine j_g rfl (fun hb => qs_lens Tryz.underlying9 (gd_eq hb)) ?_
  refine j_g rfl (fun hb => qs_mt rfl) ?_
  refine j_g rfl (fun hb => qs_lens Tryz.underlying9 (gd_eq hb)) ?_
  refine j_g rfl (fun hb => qs_sub64 (gd_eq hb) (gd_eq hb) (by omega)) ?_
  refine j_g rfl (fun hb => qs_cuts (a := s.length - t.length) (z := s.length) Tryz.underlying9 (gd_eq hb) ⟨.i64, (gd_eq hb).trans (congrArg (Value.int .i64) (by simp only [bnA] at *; omega))⟩ rfl (by omega) (by omega)) ?_
  rw [List.take_length]
  refine j_g rfl (fun hb => qs_mt rfl) ?_
  refine j_g rfl (fun hb => qs_seql (gd_eq hb) (gd_eq hb)) ?_
  refine j_q (qs_and rfl rfl) ?_
  refine j_ret_con (vs := [_]) (fun w' hw' => ⟨rfl, trivial⟩) ?_
  show Value.bool _ = _
  congr 2
  rw [Bool.eq_iff_iff, decide_eq_true_eq, decide_eq_true_eq]
  omega
theorem hasSuf_con (s t : Bs) (w : World) (hs : s.length ≤ 9223372036854775807) (ht : t.length ≤ 9223372036854775807) : Con Tryz.prog 125 [.string (bs s), .string (bs t)] w [] fun v _ => v = .bool (decide (t.length ≤ s.length) && (s.drop (s.length - t.length) == t)) := by
  refine con_of_tree mix Tryz.func125 T125_ok (by kernel_rfl) ?_
  unfold T125
  refine j_q (qs_ac) ?_
  refine j_q (qs_call ent146 rfl rfl rfl (fun w' hw' => hasSuf0_con s t w' hs ht)) ?_
  refine j_ret_con (vs := [_]) (fun w' hw' => ⟨rfl, trivial⟩) ?_
  rfl
theorem isDrv_con (p : Bs) (w : World) (hp : p.length ≤ 9223372036854775807) : Con Tryz.prog 78 [.string (bs p)] w [] fun v _ => v = .bool (isDrvP p) := by
  refine con_of_tree mix Tryz.func78 T78_ok (by kernel_rfl) ?_
  unfold T78
  refine j_q (qs_ac) ?_
  refine j_q (qs_call ent79 rfl rfl rfl (fun w' hw' => split_con p w' hp)) ?_
  unfold spl
  refine j_q (qs_ext (vs := [.string (bs (spA p)), .string (bs (spB p)), .int .i64 (spE p)]) rfl rfl) ?_
  refine j_q (qs_ext (vs := [.string (bs (spA p)), .string (bs (spB p)), .int .i64 (spE p)]) rfl rfl) ?_
  refine j_q (qs_ext (vs := [.string (bs (spA p)), .string (bs (spB p)), .int .i64 (spE p)]) rfl rfl) ?_
  refine j_q (qs_eql rfl rfl) ?_
  refine j_g rfl (fun hb => qs_mt rfl) ?_
  refine j_g rfl (fun hb => qs_call ent125 rfl rfl (args2 (gd_eq hb) rfl) (fun w' hw' => hasSuf_con (spB p) sDrv w' (by unfold spB; split <;> simp <;> omega) (by simp))) ?_
  refine j_q (qs_and rfl rfl) ?_
  refine j_ret_con (vs := [_]) (fun w' hw' => ⟨rfl, trivial⟩) ?_
  show Value.bool _ = _
  congr 1
  unfold spE spB isDrvP
  cases hp : isPath p
  · rfl
  · rw [if_pos rfl, if_pos rfl, show sDrv.length = 4 from rfl, suf4 (isPath_name hp)]
    rfl
theorem outputs_con (l : List PO) (v : Value) (w : World) (hv : RSlN 35 w v (l.map encO).flatten l.length) (hl : ∀ x ∈ l, x.name.length ≤ 1000000 ∧ x.path.length ≤ 1000000) : Con Tryz.prog 39 [v] w [] fun u _ => u = .int .i64 (chkOuts l) := by
  refine con_of_tree mix Tryz.func39 T39_ok (by kernel_rfl) ?_
  unfold T39
  obtain ⟨A, cap, ga, off, rfl, hcap, hA⟩ := rsln_form hv
  refine j_q (qs_ac) ?_
  refine j_q (qs_lenl Tryz.underlying26 rfl) ?_
  refine j_q (qs_lss rfl rfl) ?_
  refine j_g rfl (fun hb => qs_mt rfl) ?_
  refine j_g rfl (fun hb => qs_lenl Tryz.underlying26 (gd_eq hb)) ?_
  refine j_g rfl (fun hb => qs_gtr (gd_eq hb) rfl) ?_
  refine j_q (qs_or rfl rfl) ?_
  refine j_cond rfl (fun hc0 => ?_) (fun hc0 => ?_)
  · skip
    refine j_q (qs_ac) ?_
    refine j_ret_con (vs := [_]) (fun w' hw' => ⟨rfl, trivial⟩) ?_
    symm
    show _ = Value.int .i64 1
    congr 1
    unfold chkOuts
    rw [if_pos (by simp only [bnA] at *; omega)]
  · skip
    have hnn : ¬ (l.length < 1 ∨ 16 < l.length) := by
      simp only [bnA] at *
      omega
    refine j_q (qs_lenl Tryz.underlying26 rfl) ?_
    refine j_q (qs_mc) ?_
    refine j_loop (fun m vs S' => ∃ i : Nat, vs = [.int .i64 (i : Int)] ∧ S' = [[]] ∧ i ≤ l.length ∧ (∀ j < i, chkO l j = 0) ∧ m = l.length - i) ⟨_, 0, rfl, rfl, Nat.zero_le _, (fun j hj => absurd hj (Nat.not_lt_zero _)), rfl⟩ ?_
    rintro m vs S' hlen ⟨i, rfl, rfl, hin, hz, rfl⟩
    refine j_q (qs_lss rfl rfl) ?_
    refine j_cond rfl (fun hc1 => ?_) (fun hc1 => ?_)
    · skip
      have hi : i < l.length := by
        simp only [bnA] at *
        omega
      obtain ⟨rfl, hga, hcells⟩ := hA (by omega)
      obtain ⟨hl1, hl2⟩ := hl _ (getD_mem (d := o0) hi)
      refine j_q (qs_ixn (g := ga) (off := off) (i := i) Tryz.underlying26 sz53 rfl rfl (by omega)) ?_
      refine j_q (qs_loadrecw (encA := encO) (rs := l) (d := o0) (i := i) encO_len (rd_cells hcells (by simp)) hi Tryz.underlying53 rfl sz53 rfl) ?_
      refine j_alloc zero53 (fun g13 hg13 hs13 => ?_)
      refine j_storew (vs := encO (l.getD i o0)) 0 sz53 rfl rfl (encO_len _) (encO_one _) rfl rfl ?_
      refine j_q (qs_field Tryz.underlying53 rfl sz9 (by decide) rfl) ?_
      refine j_q (qs_load 0 Tryz.underlying9 rfl rfl rfl rfl) ?_
      refine j_q (qs_call ent38 rfl rfl rfl (fun w' hw' => isName_con _ w' (by omega))) ?_
      refine j_q (qs_not rfl) ?_
      refine j_cond rfl (fun hc2 => ?_) (fun hc2 => ?_)
      · skip
        have hnm : isName (l.getD i o0).name = false := by simpa using hc2
        refine j_q (qs_ac) ?_
        refine j_ret_con (vs := [_]) (fun w' hw' => ⟨rfl, trivial⟩) ?_
        symm
        show _ = Value.int .i64 9
        congr 1
        exact chkOuts_at hnn hz hi (chkO_name hnm) (by decide)
      · skip
        have hnm : isName (l.getD i o0).name = true := by simpa using hc2
        refine j_draw ?_
        refine jq_q (qs_gtr rfl rfl) ?_
        refine jq_g rfl (fun hb => qs_field Tryz.underlying53 rfl sz9 (by decide) rfl) ?_
        refine jq_g rfl (fun hb => qs_load 0 Tryz.underlying9 rfl (gd_eq hb) rfl rfl) ?_
        refine jq_g rfl (fun hb => qs_mt rfl) ?_
        refine jq_g rfl (fun hb => qs_mt rfl) ?_
        refine jq_g rfl (fun hb => qs_sub64 (gd_eq hb) rfl (by omega)) ?_
        refine jq_g rfl (fun hb => qs_ixm (g := ga) (off := off) (i := i - 1) Tryz.underlying26 sz53 (gd_eq hb) (gd_eq hb) (by simp only [bnA] at *; omega) (by omega)) ?_
        refine jq_g rfl (fun hb => qs_field Tryz.underlying53 rfl sz9 (by decide) (gd_eq hb)) ?_
        refine jq_g rfl (fun hb => qs_loadrec (v := .string (bs (l.getD (i - 1) o0).name)) (encA := encO) (rs := l) (d := o0) (i := i - 1) (fo := 0) encO_len (rd_cells hcells (by simp)) (by omega) Tryz.underlying9 rfl (gd_eq hb) rfl) ?_
        refine jq_g rfl (fun hb => qs_sleq (gd_eq hb) (gd_eq hb)) ?_
        refine jq_q (qs_and rfl rfl) ?_
        refine jq_nil ?_
        refine j_cond rfl (fun hc3 => ?_) (fun hc3 => ?_)
        · skip
          rw [gt0] at hc3
          refine j_cond rfl (fun hc4 => ?_) (fun hc4 => ?_)
          · skip
            refine j_q (qs_ac) ?_
            refine j_ret_con (vs := [_]) (fun w' hw' => ⟨rfl, trivial⟩) ?_
            symm
            show _ = Value.int .i64 3
            congr 1
            exact chkOuts_at hnn hz hi (chkO_bad hnm (badO_1 hc3)) (by decide)
          · skip
            rw [gt0, hc3] at hc4
            cases hc4
        · skip
          rw [gt0] at hc3
          refine j_q (qs_field Tryz.underlying53 rfl sz49 (by decide) rfl) ?_
          refine j_q (qs_load 0 Tryz.underlying49 rfl rfl rfl rfl) ?_
          refine j_q (qs_sneq rfl rfl) ?_
          refine j_g rfl (fun hb => qs_field Tryz.underlying53 rfl sz49 (by decide) rfl) ?_
          refine j_g rfl (fun hb => qs_load 0 Tryz.underlying49 rfl (gd_eq hb) rfl rfl) ?_
          refine j_g rfl (fun hb => qs_call ent41 rfl rfl (args1 (gd_eq hb)) (fun w' hw' => disPath_con _ w' (by omega))) ?_
          refine j_g rfl (fun hb => qs_not (gd_eq hb)) ?_
          refine j_q (qs_and rfl rfl) ?_
          refine j_cond rfl (fun hc8 => ?_) (fun hc8 => ?_)
          · skip
            refine j_q (qs_ac) ?_
            refine j_ret_con (vs := [_]) (fun w' hw' => ⟨rfl, trivial⟩) ?_
            symm
            show _ = Value.int .i64 3
            congr 1
            exact chkOuts_at hnn hz hi (chkO_bad hnm (badO_2 hc8)) (by decide)
          · skip
            refine j_q (qs_field Tryz.underlying53 rfl sz4 (by decide) rfl) ?_
            refine j_q (qs_load 0 Tryz.underlying4 rfl rfl rfl rfl) ?_
            refine j_g rfl (fun hb => qs_mt rfl) ?_
            refine j_g rfl (fun hb => qs_lenl Tryz.underlying26 (gd_eq hb)) ?_
            refine j_g rfl (fun hb => qs_gtr (gd_eq hb) rfl) ?_
            refine j_g rfl (fun hb => qs_move (gd_eq hb)) ?_
            refine j_gg rfl (fun hb hb1 => qs_field Tryz.underlying53 rfl sz9 (by decide) rfl) ?_
            refine j_gg rfl (fun hb hb1 => qs_load 0 Tryz.underlying9 rfl (gd_eq2 hb hb1) rfl rfl) ?_
            refine j_gg rfl (fun hb hb1 => qs_sneq (gd_eq2 hb hb1) rfl) ?_
            refine j_g rfl (fun hb => qs_or (gd_eq hb) (gd_eq hb)) ?_
            refine j_q (qs_and rfl rfl) ?_
            refine j_cond rfl (fun hc9 => ?_) (fun hc9 => ?_)
            · skip
              refine j_cond rfl (fun hc10 => ?_) (fun hc10 => ?_)
              · skip
                refine j_q (qs_ac) ?_
                refine j_ret_con (vs := [_]) (fun w' hw' => ⟨rfl, trivial⟩) ?_
                symm
                show _ = Value.int .i64 3
                congr 1
                exact chkOuts_at hnn hz hi (chkO_bad hnm (badO_3 hc9)) (by decide)
              · skip
                rw [hc9] at hc10
                cases hc10
            · skip
              refine j_q (qs_field Tryz.underlying53 rfl sz4 (by decide) rfl) ?_
              refine j_q (qs_load 0 Tryz.underlying4 rfl rfl rfl rfl) ?_
              refine j_q (qs_not rfl) ?_
              refine j_g rfl (fun hb => qs_field Tryz.underlying53 rfl sz51 (by decide) rfl) ?_
              refine j_g rfl (fun hb => qs_loada (i := 3) (n := 32) (l := encO (l.getD i o0)) 0 Tryz.underlying51 rfl sz51 (gd_eq hb) rfl (by rw [encO_len]; omega)) ?_
              rw [show ((encO (l.getD i o0)).drop 3).take 32 = ints (l.getD i o0).hash.1 by show (ints _).take 32 = _; rw [List.take_of_length_le (by rw [ints_length, (l.getD i o0).hash.2]; omega)]]
              refine j_g rfl (fun hb => qs_run (v := .agg (ints (List.replicate 32 0)).toArray) (fun w => by kernel_rfl)) ?_
              refine j_g rfl (fun hb => qs_ane (l := (l.getD i o0).hash.1) (m := List.replicate 32 0) Tryz.underlying51 Tryz.underlying5 (by kernel_rfl) (by kernel_rfl) (by kernel_rfl) (gd_eq hb) (gd_eq hb) (l.getD i o0).hash.2 (by simp)) ?_
              refine j_q (qs_and rfl rfl) ?_
              refine j_cond rfl (fun hc11 => ?_) (fun hc11 => ?_)
              · skip
                refine j_q (qs_ac) ?_
                refine j_ret_con (vs := [_]) (fun w' hw' => ⟨rfl, trivial⟩) ?_
                symm
                show _ = Value.int .i64 3
                congr 1
                exact chkOuts_at hnn hz hi (chkO_bad hnm (badO_4 hc11)) (by decide)
              · skip
                refine j_q (qs_add64 rfl rfl (by omega)) ?_
                refine j_subl (S' := [[]]) (by repeat first | exact slR _ | exact slN _ | apply slC | apply slD) ?_
                refine j_back rfl ?_
                exact ⟨l.length - (i + 1), by omega, i + 1, rfl, rfl, by omega, zero_snoc hz (chkO_ok hnm (badO_0 hc3 hc8 hc9 hc11)), rfl⟩
    · skip
      obtain rfl : i = l.length := by
        simp only [bnA] at *
        omega
      refine j_q (qs_ac) ?_
      refine j_ret_con (vs := [_]) (fun w' hw' => ⟨rfl, trivial⟩) ?_
      symm
      show _ = Value.int .i64 0
      congr 1
      unfold chkOuts
      rw [if_neg hnn]
      exact firstE_zero hz
theorem inputs_con (l : List MI) (v : Value) (w : World) (hv : RSlN 2 w v (l.map encI).flatten l.length) (hio : ∀ m ∈ l, StrZ w m.v m.outs) (hl : ∀ x ∈ l, x.drv.length ≤ 1000000 ∧ x.outs.length ≤ 1000000 ∧ ∀ o ∈ x.outs, o.length ≤ 9223372036854775807) (hn : l.length ≤ 1000000) : Con Tryz.prog 40 [v] w [] fun u _ => u = .int .i64 (chkIns (l.map MI.pi)) := by
  refine con_of_tree mix Tryz.func40 T40_ok (by kernel_rfl) ?_
  unfold T40
  obtain ⟨A, cap, ga, off, rfl, hcap, hA⟩ := rsln_form hv
  refine j_q (qs_ac) ?_
  refine j_q (qs_lenl Tryz.underlying24 rfl) ?_
  refine j_q (qs_mc) ?_
  refine j_loop (fun m vs S' => ∃ i : Nat, vs = [.int .i64 (i : Int)] ∧ S' = [[]] ∧ i ≤ l.length ∧ (∀ j < i, chkI (l.map MI.pi) j = 0) ∧ m = l.length - i) ⟨_, 0, rfl, rfl, Nat.zero_le _, (fun j hj => absurd hj (Nat.not_lt_zero _)), rfl⟩ ?_
  rintro m vs S' hlen ⟨i, rfl, rfl, hin, hz, rfl⟩
  refine j_q (qs_lss rfl rfl) ?_
  refine j_cond rfl (fun hc0 => ?_) (fun hc0 => ?_)
  · skip
    have hi : i < l.length := by
      simp only [bnA] at *
      omega
    obtain ⟨rfl, hga, hcells⟩ := hA (by omega)
    obtain ⟨hl1, hl2, hl3⟩ := hl _ (getD_mem (d := m0) hi)
    have hsx := hio _ (getD_mem (d := m0) hi)
    obtain ⟨Ax, capx, hvx, hcapx⟩ := strz_form hsx
    have hone := MI.one hsx
    refine j_q (qs_ixn (g := ga) (off := off) (i := i) Tryz.underlying24 sz68 rfl rfl (by omega)) ?_
    refine j_q (qs_loadrecw (encA := encI) (rs := l) (d := m0) (i := i) encI_len (rd_cells hcells (by simp)) hi Tryz.underlying68 rfl sz68 rfl) ?_
    refine j_alloc zero68 (fun g6 hg6 hs6 => ?_)
    refine j_storew (vs := encI (l.getD i m0)) 0 sz68 rfl rfl (encI_len _) hone rfl rfl ?_
    refine j_draw ?_
    refine jq_q (qs_field Tryz.underlying68 rfl sz49 (by decide) rfl) ?_
    refine jq_q (qs_load 0 Tryz.underlying49 rfl rfl rfl rfl) ?_
    refine jq_q (qs_call ent78 rfl rfl rfl (fun w' hw' => isDrv_con _ w' (by omega))) ?_
    refine jq_q (qs_not rfl) ?_
    refine jq_g rfl (fun hb => qs_mt rfl) ?_
    refine jq_g rfl (fun hb => qs_gtr (gd_eq hb) rfl) ?_
    refine jq_g rfl (fun hb => qs_move (gd_eq hb)) ?_
    refine jq_gg rfl (fun hb hb1 => qs_field Tryz.underlying68 rfl sz49 (by decide) rfl) ?_
    refine jq_gg rfl (fun hb hb1 => qs_load 0 Tryz.underlying49 rfl (gd_eq2 hb hb1) rfl rfl) ?_
    refine jq_gg rfl (fun hb hb1 => qs_mt rfl) ?_
    refine jq_gg rfl (fun hb hb1 => qs_mt rfl) ?_
    refine jq_gg rfl (fun hb hb1 => qs_sub64 (gd_eq2 hb hb1) rfl (by omega)) ?_
    refine jq_gg rfl (fun hb hb1 => qs_ixm (g := ga) (off := off) (i := i - 1) Tryz.underlying24 sz68 (gd_eq2 hb hb1) (gd_eq2 hb hb1) (by simp only [bnA] at *; omega) (by omega)) ?_
    refine jq_gg rfl (fun hb hb1 => qs_field Tryz.underlying68 rfl sz49 (by decide) (gd_eq2 hb hb1)) ?_
    refine jq_gg rfl (fun hb hb1 => qs_loadrec (v := .string (bs (l.getD (i - 1) m0).drv)) (encA := encI) (rs := l) (d := m0) (i := i - 1) (fo := 0) encI_len (rd_cells hcells (by simp)) (by omega) Tryz.underlying49 rfl (gd_eq2 hb hb1) rfl) ?_
    refine jq_gg rfl (fun hb hb1 => qs_sleq (gd_eq2 hb hb1) (gd_eq2 hb hb1)) ?_
    refine jq_g rfl (fun hb => qs_and (gd_eq hb) (gd_eq hb)) ?_
    refine jq_q (qs_or rfl rfl) ?_
    refine jq_g rfl (fun hb => qs_field Tryz.underlying68 rfl sz22 (by decide) rfl) ?_
    refine jq_g rfl (fun hb => qs_load (v := .slice Ax (l.getD i m0).outs.length capx) 0 Tryz.underlying22 rfl (gd_eq hb) rfl (congrArg some hvx)) ?_
    refine jq_g rfl (fun hb => qs_lenl Tryz.underlying22 (gd_eq hb)) ?_
    refine jq_g rfl (fun hb => qs_eql (gd_eq hb) rfl) ?_
    refine jq_q (qs_or rfl rfl) ?_
    refine jq_nil ?_
    refine j_cond rfl (fun hc1 => ?_) (fun hc1 => ?_)
    · skip
      have hbad : badI (l.map MI.pi) i = true := by
        rw [← bi_eq]
        exact hc1
      refine j_q (qs_ac) ?_
      refine j_ret_con (vs := [_]) (fun w' hw' => ⟨rfl, trivial⟩) ?_
      symm
      show _ = Value.int .i64 3
      congr 1
      unfold chkIns
      rw [List.length_map, firstE_at hz hi (by rw [chkI_bad hbad]; decide), chkI_bad hbad]
    · skip
      have hbad : badI (l.map MI.pi) i = false := by
        rw [← bi_eq]
        exact hc1
      have hci := chkI_in hbad
      rw [getD_pi] at hci
      change chkI (l.map MI.pi) i = firstE (chkN (l.getD i m0).outs) (l.getD i m0).outs.length at hci
      refine j_q (qs_field Tryz.underlying68 rfl sz22 (by decide) rfl) ?_
      refine j_q (qs_load (v := .slice Ax (l.getD i m0).outs.length capx) 0 Tryz.underlying22 rfl rfl rfl (congrArg some hvx)) ?_
      refine j_q (qs_lenl Tryz.underlying22 rfl) ?_
      refine j_q (qs_mc) ?_
      refine j_loop (fun m vs S' => ∃ k : Nat, vs = [.int .i64 (k : Int)] ∧ S' = [[(g6, .cells (encI (l.getD i m0)).toArray 68 (0, 0))], []] ∧ k ≤ (l.getD i m0).outs.length ∧ (∀ j < k, chkN (l.getD i m0).outs j = 0) ∧ m = (l.getD i m0).outs.length - k) ⟨_, 0, rfl, rfl, Nat.zero_le _, (fun j hj => absurd hj (Nat.not_lt_zero _)), rfl⟩ ?_
      rintro m vs S' hlen ⟨k, rfl, rfl, hkn, hzk, rfl⟩
      refine j_q (qs_lss rfl rfl) ?_
      refine j_cond rfl (fun hc2 => ?_) (fun hc2 => ?_)
      · skip
        have hk : k < (l.getD i m0).outs.length := by
          simp only [bnA] at *
          omega
        obtain ⟨gx, offx, rfl, hgx, hcellx⟩ := strz_addr (hvx ▸ hsx) (by omega)
        have hl4 := hl3 _ (getD_mem (d := []) hk)
        refine j_q (qs_ixl0 Tryz.underlying22 sz9 rfl rfl (by omega)) ?_
        refine j_q (qs_loadrs (rd_cells hcellx (by simp)) Tryz.underlying9 rfl (by simp only [Int.toNat_natCast]; omega)) ?_
        simp only [Int.toNat_natCast]
        refine j_q (qs_call ent38 rfl rfl rfl (fun w' hw' => isName_con _ w' (by omega))) ?_
        refine j_q (qs_not rfl) ?_
        refine j_cond rfl (fun hc3 => ?_) (fun hc3 => ?_)
        · skip
          have hnm : isName ((l.getD i m0).outs.getD k []) = false := by simpa using hc3
          refine j_q (qs_ac) ?_
          refine j_ret_con (vs := [_]) (fun w' hw' => ⟨rfl, trivial⟩) ?_
          symm
          show _ = Value.int .i64 9
          congr 1
          have h9 : chkI (l.map MI.pi) i = 9 := by rw [hci, firstE_at hzk hk (by rw [chkN_name hnm]; decide), chkN_name hnm]
          unfold chkIns
          rw [List.length_map, firstE_at hz hi (by rw [h9]; decide), h9]
        · skip
          have hnm : isName ((l.getD i m0).outs.getD k []) = true := by simpa using hc3
          refine j_q (qs_gtr rfl rfl) ?_
          refine j_g rfl (fun hb => qs_mt rfl) ?_
          refine j_g rfl (fun hb => qs_field Tryz.underlying68 rfl sz22 (by decide) rfl) ?_
          refine j_g rfl (fun hb => qs_load (v := .slice (some ⟨gx, offx, none⟩) (l.getD i m0).outs.length capx) 0 Tryz.underlying22 rfl (gd_eq hb) rfl (congrArg some hvx)) ?_
          refine j_g rfl (fun hb => qs_mt rfl) ?_
          refine j_g rfl (fun hb => qs_sub64 (gd_eq hb) rfl (by omega)) ?_
          refine j_g rfl (fun hb => qs_ixm (g := gx) (off := offx) (i := k - 1) Tryz.underlying22 sz9 (gd_eq hb) (gd_eq hb) (by simp only [bnA] at *; omega) (by omega)) ?_
          refine j_g rfl (fun hb => qs_loadrs (i := k - 1) (rd_cells hcellx (by simp)) Tryz.underlying9 ((gd_eq hb).trans (by rw [add_off, Nat.mul_one])) (by omega)) ?_
          refine j_g rfl (fun hb => qs_sleq (gd_eq hb) (gd_eq hb)) ?_
          refine j_q (qs_and rfl rfl) ?_
          refine j_cond rfl (fun hc4 => ?_) (fun hc4 => ?_)
          · skip
            rw [gt0] at hc4
            have hck := chkN_at hnm hc4
            refine j_q (qs_ac) ?_
            refine j_ret_con (vs := [_]) (fun w' hw' => ⟨rfl, trivial⟩) ?_
            symm
            show _ = Value.int .i64 3
            congr 1
            have h9 : chkI (l.map MI.pi) i = 3 := by rw [hci, firstE_at hzk hk (by rw [hck]; decide), hck]; rfl
            unfold chkIns
            rw [List.length_map, firstE_at hz hi (by rw [h9]; decide), h9]
          · skip
            rw [gt0] at hc4
            have hck := chkN_at hnm hc4
            refine j_q (qs_add64 rfl rfl (by omega)) ?_
            refine j_back rfl ?_
            exact ⟨(l.getD i m0).outs.length - (k + 1), by omega, k + 1, rfl, rfl, by omega, zero_snoc hzk hck, rfl⟩
      · skip
        obtain rfl : k = (l.getD i m0).outs.length := by
          simp only [bnA] at *
          omega
        have hc0' : chkI (l.map MI.pi) i = 0 := by rw [hci]; exact firstE_zero hzk
        refine j_q (qs_add64 rfl rfl (by omega)) ?_
        refine j_subl (S' := [[]]) (by repeat first | exact slR _ | exact slN _ | apply slC | apply slD) ?_
        refine j_back rfl ?_
        exact ⟨l.length - (i + 1), by omega, i + 1, rfl, rfl, by omega, zero_snoc hz hc0', rfl⟩
  · skip
    obtain rfl : i = l.length := by
      simp only [bnA] at *
      omega
    refine j_q (qs_ac) ?_
    refine j_ret_con (vs := [_]) (fun w' hw' => ⟨rfl, trivial⟩) ?_
    symm
    show _ = Value.int .i64 0
    congr 1
    unfold chkIns
    rw [List.length_map]
    exact firstE_zero hz
end Go.Proofs.YtfeabbeebkkhaaaGreat
/-! Dv7 -/
namespace Go.Proofs.YtfeabbeebkkhaaaGreat
open Go Go.Sx
set_option maxRecDepth 100000
set_option maxHeartbeats 4000000
set_option linter.unusedVariables false
set_option linter.unusedSimpArgs false
attribute [local irreducible] J JQ QS Con W opW
theorem chkS_at {l : List Bs} {i : Nat} {b : Bool} (hb : (!isPath (l.getD i []) || (decide ((i : Int) > 0) && (Op.bytesLess (l.getD i []) (l.getD (i - 1) []) || l.getD i [] == l.getD (i - 1) []))) = b) : chkS l i = if b then 3 else 0 := by
  rw [gt0] at hb
  unfold chkS leB
  rw [hb]
theorem chkV_at {l : List PV} {i : Nat} {b : Bool} (hb : ((l.getD i v0).name == [] || (decide ((i : Int) > 0) && (Op.bytesLess (l.getD i v0).name (l.getD (i - 1) v0).name || (l.getD i v0).name == (l.getD (i - 1) v0).name))) = b) : chkV l i = if b then 3 else 0 := by
  rw [gt0] at hb
  unfold chkV leB
  rw [hb]
theorem nm_or {a b : Bool} (h : (!a || !b) = true) : (a && b) = false := by cases a <;> cases b <;> simp_all
theorem nm_and {a b : Bool} (h : (!a || !b) = false) : (a && b) = true := by cases a <;> cases b <;> simp_all
section
variable {d : PD}
theorem chk_1 (h : (isName d.name && isName (d.name ++ sDrv)) = false) : chk d = 9 := by unfold chk chk0 orE; rw [h]; rfl
theorem chk_2 {e : Int} (h : (isName d.name && isName (d.name ++ sDrv)) = true) (h2 : chkOuts d.outs = e) (he : e ≠ 0) : chk d = e := by
  unfold chk chk0
  rw [if_pos h, h2]
  unfold orE
  rw [if_neg he, if_neg he]
theorem chk_3 {e : Int} (h : (isName d.name && isName (d.name ++ sDrv)) = true) (h2 : chkOuts d.outs = 0) (h3 : chkIns d.ins = e) (he : e ≠ 0) : chk d = e := by
  unfold chk chk0
  rw [if_pos h, h2, h3]
  unfold orE
  rw [if_pos rfl, if_neg he, if_neg he]
theorem chk_4 {e : Int} (h : (isName d.name && isName (d.name ++ sDrv)) = true) (h2 : chkOuts d.outs = 0) (h3 : chkIns d.ins = 0) (h4 : firstE (chkS d.srcs) d.srcs.length = e) (he : e ≠ 0) : chk d = e := by
  unfold chk chk0
  rw [if_pos h, h2, h3, h4]
  unfold orE
  rw [if_pos rfl, if_pos rfl, if_neg he, if_neg he]
theorem chk_5 {e : Int} (h : (isName d.name && isName (d.name ++ sDrv)) = true) (h2 : chkOuts d.outs = 0) (h3 : chkIns d.ins = 0) (h4 : firstE (chkS d.srcs) d.srcs.length = 0) (h5 : firstE (chkV d.env) d.env.length = e) (he : e ≠ 0) : chk d = e := by
  unfold chk chk0
  rw [if_pos h, h2, h3, h4, h5]
  unfold orE
  rw [if_pos rfl, if_pos rfl, if_pos rfl, if_neg he]
theorem chk_6 (h : (isName d.name && isName (d.name ++ sDrv)) = true) (h2 : chkOuts d.outs = 0) (h3 : chkIns d.ins = 0) (h4 : firstE (chkS d.srcs) d.srcs.length = 0) (h5 : firstE (chkV d.env) d.env.length = 0) : chk d = if 262144 < (dtext d).length then 5 else 0 := by
  unfold chk chk0
  rw [if_pos h, h2, h3, h4, h5]
  unfold orE
  rw [if_pos rfl, if_pos rfl, if_pos rfl, if_pos rfl]
end
theorem chk_zero {d : PD} (h : chk d = 0) : chk0 d = 0 := by
  unfold chk at h
  exact (orE_zero.1 h).1
theorem tb_chk {d : PD} (h : chk d = 0) (hb : big2 d ≤ 200000) : TB d := tb_of (chk0_parts (chk_zero h)).2.2.2.1 hb
def prS (d : PD) : Bs := if chk d = 0 then dtext d else []
attribute [local irreducible] es qt cms hex Tbl Half lst isName isPath isDrvP leB chkO chkOuts chkN chkI chkIns firstE spA spB spE chkS chkV dtext chk chk0
theorem dcheck_con (d : PD) (x : DV) (w : World) (h : DR w d x) (hb : big2 d ≤ 200000) (hou : ∀ y ∈ d.ins, ∀ o ∈ y.outs, o.length ≤ 9223372036854775807) : Con Tryz.prog 15 [dval d x] w [] fun v _ => v = .int .i64 (chk d) := by
  refine con_of_tree mix Tryz.func15 T15_ok (by kernel_rfl) ?_
  unfold T15
  have few := few_of hb
  have few1 := few.nm
  have few4 := few.la
  have few5 := few.le
  have few6 := few.li
  have few7 := few.lo
  have few8 := few.ls
  have hni : d.ins.length = x.mi.length := by rw [h.im, List.length_map]
  obtain ⟨As, caps, hvs, hcaps⟩ := strz_form h.s
  obtain ⟨Ae, cape, ge, offe, hve, hcape, hAe⟩ := rsln_form h.e
  have hmem : ∀ m ∈ x.mi, m.pi ∈ d.ins := fun m hm => by rw [h.im]; exact List.mem_map_of_mem hm
  refine j_box (l := dcells d x) rfl (fun g0 hg0 hs0 => ?_)
  refine j_q (qs_ac) ?_
  refine j_q (qs_field Tryz.underlying28 rfl sz9 (by decide) rfl) ?_
  refine j_q (qs_load 0 Tryz.underlying9 rfl rfl rfl rfl) ?_
  refine j_q (qs_call ent38 rfl rfl rfl (fun w' hw' => isName_con d.name w' (by omega))) ?_
  refine j_q (qs_not rfl) ?_
  refine j_g rfl (fun hb => qs_field Tryz.underlying28 rfl sz9 (by decide) rfl) ?_
  refine j_g rfl (fun hb => qs_load 0 Tryz.underlying9 rfl (gd_eq hb) rfl rfl) ?_
  refine j_g rfl (fun hb1 => qs_sadd (l' := sDrv) (gd_eq hb1) rfl (by simp only [List.length_cons, List.length_nil]; omega)) ?_
  refine j_g rfl (fun hb => qs_call ent38 rfl rfl (args1 (gd_eq hb)) (fun w' hw' => isName_con (d.name ++ sDrv) w' (by simp only [List.length_append, List.length_cons, List.length_nil]; omega))) ?_
  refine j_g rfl (fun hb => qs_not (gd_eq hb)) ?_
  refine j_q (qs_or rfl rfl) ?_
  refine j_cond rfl (fun hc0 => ?_) (fun hc0 => ?_)
  · skip
    have hn0 := nm_or hc0
    refine j_q (qs_ac) ?_
    refine j_ret_con (vs := [_]) (fun w' hw' => ⟨rfl, trivial⟩) ?_
    symm
    show _ = Value.int .i64 9
    congr 1
    exact chk_1 hn0
  · skip
    have hn0 := nm_and hc0
    refine j_q (qs_field Tryz.underlying28 rfl sz26 (by decide) rfl) ?_
    refine j_q (qs_load 0 Tryz.underlying26 rfl rfl rfl rfl) ?_
    refine j_q (qs_call ent39 rfl rfl rfl (fun w' hw' => outputs_con d.outs x.vo w' (rsln_keep h.o hw') (fun y hy => by have := few.ou y hy; omega))) ?_
    refine j_q (qs_neq rfl rfl) ?_
    refine j_cond rfl (fun hc1 => ?_) (fun hc1 => ?_)
    · skip
      have ho1 : chkOuts d.outs ≠ 0 := by simpa using hc1
      refine j_ret_con (vs := [_]) (fun w' hw' => ⟨rfl, trivial⟩) ?_
      symm
      show _ = Value.int .i64 (chkOuts d.outs)
      congr 1
      exact chk_2 hn0 rfl ho1
    · skip
      have ho1 : chkOuts d.outs = 0 := by simpa using hc1
      refine j_q (qs_field Tryz.underlying28 rfl sz24 (by decide) rfl) ?_
      refine j_q (qs_load 0 Tryz.underlying24 rfl rfl rfl rfl) ?_
      refine j_q (qs_call ent40 rfl rfl rfl (fun w' hw' => inputs_con x.mi x.vi w' (rsln_keep h.i hw') (fun m hm => strz_keep (h.io m hm) hw') (fun m hm => ⟨by have := few.ip _ (hmem m hm); simp only [MI.pi] at this; omega, by have := few.ip _ (hmem m hm); simp only [MI.pi] at this; omega, hou _ (hmem m hm)⟩) (by omega))) ?_
      refine j_q (qs_neq rfl rfl) ?_
      refine j_cond rfl (fun hc2 => ?_) (fun hc2 => ?_)
      · skip
        have hi1 : chkIns d.ins ≠ 0 := by rw [h.im]; simpa using hc2
        refine j_ret_con (vs := [_]) (fun w' hw' => ⟨rfl, trivial⟩) ?_
        symm
        show _ = Value.int .i64 (chkIns (x.mi.map MI.pi))
        congr 1
        rw [← h.im]
        exact chk_3 hn0 ho1 rfl hi1
      · skip
        have hi1 : chkIns d.ins = 0 := by rw [h.im]; simpa using hc2
        refine j_q (qs_field Tryz.underlying28 rfl sz25 (by decide) rfl) ?_
        refine j_q (qs_load (l := dcells d x) (v := .slice As d.srcs.length caps) 0 Tryz.underlying25 rfl rfl rfl (congrArg some hvs)) ?_
        refine j_q (qs_lenl Tryz.underlying25 rfl) ?_
        refine j_q (qs_mc) ?_
        refine j_loop (fun m vs S' => ∃ i : Nat, vs = [.int .i64 (i : Int)] ∧ S' = [[(g0, .cells (dcells d x).toArray 28 (0, 0))], []] ∧ i ≤ d.srcs.length ∧ (∀ j < i, chkS d.srcs j = 0) ∧ m = d.srcs.length - i) ⟨_, 0, rfl, rfl, Nat.zero_le _, (fun j hj => absurd hj (Nat.not_lt_zero _)), rfl⟩ ?_
        rintro m vs S' hlen ⟨i, rfl, rfl, hin, hz, rfl⟩
        refine j_q (qs_lss rfl rfl) ?_
        refine j_cond rfl (fun hc3 => ?_) (fun hc3 => ?_)
        · skip
          have hi : i < d.srcs.length := by
            simp only [bnA] at *
            omega
          obtain ⟨gs, offs, rfl, hgs, hcells⟩ := strz_addr (hvs ▸ h.s) (by omega)
          have hsl := few.sr _ (getD_mem (d := []) hi)
          refine j_q (qs_ixl0 Tryz.underlying25 sz49 rfl rfl (by omega)) ?_
          refine j_q (qs_loadrs (rd_cells hcells (by simp)) Tryz.underlying49 rfl (by simp only [Int.toNat_natCast]; omega)) ?_
          simp only [Int.toNat_natCast]
          refine j_q (qs_call ent41 rfl rfl rfl (fun w' hw' => disPath_con _ w' (by omega))) ?_
          refine j_q (qs_not rfl) ?_
          refine j_g rfl (fun hb => qs_mt rfl) ?_
          refine j_g rfl (fun hb => qs_gtr (gd_eq hb) rfl) ?_
          refine j_g rfl (fun hb => qs_move (gd_eq hb)) ?_
          refine j_gg rfl (fun hb hb1 => qs_mt rfl) ?_
          refine j_gg rfl (fun hb hb1 => qs_field Tryz.underlying28 rfl sz25 (by decide) rfl) ?_
          refine j_gg rfl (fun hb1 hb2 => qs_load (l := dcells d x) (v := .slice (some ⟨gs, offs, none⟩) d.srcs.length caps) 0 Tryz.underlying25 rfl (gd_eq2 hb1 hb2) rfl (congrArg some hvs)) ?_
          refine j_gg rfl (fun hb hb1 => qs_mt rfl) ?_
          refine j_gg rfl (fun hb hb1 => qs_sub64 (gd_eq2 hb hb1) rfl (by omega)) ?_
          refine j_gg rfl (fun hb1 hb2 => qs_ixm (g := gs) (off := offs) (i := i - 1) Tryz.underlying25 sz49 (gd_eq2 hb1 hb2) (gd_eq2 hb1 hb2) (by simp only [bnA] at *; omega) (by omega)) ?_
          refine j_gg rfl (fun hb1 hb2 => qs_loadrs (i := i - 1) (rd_cells hcells (by simp)) Tryz.underlying49 ((gd_eq2 hb1 hb2).trans (by rw [add_off, Nat.mul_one])) (by omega)) ?_
          refine j_gg rfl (fun hb hb1 => qs_sleq (gd_eq2 hb hb1) (gd_eq2 hb hb1)) ?_
          refine j_g rfl (fun hb => qs_and (gd_eq hb) (gd_eq hb)) ?_
          refine j_q (qs_or rfl rfl) ?_
          refine j_cond rfl (fun hc4 => ?_) (fun hc4 => ?_)
          · skip
            have hcs := chkS_at hc4
            refine j_q (qs_ac) ?_
            refine j_ret_con (vs := [_]) (fun w' hw' => ⟨rfl, trivial⟩) ?_
            symm
            show _ = Value.int .i64 3
            congr 1
            exact chk_4 hn0 ho1 hi1 (by rw [firstE_at hz hi (by rw [hcs]; decide), hcs]; rfl) (by decide)
          · skip
            have hcs := chkS_at hc4
            refine j_q (qs_add64 rfl rfl (by omega)) ?_
            refine j_back rfl ?_
            exact ⟨d.srcs.length - (i + 1), by omega, i + 1, rfl, rfl, by omega, zero_snoc hz hcs, rfl⟩
        · skip
          obtain rfl : i = d.srcs.length := by
            simp only [bnA] at *
            omega
          have hS0 := firstE_zero hz
          refine j_q (qs_field Tryz.underlying28 rfl sz23 (by decide) rfl) ?_
          refine j_q (qs_load (l := dcells d x) (v := .slice Ae d.env.length cape) 0 Tryz.underlying23 rfl rfl rfl (congrArg some hve)) ?_
          refine j_q (qs_lenl Tryz.underlying23 rfl) ?_
          refine j_q (qs_mc) ?_
          refine j_loop (fun m vs S' => ∃ i : Nat, vs = [.int .i64 (i : Int)] ∧ S' = [[(g0, .cells (dcells d x).toArray 28 (0, 0))], []] ∧ i ≤ d.env.length ∧ (∀ j < i, chkV d.env j = 0) ∧ m = d.env.length - i) ⟨_, 0, rfl, rfl, Nat.zero_le _, (fun j hj => absurd hj (Nat.not_lt_zero _)), rfl⟩ ?_
          rintro m vs S' hlen ⟨i, rfl, rfl, hin, hz, rfl⟩
          refine j_q (qs_lss rfl rfl) ?_
          refine j_cond rfl (fun hc5 => ?_) (fun hc5 => ?_)
          · skip
            have hi : i < d.env.length := by
              simp only [bnA] at *
              omega
            obtain ⟨rfl, hge, hcells⟩ := hAe (by omega)
            have hsl := few.ev _ (getD_mem (d := v0) hi)
            refine j_q (qs_ixn (g := ge) (off := offe) (i := i) Tryz.underlying23 sz48 rfl rfl (by omega)) ?_
            refine j_q (qs_loadrecw (encA := encV) (rs := d.env) (d := v0) (i := i) encV_len (rd_cells hcells (by simp)) hi Tryz.underlying48 rfl sz48 rfl) ?_
            refine j_alloc zero48 (fun g52 hg52 hs52 => ?_)
            refine j_storew (vs := encV (d.env.getD i v0)) 0 sz48 rfl rfl (encV_len _) (encV_one _) rfl rfl ?_
            refine j_draw ?_
            refine jq_q (qs_field Tryz.underlying48 rfl sz9 (by decide) rfl) ?_
            refine jq_q (qs_load 0 Tryz.underlying9 rfl rfl rfl rfl) ?_
            refine jq_q (qs_seql (l' := []) rfl rfl) ?_
            refine jq_g rfl (fun hb => qs_mt rfl) ?_
            refine jq_g rfl (fun hb => qs_gtr (gd_eq hb) rfl) ?_
            refine jq_g rfl (fun hb => qs_move (gd_eq hb)) ?_
            refine jq_gg rfl (fun hb hb1 => qs_field Tryz.underlying48 rfl sz9 (by decide) rfl) ?_
            refine jq_gg rfl (fun hb hb1 => qs_load 0 Tryz.underlying9 rfl (gd_eq2 hb hb1) rfl rfl) ?_
            refine jq_gg rfl (fun hb hb1 => qs_field Tryz.underlying28 rfl sz23 (by decide) rfl) ?_
            refine jq_gg rfl (fun hb1 hb2 => qs_load (l := dcells d x) (v := .slice (some ⟨ge, offe, none⟩) d.env.length cape) 1 Tryz.underlying23 rfl (gd_eq2 hb1 hb2) rfl (congrArg some hve)) ?_
            refine jq_gg rfl (fun hb hb1 => qs_mt rfl) ?_
            refine jq_gg rfl (fun hb hb1 => qs_sub64 (gd_eq2 hb hb1) rfl (by omega)) ?_
            refine jq_gg rfl (fun hb1 hb2 => qs_ixm (g := ge) (off := offe) (i := i - 1) Tryz.underlying23 sz48 (gd_eq2 hb1 hb2) (gd_eq2 hb1 hb2) (by simp only [bnA] at *; omega) (by omega)) ?_
            refine jq_gg rfl (fun hb hb1 => qs_field Tryz.underlying48 rfl sz9 (by decide) (gd_eq2 hb hb1)) ?_
            refine jq_gg rfl (fun hb1 hb2 => qs_loadrec (v := .string (bs (d.env.getD (i - 1) v0).name)) (encA := encV) (rs := d.env) (d := v0) (i := i - 1) (fo := 0) encV_len (rd_cells hcells (by simp)) (by omega) Tryz.underlying9 rfl (gd_eq2 hb1 hb2) rfl) ?_
            refine jq_gg rfl (fun hb hb1 => qs_sleq (gd_eq2 hb hb1) (gd_eq2 hb hb1)) ?_
            refine jq_g rfl (fun hb => qs_and (gd_eq hb) (gd_eq hb)) ?_
            refine jq_q (qs_or rfl rfl) ?_
            refine jq_nil ?_
            refine j_cond rfl (fun hc6 => ?_) (fun hc6 => ?_)
            · skip
              have hcs := chkV_at hc6
              refine j_q (qs_ac) ?_
              refine j_ret_con (vs := [_]) (fun w' hw' => ⟨rfl, trivial⟩) ?_
              symm
              show _ = Value.int .i64 3
              congr 1
              exact chk_5 hn0 ho1 hi1 hS0 (by rw [firstE_at hz hi (by rw [hcs]; decide), hcs]; rfl) (by decide)
            · skip
              have hcs := chkV_at hc6
              refine j_q (qs_add64 rfl rfl (by omega)) ?_
              refine j_subl (S' := [[(g0, .cells (dcells d x).toArray 28 (0, 0))], []]) (by repeat first | exact slR _ | exact slN _ | apply slC | apply slD) ?_
              refine j_back rfl ?_
              exact ⟨d.env.length - (i + 1), by omega, i + 1, rfl, rfl, by omega, zero_snoc hz hcs, rfl⟩
          · skip
            obtain rfl : i = d.env.length := by
              simp only [bnA] at *
              omega
            have hV0 := firstE_zero hz
            have hchk := chk_6 hn0 ho1 hi1 hS0 hV0
            have tb : TB d := tb_of hi1 hb
            refine j_q (qs_loadw (l := dcells d x) 0 Tryz.underlying28 rfl sz28 rfl rfl rfl) ?_
            refine j_q (qs_call ent36 rfl rfl rfl (fun w' hw' => dtext_con d x w' (h.keep hw') tb)) ?_
            refine j_q (qs_lens Tryz.underlying9 rfl) ?_
            refine j_q (qs_gtr rfl rfl) ?_
            refine j_cond rfl (fun hc7 => ?_) (fun hc7 => ?_)
            · skip
              refine j_q (qs_ac) ?_
              refine j_ret_con (vs := [_]) (fun w' hw' => ⟨rfl, trivial⟩) ?_
              symm
              show _ = Value.int .i64 5
              congr 1
              rw [hchk, if_pos (by simp only [bnA] at *; omega)]
            · skip
              refine j_q (qs_ac) ?_
              refine j_ret_con (vs := [_]) (fun w' hw' => ⟨rfl, trivial⟩) ?_
              symm
              show _ = Value.int .i64 0
              congr 1
              rw [hchk, if_neg (by simp only [bnA] at *; omega)]
theorem dprint_con (d : PD) (x : DV) (w : World) (h : DR w d x) (hb : big2 d ≤ 200000) (hou : ∀ y ∈ d.ins, ∀ o ∈ y.outs, o.length ≤ 9223372036854775807) : Con Tryz.prog 13 [dval d x] w [] fun v _ => v = .tuple #[.string (bs (prS d)), .int .i64 (chk d)] := by
  refine con_of_tree mix Tryz.func13 T13_ok (by kernel_rfl) ?_
  unfold T13
  refine j_box (l := dcells d x) rfl (fun g0 hg0 hs0 => ?_)
  refine j_q (qs_ac) ?_
  refine j_q (qs_ac) ?_
  refine j_q (qs_loadw (l := dcells d x) 0 Tryz.underlying28 rfl sz28 rfl rfl rfl) ?_
  refine j_q (qs_call ent15 rfl rfl rfl (fun w' hw' => dcheck_con d x w' (h.keep hw') hb hou)) ?_
  refine j_q (qs_neq rfl rfl) ?_
  refine j_cond rfl (fun hc0 => ?_) (fun hc0 => ?_)
  · skip
    have hck : chk d ≠ 0 := by simpa using hc0
    refine j_q (qs_ac) ?_
    refine j_ret_con (vs := [_, _]) (fun w' hw' => ⟨rfl, rfl, trivial⟩) ?_
    show Value.tuple #[_, _] = _
    unfold prS
    rw [if_neg hck]
    rfl
  · skip
    have hck : chk d = 0 := by simpa using hc0
    refine j_q (qs_loadw (l := dcells d x) 0 Tryz.underlying28 rfl sz28 rfl rfl rfl) ?_
    refine j_q (qs_call ent36 rfl rfl rfl (fun w' hw' => dtext_con d x w' (h.keep hw') (tb_chk hck hb))) ?_
    refine j_q (qs_ac) ?_
    refine j_ret_con (vs := [_, _]) (fun w' hw' => ⟨rfl, rfl, trivial⟩) ?_
    show Value.tuple #[_, _] = _
    unfold prS
    rw [if_pos hck, hck]
    rfl
end Go.Proofs.YtfeabbeebkkhaaaGreat
/-! Sx23 -/
namespace Go.Sx
open Go
set_option linter.unusedVariables false
variable {P : Program} {R : Ending → World → Prop} {env : Env} {b : Base} {S : List SH} {B : JB} {T : Tree} {v : Value} {ty : TypeId}
theorem j_lit0 {t e : TypeId} {sz : Nat} (ht : P.underlying t = some (.slice e)) (hz : (P.info? e).map (·.size) = some sz)
    (h : ∀ g, b.w0.heap.size ≤ g → Own e sz [] (.slice (some ⟨g, 0, none⟩) 0 0) [(g, .cells [].toArray e (0, 0))] → J P R T (.slice (some ⟨g, 0, none⟩) 0 0 :: env) ([(g, .cells [].toArray e (0, 0))] :: S) b B) : J P R (.op (O (.buildSlice t 0 #[]) ty) T) env S b B := fun w hw => by
  have hrun : (execOp (ev env) (O (.buildSlice t 0 #[]) ty)).run P w = .ok (.value (.slice (some ⟨w.heap.size, 0, none⟩) 0 0)) (w.alloc (.cells [].toArray e)) := by
    have hgt : ¬ (0 * sz > 2 ^ 24) := by omega
    have hn0 : 0 * sz = 0 := Nat.zero_mul _
    simp only [O, execOp, Instr.buildSlice, Sem.run_bind, run_underlying_ok ht, Result.andThen_ok, run_sizeOf_ok hz, if_neg hgt, if_pos hn0, Sem.run_pure]
    have e1 : (Array.map (fun p : Nat × Operand => (p.1, ev env p.2)) #[]).toList = [] := by simp
    rw [e1]
    simp only [Nat.zero_mul, Instr.fill]
    have e2 : ∀ f : Nat → Value, Array.map f (Array.range 0) = #[] := fun f => by simp
    rw [e2]
    rfl
  show opW _ _ _ _ _ _
  unfold opW
  rw [hrun]
  obtain ⟨h1, h2, h3⟩ := hw.new (o := .cells [].toArray e) (w' := w.alloc (.cells [].toArray e)) rfl rfl rfl rfl
  exact h w.heap.size h3 (.inr ⟨w.heap.size, 0, 0, [], (0, 0), rfl, rfl, by simp, by simp, Nat.le_refl _, fun _ _ h => by omega⟩) _ h1
theorem src_rsln {w : World} {A : Option Addr} {n sz cap : Nat} {vs : List Value} (h : RSlN sz w (.slice A n cap) vs n) : Src ⟨w, dom []⟩ S sz (.slice A n cap) n vs := by
  obtain ⟨hl, ⟨hv, rfl⟩ | ⟨g, off, cap', hv, h1, h2, h3⟩⟩ := h
  · injection hv with hA hn hc
    subst hA hc
    exact .inr (.inl ⟨0, rfl, rfl, List.eq_nil_of_length_eq_zero (by omega)⟩)
  · injection hv with hA hn hc
    subst hA hc
    exact .inl ⟨_, _, rfl, rd_cells (b := ⟨w, dom []⟩) h3 (by simp), hl⟩
theorem rsln_ownw {w : World} {e : TypeId} {sz len : Nat} {xs : List Value} {v : Value} {c : SH} (ho : Own e sz xs v c) (h0 : 0 < sz) (hl : xs.length = len * sz) (h : ∀ p ∈ c, w.heap[p.1]? = some p.2) : RSlN sz w v xs len := by
  rcases ho with ⟨rfl, rfl, rfl⟩ | ⟨g, n, cap, rest, fz, rfl, rfl, h1, h2, h3, h4⟩
  · refine ⟨hl, .inl ⟨rfl, ?_⟩⟩
    rcases Nat.eq_zero_or_pos len with h | h
    · exact h
    · have := Nat.mul_pos h h0
      simp at hl
      omega
  · obtain rfl : n = len := Nat.eq_of_mul_eq_mul_right h0 (h1.symm.trans hl)
    have hg := h (g, _) (List.mem_singleton.2 rfl)
    exact ⟨hl, .inr ⟨g, 0, cap, rfl, lt_of_get hg, h3, fun j u hu => by
      rw [add_off, Nat.zero_add, cell_of hg, List.getElem?_append_left (List.getElem?_eq_some_iff.1 hu).1]
      exact hu⟩⟩
end Go.Sx
/-! Dv11 -/
namespace Go.Proofs.YtfeabbeebkkhaaaGreat
open Go Go.Sx
set_option maxRecDepth 100000
set_option maxHeartbeats 4000000
set_option linter.unusedVariables false
set_option linter.unusedSimpArgs false
attribute [local irreducible] J JQ QS Con W opW
theorem sum_step {α : Type} (f : α → Nat) {l : List α} {i : Nat} {d : α} (h : i < l.length) : ((l.take (i + 1)).map f).sum = ((l.take i).map f).sum + f (l.getD i d) := by
  rw [List.take_succ_eq_append_getElem h, List.map_append, List.sum_append, List.getD_eq_getElem?_getD, List.getElem?_eq_getElem h]
  simp
theorem sum_take_le {α : Type} (f : α → Nat) {l : List α} {k : Nat} (h : ∀ x ∈ l, f x ≤ k) (n : Nat) (hn : l.length ≤ n) : ∀ i, ((l.take i).map f).sum ≤ n * k := fun i => by
  have h1 : ∀ l : List α, (∀ x ∈ l, f x ≤ k) → (l.map f).sum ≤ l.length * k := fun l hl => by
    induction l with
    | nil => simp
    | cons a l ih =>
      have ha := hl a (by simp)
      have := ih fun x hx => hl x (by simp [hx])
      simp only [List.map_cons, List.sum_cons, List.length_cons, Nat.add_mul, Nat.one_mul]
      omega
  refine Nat.le_trans (h1 _ fun x hx => h x (List.mem_of_mem_take hx)) (Nat.mul_le_mul_right k ?_)
  rw [List.length_take]
  omega
structure Szd (d : PD) : Prop where
  nm : d.name.length ≤ 140737488355328
  sy : d.sys.length ≤ 140737488355328
  bl : d.bld.length ≤ 140737488355328
  ar : ∀ x ∈ d.args, x.length ≤ 140737488355328
  ev : ∀ x ∈ d.env, x.name.length ≤ 140737488355328 ∧ x.val.length ≤ 140737488355328
  ip : ∀ x ∈ d.ins, x.drv.length ≤ 140737488355328 ∧ x.outs.length ≤ 140737488355328 ∧ ∀ o ∈ x.outs, o.length ≤ 140737488355328
  ou : ∀ x ∈ d.outs, x.name.length ≤ 140737488355328 ∧ x.path.length ≤ 140737488355328
  sr : ∀ x ∈ d.srcs, x.length ≤ 140737488355328
  la : d.args.length ≤ 140737488355328
  le : d.env.length ≤ 140737488355328
  li : d.ins.length ≤ 140737488355328
  lo : d.outs.length ≤ 140737488355328
  ls : d.srcs.length ≤ 140737488355328
theorem vni {v : Value} {a a' b b' : Int} (h1 : a = a') (h2 : b = b') : [Value.int .i64 a, Value.int .i64 b] = [Value.int .i64 a', Value.int .i64 b'] := by rw [h1, h2]
theorem flat_one {α : Type} {enc : α → List Value} {l : List α} (h : ∀ x ∈ l, ∀ u ∈ enc x, oneV u = true) : ∀ u ∈ (l.map enc).flatten, oneV u = true := fun u hu => by
  obtain ⟨c, hc, huc⟩ := List.mem_flatten.1 hu
  obtain ⟨x, hx, rfl⟩ := List.mem_map.1 hc
  exact h x hx u huc
def Mine (mi : List MI) (F : SH) : Prop := ∀ m ∈ mi, ∃ c, Sx.Own 9 1 (strs m.outs) m.v c ∧ ∀ p ∈ c, p ∈ F
theorem mine_nil : Mine [] [] := fun m hm => by cases hm
theorem mine_snoc {mi : List MI} {F c : SH} {m : MI} (h : Mine mi F) (ho : Sx.Own 9 1 (strs m.outs) m.v c) : Mine (mi ++ [m]) (c ++ F) := fun y hy => by
  rcases List.mem_append.1 hy with hy | hy
  · obtain ⟨c', h1, h2⟩ := h y hy
    exact ⟨c', h1, fun p hp => List.mem_append_right _ (h2 p hp)⟩
  · rw [List.mem_singleton] at hy
    subst hy
    exact ⟨c, ho, fun p hp => List.mem_append_left _ hp⟩
theorem strs_one (l : List Bs) : ∀ u ∈ strs l, oneV u = true := fun u hu => by
  obtain ⟨x, _, rfl⟩ := List.mem_map.1 hu
  rfl
theorem ins_take {x : List MI} {mi : List MI} {i : Nat} (h : mi.map MI.pi = (x.take i).map MI.pi) (hi : i < x.length) (v : Value) : (mi ++ [MI.mk (x.getD i m0).drv (x.getD i m0).outs v]).map MI.pi = (x.take (i + 1)).map MI.pi := by
  rw [List.map_append, h, List.take_succ_eq_append_getElem hi, List.map_append]
  congr 1
  rw [List.getD_eq_getElem?_getD, List.getElem?_eq_getElem hi]
  rfl
attribute [local irreducible] es qt cms hex Tbl Half lst isName isPath isDrvP leB chkO chkOuts chkN chkI chkIns firstE spA spB spE chkS chkV dtext chk chk0 tTs
theorem heavy_con (d : PD) (x : DV) (w : World) (h : DR w d x) (sz : Szd d) : Con Tryz.prog 11 [dval d x] w [] fun v _ => v = .bool (heavyP d) := by
  refine con_of_tree mix Tryz.func11 T11_ok (by kernel_rfl) ?_
  unfold T11
  have hni : d.ins.length = x.mi.length := by rw [h.im, List.length_map]
  obtain ⟨Ao, capo, go, offo, hvo, hcapo, hAo⟩ := rsln_form h.o
  obtain ⟨Ai, capi, gi, offi, hvi, hcapi, hAi⟩ := rsln_form h.i
  obtain ⟨Ae, cape, ge, offe, hve, hcape, hAe⟩ := rsln_form h.e
  obtain ⟨As, caps, hvs, hcaps⟩ := strz_form h.s
  obtain ⟨Aa, capa, hva, hcapa⟩ := strz_form h.a
  have hmem : ∀ m ∈ x.mi, m.pi ∈ d.ins := fun m hm => by rw [h.im]; exact List.mem_map_of_mem hm
  obtain ⟨z1, z2, z3, z4, z5, z6, z7, z8, z9, z10, z11, z12, z13⟩ := id sz
  refine j_box (l := dcells d x) rfl (fun g0 hg0 hs0 => ?_)
  refine j_q (qs_ac) ?_
  refine j_q (qs_field Tryz.underlying28 rfl sz9 (by decide) rfl) ?_
  refine j_q (qs_load 0 Tryz.underlying9 rfl rfl rfl rfl) ?_
  refine j_q (qs_lens Tryz.underlying9 rfl) ?_
  refine j_q (qs_field Tryz.underlying28 rfl sz9 (by decide) rfl) ?_
  refine j_q (qs_load 0 Tryz.underlying9 rfl rfl rfl rfl) ?_
  refine j_q (qs_lens Tryz.underlying9 rfl) ?_
  refine j_q (qs_add64 rfl rfl (by omega)) ?_
  refine j_q (qs_field Tryz.underlying28 rfl sz9 (by decide) rfl) ?_
  refine j_q (qs_load 0 Tryz.underlying9 rfl rfl rfl rfl) ?_
  refine j_q (qs_lens Tryz.underlying9 rfl) ?_
  refine j_q (qs_add64 rfl rfl (by omega)) ?_
  refine j_q (qs_field Tryz.underlying28 rfl sz26 (by decide) rfl) ?_
  refine j_q (qs_load (l := dcells d x) 0 Tryz.underlying26 rfl rfl rfl (congrArg some hvo)) ?_
  refine j_q (qs_lenl Tryz.underlying26 rfl) ?_
  refine j_q (qs_field Tryz.underlying28 rfl sz24 (by decide) rfl) ?_
  refine j_q (qs_load (l := dcells d x) 0 Tryz.underlying24 rfl rfl rfl (congrArg some hvi)) ?_
  refine j_q (qs_lenl Tryz.underlying24 rfl) ?_
  refine j_q (qs_add64 rfl rfl (by omega)) ?_
  refine j_q (qs_field Tryz.underlying28 rfl sz25 (by decide) rfl) ?_
  refine j_q (qs_load (l := dcells d x) 0 Tryz.underlying25 rfl rfl rfl (congrArg some hvs)) ?_
  refine j_q (qs_lenl Tryz.underlying25 rfl) ?_
  refine j_q (qs_add64 rfl rfl (by omega)) ?_
  refine j_q (qs_field Tryz.underlying28 rfl sz23 (by decide) rfl) ?_
  refine j_q (qs_load (l := dcells d x) 0 Tryz.underlying23 rfl rfl rfl (congrArg some hve)) ?_
  refine j_q (qs_lenl Tryz.underlying23 rfl) ?_
  refine j_q (qs_add64 rfl rfl (by omega)) ?_
  refine j_q (qs_field Tryz.underlying28 rfl sz22 (by decide) rfl) ?_
  refine j_q (qs_load (l := dcells d x) 0 Tryz.underlying22 rfl rfl rfl (congrArg some hva)) ?_
  refine j_q (qs_lenl Tryz.underlying22 rfl) ?_
  refine j_q (qs_add64 rfl rfl (by omega)) ?_
  refine j_q (qs_mul64 rfl rfl (by omega)) ?_
  refine j_q (qs_add64 rfl rfl (by omega)) ?_
  have hb1 : (big1 d : Int) = ((d.name.length : Int) + d.sys.length + d.bld.length + 10 * ((d.outs.length : Int) + x.mi.length + d.srcs.length + d.env.length + d.args.length)) := by
    unfold big1
    push_cast
    omega
  refine j_q (qs_gtr rfl rfl) ?_
  refine j_cond rfl (fun hc0 => ?_) (fun hc0 => ?_)
  · skip
    have hbig : 4000 < big1 d := by simp only [bnA] at *; omega
    refine j_q (qs_ac) ?_
    refine j_ret_con (vs := [_]) (fun w' hw' => ⟨rfl, trivial⟩) ?_
    show Value.bool true = _
    congr 1
    symm
    unfold heavyP
    simp only [Bool.or_eq_true, decide_eq_true_eq]
    exact .inl hbig
  · skip
    have hbig : ¬ 4000 < big1 d := by simp only [bnA] at *; omega
    have hb2 := hbig
    unfold big1 at hb2
    have t1 := sum_take_le (fun v : PV => v.name.length + v.val.length) (l := d.env) (k := 281474976710656) (fun y hy => by have := sz.ev y hy; omega) 400 (by omega)
    have t2 := sum_take_le List.length (l := d.args) (k := 281474976710656) (fun y hy => by have := sz.ar y hy; omega) 400 (by omega)
    have t3 := sum_take_le (fun y : MI => y.drv.length + 10 * y.outs.length) (l := x.mi) (k := 2814749767106560) (fun y hy => by have := sz.ip _ (hmem y hy); simp only [MI.pi] at this; omega) 400 (by omega)
    have t4 := sum_take_le (fun o : PO => o.name.length + o.path.length) (l := d.outs) (k := 281474976710656) (fun y hy => by have := sz.ou y hy; omega) 400 (by omega)
    have t5 := sum_take_le List.length (l := d.srcs) (k := 281474976710656) (fun y hy => by have := sz.sr y hy; omega) 400 (by omega)
    have f1 := t1 d.env.length
    have f2 := t2 d.args.length
    have f3 := t3 x.mi.length
    have f4 := t4 d.outs.length
    rw [List.take_length] at f1 f2 f3 f4
    refine j_q (qs_ac) ?_
    refine j_loop (fun m vs S' => ∃ i : Nat, vs = [.int .i64 ((big1 d + ((d.env.take i).map fun v => v.name.length + v.val.length).sum : Nat) : Int), .int .i64 (i : Int)] ∧ S' = [[(g0, .cells (dcells d x).toArray 28 (0, 0))], []] ∧ i ≤ d.env.length ∧ m = d.env.length - i) ⟨_, 0, by simp only [List.take_zero, List.map_nil, List.sum_nil, Nat.add_zero]; exact vni (v := .nilIface) hb1.symm rfl, rfl, Nat.zero_le _, rfl⟩ ?_
    rintro m vs S' hlen ⟨i, rfl, rfl, hin, rfl⟩
    refine j_q (qs_field Tryz.underlying28 rfl sz23 (by decide) rfl) ?_
    refine j_q (qs_load (l := dcells d x) 0 Tryz.underlying23 rfl rfl rfl (congrArg some hve)) ?_
    refine j_q (qs_lenl Tryz.underlying23 rfl) ?_
    refine j_q (qs_lss rfl rfl) ?_
    refine j_cond rfl (fun hc1 => ?_) (fun hc1 => ?_)
    · skip
      have hi : i < d.env.length := by
        simp only [bnA] at *
        omega
      obtain ⟨rfl, hge, hcells⟩ := hAe (by omega)
      have hsl := sz.ev _ (getD_mem (d := v0) hi)
      have hst := sum_step (fun v : PV => v.name.length + v.val.length) (d := v0) hi
      have hti := t1 i
      refine j_draw ?_
      refine jq_q (qs_field Tryz.underlying28 rfl sz23 (by decide) rfl) ?_
      refine jq_q (qs_load (l := dcells d x) 0 Tryz.underlying23 rfl rfl rfl (congrArg some hve)) ?_
      refine jq_q (qs_ixn (g := ge) (off := offe) (i := i) Tryz.underlying23 sz48 rfl rfl (by omega)) ?_
      refine jq_q (qs_field Tryz.underlying48 rfl sz9 (by decide) rfl) ?_
      refine jq_q (qs_loadrec (v := .string (bs (d.env.getD i v0).name)) (encA := encV) (rs := d.env) (d := v0) (i := i) (fo := 0) encV_len (rd_cells hcells (by simp)) hi Tryz.underlying9 rfl rfl rfl) ?_
      refine jq_q (qs_lens Tryz.underlying9 rfl) ?_
      refine jq_q (qs_add64 rfl rfl (by omega)) ?_
      refine jq_q (qs_field Tryz.underlying28 rfl sz23 (by decide) rfl) ?_
      refine jq_q (qs_load (l := dcells d x) 0 Tryz.underlying23 rfl rfl rfl (congrArg some hve)) ?_
      refine jq_q (qs_ixn (g := ge) (off := offe) (i := i) Tryz.underlying23 sz48 rfl rfl (by omega)) ?_
      refine jq_q (qs_field Tryz.underlying48 rfl sz9 (by decide) rfl) ?_
      refine jq_q (qs_loadrec (v := .string (bs (d.env.getD i v0).val)) (encA := encV) (rs := d.env) (d := v0) (i := i) (fo := 1) encV_len (rd_cells hcells (by simp)) hi Tryz.underlying9 rfl rfl rfl) ?_
      refine jq_q (qs_lens Tryz.underlying9 rfl) ?_
      refine jq_q (qs_add64 rfl rfl (by omega)) ?_
      refine jq_nil ?_
      refine j_q (qs_add64 rfl rfl (by omega)) ?_
      refine j_back rfl ?_
      exact ⟨d.env.length - (i + 1), by omega, i + 1, vni (v := .nilIface) (by rw [hst]; push_cast; omega) (by omega), rfl, by omega, rfl⟩
    · skip
      obtain rfl : i = d.env.length := by
        simp only [bnA] at *
        omega
      rw [List.take_length]
      refine j_q (qs_ac) ?_
      refine j_loop (fun m vs S' => ∃ i : Nat, vs = [.int .i64 ((big1 d + (d.env.map fun v => v.name.length + v.val.length).sum + ((d.args.take i).map List.length).sum : Nat) : Int), .int .i64 (i : Int)] ∧ S' = [[(g0, .cells (dcells d x).toArray 28 (0, 0))], []] ∧ i ≤ d.args.length ∧ m = d.args.length - i) ⟨_, 0, by simp only [List.take_zero, List.map_nil, List.sum_nil, Nat.add_zero]; rfl, rfl, Nat.zero_le _, rfl⟩ ?_
      rintro m vs S' hlen ⟨i, rfl, rfl, hin, rfl⟩
      refine j_q (qs_field Tryz.underlying28 rfl sz22 (by decide) rfl) ?_
      refine j_q (qs_load (l := dcells d x) 0 Tryz.underlying22 rfl rfl rfl (congrArg some hva)) ?_
      refine j_q (qs_lenl Tryz.underlying22 rfl) ?_
      refine j_q (qs_lss rfl rfl) ?_
      refine j_cond rfl (fun hc2 => ?_) (fun hc2 => ?_)
      · skip
        have hi : i < d.args.length := by
          simp only [bnA] at *
          omega
        obtain ⟨ga, offa, rfl, hga, hcells⟩ := strz_addr (hva ▸ h.a) (by omega)
        have hsl := sz.ar _ (getD_mem (d := []) hi)
        have hst := sum_step List.length (l := d.args) (d := []) hi
        have hti := t2 i
        refine j_q (qs_field Tryz.underlying28 rfl sz22 (by decide) rfl) ?_
        refine j_q (qs_load (l := dcells d x) 0 Tryz.underlying22 rfl rfl rfl (congrArg some hva)) ?_
        refine j_q (qs_ixn (g := ga) (off := offa) (i := i) Tryz.underlying22 sz9 rfl rfl (by omega)) ?_
        refine j_q (qs_loadrs (i := i) (rd_cells hcells (by simp)) Tryz.underlying9 (by rw [add_off, Nat.mul_one]; rfl) (by omega)) ?_
        refine j_q (qs_lens Tryz.underlying9 rfl) ?_
        refine j_q (qs_add64 rfl rfl (by omega)) ?_
        refine j_q (qs_add64 rfl rfl (by omega)) ?_
        refine j_back rfl ?_
        exact ⟨d.args.length - (i + 1), by omega, i + 1, vni (v := .nilIface) (by rw [hst]; push_cast; omega) (by omega), rfl, by omega, rfl⟩
      · skip
        obtain rfl : i = d.args.length := by
          simp only [bnA] at *
          omega
        rw [List.take_length]
        refine j_q (qs_ac) ?_
        refine j_loop (fun m vs S' => ∃ i : Nat, vs = [.int .i64 ((big1 d + (d.env.map fun v => v.name.length + v.val.length).sum + (d.args.map List.length).sum + ((x.mi.take i).map fun y => y.drv.length + 10 * y.outs.length).sum : Nat) : Int), .int .i64 (i : Int)] ∧ S' = [[(g0, .cells (dcells d x).toArray 28 (0, 0))], []] ∧ i ≤ x.mi.length ∧ m = x.mi.length - i) ⟨_, 0, by simp only [List.take_zero, List.map_nil, List.sum_nil, Nat.add_zero]; rfl, rfl, Nat.zero_le _, rfl⟩ ?_
        rintro m vs S' hlen ⟨i, rfl, rfl, hin, rfl⟩
        refine j_q (qs_field Tryz.underlying28 rfl sz24 (by decide) rfl) ?_
        refine j_q (qs_load (l := dcells d x) 0 Tryz.underlying24 rfl rfl rfl (congrArg some hvi)) ?_
        refine j_q (qs_lenl Tryz.underlying24 rfl) ?_
        refine j_q (qs_lss rfl rfl) ?_
        refine j_cond rfl (fun hc3 => ?_) (fun hc3 => ?_)
        · skip
          have hi : i < x.mi.length := by
            simp only [bnA] at *
            omega
          obtain ⟨rfl, hgi, hcells⟩ := hAi (by omega)
          have hsl := sz.ip _ (hmem _ (getD_mem (d := m0) hi))
          simp only [MI.pi] at hsl
          have hst := sum_step (fun y : MI => y.drv.length + 10 * y.outs.length) (d := m0) hi
          have hti := t3 i
          obtain ⟨Ax, capx, hvx, hcapx⟩ := strz_form (h.io _ (getD_mem (d := m0) hi))
          refine j_draw ?_
          refine jq_q (qs_field Tryz.underlying28 rfl sz24 (by decide) rfl) ?_
          refine jq_q (qs_load (l := dcells d x) 0 Tryz.underlying24 rfl rfl rfl (congrArg some hvi)) ?_
          refine jq_q (qs_ixn (g := gi) (off := offi) (i := i) Tryz.underlying24 sz68 rfl rfl (by omega)) ?_
          refine jq_q (qs_field Tryz.underlying68 rfl sz49 (by decide) rfl) ?_
          refine jq_q (qs_loadrec (v := .string (bs (x.mi.getD i m0).drv)) (encA := encI) (rs := x.mi) (d := m0) (i := i) (fo := 0) encI_len (rd_cells hcells (by simp)) hi Tryz.underlying49 rfl rfl rfl) ?_
          refine jq_q (qs_lens Tryz.underlying49 rfl) ?_
          refine jq_q (qs_add64 rfl rfl (by omega)) ?_
          refine jq_q (qs_field Tryz.underlying28 rfl sz24 (by decide) rfl) ?_
          refine jq_q (qs_load (l := dcells d x) 0 Tryz.underlying24 rfl rfl rfl (congrArg some hvi)) ?_
          refine jq_q (qs_ixn (g := gi) (off := offi) (i := i) Tryz.underlying24 sz68 rfl rfl (by omega)) ?_
          refine jq_q (qs_field Tryz.underlying68 rfl sz22 (by decide) rfl) ?_
          refine jq_q (qs_loadrec (v := .slice Ax (x.mi.getD i m0).outs.length capx) (encA := encI) (rs := x.mi) (d := m0) (i := i) (fo := 1) encI_len (rd_cells hcells (by simp)) hi Tryz.underlying22 rfl rfl (congrArg some hvx)) ?_
          refine jq_q (qs_lenl Tryz.underlying22 rfl) ?_
          refine jq_q (qs_mul64 rfl rfl (by omega)) ?_
          refine jq_q (qs_add64 rfl rfl (by omega)) ?_
          refine jq_nil ?_
          refine j_q (qs_add64 rfl rfl (by omega)) ?_
          refine j_back rfl ?_
          exact ⟨x.mi.length - (i + 1), by omega, i + 1, vni (v := .nilIface) (by rw [hst]; push_cast; omega) (by omega), rfl, by omega, rfl⟩
        · skip
          obtain rfl : i = x.mi.length := by
            simp only [bnA] at *
            omega
          rw [List.take_length]
          refine j_q (qs_ac) ?_
          refine j_loop (fun m vs S' => ∃ i : Nat, vs = [.int .i64 ((big1 d + (d.env.map fun v => v.name.length + v.val.length).sum + (d.args.map List.length).sum + (x.mi.map fun y => y.drv.length + 10 * y.outs.length).sum + ((d.outs.take i).map fun o => o.name.length + o.path.length).sum : Nat) : Int), .int .i64 (i : Int)] ∧ S' = [[(g0, .cells (dcells d x).toArray 28 (0, 0))], []] ∧ i ≤ d.outs.length ∧ m = d.outs.length - i) ⟨_, 0, by simp only [List.take_zero, List.map_nil, List.sum_nil, Nat.add_zero]; rfl, rfl, Nat.zero_le _, rfl⟩ ?_
          rintro m vs S' hlen ⟨i, rfl, rfl, hin, rfl⟩
          refine j_q (qs_field Tryz.underlying28 rfl sz26 (by decide) rfl) ?_
          refine j_q (qs_load (l := dcells d x) 0 Tryz.underlying26 rfl rfl rfl (congrArg some hvo)) ?_
          refine j_q (qs_lenl Tryz.underlying26 rfl) ?_
          refine j_q (qs_lss rfl rfl) ?_
          refine j_cond rfl (fun hc4 => ?_) (fun hc4 => ?_)
          · skip
            have hi : i < d.outs.length := by
              simp only [bnA] at *
              omega
            obtain ⟨rfl, hgo, hcells⟩ := hAo (by omega)
            have hsl := sz.ou _ (getD_mem (d := o0) hi)
            have hst := sum_step (fun o : PO => o.name.length + o.path.length) (d := o0) hi
            have hti := t4 i
            refine j_draw ?_
            refine jq_q (qs_field Tryz.underlying28 rfl sz26 (by decide) rfl) ?_
            refine jq_q (qs_load (l := dcells d x) 0 Tryz.underlying26 rfl rfl rfl (congrArg some hvo)) ?_
            refine jq_q (qs_ixn (g := go) (off := offo) (i := i) Tryz.underlying26 sz53 rfl rfl (by omega)) ?_
            refine jq_q (qs_field Tryz.underlying53 rfl sz9 (by decide) rfl) ?_
            refine jq_q (qs_loadrec (v := .string (bs (d.outs.getD i o0).name)) (encA := encO) (rs := d.outs) (d := o0) (i := i) (fo := 0) encO_len (rd_cells hcells (by simp)) hi Tryz.underlying9 rfl rfl rfl) ?_
            refine jq_q (qs_lens Tryz.underlying9 rfl) ?_
            refine jq_q (qs_add64 rfl rfl (by omega)) ?_
            refine jq_q (qs_field Tryz.underlying28 rfl sz26 (by decide) rfl) ?_
            refine jq_q (qs_load (l := dcells d x) 0 Tryz.underlying26 rfl rfl rfl (congrArg some hvo)) ?_
            refine jq_q (qs_ixn (g := go) (off := offo) (i := i) Tryz.underlying26 sz53 rfl rfl (by omega)) ?_
            refine jq_q (qs_field Tryz.underlying53 rfl sz49 (by decide) rfl) ?_
            refine jq_q (qs_loadrec (v := .string (bs (d.outs.getD i o0).path)) (encA := encO) (rs := d.outs) (d := o0) (i := i) (fo := 1) encO_len (rd_cells hcells (by simp)) hi Tryz.underlying49 rfl rfl rfl) ?_
            refine jq_q (qs_lens Tryz.underlying49 rfl) ?_
            refine jq_q (qs_add64 rfl rfl (by omega)) ?_
            refine jq_nil ?_
            refine j_q (qs_add64 rfl rfl (by omega)) ?_
            refine j_back rfl ?_
            exact ⟨d.outs.length - (i + 1), by omega, i + 1, vni (v := .nilIface) (by rw [hst]; push_cast; omega) (by omega), rfl, by omega, rfl⟩
          · skip
            obtain rfl : i = d.outs.length := by
              simp only [bnA] at *
              omega
            rw [List.take_length]
            refine j_q (qs_ac) ?_
            refine j_loop (fun m vs S' => ∃ i : Nat, vs = [.int .i64 ((big1 d + (d.env.map fun v => v.name.length + v.val.length).sum + (d.args.map List.length).sum + (x.mi.map fun y => y.drv.length + 10 * y.outs.length).sum + (d.outs.map fun o => o.name.length + o.path.length).sum + ((d.srcs.take i).map List.length).sum : Nat) : Int), .int .i64 (i : Int)] ∧ S' = [[(g0, .cells (dcells d x).toArray 28 (0, 0))], []] ∧ i ≤ d.srcs.length ∧ m = d.srcs.length - i) ⟨_, 0, by simp only [List.take_zero, List.map_nil, List.sum_nil, Nat.add_zero]; rfl, rfl, Nat.zero_le _, rfl⟩ ?_
            rintro m vs S' hlen ⟨i, rfl, rfl, hin, rfl⟩
            refine j_q (qs_field Tryz.underlying28 rfl sz25 (by decide) rfl) ?_
            refine j_q (qs_load (l := dcells d x) 0 Tryz.underlying25 rfl rfl rfl (congrArg some hvs)) ?_
            refine j_q (qs_lenl Tryz.underlying25 rfl) ?_
            refine j_q (qs_lss rfl rfl) ?_
            refine j_cond rfl (fun hc5 => ?_) (fun hc5 => ?_)
            · skip
              have hi : i < d.srcs.length := by
                simp only [bnA] at *
                omega
              obtain ⟨gs, offs, rfl, hgs, hcells⟩ := strz_addr (hvs ▸ h.s) (by omega)
              have hsl := sz.sr _ (getD_mem (d := []) hi)
              have hst := sum_step List.length (l := d.srcs) (d := []) hi
              have hti := t5 i
              refine j_q (qs_field Tryz.underlying28 rfl sz25 (by decide) rfl) ?_
              refine j_q (qs_load (l := dcells d x) 0 Tryz.underlying25 rfl rfl rfl (congrArg some hvs)) ?_
              refine j_q (qs_ixn (g := gs) (off := offs) (i := i) Tryz.underlying25 sz49 rfl rfl (by omega)) ?_
              refine j_q (qs_loadrs (i := i) (rd_cells hcells (by simp)) Tryz.underlying49 (by rw [add_off, Nat.mul_one]; rfl) (by omega)) ?_
              refine j_q (qs_lens Tryz.underlying49 rfl) ?_
              refine j_q (qs_add64 rfl rfl (by omega)) ?_
              refine j_q (qs_add64 rfl rfl (by omega)) ?_
              refine j_back rfl ?_
              exact ⟨d.srcs.length - (i + 1), by omega, i + 1, vni (v := .nilIface) (by rw [hst]; push_cast; omega) (by omega), rfl, by omega, rfl⟩
            · skip
              obtain rfl : i = d.srcs.length := by
                simp only [bnA] at *
                omega
              rw [List.take_length]
              refine j_q (qs_gtr rfl rfl) ?_
              refine j_ret_con (vs := [_]) (fun w' hw' => ⟨rfl, trivial⟩) ?_
              show Value.bool _ = _
              congr 1
              have e : big2 d = big1 d + (d.env.map fun v => v.name.length + v.val.length).sum + (d.args.map List.length).sum + (x.mi.map fun y => y.drv.length + 10 * y.outs.length).sum + (d.outs.map fun o => o.name.length + o.path.length).sum + (d.srcs.map List.length).sum := by
                unfold big2 sl
                rw [h.im, List.map_map]
                rfl
              unfold heavyP
              rw [e, Bool.eq_iff_iff]
              simp only [Bool.or_eq_true, decide_eq_true_eq]
              omega
end Go.Proofs.YtfeabbeebkkhaaaGreat
/-! Dv30 -/
namespace Go.Proofs.YtfeabbeebkkhaaaGreat
open Go Go.Sx
set_option linter.unusedVariables false
set_option linter.unusedSimpArgs false
set_option maxRecDepth 100000
attribute [local irreducible] fold sum hex text32 pathOf allDig isName isPath spA spB spE cp sortS rise refsOf withP withE es qt cms Tbl Half isDrvP leB dtext
abbrev HM := List (Bs × Hsh)
def hlook (M : HM) (k : Bs) : Option Hsh := (M.find? fun p => decide (p.1 = k)).map (·.2)
attribute [local irreducible] lst tTs tO tI tV tup
end Go.Proofs.YtfeabbeebkkhaaaGreat
/-! Sx24 -/
namespace Go.Sx
open Go
set_option linter.unusedVariables false
variable {P : Program} {R : Ending → World → Prop} {env : Env} {b : Base} {S : List SH} {B : JB} {T : Tree} {v : Value} {ty : TypeId}
end Go.Sx
/-! Sx25 -/
namespace Go.Sx
open Go
set_option linter.unusedVariables false
variable {P : Program} {R : Ending → World → Prop} {ds : List Deferred}
section
variable {ops : Array Oper} {Q : Exit → Act → World → Prop} {a : Act} {w w' : World} {l : List Oper} {o : Oper} {v : Value}
end
theorem j_ret_sub {env : Env} {S : List SH} {B : JB} {w : World} {Fp : SH} {post : Value → List SH → Prop} {rs : List RV} {vs : List Value} (S1 : List SH) (hs : S1.Sublist S) (hv : ∀ w', Sig ⟨w, dom Fp⟩ S w' → rvsW P env w' rs vs) (h : post (retVal vs) S1) :
    J P (fun e w' => ∃ v S', e = .returned v ∧ post v S' ∧ Sig ⟨w, dom Fp⟩ S' w') (.ret rs) env S ⟨w, dom Fp⟩ B := j_ret hv fun _ hw => ⟨_, S1, rfl, h, hw.sub (sub_flatten hs)⟩
end Go.Sx
/-! Sx26 -/
namespace Go.Sx
open Go Go.MapKept Go.WideMaps Go.Maps
set_option linter.unusedVariables false
set_option linter.unusedSimpArgs false
set_option linter.unusedSectionVars false
variable {P : Program} {R : Ending → World → Prop} {env : Env} {b : Base} {S : List SH} {B : JB} {T : Tree} {v : Value} {ty : TypeId}
end Go.Sx
/-! Sx27 -/
namespace Go.Sx
open Go Go.MapKept Go.WideMaps Go.Maps
set_option linter.unusedVariables false
set_option linter.unusedSimpArgs false
set_option linter.unusedSectionVars false
variable {P : Program} {R : Ending → World → Prop} {env : Env} {b : Base} {S : List SH} {B : JB} {T : Tree} {v : Value} {ty : TypeId}
variable {κ : Type} [DecidableEq κ] {enc : κ → Value} {ok : κ → Prop} {m : List (κ × Value)} {kt : TypeId}
end Go.Sx
/-! Dv12 -/
namespace Go.Proofs.YtfeabbeebkkhaaaGreat
open Go Go.Sx
set_option maxRecDepth 100000
set_option maxHeartbeats 4000000
set_option linter.unusedVariables false
set_option linter.unusedSimpArgs false
attribute [local irreducible] J JQ QS Con W opW
def sO (o : PO) : Bs := [124, 111] ++ o.name ++ o.path ++ o.hash.1 ++ (if o.fixed then [102, 105, 120, 101, 100] else [])
def cm1 (o : Bs) : Bs := [44] ++ o
def sC (l : List Bs) : Bs := (l.map cm1).flatten
def sI (x : PI) : Bs := [124, 105] ++ x.drv ++ sC x.outs
def sS (p : Bs) : Bs := [124, 115] ++ p
def sA (p : Bs) : Bs := [124, 97] ++ p
def sV (v : PV) : Bs := [124, 101] ++ v.name ++ [61] ++ v.val
structure ShB (d : PD) : Prop where
  o : ((d.outs.map sO).flatten).length ≤ 100000000000
  i : ((d.ins.map sI).flatten).length ≤ 2300000000000000000
  s : ((d.srcs.map sS).flatten).length ≤ 100000000000
  a : ((d.args.map sA).flatten).length ≤ 100000000000
  e : ((d.env.map sV).flatten).length ≤ 100000000000
attribute [local irreducible] es qt cms hex Tbl Half lst isName isPath isDrvP leB chkO chkOuts chkN chkI chkIns firstE spA spB spE chkS chkV dtext chk chk0 tTs
end Go.Proofs.YtfeabbeebkkhaaaGreat
/-! Dvk -/
namespace Go.Proofs.YtfeabbeebkkhaaaGreat
open Go Go.Sx
set_option maxRecDepth 100000
set_option maxHeartbeats 4000000
set_option linter.unusedVariables false
set_option linter.unusedSimpArgs false
attribute [local irreducible] J JQ QS Con W opW
abbrev kd : PD := ⟨[120], [115], [98], [], [], [], [], [⟨sOut, [], false, zHash⟩]⟩
theorem kd_chk : chk kd = 0 := by decide +kernel
theorem kd_text : dtext kd = [68, 101, 114, 105, 118, 101, 40, 34, 120, 34, 44, 91, 40, 34, 111, 117, 116, 34, 44, 34, 34, 44, 34, 34, 44, 34, 34, 41, 93, 44, 91, 93, 44, 91, 93, 44, 34, 115, 34, 44, 34, 98, 34, 44, 91, 93, 44, 91, 93, 41] := by decide +kernel
theorem Szd.outs {d : PD} (h : Szd d) : ∀ y ∈ d.ins, ∀ o ∈ y.outs, o.length ≤ 140737488355328 := fun y hy => (h.ip y hy).2.2
theorem Szd.outs2 {d : PD} (h : Szd d) : ∀ y ∈ d.ins, ∀ o ∈ y.outs, o.length ≤ 9223372036854775807 := fun y hy o ho => by
  have := h.outs y hy o ho
  omega
attribute [local irreducible] es qt cms hex Tbl Half lst isName isPath isDrvP leB chkO chkOuts chkN chkI chkIns firstE spA spB spE chkS chkV dtext chk chk0 tTs big1 big2 heavyP
theorem known_con (w : World) : Con Tryz.prog 18 [] w [] fun v _ => v = .bool true := by
  refine con_of_tree mix Tryz.func18 T18_ok (by kernel_rfl) ?_
  unfold T18
  refine j_q (qs_ac) ?_
  refine j_q (v := .agg (encO ⟨sOut, [], false, zHash⟩).toArray) (qs_build (places := [(0, 1), (1, 1), (2, 1), (3, 32)]) (offs := [(0, [.string (bs sOut)])]) Tryz.underlying53 zero53 (by kernel_rfl) rfl (by rintro (_ | j) p q hp hq <;> first | (simp at hp hq; subst hp hq; exact ⟨rfl, rfl, by simp⟩) | (simp at hp))) ?_
  refine j_litw (vs := encO ⟨sOut, [], false, zHash⟩) Tryz.underlying26 sz53 zero53 rfl rfl ⟨rfl, by decide, by decide⟩ (fun g2 hg2 ho2 => ?_)
  refine j_q (v := dval kd ⟨.slice none 0 0, .slice none 0 0, .slice none 0 0, .slice none 0 0, .slice (some ⟨g2, 0, none⟩) 1 1, []⟩) (qs_build (places := [(0, 1), (1, 1), (2, 1), (3, 1), (4, 1), (5, 1), (6, 1), (7, 1)]) (offs := [(0, [.string (bs [120])]), (1, [.string (bs [115])]), (2, [.string (bs [98])]), (7, [.slice (some ⟨g2, 0, none⟩) 1 1])]) Tryz.underlying28 zero28 (by kernel_rfl) rfl (by rintro (_ | _ | _ | _ | j) p q hp hq <;> first | (simp at hp hq; subst hp hq; exact ⟨rfl, rfl, by simp⟩) | (simp at hp))) ?_
  refine j_q (qs_call ent13 rfl rfl rfl (fun w' hw' => dprint_con kd _ w' ⟨strz_nil, ⟨rfl, .inl ⟨rfl, rfl⟩⟩, ⟨rfl, .inl ⟨rfl, rfl⟩⟩, (fun m hm => by cases hm), rfl, strz_nil, rsln_ownw (len := 1) (xs := (kd.outs.map encO).flatten) (by simpa using ho2) (by decide) rfl (fun p hp => hw'.own p (by simp at hp; subst hp; simp))⟩ (by unfold big2 big1; decide) (fun y hy => by cases hy))) ?_
  refine j_q (qs_ext (vs := [.string (bs (prS kd)), .int .i64 (chk kd)]) rfl rfl) ?_
  refine j_q (qs_ext (vs := [.string (bs (prS kd)), .int .i64 (chk kd)]) rfl rfl) ?_
  refine j_q (qs_eql rfl rfl) ?_
  refine j_g rfl (fun hb => qs_mt rfl) ?_
  refine j_g rfl (fun hb => qs_seql (gd_eq hb) rfl) ?_
  refine j_q (qs_and rfl rfl) ?_
  refine j_ret_con (vs := [_]) (fun w' hw' => ⟨rfl, trivial⟩) ?_
  show Value.bool _ = Value.bool true
  congr 1
  unfold prS
  rw [kd_chk, if_pos rfl, kd_text]
  rfl
end Go.Proofs.YtfeabbeebkkhaaaGreat
/-! Dv31 -/
namespace Go.Proofs.YtfeabbeebkkhaaaGreat
open Go Go.Sx
set_option maxRecDepth 100000
set_option maxHeartbeats 4000000
set_option linter.unusedVariables false
set_option linter.unusedSimpArgs false
attribute [local irreducible] J JQ QS Con W opW
open Go.MapKept Go.WideMaps Go.Maps
structure DOwnE (d : PD) (x : DV) (cO cI FI cS cA cV : SH) : Prop where
  o : Sx.Own 53 35 ((d.outs.map encO).flatten) x.vo cO
  i : Sx.Own 68 2 ((x.mi.map encI).flatten) x.vi cI
  io : Mine x.mi FI
  im : d.ins = x.mi.map MI.pi
  s : Sx.Own 49 1 (strs d.srcs) x.vs cS
  a : Sx.Own 9 1 (strs d.args) x.va cA
  e : Sx.Own 48 2 ((d.env.map encV).flatten) x.ve cV
theorem DOwnE.dr {d : PD} {x : DV} {cO cI FI cS cA cV : SH} {w : World} (h : DOwnE d x cO cI FI cS cA cV) (hw : ∀ p ∈ cO ++ cI ++ FI ++ cS ++ cA ++ cV, w.heap[p.1]? = some p.2) : DR w d x where
  o := rsln_ownw h.o (by decide) (flat_len encO_len _) (fun p hp => hw p (by simp [hp]))
  i := rsln_ownw h.i (by decide) (flat_len encI_len _) (fun p hp => hw p (by simp [hp]))
  e := rsln_ownw h.e (by decide) (flat_len encV_len _) (fun p hp => hw p (by simp [hp]))
  s := strz_ownw h.s (fun p hp => hw p (by simp [hp]))
  a := strz_ownw h.a (fun p hp => hw p (by simp [hp]))
  im := h.im
  io := fun m hm => by
    obtain ⟨c, h1, h2⟩ := h.io m hm
    exact strz_ownw h1 (fun p hp => hw p (by simp [h2 p hp]))
theorem own_one {e : TypeId} {sz : Nat} {xs : List Value} {v : Value} {c : SH} (h : Sx.Own e sz xs v c) : oneV v = true := by
  rcases h with ⟨rfl, _⟩ | ⟨g, n, cap, rest, fz, rfl, _⟩ <;> rfl
theorem DOwnE.one {d : PD} {x : DV} {cO cI FI cS cA cV : SH} (h : DOwnE d x cO cI FI cS cA cV) : ∀ u ∈ dcells d x, oneV u = true := fun u hu => by
  simp only [dcells, List.mem_cons, List.not_mem_nil, or_false] at hu
  rcases hu with rfl | rfl | rfl | rfl | rfl | rfl | rfl | rfl
  · rfl
  · rfl
  · rfl
  · exact own_one h.a
  · exact own_one h.e
  · exact own_one h.i
  · exact own_one h.s
  · exact own_one h.o
attribute [local irreducible] es qt cms hex Tbl Half lst isName isPath isDrvP leB chkO chkOuts chkN chkI chkIns firstE spA spB spE chkS chkV dtext chk chk0 tTs
end Go.Proofs.YtfeabbeebkkhaaaGreat
/-! Dv32 -/
namespace Go.Proofs.YtfeabbeebkkhaaaGreat
open Go Go.Sx
set_option maxRecDepth 100000
set_option maxHeartbeats 4000000
set_option linter.unusedVariables false
set_option linter.unusedSimpArgs false
attribute [local irreducible] J JQ QS Con W opW
open Go.MapKept Go.WideMaps Go.Maps
theorem pk49 : KeyE Tryz.prog 49 strEnc strOk := str_key Tryz.underlying49
def hget (M : HM) (k : Bs) : Hsh := (hlook M k).getD zHash
section
variable {M : HM} {d : PD}
end
theorem own_at {e : TypeId} {sz : Nat} {xs : List Value} {A : Option Addr} {n cap : Nat} {c : SH} (h : Sx.Own e sz xs (.slice A n cap) c) (h0 : 0 < xs.length) : ∃ g, A = some ⟨g, 0, none⟩ := by
  rcases h with ⟨_, rfl, _⟩ | ⟨g, n', cap', rest, fz, e1, _⟩
  · simp at h0
  · injection e1 with e1
    exact ⟨g, e1⟩
theorem fl_pos {α : Type} {enc : α → List Value} {n : Nat} (hl : ∀ a, (enc a).length = n) (h0 : 0 < n) {l : List α} (h : 0 < l.length) : 0 < ((l.map enc).flatten).length := by
  rw [flat_len hl]
  exact Nat.mul_pos h h0
attribute [local irreducible] es qt cms hex sum Tbl Half lst isName isPath isDrvP leB chkO chkOuts chkN chkI chkIns firstE spA spB spE chkS chkV dtext chk chk0 tTs hget
end Go.Proofs.YtfeabbeebkkhaaaGreat
/-! Dv33 -/
namespace Go.Proofs.YtfeabbeebkkhaaaGreat
open Go Go.Sx
set_option maxRecDepth 100000
set_option maxHeartbeats 4000000
set_option linter.unusedVariables false
set_option linter.unusedSimpArgs false
attribute [local irreducible] J JQ QS Con W opW
open Go.MapKept Go.WideMaps Go.Maps
section
variable {M : HM} {d : PD}
end
attribute [local irreducible] es qt cms hex sum Tbl Half lst isName isPath isDrvP leB chkO chkOuts chkN chkI chkIns firstE spA spB spE chkS chkV dtext chk chk0 tTs hget
end Go.Proofs.YtfeabbeebkkhaaaGreat
/-! Dv8 -/
namespace Go.Proofs.YtfeabbeebkkhaaaGreat
open Go Go.Sx
set_option maxRecDepth 100000
set_option maxHeartbeats 4000000
set_option linter.unusedVariables false
set_option linter.unusedSimpArgs false
attribute [local irreducible] J JQ QS Con W opW
theorem bools2 {v v' : Value} {a a' : Int} (h1 : v = v') (h2 : a = a') : [v, Value.int .i64 a] = [v', .int .i64 a'] := by rw [h1, h2]
attribute [local irreducible] es qt cms hex Tbl Half lst isName isPath isDrvP leB chkO chkOuts chkN chkI chkIns firstE spA spB spE chkS chkV dtext chk chk0
end Go.Proofs.YtfeabbeebkkhaaaGreat
/-! Dv9 -/
namespace Go.Proofs.YtfeabbeebkkhaaaGreat
open Go Go.Sx
set_option maxRecDepth 100000
set_option maxHeartbeats 4000000
set_option linter.unusedVariables false
set_option linter.unusedSimpArgs false
attribute [local irreducible] J JQ QS Con W opW
attribute [local irreducible] es qt cms hex Tbl Half lst isName isPath isDrvP leB chkO chkOuts chkN chkI chkIns firstE spA spB spE chkS chkV dtext chk chk0 tTs
end Go.Proofs.YtfeabbeebkkhaaaGreat
/-! Sx22 -/
namespace Go.Sx
open Go
set_option linter.unusedVariables false
variable {P : Program} {R : Ending → World → Prop} {env : Env} {b : Base} {S : List SH} {B : JB} {T : Tree} {v : Value} {ty : TypeId}
end Go.Sx
/-! Dv10 -/
namespace Go.Proofs.YtfeabbeebkkhaaaGreat
open Go Go.Sx
set_option maxRecDepth 100000
set_option maxHeartbeats 4000000
set_option linter.unusedVariables false
set_option linter.unusedSimpArgs false
attribute [local irreducible] J JQ QS Con W opW
section
variable {d : PD}
end
attribute [local irreducible] es qt cms hex Tbl Half lst isName isPath isDrvP leB chkO chkOuts chkN chkI chkIns firstE spA spB spE chkS chkV dtext chk chk0 tTs
end Go.Proofs.YtfeabbeebkkhaaaGreat
/-! Dv13 -/
namespace Go.Proofs.YtfeabbeebkkhaaaGreat
open Go Go.Sx
set_option maxRecDepth 100000
set_option maxHeartbeats 4000000
set_option linter.unusedVariables false
set_option linter.unusedSimpArgs false
attribute [local irreducible] J JQ QS Con W opW
attribute [local irreducible] es qt cms hex Tbl Half lst isName isPath isDrvP leB chkO chkOuts chkN chkI chkIns firstE spA spB spE chkS chkV dtext chk chk0 tTs big1 big2 heavyP
end Go.Proofs.YtfeabbeebkkhaaaGreat
/-! Dv34 -/
namespace Go.Proofs.YtfeabbeebkkhaaaGreat
open Go Go.Sx
set_option maxRecDepth 100000
set_option maxHeartbeats 4000000
set_option linter.unusedVariables false
set_option linter.unusedSimpArgs false
attribute [local irreducible] J JQ QS Con W opW
theorem heavy4_no {d : PD} {b : Bool} (h : (heavyP d || b) = false) : big1 d ≤ 4000 ∧ big2 d ≤ 16000 := by
  unfold heavyP at h
  simp only [Bool.or_eq_false_iff, decide_eq_false_iff_not] at h
  omega
attribute [local irreducible] es qt cms hex sum Tbl Half lst isName isPath isDrvP leB chkO chkOuts chkN chkI chkIns firstE spA spB spE chkS chkV dtext chk chk0 tTs hget big1 big2 heavyP
end Go.Proofs.YtfeabbeebkkhaaaGreat
/-! Dv35 -/
namespace Go.Proofs.YtfeabbeebkkhaaaGreat
open Go Go.Sx
set_option maxRecDepth 100000
set_option maxHeartbeats 4000000
set_option linter.unusedVariables false
set_option linter.unusedSimpArgs false
attribute [local irreducible] J JQ QS Con W opW
attribute [local irreducible] es qt cms hex sum Tbl Half lst isName isPath isDrvP leB chkO chkOuts chkN chkI chkIns firstE spA spB spE chkS chkV dtext chk chk0 tTs hget big1 big2 heavyP
end Go.Proofs.YtfeabbeebkkhaaaGreat
/-! Dv36 -/
namespace Go.Proofs.YtfeabbeebkkhaaaGreat
open Go Go.Sx
set_option maxRecDepth 100000
set_option maxHeartbeats 4000000
set_option linter.unusedVariables false
set_option linter.unusedSimpArgs false
attribute [local irreducible] J JQ QS Con W opW
open Go.MapKept Go.WideMaps Go.Maps
def refsP (d : PD) : List Bs := if chk d = 0 then rise (d.ins.map PI.drv ++ d.srcs) else []
def pathV (d : PD) : Value := if chk d = 0 then withV kText (sum (dtext d)) (refsP d) (d.name ++ sDrv) else .tuple #[.string (bs []), .int .i64 (chk d)]
theorem mset_mem {m : List (Bs × Value)} {k : Bs} {v : Value} (x : Bs) : x ∈ (mset m k v).map Prod.fst ↔ x ∈ m.map Prod.fst ∨ x = k := by
  unfold mset
  by_cases h : (mlook m k).isSome = true
  · rw [if_pos h, mput_keys]
    constructor
    · exact .inl
    · rintro (h1 | rfl)
      · exact h1
      · obtain ⟨v', hv⟩ := Option.isSome_iff_exists.1 h
        exact List.mem_map_of_mem (f := Prod.fst) (mlook_some hv)
  · rw [if_neg h, List.map_append, List.mem_append]
    simp
theorem mset_le (m : List (Bs × Value)) (k : Bs) (v : Value) : (mset m k v).length ≤ m.length + 1 := by
  unfold mset
  split
  · unfold mput; simp
  · simp
theorem refs_in {x : DV} {d : PD} (h : d.ins = x.mi.map MI.pi) : d.ins.map PI.drv = x.mi.map MI.drv := by
  rw [h, List.map_map]
  rfl
theorem take_mem {α : Type} (f : α → Bs) {l : List α} {i : Nat} (d : α) (hi : i < l.length) (x : Bs) : x ∈ (l.take (i + 1)).map f ↔ x ∈ (l.take i).map f ∨ x = f (l.getD i d) := by
  rw [take_map_snoc f (d := d) hi, List.mem_append, List.mem_singleton]
theorem refsP_len (d : PD) : (refsP d).length ≤ d.ins.length + d.srcs.length := by
  unfold refsP
  split
  · have := rise_len (d.ins.map PI.drv ++ d.srcs)
    rw [List.length_append, List.length_map] at this
    exact this
  · simp
theorem refsP_mem {d : PD} (h : chk d = 0) (x : Bs) : x ∈ refsP d ↔ x ∈ d.ins.map PI.drv ∨ x ∈ d.srcs := by
  unfold refsP
  rw [if_pos h, rise_mem, List.mem_append]
theorem refsP_le {d : PD} (hb : big2 d ≤ 200000) : ∀ r ∈ refsP d, r.length ≤ 200000 := fun r hr => by
  have few := few_of hb
  by_cases hc : chk d = 0
  · rcases (refsP_mem hc r).1 hr with h | h
    · obtain ⟨y, hy, rfl⟩ := List.mem_map.1 h
      have := few.ip y hy
      omega
    · exact few.sr r h
  · unfold refsP at hr
    rw [if_neg hc] at hr
    cases hr
theorem refs_big {d : PD} (hb : big2 d ≤ 200000) : d.ins.length + d.srcs.length ≤ 20000 := by
  unfold big2 big1 at hb
  omega
attribute [local irreducible] es qt cms hex sum Tbl Half lst isName isPath isDrvP leB chkO chkOuts chkN chkI chkIns firstE spA spB spE chkS chkV dtext chk chk0 tTs hget big1 big2 heavyP rise sortS cp withP withE refsP prS
theorem dref_con (d : PD) (x : DV) (w : World) (h : DR w d x) (hb : big2 d ≤ 200000) (hou : ∀ y ∈ d.ins, ∀ o ∈ y.outs, o.length ≤ 9223372036854775807) : Con Tryz.prog 26 [dval d x] w [] fun u S' => ∃ c, S' = [c] ∧ Sx.Own 49 1 (strs (refsP d)) u c := by
  refine con_of_tree mix Tryz.func26 T26_ok (by kernel_rfl) ?_
  unfold T26
  have few := few_of hb
  have few6 := few.li
  have few8 := few.ls
  have hni : d.ins.length = x.mi.length := by rw [h.im, List.length_map]
  have hmem : ∀ m ∈ x.mi, m.pi ∈ d.ins := fun m hm => by rw [h.im]; exact List.mem_map_of_mem hm
  obtain ⟨Ai, capi, gi, offi, hvi, hcapi, hAi⟩ := rsln_form h.i
  obtain ⟨As, caps, hvs, hcaps⟩ := strz_form h.s
  refine j_box (l := dcells d x) rfl (fun g0 hg0 hs0 => ?_)
  refine j_q (qs_ac) ?_
  refine j_q (qs_loadw 0 Tryz.underlying28 rfl sz28 rfl rfl rfl) ?_
  refine j_q (qs_call ent15 rfl rfl rfl (fun w' hw' => dcheck_con d x w' (h.keep hw') hb hou)) ?_
  refine j_q (qs_neq rfl rfl) ?_
  refine j_cond rfl (fun hc0 => ?_) (fun hc0 => ?_)
  · skip
    have hck : chk d ≠ 0 := by simpa using hc0
    refine j_q (qs_ac) ?_
    refine j_subl (S' := [[]]) (by repeat first | exact slR _ | exact slN _ | apply slC | apply slD) ?_
    refine j_ret_con (vs := [_]) (fun w' hw' => ⟨rfl, trivial⟩) ?_
    exact ⟨[], rfl, by unfold refsP; rw [if_neg hck]; exact own_nil⟩
  · skip
    have hck : chk d = 0 := by simpa using hc0
    refine j_mkmap (fun g6 hg6 => ?_)
    refine j_q (qs_field Tryz.underlying28 rfl sz24 (by decide) rfl) ?_
    refine j_q (qs_load (l := dcells d x) (v := .slice Ai x.mi.length capi) 1 Tryz.underlying24 rfl rfl rfl (congrArg some hvi)) ?_
    refine j_q (qs_lenl Tryz.underlying24 rfl) ?_
    refine j_q (qs_mc) ?_
    refine j_loop (fun m vs S' => ∃ (i : Nat) (es : Array MapEntry) (clock : Nat) (mm : List (Bs × Value)), vs = [.int .i64 (i : Int)] ∧ S' = [[(g6, .map es clock)], [(g0, .cells (dcells d x).toArray 28 (0, 0))], []] ∧ MapOk strEnc strOk es clock mm ∧ (∀ k, k ∈ mm.map Prod.fst ↔ k ∈ (x.mi.take i).map MI.drv) ∧ mm.length ≤ i ∧ i ≤ x.mi.length ∧ m = x.mi.length - i) ⟨_, 0, #[], 0, [], rfl, rfl, mapOk_nil, (fun k => by simp), Nat.le_refl _, Nat.zero_le _, rfl⟩ ?_
    rintro m vs S' hlen ⟨i, es, clock, mm, rfl, rfl, hmap, hk, hl, hin, rfl⟩
    refine j_q (qs_lss rfl rfl) ?_
    refine j_cond rfl (fun hc1 => ?_) (fun hc1 => ?_)
    · skip
      have hi : i < x.mi.length := by
        simp only [bnA] at *
        omega
      obtain ⟨rfl, hgi, hcells⟩ := hAi (by omega)
      have hip := few.ip _ (hmem _ (getD_mem (d := m0) hi))
      simp only [MI.pi] at hip
      refine j_q (qs_ixn (g := gi) (off := offi) (i := i) Tryz.underlying24 sz68 rfl rfl (by omega)) ?_
      refine j_q (qs_loadrecw (encA := encI) (rs := x.mi) (d := m0) (i := i) encI_len (rd_cells hcells (by simp)) hi Tryz.underlying68 rfl sz68 rfl) ?_
      refine j_alloc zero68 (fun g14 hg14 hs14 => ?_)
      refine j_storew (vs := encI (x.mi.getD i m0)) 0 sz68 rfl rfl (encI_len _) (MI.one (h.io _ (getD_mem hi))) rfl rfl ?_
      refine j_q (qs_field Tryz.underlying68 rfl sz49 (by decide) rfl) ?_
      refine j_q (qs_load (l := encI (x.mi.getD i m0)) (v := .string (bs (x.mi.getD i m0).drv)) 0 Tryz.underlying49 rfl rfl rfl rfl) ?_
      refine j_mapset pk49 1 Tryz.underlying106 rfl (key := (x.mi.getD i m0).drv) (val := .bool true) rfl rfl rfl hmap (by unfold strOk; omega) (fun es2 cl2 hmap2 => ?_)
      have hl2 := mset_le mm (x.mi.getD i m0).drv (.bool true)
      refine j_subl (S' := [[(g6, .map es2 cl2)], [(g0, .cells (dcells d x).toArray 28 (0, 0))], []]) (by repeat first | exact slR _ | exact slN _ | apply slC | apply slD) ?_
      refine j_q (qs_add64 rfl rfl (by omega)) ?_
      refine j_back rfl ?_
      exact ⟨x.mi.length - (i + 1), by omega, i + 1, es2, cl2, _, rfl, rfl, hmap2, (fun k => by rw [mset_mem, hk, take_mem MI.drv m0 hi]), by omega, by omega, rfl⟩
    · skip
      obtain rfl : i = x.mi.length := by
        simp only [bnA] at *
        omega
      rw [List.take_length] at hk
      refine j_q (qs_field Tryz.underlying28 rfl sz25 (by decide) rfl) ?_
      refine j_q (qs_load (l := dcells d x) (v := .slice As d.srcs.length caps) 1 Tryz.underlying25 rfl rfl rfl (congrArg some hvs)) ?_
      refine j_q (qs_lenl Tryz.underlying25 rfl) ?_
      refine j_q (qs_mc) ?_
      refine j_loop (fun m vs S' => ∃ (i : Nat) (es : Array MapEntry) (clock : Nat) (mm : List (Bs × Value)), vs = [.int .i64 (i : Int)] ∧ S' = [[(g6, .map es clock)], [(g0, .cells (dcells d x).toArray 28 (0, 0))], []] ∧ MapOk strEnc strOk es clock mm ∧ (∀ k, k ∈ mm.map Prod.fst ↔ k ∈ x.mi.map MI.drv ∨ k ∈ d.srcs.take i) ∧ mm.length ≤ x.mi.length + i ∧ i ≤ d.srcs.length ∧ m = d.srcs.length - i) ⟨_, 0, es, clock, mm, rfl, rfl, hmap, (fun k => by rw [hk]; simp), hl, Nat.zero_le _, rfl⟩ ?_
      rintro m vs S' hlen ⟨i, es, clock, mm, rfl, rfl, hmap, hk, hl, hin, rfl⟩
      refine j_q (qs_lss rfl rfl) ?_
      refine j_cond rfl (fun hc2 => ?_) (fun hc2 => ?_)
      · skip
        have hi : i < d.srcs.length := by
          simp only [bnA] at *
          omega
        obtain ⟨gs, offs, rfl, hgs, hcells⟩ := strz_addr (hvs ▸ h.s) (by omega)
        have hsl := few.sr _ (getD_mem (d := []) hi)
        refine j_q (qs_ixl0 Tryz.underlying25 sz49 rfl rfl (by omega)) ?_
        refine j_q (qs_loadrs (rd_cells hcells (by simp)) Tryz.underlying49 rfl (by simp only [Int.toNat_natCast]; omega)) ?_
        simp only [Int.toNat_natCast]
        refine j_mapset pk49 0 Tryz.underlying106 rfl (key := (d.srcs.getD i [])) (val := .bool true) rfl rfl rfl hmap (by unfold strOk; omega) (fun es2 cl2 hmap2 => ?_)
        have hl2 := mset_le mm (d.srcs.getD i []) (.bool true)
        refine j_subl (S' := [[(g6, .map es2 cl2)], [(g0, .cells (dcells d x).toArray 28 (0, 0))], []]) (by repeat first | exact slR _ | exact slN _ | apply slC | apply slD) ?_
        refine j_q (qs_add64 rfl rfl (by omega)) ?_
        refine j_back rfl ?_
        exact ⟨d.srcs.length - (i + 1), by omega, i + 1, es2, cl2, _, rfl, rfl, hmap2, (fun k => by rw [mset_mem, hk, or_assoc]; rw [show d.srcs.take (i + 1) = d.srcs.take i ++ [d.srcs.getD i []] from take_snoc hi, List.mem_append, List.mem_singleton]), by omega, by omega, rfl⟩
      · skip
        obtain rfl : i = d.srcs.length := by
          simp only [bnA] at *
          omega
        rw [List.take_length] at hk
        refine j_call0 ent57 rfl rfl rfl (fun w' hw' => keys_con (some g6) w') (fun u S2 hu => ?_)
        obtain ⟨gk, rfl, rfl⟩ := hu
        refine j_call0 ent56 rfl rfl rfl (fun w' hw' => sortedKeys_con gk g6 w' (lt_of_get (hw'.at_ (k := 0) rfl)) (by rw [cell_of (hw'.at_ (k := 0) rfl)]; rfl) (hw'.map_at (k := 1) rfl) hmap (by omega)) (fun u S2 hu => ?_)
        obtain ⟨c30, zs, rfl, ho30, hst, hzs⟩ := hu
        refine j_subl (S' := [c30]) (by repeat first | exact slR _ | exact slN _ | apply slC | apply slD) ?_
        refine j_ret_con (vs := [_]) (fun w' hw' => ⟨rfl, trivial⟩) ?_
        refine ⟨c30, rfl, ?_⟩
        have e : refsP d = zs := by
          unfold refsP
          rw [if_pos hck, refs_in h.im]
          exact (rise_eq hst (fun y => by rw [hzs, hk, List.mem_append])).symm
        rw [e]
        exact ho30
theorem dpath_con (d : PD) (x : DV) (w : World) (h : DR w d x) (hb : big2 d ≤ 200000) (hou : ∀ y ∈ d.ins, ∀ o ∈ y.outs, o.length ≤ 9223372036854775807) : Con Tryz.prog 28 [dval d x] w [] fun u _ => u = pathV d := by
  refine con_of_tree mix Tryz.func28 T28_ok (by kernel_rfl) ?_
  unfold T28
  have few := few_of hb
  have few1 := few.nm
  have hrl := refsP_len d
  have hrb := refs_big hb
  refine j_box (l := dcells d x) rfl (fun g0 hg0 hs0 => ?_)
  refine j_q (qs_ac) ?_
  refine j_q (qs_ac) ?_
  refine j_q (qs_loadw (l := dcells d x) 0 Tryz.underlying28 rfl sz28 rfl rfl rfl) ?_
  refine j_q (qs_call ent13 rfl rfl rfl (fun w' hw' => dprint_con d x w' (h.keep hw') hb hou)) ?_
  refine j_q (qs_ext (vs := [.string (bs (prS d)), .int .i64 (chk d)]) rfl rfl) ?_
  refine j_q (qs_ext (vs := [.string (bs (prS d)), .int .i64 (chk d)]) rfl rfl) ?_
  refine j_q (qs_neq rfl rfl) ?_
  refine j_cond rfl (fun hc0 => ?_) (fun hc0 => ?_)
  · skip
    have hck : chk d ≠ 0 := by simpa using hc0
    refine j_q (qs_ac) ?_
    refine j_ret_con (vs := [_, _]) (fun w' hw' => ⟨rfl, rfl, trivial⟩) ?_
    show Value.tuple #[_, _] = _
    unfold pathV
    rw [if_neg hck]
    rfl
  · skip
    have hck : chk d = 0 := by simpa using hc0
    have hpr : prS d = dtext d := by unfold prS; rw [if_pos hck]
    refine j_mix _ (.refl _) ?_
    refine j_mq (qs_loadw (l := dcells d x) 0 Tryz.underlying28 rfl sz28 rfl rfl rfl) ?_
    refine j_mq (qs_field Tryz.underlying28 rfl sz9 (by decide) rfl) ?_
    refine j_mq (qs_load (l := dcells d x) (v := .string (bs d.name)) 0 Tryz.underlying9 rfl rfl rfl rfl) ?_
    refine j_mq (qs_sadd (l' := sDrv) rfl rfl (by simp only [List.length_cons, List.length_nil]; omega)) ?_
    rw [hpr]
    refine j_bytes Tryz.underlying9 Tryz.underlying46 Tryz.underlying5 rfl (fun v13 c13 ho13 hv13 => ?_)
    obtain ⟨g13, cap13, rfl⟩ := hv13
    obtain ⟨row, fz, hrow, hl1, hl2, hl3, hl4⟩ := own_row ho13
    refine j_mD0 (Le.of_sub (by repeat first | exact slR _ | exact slN _ | apply slC | apply slD)) ?_
    refine j_q (qs_call ent53 rfl rfl rfl (fun w' hw' => sum_con (dtext d) _ _ w' (by have := dtext_le (tb_chk hck hb); omega) hl3 (rd_w (own_rd ho13 0 rfl) hw'))) ?_
    refine j_mD0 (Le.of_sub (by repeat first | exact slR _ | exact slN _ | apply slC | apply slD)) ?_
    refine j_call0 ent26 rfl rfl rfl (fun w' hw' => dref_con d x w' (h.keep hw') hb hou) (fun u S2 hu => ?_)
    obtain ⟨c15, rfl, ho15⟩ := hu
    refine j_mD0 (Le.of_sub (by repeat first | exact slR _ | exact slN _ | apply slC | apply slD)) ?_
    refine j_q (qs_call ent58 rfl rfl rfl (fun w' hw' => ptext_con (sum (dtext d)) (refsP d) (d.name ++ sDrv) _ w' (strsl_own ho15 0 rfl hw') (sum_length _) (by omega) (fun r hr => Nat.le_trans (refsP_le hb r hr) (by decide)) (by rw [List.length_append]; simp only [List.length_cons, List.length_nil]; omega))) ?_
    unfold withV
    refine j_mR _ (.refl _) ?_
    refine j_mq (qs_ext (vs := [.string (bs (withP kText (sum (dtext d)) (refsP d) (d.name ++ sDrv))), .int .i64 (withE (refsP d) (d.name ++ sDrv))]) rfl rfl) ?_
    refine j_mq (qs_ext (vs := [.string (bs (withP kText (sum (dtext d)) (refsP d) (d.name ++ sDrv))), .int .i64 (withE (refsP d) (d.name ++ sDrv))]) rfl rfl) ?_
    refine j_mend ?_
    refine j_ret_con (vs := [_, _]) (fun w' hw' => ⟨rfl, rfl, trivial⟩) ?_
    show Value.tuple #[_, _] = _
    unfold pathV withV
    rw [if_pos hck]
    rfl
theorem has_con (rs : List Bs) (p : Bs) (v : Value) (w : World) (hv : StrSl w v rs) (hn : rs.length ≤ 90000) (hp : p ∈ rs) : Con Tryz.prog 27 [v, .string (bs p)] w [] fun u _ => u = .bool true := by
  refine con_of_tree mix Tryz.func27 T27_ok (by kernel_rfl) ?_
  unfold T27
  obtain ⟨A, cap, rfl, hcap⟩ := strsl_form hv
  refine j_q (qs_ac) ?_
  refine j_q (qs_ac) ?_
  refine j_loop (fun m vs S' => ∃ i : Nat, vs = [.int .i64 (i : Int)] ∧ S' = [[]] ∧ i ≤ rs.length ∧ (∀ j < i, rs.getD j [] ≠ p) ∧ m = rs.length - i) ⟨_, 0, rfl, rfl, Nat.zero_le _, (fun j hj => absurd hj (Nat.not_lt_zero _)), rfl⟩ ?_
  rintro m vs S' hlen ⟨i, rfl, rfl, hin, hz, rfl⟩
  refine j_q (qs_lenl Tryz.underlying25 rfl) ?_
  refine j_q (qs_lss rfl rfl) ?_
  refine j_cond rfl (fun hc0 => ?_) (fun hc0 => ?_)
  · skip
    have hi : i < rs.length := by
      simp only [bnA] at *
      omega
    obtain ⟨ga, off, rfl, hga, hcells⟩ := strsl_addr hv (by omega)
    refine j_q (qs_ixl0 Tryz.underlying25 sz49 rfl rfl ⟨(by omega), (by omega)⟩) ?_
    refine j_q (qs_loadrs (rd_cells hcells (by simp)) Tryz.underlying49 rfl (by simp only [Int.toNat_natCast]; omega)) ?_
    simp only [Int.toNat_natCast]
    refine j_q (qs_seql rfl rfl) ?_
    refine j_cond rfl (fun hc1 => ?_) (fun hc1 => ?_)
    · skip
      refine j_q (qs_ac) ?_
      refine j_ret_con (vs := [_]) (fun w' hw' => ⟨rfl, trivial⟩) ?_
      rfl
    · skip
      refine j_q (qs_add64 rfl rfl (by omega)) ?_
      refine j_back rfl ?_
      exact ⟨rs.length - (i + 1), by omega, i + 1, rfl, rfl, by omega, fun j hj => by rcases Nat.lt_or_ge j i with h | h; exact hz j h; rw [show j = i by omega]; simpa using hc1, rfl⟩
  · skip
    exfalso
    obtain ⟨j, hj, rfl⟩ := List.getElem_of_mem hp
    refine hz j (by simp only [bnA] at *; omega) ?_
    rw [List.getD_eq_getElem?_getD, List.getElem?_eq_getElem hj]
    rfl
theorem paths_con (rs : List (List UInt8)) (v1 v2 : Value) (w : World) (hv1 : StrSl w v1 rs) (hv2 : StrSl w v2 rs) (hn : rs.length ≤ 90000) : Con Tryz.prog 30 [v1, v2] w [] fun u _ => u = .bool true := by
  refine con_of_tree mix Tryz.func30 T30_ok (by kernel_rfl) ?_
  unfold T30
  obtain ⟨A1, cap1, rfl, hcap1⟩ := strsl_form hv1
  obtain ⟨A2, cap2, rfl, hcap2⟩ := strsl_form hv2
  refine j_q (qs_ac) ?_
  refine j_q (qs_lenl Tryz.underlying25 rfl) ?_
  refine j_q (qs_lenl Tryz.underlying25 rfl) ?_
  refine j_q (qs_neq rfl rfl) ?_
  refine j_cond rfl (fun hc0 => ?_) (fun hc0 => ?_)
  · skip
    simp at hc0
  · skip
    refine j_q (qs_ac) ?_
    refine j_loop (fun m vs S' => ∃ i : Nat, vs = [.int .i64 (i : Int)] ∧ S' = [[]] ∧ i ≤ rs.length ∧ m = rs.length - i) ⟨_, 0, rfl, rfl, Nat.zero_le _, rfl⟩ ?_
    rintro m vs S' hlen ⟨i, rfl, rfl, hin, rfl⟩
    refine j_q (qs_lenl Tryz.underlying25 rfl) ?_
    refine j_q (qs_lss rfl rfl) ?_
    refine j_cond rfl (fun hc1 => ?_) (fun hc1 => ?_)
    · skip
      have hi : i < rs.length := by
        simp only [bnA] at *
        omega
      obtain ⟨ga, off, rfl, hga, hcells⟩ := strsl_addr hv1 (by omega)
      obtain ⟨ga2, off2, rfl, hga2, hcells2⟩ := strsl_addr hv2 (by omega)
      refine j_draw ?_
      refine jq_q (qs_ixl0 Tryz.underlying25 sz49 rfl rfl ⟨(by omega), (by omega)⟩) ?_
      refine jq_q (qs_loadrs (rd_cells hcells (by simp)) Tryz.underlying49 rfl (by simp only [Int.toNat_natCast]; omega)) ?_
      refine jq_q (qs_ixl0 Tryz.underlying25 sz49 rfl rfl ⟨(by omega), (by omega)⟩) ?_
      refine jq_q (qs_loadrs (rd_cells hcells2 (by simp)) Tryz.underlying49 rfl (by simp only [Int.toNat_natCast]; omega)) ?_
      refine jq_q (qs_sneq rfl rfl) ?_
      refine jq_nil ?_
      refine j_cond rfl (fun hc2 => ?_) (fun hc2 => ?_)
      · skip
        simp at hc2
      · skip
        refine j_q (qs_add64 rfl rfl (by omega)) ?_
        refine j_back rfl ?_
        exact ⟨rs.length - (i + 1), by omega, i + 1, rfl, rfl, by omega, rfl⟩
    · skip
      refine j_q (qs_ac) ?_
      refine j_ret_con (vs := [_]) (fun w' hw' => ⟨rfl, trivial⟩) ?_
      rfl
end Go.Proofs.YtfeabbeebkkhaaaGreat
