/- Derivations: what is wrong with their outputs and inputs. -/
import Derived.Test.YtfeabbeebkkhaaaGreatTa
import Derived.Test.YtfeabbeebkkhaaaGreatDv5
namespace Go.Proofs.YtfeabbeebkkhaaaGreat
open Go Go.Sx
set_option maxRecDepth 100000
set_option maxHeartbeats 4000000
set_option linter.unusedVariables false
set_option linter.unusedSimpArgs false
attribute [local irreducible] J JQ QS Con W opW
theorem ent41 : Sx.Enters Tryz.prog 41 := ⟨_, Tryz.func41, by kernel_rfl, by kernel_rfl⟩
theorem ent78 : Sx.Enters Tryz.prog 78 := ⟨_, Tryz.func78, by kernel_rfl, by kernel_rfl⟩
theorem ent79 : Sx.Enters Tryz.prog 79 := ⟨_, Tryz.func79, by kernel_rfl, by kernel_rfl⟩
theorem ent125 : Sx.Enters Tryz.prog 125 := ⟨_, Tryz.func125, by kernel_rfl, by kernel_rfl⟩
theorem ent146 : Sx.Enters Tryz.prog 146 := ⟨_, Tryz.func146, by kernel_rfl, by kernel_rfl⟩

theorem qs_ixm {P : Program} {env : Env} {b : Base} {S : List SH} {ty t e : TypeId} {x y : Operand} {n c sz g off i : Nat} {k : IntKind} {m : Int} (ht : P.underlying t = some (.slice e)) (hz : (P.info? e).map (·.size) = some sz) (hx : ev env x = .slice (some ⟨g, off, none⟩) n c) (hy : ev env y = .int k m) (hm : m = (i : Int)) (h : i < n) :
    QS P (O (.indexAddr t x y) ty) env b S (.pointer (some ⟨g, off + i * sz, none⟩)) := qs_ixn ht hz hx (by rw [hy, hm]) h
theorem gt0 (i : Nat) : decide ((i : Int) > 0) = decide (0 < i) := by
  rw [Bool.eq_iff_iff, decide_eq_true_eq, decide_eq_true_eq]
  omega
theorem suf4 {n : Bs} (h : isName n = true) : (decide (4 ≤ n.length) && (n.drop (n.length - 4) == sDrv)) = (decide (4 < n.length) && (n.drop (n.length - 4) == sDrv)) := by
  by_cases h4 : n.length = 4
  · have hne : (n.drop (n.length - 4) == sDrv) = false := by
      rw [h4, Nat.sub_self, List.drop_zero, beq_eq_false_iff_ne]
      rintro rfl
      revert h
      decide
    rw [hne, Bool.and_false, Bool.and_false]
  · congr 1
    rw [Bool.eq_iff_iff, decide_eq_true_eq, decide_eq_true_eq]
    omega
theorem isPath_name {p : Bs} (h : isPath p = true) : isName (p.drop 33) = true := by
  simp only [isPath, Bool.and_eq_true] at h
  exact h.1.2
theorem chkO_name {l : List PO} {i : Nat} (h : isName (l.getD i o0).name = false) : chkO l i = 9 := by unfold chkO; rw [h]; rfl
theorem chkO_bad {l : List PO} {i : Nat} (h : isName (l.getD i o0).name = true) (hb : badO l i = true) : chkO l i = 3 := by unfold chkO; rw [h, hb]; rfl
theorem chkO_ok {l : List PO} {i : Nat} (h : isName (l.getD i o0).name = true) (hb : badO l i = false) : chkO l i = 0 := by unfold chkO; rw [h, hb]; rfl
theorem chkOuts_at {l : List PO} {i : Nat} {e : Int} (hn : ¬ (l.length < 1 ∨ 16 < l.length)) (hz : ∀ j < i, chkO l j = 0) (hi : i < l.length) (h : chkO l i = e) (he : e ≠ 0) : chkOuts l = e := by
  unfold chkOuts
  rw [if_neg hn, firstE_at hz hi (by rw [h]; exact he), h]
theorem chkN_name {l : List Bs} {i : Nat} (h : isName (l.getD i []) = false) : chkN l i = 9 := by unfold chkN; rw [h]; rfl
theorem chkN_at {l : List Bs} {i : Nat} {b : Bool} (h : isName (l.getD i []) = true) (hb : (decide (0 < i) && (Op.bytesLess (l.getD i []) (l.getD (i - 1) []) || l.getD i [] == l.getD (i - 1) [])) = b) : chkN l i = if b then 3 else 0 := by
  have hb2 : (decide (0 < i) && leB (l.getD i []) (l.getD (i - 1) [])) = b := hb
  unfold chkN
  rw [h, hb2]
  rfl
abbrev badI (l : List PI) (i : Nat) : Bool := !isDrvP (l.getD i i0).drv || (decide (0 < i) && leB (l.getD i i0).drv (l.getD (i - 1) i0).drv) || (l.getD i i0).outs.length == 0
theorem chkI_bad {l : List PI} {i : Nat} (h : badI l i = true) : chkI l i = 3 := by unfold chkI; rw [if_pos h]
theorem chkI_in {l : List PI} {i : Nat} (h : badI l i = false) : chkI l i = firstE (chkN (l.getD i i0).outs) (l.getD i i0).outs.length := by unfold chkI; rw [if_neg (by unfold badI at h; rw [h]; decide)]
theorem getD_pi (l : List MI) (i : Nat) : (l.map MI.pi).getD i i0 = (l.getD i m0).pi := by
  rw [List.getD_eq_getElem?_getD, List.getD_eq_getElem?_getD, List.getElem?_map]
  cases l[i]? <;> rfl
section
variable {l : List PO} {i : Nat}
abbrev bo1 (l : List PO) (i : Nat) : Bool := decide (0 < i) && (Op.bytesLess (l.getD i o0).name (l.getD (i - 1) o0).name || (l.getD i o0).name == (l.getD (i - 1) o0).name)
abbrev bo2 (l : List PO) (i : Nat) : Bool := !((l.getD i o0).path == []) && !isPath (l.getD i o0).path
abbrev bo3 (l : List PO) (i : Nat) : Bool := (l.getD i o0).fixed && (decide ((l.length : Int) > 1) || !((l.getD i o0).name == sOut))
abbrev bo4 (l : List PO) (i : Nat) : Bool := !(l.getD i o0).fixed && !((l.getD i o0).hash.1 == List.replicate 32 0)
theorem badO_eq : badO l i = (bo1 l i || bo2 l i || bo3 l i || bo4 l i) := by
  have h : decide ((l.length : Int) > 1) = decide (1 < l.length) := by
    rw [Bool.eq_iff_iff, decide_eq_true_eq, decide_eq_true_eq]
    omega
  unfold badO leB bo1 bo2 bo3 bo4
  rw [h]
theorem badO_1 (h : bo1 l i = true) : badO l i = true := by rw [badO_eq, h]; rfl
theorem badO_2 (h : bo2 l i = true) : badO l i = true := by rw [badO_eq, h, Bool.or_true]; rfl
theorem badO_3 (h : bo3 l i = true) : badO l i = true := by rw [badO_eq, h, Bool.or_true]; rfl
theorem badO_4 (h : bo4 l i = true) : badO l i = true := by rw [badO_eq, h, Bool.or_true]
theorem badO_0 (h1 : bo1 l i = false) (h2 : bo2 l i = false) (h3 : bo3 l i = false) (h4 : bo4 l i = false) : badO l i = false := by rw [badO_eq, h1, h2, h3, h4]; rfl
end
theorem bi_eq {l : List MI} {i : Nat} : (!isDrvP (l.getD i m0).drv || (decide ((i : Int) > 0) && (Op.bytesLess (l.getD i m0).drv (l.getD (i - 1) m0).drv || (l.getD i m0).drv == (l.getD (i - 1) m0).drv)) || (((l.getD i m0).outs.length : Int) == 0)) = badI (l.map MI.pi) i := by
  have h : (((l.getD i m0).outs.length : Int) == 0) = ((l.getD i m0).outs.length == 0) := by
    rw [Bool.eq_iff_iff, beq_iff_eq, beq_iff_eq]
    omega
  unfold badI leB
  rw [gt0, getD_pi, getD_pi, h]
  rfl
attribute [local irreducible] es qt cms hex Tbl Half lst isName isPath isDrvP leB chkO chkOuts chkN chkI chkIns firstE spA spB spE
/-- pantry.drv.isPath -/
theorem disPath_con (p : Bs) (w : World) (hp : p.length ≤ 9223372036854775807) : Con Tryz.prog 41 [.string (bs p)] w [] fun v _ => v = .bool (isPath p) := by
  refine con_of_tree mix Tryz.func41 T41_ok (by kernel_rfl) ?_
  unfold T41
  refine j_q (qs_ac) ?_
  refine j_q (qs_call ent79 rfl rfl rfl (fun w' hw' => split_con p w' hp)) ?_
  unfold spl
  refine j_q (qs_ext (vs := [.string (bs (spA p)), .string (bs (spB p)), .int .i64 (spE p)]) rfl rfl) ?_
  refine j_q (qs_ext (vs := [.string (bs (spA p)), .string (bs (spB p)), .int .i64 (spE p)]) rfl rfl) ?_
  refine j_q (qs_ext (vs := [.string (bs (spA p)), .string (bs (spB p)), .int .i64 (spE p)]) rfl rfl) ?_
  refine j_q (qs_eql rfl rfl) ?_
  refine j_ret_con (vs := [_]) (fun w' hw' => ⟨rfl, trivial⟩) ?_
  show Value.bool _ = _
  congr 1
  unfold spE
  cases isPath p <;> rfl
/-- internal.stringslite.HasSuffix -/
theorem hasSuf0_con (s t : Bs) (w : World) (hs : s.length ≤ 9223372036854775807) (ht : t.length ≤ 9223372036854775807) : Con Tryz.prog 146 [.string (bs s), .string (bs t)] w [] fun v _ => v = .bool (decide (t.length ≤ s.length) && (s.drop (s.length - t.length) == t)) := by
  refine con_of_tree mix Tryz.func146 T146_ok (by kernel_rfl) ?_
  unfold T146
  refine j_q (qs_ac) ?_
  refine j_q (qs_lens Tryz.underlying9 rfl) ?_
  refine j_q (qs_lens Tryz.underlying9 rfl) ?_
  refine j_q (qs_geq rfl rfl) ?_
  refine j_g rfl (fun hb => qs_mt rfl) ?_
  refine j_g rfl (fun hb => qs_mt rfl) ?_
  refine j_g rfl (fun hb => qs_lens Tryz.underlying9 (gd_eq hb)) ?_
  refine j_g rfl (fun hb => qs_mt rfl) ?_
  refine j_g rfl (fun hb => qs_lens Tryz.underlying9 (gd_eq hb)) ?_
  refine j_g rfl (fun hb => qs_sub64 (gd_eq hb) (gd_eq hb) (by first | omega | (simp only [Bool.and_eq_true, Bool.or_eq_true, Bool.and_eq_false_iff, Bool.or_eq_false_iff, Bool.not_eq_true', Bool.not_eq_false', decide_eq_true_eq, decide_eq_false_iff_not, beq_iff_eq, beq_eq_false_iff_ne, bne_iff_ne, bne_eq_false_iff_eq, ne_eq, Int.toNat_natCast] at *; omega))) ?_
  refine j_g rfl (fun hb => qs_cuts (a := s.length - t.length) (z := s.length) Tryz.underlying9 (gd_eq hb) ⟨.i64, (gd_eq hb).trans (congrArg (Value.int .i64) (by simp only [Bool.and_eq_true, Bool.or_eq_true, Bool.and_eq_false_iff, Bool.or_eq_false_iff, Bool.not_eq_true', Bool.not_eq_false', decide_eq_true_eq, decide_eq_false_iff_not, beq_iff_eq, beq_eq_false_iff_ne, bne_iff_ne, bne_eq_false_iff_eq, ne_eq, Int.toNat_natCast] at *; omega))⟩ rfl (by omega) (by omega)) ?_
  rw [List.take_length]
  refine j_g rfl (fun hb => qs_mt rfl) ?_
  refine j_g rfl (fun hb => qs_seql (gd_eq hb) (gd_eq hb)) ?_
  refine j_q (qs_and rfl rfl) ?_
  refine j_ret_con (vs := [_]) (fun w' hw' => ⟨rfl, trivial⟩) ?_
  show Value.bool _ = _
  congr 2
  rw [Bool.eq_iff_iff, decide_eq_true_eq, decide_eq_true_eq]
  omega
/-- strings.HasSuffix -/
theorem hasSuf_con (s t : Bs) (w : World) (hs : s.length ≤ 9223372036854775807) (ht : t.length ≤ 9223372036854775807) : Con Tryz.prog 125 [.string (bs s), .string (bs t)] w [] fun v _ => v = .bool (decide (t.length ≤ s.length) && (s.drop (s.length - t.length) == t)) := by
  refine con_of_tree mix Tryz.func125 T125_ok (by kernel_rfl) ?_
  unfold T125
  refine j_q (qs_ac) ?_
  refine j_q (qs_call ent146 rfl rfl rfl (fun w' hw' => hasSuf0_con s t w' hs ht)) ?_
  refine j_ret_con (vs := [_]) (fun w' hw' => ⟨rfl, trivial⟩) ?_
  rfl
/-- pantry.drv.isDrv -/
theorem isDrv_con (p : Bs) (w : World) (hp : p.length ≤ 9223372036854775807) : Con Tryz.prog 78 [.string (bs p)] w [] fun v _ => v = .bool (isDrvP p) := by
  refine con_of_tree mix Tryz.func78 T78_ok (by kernel_rfl) ?_
  unfold T78
  refine j_q (qs_ac) ?_
  refine j_q (qs_call ent79 rfl rfl rfl (fun w' hw' => split_con p w' hp)) ?_
  unfold spl
  refine j_q (qs_ext (vs := [.string (bs (spA p)), .string (bs (spB p)), .int .i64 (spE p)]) rfl rfl) ?_
  refine j_q (qs_ext (vs := [.string (bs (spA p)), .string (bs (spB p)), .int .i64 (spE p)]) rfl rfl) ?_
  refine j_q (qs_ext (vs := [.string (bs (spA p)), .string (bs (spB p)), .int .i64 (spE p)]) rfl rfl) ?_
  refine j_q (qs_eql rfl rfl) ?_
  refine j_g rfl (fun hb => qs_mt rfl) ?_
  refine j_g rfl (fun hb => qs_call ent125 rfl rfl (args2 (gd_eq hb) rfl) (fun w' hw' => hasSuf_con (spB p) sDrv w' (by unfold spB; split <;> simp <;> omega) (by simp))) ?_
  refine j_q (qs_and rfl rfl) ?_
  refine j_ret_con (vs := [_]) (fun w' hw' => ⟨rfl, trivial⟩) ?_
  show Value.bool _ = _
  congr 1
  unfold spE spB isDrvP
  cases hp : isPath p
  · rfl
  · rw [if_pos rfl, if_pos rfl, show sDrv.length = 4 from rfl, suf4 (isPath_name hp)]
    rfl
/-- pantry.drv.outputs -/
theorem outputs_con (l : List PO) (v : Value) (w : World) (hv : RSlN 35 w v (l.map encO).flatten l.length) (hl : ∀ x ∈ l, x.name.length ≤ 1000000 ∧ x.path.length ≤ 1000000) : Con Tryz.prog 39 [v] w [] fun u _ => u = .int .i64 (chkOuts l) := by
  refine con_of_tree mix Tryz.func39 T39_ok (by kernel_rfl) ?_
  unfold T39
  obtain ⟨A, cap, ga, off, rfl, hcap, hA⟩ := rsln_form hv
  refine j_q (qs_ac) ?_
  refine j_q (qs_lenl Tryz.underlying26 rfl) ?_
  refine j_q (qs_lss rfl rfl) ?_
  refine j_g rfl (fun hb => qs_mt rfl) ?_
  refine j_g rfl (fun hb => qs_lenl Tryz.underlying26 (gd_eq hb)) ?_
  refine j_g rfl (fun hb => qs_gtr (gd_eq hb) rfl) ?_
  refine j_q (qs_or rfl rfl) ?_
  refine j_cond rfl (fun hc0 => ?_) (fun hc0 => ?_)
  · skip
    refine j_q (qs_ac) ?_
    refine j_ret_con (vs := [_]) (fun w' hw' => ⟨rfl, trivial⟩) ?_
    symm
    show _ = Value.int .i64 1
    congr 1
    unfold chkOuts
    rw [if_pos (by simp only [Bool.and_eq_true, Bool.or_eq_true, Bool.and_eq_false_iff, Bool.or_eq_false_iff, Bool.not_eq_true', Bool.not_eq_false', decide_eq_true_eq, decide_eq_false_iff_not, beq_iff_eq, beq_eq_false_iff_ne, bne_iff_ne, bne_eq_false_iff_eq, ne_eq, Int.toNat_natCast] at *; omega)]
  · skip
    have hnn : ¬ (l.length < 1 ∨ 16 < l.length) := by
      simp only [Bool.and_eq_true, Bool.or_eq_true, Bool.and_eq_false_iff, Bool.or_eq_false_iff, Bool.not_eq_true', Bool.not_eq_false', decide_eq_true_eq, decide_eq_false_iff_not, beq_iff_eq, beq_eq_false_iff_ne, bne_iff_ne, bne_eq_false_iff_eq, ne_eq, Int.toNat_natCast] at *
      omega
    refine j_q (qs_lenl Tryz.underlying26 rfl) ?_
    refine j_q (qs_mc) ?_
    refine j_loop (fun m vs S' => ∃ i : Nat, vs = [.int .i64 (i : Int)] ∧ S' = [[]] ∧ i ≤ l.length ∧ (∀ j < i, chkO l j = 0) ∧ m = l.length - i) ⟨_, 0, rfl, rfl, Nat.zero_le _, (fun j hj => absurd hj (Nat.not_lt_zero _)), rfl⟩ ?_
    rintro m vs S' hlen ⟨i, rfl, rfl, hin, hz, rfl⟩
    refine j_q (qs_lss rfl rfl) ?_
    refine j_cond rfl (fun hc1 => ?_) (fun hc1 => ?_)
    · skip
      have hi : i < l.length := by
        simp only [Bool.and_eq_true, Bool.or_eq_true, Bool.and_eq_false_iff, Bool.or_eq_false_iff, Bool.not_eq_true', Bool.not_eq_false', decide_eq_true_eq, decide_eq_false_iff_not, beq_iff_eq, beq_eq_false_iff_ne, bne_iff_ne, bne_eq_false_iff_eq, ne_eq, Int.toNat_natCast] at *
        omega
      obtain ⟨rfl, hga, hcells⟩ := hA (by omega)
      obtain ⟨hl1, hl2⟩ := hl _ (getD_mem (d := o0) hi)
      refine j_q (qs_ixn (g := ga) (off := off) (i := i) Tryz.underlying26 sz53 rfl rfl (by omega)) ?_
      refine j_q (qs_loadrecw (encA := encO) (rs := l) (d := o0) (i := i) encO_len (rd_cells hcells (by simp)) hi Tryz.underlying53 rfl sz53 rfl) ?_
      refine j_alloc zero53 (fun g13 hg13 hs13 => ?_)
      refine j_storew (vs := encO (l.getD i o0)) 0 sz53 rfl rfl (encO_len _) (encO_one _) rfl rfl ?_
      refine j_q (qs_field Tryz.underlying53 rfl sz9 (by decide) rfl) ?_
      first
        | refine j_q (qs_load 0 Tryz.underlying9 rfl rfl rfl rfl) ?_
        | refine j_q (qs_load 1 Tryz.underlying9 rfl rfl rfl rfl) ?_
        | refine j_q (qs_load 2 Tryz.underlying9 rfl rfl rfl rfl) ?_
        | refine j_q (qs_load 3 Tryz.underlying9 rfl rfl rfl rfl) ?_
      refine j_q (qs_call ent38 rfl rfl rfl (fun w' hw' => isName_con _ w' (by omega))) ?_
      refine j_q (qs_not rfl) ?_
      refine j_cond rfl (fun hc2 => ?_) (fun hc2 => ?_)
      · skip
        have hnm : isName (l.getD i o0).name = false := by simpa using hc2
        refine j_q (qs_ac) ?_
        refine j_ret_con (vs := [_]) (fun w' hw' => ⟨rfl, trivial⟩) ?_
        symm
        show _ = Value.int .i64 9
        congr 1
        exact chkOuts_at hnn hz hi (chkO_name hnm) (by decide)
      · skip
        have hnm : isName (l.getD i o0).name = true := by simpa using hc2
        refine j_draw ?_
        refine jq_q (qs_gtr rfl rfl) ?_
        refine jq_g rfl (fun hb => qs_field Tryz.underlying53 rfl sz9 (by decide) rfl) ?_
        first
          | refine jq_g rfl (fun hb => qs_load 0 Tryz.underlying9 rfl (gd_eq hb) rfl rfl) ?_
          | refine jq_g rfl (fun hb => qs_load 1 Tryz.underlying9 rfl (gd_eq hb) rfl rfl) ?_
          | refine jq_g rfl (fun hb => qs_load 2 Tryz.underlying9 rfl (gd_eq hb) rfl rfl) ?_
          | refine jq_g rfl (fun hb => qs_load 3 Tryz.underlying9 rfl (gd_eq hb) rfl rfl) ?_
        refine jq_g rfl (fun hb => qs_mt rfl) ?_
        refine jq_g rfl (fun hb => qs_mt rfl) ?_
        refine jq_g rfl (fun hb => qs_sub64 (gd_eq hb) rfl (by first | omega | (simp only [Bool.and_eq_true, Bool.or_eq_true, Bool.and_eq_false_iff, Bool.or_eq_false_iff, Bool.not_eq_true', Bool.not_eq_false', decide_eq_true_eq, decide_eq_false_iff_not, beq_iff_eq, beq_eq_false_iff_ne, bne_iff_ne, bne_eq_false_iff_eq, ne_eq, Int.toNat_natCast] at *; omega))) ?_
        refine jq_g rfl (fun hb => qs_ixm (g := ga) (off := off) (i := i - 1) Tryz.underlying26 sz53 (gd_eq hb) (gd_eq hb) (by simp only [Bool.and_eq_true, Bool.or_eq_true, Bool.and_eq_false_iff, Bool.or_eq_false_iff, Bool.not_eq_true', Bool.not_eq_false', decide_eq_true_eq, decide_eq_false_iff_not, beq_iff_eq, beq_eq_false_iff_ne, bne_iff_ne, bne_eq_false_iff_eq, ne_eq, Int.toNat_natCast] at *; omega) (by omega)) ?_
        refine jq_g rfl (fun hb => qs_field Tryz.underlying53 rfl sz9 (by decide) (gd_eq hb)) ?_
        refine jq_g rfl (fun hb => qs_loadrec (v := .string (bs (l.getD (i - 1) o0).name)) (encA := encO) (rs := l) (d := o0) (i := i - 1) (fo := 0) encO_len (rd_cells hcells (by simp)) (by omega) Tryz.underlying9 rfl (gd_eq hb) rfl) ?_
        refine jq_g rfl (fun hb => qs_sleq (gd_eq hb) (gd_eq hb)) ?_
        refine jq_q (qs_and rfl rfl) ?_
        refine jq_nil ?_
        refine j_cond rfl (fun hc3 => ?_) (fun hc3 => ?_)
        · skip
          rw [gt0] at hc3
          refine j_cond rfl (fun hc4 => ?_) (fun hc4 => ?_)
          · skip
            refine j_q (qs_ac) ?_
            refine j_ret_con (vs := [_]) (fun w' hw' => ⟨rfl, trivial⟩) ?_
            symm
            show _ = Value.int .i64 3
            congr 1
            exact chkOuts_at hnn hz hi (chkO_bad hnm (badO_1 hc3)) (by decide)
          · skip
            rw [gt0, hc3] at hc4
            cases hc4
        · skip
          rw [gt0] at hc3
          refine j_q (qs_field Tryz.underlying53 rfl sz49 (by decide) rfl) ?_
          first
            | refine j_q (qs_load 0 Tryz.underlying49 rfl rfl rfl rfl) ?_
            | refine j_q (qs_load 1 Tryz.underlying49 rfl rfl rfl rfl) ?_
            | refine j_q (qs_load 2 Tryz.underlying49 rfl rfl rfl rfl) ?_
            | refine j_q (qs_load 3 Tryz.underlying49 rfl rfl rfl rfl) ?_
          refine j_q (qs_sneq rfl rfl) ?_
          refine j_g rfl (fun hb => qs_field Tryz.underlying53 rfl sz49 (by decide) rfl) ?_
          first
            | refine j_g rfl (fun hb => qs_load 0 Tryz.underlying49 rfl (gd_eq hb) rfl rfl) ?_
            | refine j_g rfl (fun hb => qs_load 1 Tryz.underlying49 rfl (gd_eq hb) rfl rfl) ?_
            | refine j_g rfl (fun hb => qs_load 2 Tryz.underlying49 rfl (gd_eq hb) rfl rfl) ?_
            | refine j_g rfl (fun hb => qs_load 3 Tryz.underlying49 rfl (gd_eq hb) rfl rfl) ?_
          refine j_g rfl (fun hb => qs_call ent41 rfl rfl (args1 (gd_eq hb)) (fun w' hw' => disPath_con _ w' (by omega))) ?_
          refine j_g rfl (fun hb => qs_not (gd_eq hb)) ?_
          refine j_q (qs_and rfl rfl) ?_
          refine j_cond rfl (fun hc8 => ?_) (fun hc8 => ?_)
          · skip
            refine j_q (qs_ac) ?_
            refine j_ret_con (vs := [_]) (fun w' hw' => ⟨rfl, trivial⟩) ?_
            symm
            show _ = Value.int .i64 3
            congr 1
            exact chkOuts_at hnn hz hi (chkO_bad hnm (badO_2 hc8)) (by decide)
          · skip
            refine j_q (qs_field Tryz.underlying53 rfl sz4 (by decide) rfl) ?_
            first
              | refine j_q (qs_load 0 Tryz.underlying4 rfl rfl rfl rfl) ?_
              | refine j_q (qs_load 1 Tryz.underlying4 rfl rfl rfl rfl) ?_
              | refine j_q (qs_load 2 Tryz.underlying4 rfl rfl rfl rfl) ?_
              | refine j_q (qs_load 3 Tryz.underlying4 rfl rfl rfl rfl) ?_
            refine j_g rfl (fun hb => qs_mt rfl) ?_
            refine j_g rfl (fun hb => qs_lenl Tryz.underlying26 (gd_eq hb)) ?_
            refine j_g rfl (fun hb => qs_gtr (gd_eq hb) rfl) ?_
            refine j_g rfl (fun hb => qs_move (gd_eq hb)) ?_
            refine j_gg rfl (fun hb hb1 => qs_field Tryz.underlying53 rfl sz9 (by decide) rfl) ?_
            first
              | refine j_gg rfl (fun hb hb1 => qs_load 0 Tryz.underlying9 rfl (gd_eq2 hb hb1) rfl rfl) ?_
              | refine j_gg rfl (fun hb hb1 => qs_load 1 Tryz.underlying9 rfl (gd_eq2 hb hb1) rfl rfl) ?_
              | refine j_gg rfl (fun hb hb1 => qs_load 2 Tryz.underlying9 rfl (gd_eq2 hb hb1) rfl rfl) ?_
              | refine j_gg rfl (fun hb hb1 => qs_load 3 Tryz.underlying9 rfl (gd_eq2 hb hb1) rfl rfl) ?_
            refine j_gg rfl (fun hb hb1 => qs_sneq (gd_eq2 hb hb1) rfl) ?_
            refine j_g rfl (fun hb => qs_or (gd_eq hb) (gd_eq hb)) ?_
            refine j_q (qs_and rfl rfl) ?_
            refine j_cond rfl (fun hc9 => ?_) (fun hc9 => ?_)
            · skip
              refine j_cond rfl (fun hc10 => ?_) (fun hc10 => ?_)
              · skip
                refine j_q (qs_ac) ?_
                refine j_ret_con (vs := [_]) (fun w' hw' => ⟨rfl, trivial⟩) ?_
                symm
                show _ = Value.int .i64 3
                congr 1
                exact chkOuts_at hnn hz hi (chkO_bad hnm (badO_3 hc9)) (by decide)
              · skip
                rw [hc9] at hc10
                cases hc10
            · skip
              refine j_q (qs_field Tryz.underlying53 rfl sz4 (by decide) rfl) ?_
              first
                | refine j_q (qs_load 0 Tryz.underlying4 rfl rfl rfl rfl) ?_
                | refine j_q (qs_load 1 Tryz.underlying4 rfl rfl rfl rfl) ?_
                | refine j_q (qs_load 2 Tryz.underlying4 rfl rfl rfl rfl) ?_
                | refine j_q (qs_load 3 Tryz.underlying4 rfl rfl rfl rfl) ?_
              refine j_q (qs_not rfl) ?_
              refine j_g rfl (fun hb => qs_field Tryz.underlying53 rfl sz51 (by decide) rfl) ?_
              refine j_g rfl (fun hb => qs_loada (i := 3) (n := 32) (l := encO (l.getD i o0)) 0 Tryz.underlying51 rfl sz51 (gd_eq hb) rfl (by rw [encO_len]; omega)) ?_
              rw [show ((encO (l.getD i o0)).drop 3).take 32 = ints (l.getD i o0).hash.1 by show (ints _).take 32 = _; rw [List.take_of_length_le (by rw [ints_length, (l.getD i o0).hash.2]; omega)]]
              refine j_g rfl (fun hb => qs_run (v := .agg (ints (List.replicate 32 0)).toArray) (fun w => by kernel_rfl)) ?_
              refine j_g rfl (fun hb => qs_ane (l := (l.getD i o0).hash.1) (m := List.replicate 32 0) Tryz.underlying51 Tryz.underlying5 (by kernel_rfl) (by kernel_rfl) (by kernel_rfl) (gd_eq hb) (gd_eq hb) (l.getD i o0).hash.2 (by simp)) ?_
              refine j_q (qs_and rfl rfl) ?_
              refine j_cond rfl (fun hc11 => ?_) (fun hc11 => ?_)
              · skip
                refine j_q (qs_ac) ?_
                refine j_ret_con (vs := [_]) (fun w' hw' => ⟨rfl, trivial⟩) ?_
                symm
                show _ = Value.int .i64 3
                congr 1
                exact chkOuts_at hnn hz hi (chkO_bad hnm (badO_4 hc11)) (by decide)
              · skip
                refine j_q (qs_add64 rfl rfl (by first | omega | (simp only [Bool.and_eq_true, Bool.or_eq_true, Bool.and_eq_false_iff, Bool.or_eq_false_iff, Bool.not_eq_true', Bool.not_eq_false', decide_eq_true_eq, decide_eq_false_iff_not, beq_iff_eq, beq_eq_false_iff_ne, bne_iff_ne, bne_eq_false_iff_eq, ne_eq, Int.toNat_natCast] at *; omega))) ?_
                refine j_subl (S' := [[]]) (by repeat first | exact List.Sublist.refl _ | exact List.nil_sublist _ | apply List.Sublist.cons_cons | apply List.Sublist.cons) ?_
                refine j_back rfl ?_
                exact ⟨l.length - (i + 1), by omega, i + 1, rfl, rfl, by omega, zero_snoc hz (chkO_ok hnm (badO_0 hc3 hc8 hc9 hc11)), rfl⟩
    · skip
      obtain rfl : i = l.length := by
        simp only [Bool.and_eq_true, Bool.or_eq_true, Bool.and_eq_false_iff, Bool.or_eq_false_iff, Bool.not_eq_true', Bool.not_eq_false', decide_eq_true_eq, decide_eq_false_iff_not, beq_iff_eq, beq_eq_false_iff_ne, bne_iff_ne, bne_eq_false_iff_eq, ne_eq, Int.toNat_natCast] at *
        omega
      refine j_q (qs_ac) ?_
      refine j_ret_con (vs := [_]) (fun w' hw' => ⟨rfl, trivial⟩) ?_
      symm
      show _ = Value.int .i64 0
      congr 1
      unfold chkOuts
      rw [if_neg hnn]
      exact firstE_zero hz
/-- pantry.drv.inputs -/
theorem inputs_con (l : List MI) (v : Value) (w : World) (hv : RSlN 2 w v (l.map encI).flatten l.length) (hio : ∀ m ∈ l, StrZ w m.v m.outs) (hl : ∀ x ∈ l, x.drv.length ≤ 1000000 ∧ x.outs.length ≤ 1000000 ∧ ∀ o ∈ x.outs, o.length ≤ 9223372036854775807) (hn : l.length ≤ 1000000) : Con Tryz.prog 40 [v] w [] fun u _ => u = .int .i64 (chkIns (l.map MI.pi)) := by
  refine con_of_tree mix Tryz.func40 T40_ok (by kernel_rfl) ?_
  unfold T40
  obtain ⟨A, cap, ga, off, rfl, hcap, hA⟩ := rsln_form hv
  refine j_q (qs_ac) ?_
  refine j_q (qs_lenl Tryz.underlying24 rfl) ?_
  refine j_q (qs_mc) ?_
  refine j_loop (fun m vs S' => ∃ i : Nat, vs = [.int .i64 (i : Int)] ∧ S' = [[]] ∧ i ≤ l.length ∧ (∀ j < i, chkI (l.map MI.pi) j = 0) ∧ m = l.length - i) ⟨_, 0, rfl, rfl, Nat.zero_le _, (fun j hj => absurd hj (Nat.not_lt_zero _)), rfl⟩ ?_
  rintro m vs S' hlen ⟨i, rfl, rfl, hin, hz, rfl⟩
  refine j_q (qs_lss rfl rfl) ?_
  refine j_cond rfl (fun hc0 => ?_) (fun hc0 => ?_)
  · skip
    have hi : i < l.length := by
      simp only [Bool.and_eq_true, Bool.or_eq_true, Bool.and_eq_false_iff, Bool.or_eq_false_iff, Bool.not_eq_true', Bool.not_eq_false', decide_eq_true_eq, decide_eq_false_iff_not, beq_iff_eq, beq_eq_false_iff_ne, bne_iff_ne, bne_eq_false_iff_eq, ne_eq, Int.toNat_natCast] at *
      omega
    obtain ⟨rfl, hga, hcells⟩ := hA (by omega)
    obtain ⟨hl1, hl2, hl3⟩ := hl _ (getD_mem (d := m0) hi)
    have hsx := hio _ (getD_mem (d := m0) hi)
    obtain ⟨Ax, capx, hvx, hcapx⟩ := strz_form hsx
    have hone := MI.one hsx
    refine j_q (qs_ixn (g := ga) (off := off) (i := i) Tryz.underlying24 sz68 rfl rfl (by omega)) ?_
    refine j_q (qs_loadrecw (encA := encI) (rs := l) (d := m0) (i := i) encI_len (rd_cells hcells (by simp)) hi Tryz.underlying68 rfl sz68 rfl) ?_
    refine j_alloc zero68 (fun g6 hg6 hs6 => ?_)
    refine j_storew (vs := encI (l.getD i m0)) 0 sz68 rfl rfl (encI_len _) hone rfl rfl ?_
    refine j_draw ?_
    refine jq_q (qs_field Tryz.underlying68 rfl sz49 (by decide) rfl) ?_
    first
      | refine jq_q (qs_load 0 Tryz.underlying49 rfl rfl rfl rfl) ?_
      | refine jq_q (qs_load 1 Tryz.underlying49 rfl rfl rfl rfl) ?_
      | refine jq_q (qs_load 2 Tryz.underlying49 rfl rfl rfl rfl) ?_
      | refine jq_q (qs_load 3 Tryz.underlying49 rfl rfl rfl rfl) ?_
    refine jq_q (qs_call ent78 rfl rfl rfl (fun w' hw' => isDrv_con _ w' (by omega))) ?_
    refine jq_q (qs_not rfl) ?_
    refine jq_g rfl (fun hb => qs_mt rfl) ?_
    refine jq_g rfl (fun hb => qs_gtr (gd_eq hb) rfl) ?_
    refine jq_g rfl (fun hb => qs_move (gd_eq hb)) ?_
    refine jq_gg rfl (fun hb hb1 => qs_field Tryz.underlying68 rfl sz49 (by decide) rfl) ?_
    first
      | refine jq_gg rfl (fun hb hb1 => qs_load 0 Tryz.underlying49 rfl (gd_eq2 hb hb1) rfl rfl) ?_
      | refine jq_gg rfl (fun hb hb1 => qs_load 1 Tryz.underlying49 rfl (gd_eq2 hb hb1) rfl rfl) ?_
      | refine jq_gg rfl (fun hb hb1 => qs_load 2 Tryz.underlying49 rfl (gd_eq2 hb hb1) rfl rfl) ?_
      | refine jq_gg rfl (fun hb hb1 => qs_load 3 Tryz.underlying49 rfl (gd_eq2 hb hb1) rfl rfl) ?_
    refine jq_gg rfl (fun hb hb1 => qs_mt rfl) ?_
    refine jq_gg rfl (fun hb hb1 => qs_mt rfl) ?_
    refine jq_gg rfl (fun hb hb1 => qs_sub64 (gd_eq2 hb hb1) rfl (by first | omega | (simp only [Bool.and_eq_true, Bool.or_eq_true, Bool.and_eq_false_iff, Bool.or_eq_false_iff, Bool.not_eq_true', Bool.not_eq_false', decide_eq_true_eq, decide_eq_false_iff_not, beq_iff_eq, beq_eq_false_iff_ne, bne_iff_ne, bne_eq_false_iff_eq, ne_eq, Int.toNat_natCast] at *; omega))) ?_
    refine jq_gg rfl (fun hb hb1 => qs_ixm (g := ga) (off := off) (i := i - 1) Tryz.underlying24 sz68 (gd_eq2 hb hb1) (gd_eq2 hb hb1) (by simp only [Bool.and_eq_true, Bool.or_eq_true, Bool.and_eq_false_iff, Bool.or_eq_false_iff, Bool.not_eq_true', Bool.not_eq_false', decide_eq_true_eq, decide_eq_false_iff_not, beq_iff_eq, beq_eq_false_iff_ne, bne_iff_ne, bne_eq_false_iff_eq, ne_eq, Int.toNat_natCast] at *; omega) (by omega)) ?_
    refine jq_gg rfl (fun hb hb1 => qs_field Tryz.underlying68 rfl sz49 (by decide) (gd_eq2 hb hb1)) ?_
    refine jq_gg rfl (fun hb hb1 => qs_loadrec (v := .string (bs (l.getD (i - 1) m0).drv)) (encA := encI) (rs := l) (d := m0) (i := i - 1) (fo := 0) encI_len (rd_cells hcells (by simp)) (by omega) Tryz.underlying49 rfl (gd_eq2 hb hb1) rfl) ?_
    refine jq_gg rfl (fun hb hb1 => qs_sleq (gd_eq2 hb hb1) (gd_eq2 hb hb1)) ?_
    refine jq_g rfl (fun hb => qs_and (gd_eq hb) (gd_eq hb)) ?_
    refine jq_q (qs_or rfl rfl) ?_
    refine jq_g rfl (fun hb => qs_field Tryz.underlying68 rfl sz22 (by decide) rfl) ?_
    refine jq_g rfl (fun hb => qs_load (v := .slice Ax (l.getD i m0).outs.length capx) 0 Tryz.underlying22 rfl (gd_eq hb) rfl (congrArg some hvx)) ?_
    refine jq_g rfl (fun hb => qs_lenl Tryz.underlying22 (gd_eq hb)) ?_
    refine jq_g rfl (fun hb => qs_eql (gd_eq hb) rfl) ?_
    refine jq_q (qs_or rfl rfl) ?_
    refine jq_nil ?_
    refine j_cond rfl (fun hc1 => ?_) (fun hc1 => ?_)
    · skip
      have hbad : badI (l.map MI.pi) i = true := by
        rw [← bi_eq]
        exact hc1
      refine j_q (qs_ac) ?_
      refine j_ret_con (vs := [_]) (fun w' hw' => ⟨rfl, trivial⟩) ?_
      symm
      show _ = Value.int .i64 3
      congr 1
      unfold chkIns
      rw [List.length_map, firstE_at hz hi (by rw [chkI_bad hbad]; decide), chkI_bad hbad]
    · skip
      have hbad : badI (l.map MI.pi) i = false := by
        rw [← bi_eq]
        exact hc1
      have hci := chkI_in hbad
      rw [getD_pi] at hci
      change chkI (l.map MI.pi) i = firstE (chkN (l.getD i m0).outs) (l.getD i m0).outs.length at hci
      refine j_q (qs_field Tryz.underlying68 rfl sz22 (by decide) rfl) ?_
      refine j_q (qs_load (v := .slice Ax (l.getD i m0).outs.length capx) 0 Tryz.underlying22 rfl rfl rfl (congrArg some hvx)) ?_
      refine j_q (qs_lenl Tryz.underlying22 rfl) ?_
      refine j_q (qs_mc) ?_
      refine j_loop (fun m vs S' => ∃ k : Nat, vs = [.int .i64 (k : Int)] ∧ S' = [[(g6, .cells (encI (l.getD i m0)).toArray 68 (0, 0))], []] ∧ k ≤ (l.getD i m0).outs.length ∧ (∀ j < k, chkN (l.getD i m0).outs j = 0) ∧ m = (l.getD i m0).outs.length - k) ⟨_, 0, rfl, rfl, Nat.zero_le _, (fun j hj => absurd hj (Nat.not_lt_zero _)), rfl⟩ ?_
      rintro m vs S' hlen ⟨k, rfl, rfl, hkn, hzk, rfl⟩
      refine j_q (qs_lss rfl rfl) ?_
      refine j_cond rfl (fun hc2 => ?_) (fun hc2 => ?_)
      · skip
        have hk : k < (l.getD i m0).outs.length := by
          simp only [Bool.and_eq_true, Bool.or_eq_true, Bool.and_eq_false_iff, Bool.or_eq_false_iff, Bool.not_eq_true', Bool.not_eq_false', decide_eq_true_eq, decide_eq_false_iff_not, beq_iff_eq, beq_eq_false_iff_ne, bne_iff_ne, bne_eq_false_iff_eq, ne_eq, Int.toNat_natCast] at *
          omega
        obtain ⟨gx, offx, rfl, hgx, hcellx⟩ := strz_addr (hvx ▸ hsx) (by omega)
        have hl4 := hl3 _ (getD_mem (d := []) hk)
        refine j_q (qs_ixl0 Tryz.underlying22 sz9 rfl rfl (by omega)) ?_
        refine j_q (qs_loadrs (rd_cells hcellx (by simp)) Tryz.underlying9 rfl (by simp only [Int.toNat_natCast]; omega)) ?_
        simp only [Int.toNat_natCast]
        refine j_q (qs_call ent38 rfl rfl rfl (fun w' hw' => isName_con _ w' (by omega))) ?_
        refine j_q (qs_not rfl) ?_
        refine j_cond rfl (fun hc3 => ?_) (fun hc3 => ?_)
        · skip
          have hnm : isName ((l.getD i m0).outs.getD k []) = false := by simpa using hc3
          refine j_q (qs_ac) ?_
          refine j_ret_con (vs := [_]) (fun w' hw' => ⟨rfl, trivial⟩) ?_
          symm
          show _ = Value.int .i64 9
          congr 1
          have h9 : chkI (l.map MI.pi) i = 9 := by rw [hci, firstE_at hzk hk (by rw [chkN_name hnm]; decide), chkN_name hnm]
          unfold chkIns
          rw [List.length_map, firstE_at hz hi (by rw [h9]; decide), h9]
        · skip
          have hnm : isName ((l.getD i m0).outs.getD k []) = true := by simpa using hc3
          refine j_q (qs_gtr rfl rfl) ?_
          refine j_g rfl (fun hb => qs_mt rfl) ?_
          refine j_g rfl (fun hb => qs_field Tryz.underlying68 rfl sz22 (by decide) rfl) ?_
          refine j_g rfl (fun hb => qs_load (v := .slice (some ⟨gx, offx, none⟩) (l.getD i m0).outs.length capx) 0 Tryz.underlying22 rfl (gd_eq hb) rfl (congrArg some hvx)) ?_
          refine j_g rfl (fun hb => qs_mt rfl) ?_
          refine j_g rfl (fun hb => qs_sub64 (gd_eq hb) rfl (by first | omega | (simp only [Bool.and_eq_true, Bool.or_eq_true, Bool.and_eq_false_iff, Bool.or_eq_false_iff, Bool.not_eq_true', Bool.not_eq_false', decide_eq_true_eq, decide_eq_false_iff_not, beq_iff_eq, beq_eq_false_iff_ne, bne_iff_ne, bne_eq_false_iff_eq, ne_eq, Int.toNat_natCast] at *; omega))) ?_
          refine j_g rfl (fun hb => qs_ixm (g := gx) (off := offx) (i := k - 1) Tryz.underlying22 sz9 (gd_eq hb) (gd_eq hb) (by simp only [Bool.and_eq_true, Bool.or_eq_true, Bool.and_eq_false_iff, Bool.or_eq_false_iff, Bool.not_eq_true', Bool.not_eq_false', decide_eq_true_eq, decide_eq_false_iff_not, beq_iff_eq, beq_eq_false_iff_ne, bne_iff_ne, bne_eq_false_iff_eq, ne_eq, Int.toNat_natCast] at *; omega) (by omega)) ?_
          refine j_g rfl (fun hb => qs_loadrs (i := k - 1) (rd_cells hcellx (by simp)) Tryz.underlying9 ((gd_eq hb).trans (by rw [add_off, Nat.mul_one])) (by omega)) ?_
          refine j_g rfl (fun hb => qs_sleq (gd_eq hb) (gd_eq hb)) ?_
          refine j_q (qs_and rfl rfl) ?_
          refine j_cond rfl (fun hc4 => ?_) (fun hc4 => ?_)
          · skip
            rw [gt0] at hc4
            have hck := chkN_at hnm hc4
            refine j_q (qs_ac) ?_
            refine j_ret_con (vs := [_]) (fun w' hw' => ⟨rfl, trivial⟩) ?_
            symm
            show _ = Value.int .i64 3
            congr 1
            have h9 : chkI (l.map MI.pi) i = 3 := by rw [hci, firstE_at hzk hk (by rw [hck]; decide), hck]; rfl
            unfold chkIns
            rw [List.length_map, firstE_at hz hi (by rw [h9]; decide), h9]
          · skip
            rw [gt0] at hc4
            have hck := chkN_at hnm hc4
            refine j_q (qs_add64 rfl rfl (by first | omega | (simp only [Bool.and_eq_true, Bool.or_eq_true, Bool.and_eq_false_iff, Bool.or_eq_false_iff, Bool.not_eq_true', Bool.not_eq_false', decide_eq_true_eq, decide_eq_false_iff_not, beq_iff_eq, beq_eq_false_iff_ne, bne_iff_ne, bne_eq_false_iff_eq, ne_eq, Int.toNat_natCast] at *; omega))) ?_
            refine j_back rfl ?_
            exact ⟨(l.getD i m0).outs.length - (k + 1), by omega, k + 1, rfl, rfl, by omega, zero_snoc hzk hck, rfl⟩
      · skip
        obtain rfl : k = (l.getD i m0).outs.length := by
          simp only [Bool.and_eq_true, Bool.or_eq_true, Bool.and_eq_false_iff, Bool.or_eq_false_iff, Bool.not_eq_true', Bool.not_eq_false', decide_eq_true_eq, decide_eq_false_iff_not, beq_iff_eq, beq_eq_false_iff_ne, bne_iff_ne, bne_eq_false_iff_eq, ne_eq, Int.toNat_natCast] at *
          omega
        have hc0' : chkI (l.map MI.pi) i = 0 := by rw [hci]; exact firstE_zero hzk
        refine j_q (qs_add64 rfl rfl (by first | omega | (simp only [Bool.and_eq_true, Bool.or_eq_true, Bool.and_eq_false_iff, Bool.or_eq_false_iff, Bool.not_eq_true', Bool.not_eq_false', decide_eq_true_eq, decide_eq_false_iff_not, beq_iff_eq, beq_eq_false_iff_ne, bne_iff_ne, bne_eq_false_iff_eq, ne_eq, Int.toNat_natCast] at *; omega))) ?_
        refine j_subl (S' := [[]]) (by repeat first | exact List.Sublist.refl _ | exact List.nil_sublist _ | apply List.Sublist.cons_cons | apply List.Sublist.cons) ?_
        refine j_back rfl ?_
        exact ⟨l.length - (i + 1), by omega, i + 1, rfl, rfl, by omega, zero_snoc hz hc0', rfl⟩
  · skip
    obtain rfl : i = l.length := by
      simp only [Bool.and_eq_true, Bool.or_eq_true, Bool.and_eq_false_iff, Bool.or_eq_false_iff, Bool.not_eq_true', Bool.not_eq_false', decide_eq_true_eq, decide_eq_false_iff_not, beq_iff_eq, beq_eq_false_iff_ne, bne_iff_ne, bne_eq_false_iff_eq, ne_eq, Int.toNat_natCast] at *
      omega
    refine j_q (qs_ac) ?_
    refine j_ret_con (vs := [_]) (fun w' hw' => ⟨rfl, trivial⟩) ?_
    symm
    show _ = Value.int .i64 0
    congr 1
    unfold chkIns
    rw [List.length_map]
    exact firstE_zero hz
end Go.Proofs.YtfeabbeebkkhaaaGreat
