/- Names and paths: what the program's and the document's functions answer. -/
import Derived.Test.YtfeabbeebkkhaaaGreatTa
import Derived.Test.YtfeabbeebkkhaaaGreatSx9
import Derived.Test.YtfeabbeebkkhaaaGreatB32
import Derived.Test.YtfeabbeebkkhaaaGreatPar
namespace Go.Proofs.YtfeabbeebkkhaaaGreat
open Go Go.Sx
set_option maxRecDepth 100000
set_option maxHeartbeats 4000000
set_option linter.unusedVariables false
set_option linter.unusedSimpArgs false
attribute [local irreducible] J JQ QS Con W opW


def okI (n : Int) : Bool := decide (48 ≤ n ∧ n ≤ 57 ∨ 65 ≤ n ∧ n ≤ 90 ∨ 97 ≤ n ∧ n ≤ 122 ∨ n = 43 ∨ n = 45 ∨ n = 46 ∨ n = 95 ∨ n = 63 ∨ n = 61)
def okB (c : UInt8) : Bool := okI (c.toNat : Int)
/-- which texts are names -/
def isName (l : List UInt8) : Bool := decide (1 ≤ l.length ∧ l.length ≤ 80 ∧ ((l.getD 0 0).toNat : Int) ≠ 46) && l.all okB
theorem isName_len {l : List UInt8} (h : isName l = true) : 1 ≤ l.length ∧ l.length ≤ 80 := by
  simp only [isName, Bool.and_eq_true, decide_eq_true_eq] at h
  exact ⟨h.1.1, h.1.2.1⟩
theorem all_step {l : List UInt8} {i : Nat} (h : (l.take i).all okB = true) (hi : i < l.length) (hc : okI ((l.getD i 0).toNat : Int) = true) : (l.take (i + 1)).all okB = true := by
  rw [List.take_succ_eq_append_getElem hi, List.all_append, h]
  have : l.getD i 0 = l[i] := by rw [List.getD_eq_getElem?_getD, List.getElem?_eq_getElem hi]; rfl
  rw [this] at hc
  simpa [okB] using hc
theorem all_fail {l : List UInt8} {i : Nat} (hi : i < l.length) (hc : okI ((l.getD i 0).toNat : Int) = false) : isName l = false := by
  have : l.getD i 0 = l[i] := by rw [List.getD_eq_getElem?_getD, List.getElem?_eq_getElem hi]; rfl
  rw [this] at hc
  have : l.all okB = false := by
    rw [List.all_eq_false]
    exact ⟨l[i], List.getElem_mem hi, by simp [okB, hc]⟩
  rw [isName, this, Bool.and_false]
theorem all_done {l : List UInt8} {i : Nat} (h : (l.take i).all okB = true) (hi : l.length ≤ i) (h1 : 1 ≤ l.length) (h2 : l.length ≤ 80) (h3 : ((l.getD 0 0).toNat : Int) ≠ 46) : isName l = true := by
  rw [List.take_of_length_le hi] at h
  simp only [isName, h, Bool.and_true, decide_eq_true_eq]
  exact ⟨h1, h2, h3⟩
/-- pantry.pantryref3.IsName -/
theorem risName_con (l : List UInt8) (w : World) (hl : l.length ≤ 9223372036854775807) : Con Tryz.prog 59 [.string (bs l)] w [] fun v _ => v = .bool (isName l) := by
  refine con_of_tree mix Tryz.func59 T59_ok (by kernel_rfl) ?_
  unfold T59
  refine j_q (qs_ac) ?_
  refine j_q (qs_lens Tryz.underlying9 rfl) ?_
  refine j_q (qs_lss rfl rfl) ?_
  refine j_g rfl (fun hb => qs_mt rfl) ?_
  refine j_g rfl (fun hb => qs_lens Tryz.underlying9 (gd_eq hb)) ?_
  refine j_g rfl (fun hb => qs_gtr (gd_eq hb) rfl) ?_
  refine j_q (qs_or rfl rfl) ?_
  refine j_g rfl (fun hb => qs_mt rfl) ?_
  refine j_g rfl (fun hb => qs_idx Tryz.underlying9 (gd_eq hb) rfl ⟨(by first | omega | (simp only [Bool.and_eq_true, Bool.or_eq_true, Bool.and_eq_false_iff, Bool.or_eq_false_iff, Bool.not_eq_true', Bool.not_eq_false', decide_eq_true_eq, decide_eq_false_iff_not, beq_iff_eq, beq_eq_false_iff_ne, bne_iff_ne, bne_eq_false_iff_eq, ne_eq, Int.toNat_natCast] at *; omega)), (by first | omega | (simp only [Bool.and_eq_true, Bool.or_eq_true, Bool.and_eq_false_iff, Bool.or_eq_false_iff, Bool.not_eq_true', Bool.not_eq_false', decide_eq_true_eq, decide_eq_false_iff_not, beq_iff_eq, beq_eq_false_iff_ne, bne_iff_ne, bne_eq_false_iff_eq, ne_eq, Int.toNat_natCast] at *; omega))⟩) ?_
  refine j_g rfl (fun hb => qs_eql (gd_eq hb) rfl) ?_
  refine j_q (qs_or rfl rfl) ?_
  refine j_cond rfl (fun hc0 => ?_) (fun hc0 => ?_)
  · skip
    refine j_q (qs_ac) ?_
    refine j_ret_con (vs := [_]) (fun w' hw' => ⟨rfl, trivial⟩) ?_
    show Value.bool _ = _
    congr 1
    symm
    simp only [isName, Bool.and_eq_false_iff]
    left
    simp only [decide_eq_false_iff_not]
    intro hx
    simp only [Bool.and_eq_true, Bool.or_eq_true, Bool.and_eq_false_iff, Bool.or_eq_false_iff, Bool.not_eq_true', Bool.not_eq_false', decide_eq_true_eq, decide_eq_false_iff_not, beq_iff_eq, beq_eq_false_iff_ne, bne_iff_ne, bne_eq_false_iff_eq, ne_eq, Int.toNat_natCast] at *
    have h00 : Int.toNat 0 = 0 := rfl
    rw [h00] at hc0
    omega
  · skip
    refine j_q (qs_ac) ?_
    refine j_loop (fun m vs S' => ∃ i : Nat, vs = [.int .i64 i] ∧ S' = [[]] ∧ i ≤ l.length ∧ m = l.length - i ∧ (l.take i).all okB = true) ⟨_, 0, rfl, rfl, by omega, rfl, rfl⟩ ?_
    rintro m vs S' hlen ⟨i, rfl, rfl, hi, rfl, hall⟩
    refine j_q (qs_lens Tryz.underlying9 rfl) ?_
    refine j_q (qs_lss rfl rfl) ?_
    refine j_cond rfl (fun hc1 => ?_) (fun hc1 => ?_)
    · skip
      refine j_q (qs_idx Tryz.underlying9 rfl rfl (by simp only [Bool.and_eq_true, Bool.or_eq_true, Bool.and_eq_false_iff, Bool.or_eq_false_iff, Bool.not_eq_true', Bool.not_eq_false', decide_eq_true_eq, decide_eq_false_iff_not, beq_iff_eq, beq_eq_false_iff_ne, bne_iff_ne, bne_eq_false_iff_eq, ne_eq, Int.toNat_natCast] at *; omega)) ?_
      rw [Int.toNat_natCast]
      obtain ⟨c, hc00⟩ : ∃ c : Int, c = ((l.getD i 0).toNat : Int) := ⟨_, rfl⟩
      rw [← hc00]
      refine j_q (qs_geq rfl rfl) ?_
      refine j_g rfl (fun hb => qs_mt rfl) ?_
      refine j_g rfl (fun hb => qs_leq (gd_eq hb) rfl) ?_
      refine j_q (qs_and rfl rfl) ?_
      refine j_g rfl (fun hb => qs_mt rfl) ?_
      refine j_g rfl (fun hb => qs_geq (gd_eq hb) rfl) ?_
      refine j_g rfl (fun hb => qs_move (gd_eq hb)) ?_
      refine j_gg rfl (fun hb hb1 => qs_mt rfl) ?_
      refine j_gg rfl (fun hb hb1 => qs_leq (gd_eq2 hb hb1) rfl) ?_
      refine j_g rfl (fun hb => qs_and (gd_eq hb) (gd_eq hb)) ?_
      refine j_q (qs_or rfl rfl) ?_
      refine j_g rfl (fun hb => qs_mt rfl) ?_
      refine j_g rfl (fun hb => qs_geq (gd_eq hb) rfl) ?_
      refine j_g rfl (fun hb => qs_move (gd_eq hb)) ?_
      refine j_gg rfl (fun hb hb1 => qs_mt rfl) ?_
      refine j_gg rfl (fun hb hb1 => qs_leq (gd_eq2 hb hb1) rfl) ?_
      refine j_g rfl (fun hb => qs_and (gd_eq hb) (gd_eq hb)) ?_
      refine j_q (qs_or rfl rfl) ?_
      refine j_q (qs_not rfl) ?_
      refine j_g rfl (fun hb => qs_mt rfl) ?_
      refine j_g rfl (fun hb => qs_neq (gd_eq hb) rfl) ?_
      refine j_q (qs_and rfl rfl) ?_
      refine j_g rfl (fun hb => qs_mt rfl) ?_
      refine j_g rfl (fun hb => qs_neq (gd_eq hb) rfl) ?_
      refine j_q (qs_and rfl rfl) ?_
      refine j_g rfl (fun hb => qs_mt rfl) ?_
      refine j_g rfl (fun hb => qs_neq (gd_eq hb) rfl) ?_
      refine j_q (qs_and rfl rfl) ?_
      refine j_g rfl (fun hb => qs_mt rfl) ?_
      refine j_g rfl (fun hb => qs_neq (gd_eq hb) rfl) ?_
      refine j_q (qs_and rfl rfl) ?_
      refine j_g rfl (fun hb => qs_mt rfl) ?_
      refine j_g rfl (fun hb => qs_neq (gd_eq hb) rfl) ?_
      refine j_q (qs_and rfl rfl) ?_
      refine j_g rfl (fun hb => qs_mt rfl) ?_
      refine j_g rfl (fun hb => qs_neq (gd_eq hb) rfl) ?_
      refine j_q (qs_and rfl rfl) ?_
      refine j_cond rfl (fun hc2 => ?_) (fun hc2 => ?_)
      · skip
        refine j_q (qs_ac) ?_
        refine j_ret_con (vs := [_]) (fun w' hw' => ⟨rfl, trivial⟩) ?_
        show Value.bool _ = _
        congr 1
        symm
        refine all_fail (i := i) (by first | omega | (simp only [Bool.and_eq_true, Bool.or_eq_true, Bool.and_eq_false_iff, Bool.or_eq_false_iff, Bool.not_eq_true', Bool.not_eq_false', decide_eq_true_eq, decide_eq_false_iff_not, beq_iff_eq, beq_eq_false_iff_ne, bne_iff_ne, bne_eq_false_iff_eq, ne_eq, Int.toNat_natCast] at *; omega)) ?_
        rw [← hc00]
        simp only [okI, decide_eq_false_iff_not]
        simp only [Bool.and_eq_true, Bool.or_eq_true, Bool.and_eq_false_iff, Bool.or_eq_false_iff, Bool.not_eq_true', Bool.not_eq_false', decide_eq_true_eq, decide_eq_false_iff_not, beq_iff_eq, beq_eq_false_iff_ne, bne_iff_ne, bne_eq_false_iff_eq, ne_eq, Int.toNat_natCast] at *
        omega
      · skip
        refine j_q (qs_add64 rfl rfl (by first | omega | (simp only [Bool.and_eq_true, Bool.or_eq_true, Bool.and_eq_false_iff, Bool.or_eq_false_iff, Bool.not_eq_true', Bool.not_eq_false', decide_eq_true_eq, decide_eq_false_iff_not, beq_iff_eq, beq_eq_false_iff_ne, bne_iff_ne, bne_eq_false_iff_eq, ne_eq, Int.toNat_natCast] at *; omega))) ?_
        refine j_back rfl ?_
        have h4 : okI ((l.getD i 0).toNat : Int) = true := by
          rw [← hc00]
          simp only [okI, decide_eq_true_eq]
          simp only [Bool.and_eq_true, Bool.or_eq_true, Bool.and_eq_false_iff, Bool.or_eq_false_iff, Bool.not_eq_true', Bool.not_eq_false', decide_eq_true_eq, decide_eq_false_iff_not, beq_iff_eq, beq_eq_false_iff_ne, bne_iff_ne, bne_eq_false_iff_eq, ne_eq, Int.toNat_natCast] at *
          omega
        have h5 : i < l.length := by
          simp only [Bool.and_eq_true, Bool.or_eq_true, Bool.and_eq_false_iff, Bool.or_eq_false_iff, Bool.not_eq_true', Bool.not_eq_false', decide_eq_true_eq, decide_eq_false_iff_not, beq_iff_eq, beq_eq_false_iff_ne, bne_iff_ne, bne_eq_false_iff_eq, ne_eq, Int.toNat_natCast] at *
          omega
        exact ⟨_, (by omega : l.length - (i + 1) < l.length - i), i + 1, by show [Value.int IntKind.i64 _] = _; congr 2, rfl, by omega, rfl, all_step hall h5 h4⟩
    · skip
      refine j_q (qs_ac) ?_
      refine j_ret_con (vs := [_]) (fun w' hw' => ⟨rfl, trivial⟩) ?_
      show Value.bool _ = _
      congr 1
      symm
      have h00 : Int.toNat 0 = 0 := rfl
      rw [h00] at hc0
      simp only [Bool.and_eq_true, Bool.or_eq_true, Bool.and_eq_false_iff, Bool.or_eq_false_iff, Bool.not_eq_true', Bool.not_eq_false', decide_eq_true_eq, decide_eq_false_iff_not, beq_iff_eq, beq_eq_false_iff_ne, bne_iff_ne, bne_eq_false_iff_eq, ne_eq, Int.toNat_natCast] at *
      exact all_done hall (by omega) (by omega) (by omega) (by omega)
/-- pantry.path.IsName -/
theorem isName_con (l : List UInt8) (w : World) (hl : l.length ≤ 9223372036854775807) : Con Tryz.prog 38 [.string (bs l)] w [] fun v _ => v = .bool (isName l) := by
  refine con_of_tree mix Tryz.func38 T38_ok (by kernel_rfl) ?_
  unfold T38
  refine j_q (qs_ac) ?_
  refine j_q (qs_lens Tryz.underlying9 rfl) ?_
  refine j_q (qs_lss rfl rfl) ?_
  refine j_g rfl (fun hb => qs_mt rfl) ?_
  refine j_g rfl (fun hb => qs_lens Tryz.underlying9 (gd_eq hb)) ?_
  refine j_g rfl (fun hb => qs_gtr (gd_eq hb) rfl) ?_
  refine j_q (qs_or rfl rfl) ?_
  refine j_g rfl (fun hb => qs_mt rfl) ?_
  refine j_g rfl (fun hb => qs_idx Tryz.underlying9 (gd_eq hb) rfl ⟨(by first | omega | (simp only [Bool.and_eq_true, Bool.or_eq_true, Bool.and_eq_false_iff, Bool.or_eq_false_iff, Bool.not_eq_true', Bool.not_eq_false', decide_eq_true_eq, decide_eq_false_iff_not, beq_iff_eq, beq_eq_false_iff_ne, bne_iff_ne, bne_eq_false_iff_eq, ne_eq, Int.toNat_natCast] at *; omega)), (by first | omega | (simp only [Bool.and_eq_true, Bool.or_eq_true, Bool.and_eq_false_iff, Bool.or_eq_false_iff, Bool.not_eq_true', Bool.not_eq_false', decide_eq_true_eq, decide_eq_false_iff_not, beq_iff_eq, beq_eq_false_iff_ne, bne_iff_ne, bne_eq_false_iff_eq, ne_eq, Int.toNat_natCast] at *; omega))⟩) ?_
  refine j_g rfl (fun hb => qs_eql (gd_eq hb) rfl) ?_
  refine j_q (qs_or rfl rfl) ?_
  refine j_cond rfl (fun hc0 => ?_) (fun hc0 => ?_)
  · skip
    refine j_q (qs_ac) ?_
    refine j_ret_con (vs := [_]) (fun w' hw' => ⟨rfl, trivial⟩) ?_
    show Value.bool _ = _
    congr 1
    symm
    simp only [isName, Bool.and_eq_false_iff]
    left
    simp only [decide_eq_false_iff_not]
    intro hx
    simp only [Bool.and_eq_true, Bool.or_eq_true, Bool.and_eq_false_iff, Bool.or_eq_false_iff, Bool.not_eq_true', Bool.not_eq_false', decide_eq_true_eq, decide_eq_false_iff_not, beq_iff_eq, beq_eq_false_iff_ne, bne_iff_ne, bne_eq_false_iff_eq, ne_eq, Int.toNat_natCast] at *
    have h00 : Int.toNat 0 = 0 := rfl
    rw [h00] at hc0
    omega
  · skip
    refine j_bytes Tryz.underlying9 Tryz.underlying46 Tryz.underlying5 rfl (fun v12 c12 ho12 hv12 => ?_)
    obtain ⟨g12, cap12, rfl⟩ := hv12
    refine j_q (qs_lenl Tryz.underlying46 rfl) ?_
    refine j_q (qs_mc) ?_
    refine j_loop (fun m vs S' => ∃ i : Nat, vs = [.int .i64 i] ∧ S' = [c12, []] ∧ i ≤ l.length ∧ m = l.length - i ∧ (l.take i).all okB = true) ⟨_, 0, rfl, rfl, by omega, rfl, rfl⟩ ?_
    rintro m vs S' hlen ⟨i, rfl, rfl, hi, rfl, hall⟩
    refine j_q (qs_lss rfl rfl) ?_
    refine j_cond rfl (fun hc1 => ?_) (fun hc1 => ?_)
    · skip
      have hi1 : i < l.length := by
        simp only [Bool.and_eq_true, Bool.or_eq_true, Bool.and_eq_false_iff, Bool.or_eq_false_iff, Bool.not_eq_true', Bool.not_eq_false', decide_eq_true_eq, decide_eq_false_iff_not, beq_iff_eq, beq_eq_false_iff_ne, bne_iff_ne, bne_eq_false_iff_eq, ne_eq, Int.toNat_natCast] at *
        omega
      refine j_q (qs_ixl0 Tryz.underlying46 sz5 rfl rfl ⟨(by first | omega | (simp only [Bool.and_eq_true, Bool.or_eq_true, Bool.and_eq_false_iff, Bool.or_eq_false_iff, Bool.not_eq_true', Bool.not_eq_false', decide_eq_true_eq, decide_eq_false_iff_not, beq_iff_eq, beq_eq_false_iff_ne, bne_iff_ne, bne_eq_false_iff_eq, ne_eq, Int.toNat_natCast] at *; omega)), (by first | omega | (simp only [Bool.and_eq_true, Bool.or_eq_true, Bool.and_eq_false_iff, Bool.or_eq_false_iff, Bool.not_eq_true', Bool.not_eq_false', decide_eq_true_eq, decide_eq_false_iff_not, beq_iff_eq, beq_eq_false_iff_ne, bne_iff_ne, bne_eq_false_iff_eq, ne_eq, Int.toNat_natCast] at *; omega))⟩) ?_
      refine j_q (qs_loadR (own_rd ho12 0 rfl) Tryz.underlying5 rfl rfl (by rw [Int.toNat_natCast]; exact ints_get_lt hi1)) ?_
      obtain ⟨c, hc00⟩ : ∃ c : Int, c = ((l.getD i 0).toNat : Int) := ⟨_, rfl⟩
      rw [← hc00]
      refine j_q (qs_geq rfl rfl) ?_
      refine j_g rfl (fun hb => qs_mt rfl) ?_
      refine j_g rfl (fun hb => qs_leq (gd_eq hb) rfl) ?_
      refine j_q (qs_and rfl rfl) ?_
      refine j_cond rfl (fun hc2 => ?_) (fun hc2 => ?_)
      · skip
        refine j_cond rfl (fun hc3 => ?_) (fun hc3 => ?_)
        · skip
          refine j_q (qs_add64 rfl rfl (by first | omega | (simp only [Bool.and_eq_true, Bool.or_eq_true, Bool.and_eq_false_iff, Bool.or_eq_false_iff, Bool.not_eq_true', Bool.not_eq_false', decide_eq_true_eq, decide_eq_false_iff_not, beq_iff_eq, beq_eq_false_iff_ne, bne_iff_ne, bne_eq_false_iff_eq, ne_eq, Int.toNat_natCast] at *; omega))) ?_
          refine j_back rfl ?_
          first
            | (exfalso; simp only [Bool.and_eq_true, Bool.or_eq_true, Bool.and_eq_false_iff, Bool.or_eq_false_iff, Bool.not_eq_true', Bool.not_eq_false', decide_eq_true_eq, decide_eq_false_iff_not, beq_iff_eq, beq_eq_false_iff_ne, bne_iff_ne, bne_eq_false_iff_eq, ne_eq, Int.toNat_natCast] at * <;> omega)
            | (
              have h4 : okI ((l.getD i 0).toNat : Int) = true := by
                rw [← hc00]
                simp only [okI, decide_eq_true_eq]
                simp only [Bool.and_eq_true, Bool.or_eq_true, Bool.and_eq_false_iff, Bool.or_eq_false_iff, Bool.not_eq_true', Bool.not_eq_false', decide_eq_true_eq, decide_eq_false_iff_not, beq_iff_eq, beq_eq_false_iff_ne, bne_iff_ne, bne_eq_false_iff_eq, ne_eq, Int.toNat_natCast] at *
                omega
              exact ⟨_, (by omega : l.length - (i + 1) < l.length - i), i + 1, by show [Value.int IntKind.i64 _] = _; congr 2, rfl, by omega, rfl, all_step hall hi1 h4⟩)
        · skip
          refine j_q (qs_eql rfl rfl) ?_
          refine j_cond rfl (fun hc4 => ?_) (fun hc4 => ?_)
          · skip
            refine j_cond rfl (fun hc5 => ?_) (fun hc5 => ?_)
            · skip
              refine j_q (qs_add64 rfl rfl (by first | omega | (simp only [Bool.and_eq_true, Bool.or_eq_true, Bool.and_eq_false_iff, Bool.or_eq_false_iff, Bool.not_eq_true', Bool.not_eq_false', decide_eq_true_eq, decide_eq_false_iff_not, beq_iff_eq, beq_eq_false_iff_ne, bne_iff_ne, bne_eq_false_iff_eq, ne_eq, Int.toNat_natCast] at *; omega))) ?_
              refine j_back rfl ?_
              first
                | (exfalso; simp only [Bool.and_eq_true, Bool.or_eq_true, Bool.and_eq_false_iff, Bool.or_eq_false_iff, Bool.not_eq_true', Bool.not_eq_false', decide_eq_true_eq, decide_eq_false_iff_not, beq_iff_eq, beq_eq_false_iff_ne, bne_iff_ne, bne_eq_false_iff_eq, ne_eq, Int.toNat_natCast] at * <;> omega)
                | (
                  have h4 : okI ((l.getD i 0).toNat : Int) = true := by
                    rw [← hc00]
                    simp only [okI, decide_eq_true_eq]
                    simp only [Bool.and_eq_true, Bool.or_eq_true, Bool.and_eq_false_iff, Bool.or_eq_false_iff, Bool.not_eq_true', Bool.not_eq_false', decide_eq_true_eq, decide_eq_false_iff_not, beq_iff_eq, beq_eq_false_iff_ne, bne_iff_ne, bne_eq_false_iff_eq, ne_eq, Int.toNat_natCast] at *
                    omega
                  exact ⟨_, (by omega : l.length - (i + 1) < l.length - i), i + 1, by show [Value.int IntKind.i64 _] = _; congr 2, rfl, by omega, rfl, all_step hall hi1 h4⟩)
            · skip
              refine j_q (qs_ac) ?_
              refine j_ret_con (vs := [_]) (fun w' hw' => ⟨rfl, trivial⟩) ?_
              first
                | (exfalso; simp only [Bool.and_eq_true, Bool.or_eq_true, Bool.and_eq_false_iff, Bool.or_eq_false_iff, Bool.not_eq_true', Bool.not_eq_false', decide_eq_true_eq, decide_eq_false_iff_not, beq_iff_eq, beq_eq_false_iff_ne, bne_iff_ne, bne_eq_false_iff_eq, ne_eq, Int.toNat_natCast] at * <;> omega)
                | (
                  show Value.bool _ = _
                  congr 1
                  symm
                  refine all_fail (i := i) hi1 ?_
                  rw [← hc00]
                  simp only [okI, decide_eq_false_iff_not]
                  simp only [Bool.and_eq_true, Bool.or_eq_true, Bool.and_eq_false_iff, Bool.or_eq_false_iff, Bool.not_eq_true', Bool.not_eq_false', decide_eq_true_eq, decide_eq_false_iff_not, beq_iff_eq, beq_eq_false_iff_ne, bne_iff_ne, bne_eq_false_iff_eq, ne_eq, Int.toNat_natCast] at *
                  omega)
          · skip
            refine j_q (qs_eql rfl rfl) ?_
            refine j_cond rfl (fun hc6 => ?_) (fun hc6 => ?_)
            · skip
              refine j_cond rfl (fun hc7 => ?_) (fun hc7 => ?_)
              · skip
                refine j_q (qs_add64 rfl rfl (by first | omega | (simp only [Bool.and_eq_true, Bool.or_eq_true, Bool.and_eq_false_iff, Bool.or_eq_false_iff, Bool.not_eq_true', Bool.not_eq_false', decide_eq_true_eq, decide_eq_false_iff_not, beq_iff_eq, beq_eq_false_iff_ne, bne_iff_ne, bne_eq_false_iff_eq, ne_eq, Int.toNat_natCast] at *; omega))) ?_
                refine j_back rfl ?_
                first
                  | (exfalso; simp only [Bool.and_eq_true, Bool.or_eq_true, Bool.and_eq_false_iff, Bool.or_eq_false_iff, Bool.not_eq_true', Bool.not_eq_false', decide_eq_true_eq, decide_eq_false_iff_not, beq_iff_eq, beq_eq_false_iff_ne, bne_iff_ne, bne_eq_false_iff_eq, ne_eq, Int.toNat_natCast] at * <;> omega)
                  | (
                    have h4 : okI ((l.getD i 0).toNat : Int) = true := by
                      rw [← hc00]
                      simp only [okI, decide_eq_true_eq]
                      simp only [Bool.and_eq_true, Bool.or_eq_true, Bool.and_eq_false_iff, Bool.or_eq_false_iff, Bool.not_eq_true', Bool.not_eq_false', decide_eq_true_eq, decide_eq_false_iff_not, beq_iff_eq, beq_eq_false_iff_ne, bne_iff_ne, bne_eq_false_iff_eq, ne_eq, Int.toNat_natCast] at *
                      omega
                    exact ⟨_, (by omega : l.length - (i + 1) < l.length - i), i + 1, by show [Value.int IntKind.i64 _] = _; congr 2, rfl, by omega, rfl, all_step hall hi1 h4⟩)
              · skip
                refine j_q (qs_ac) ?_
                refine j_ret_con (vs := [_]) (fun w' hw' => ⟨rfl, trivial⟩) ?_
                first
                  | (exfalso; simp only [Bool.and_eq_true, Bool.or_eq_true, Bool.and_eq_false_iff, Bool.or_eq_false_iff, Bool.not_eq_true', Bool.not_eq_false', decide_eq_true_eq, decide_eq_false_iff_not, beq_iff_eq, beq_eq_false_iff_ne, bne_iff_ne, bne_eq_false_iff_eq, ne_eq, Int.toNat_natCast] at * <;> omega)
                  | (
                    show Value.bool _ = _
                    congr 1
                    symm
                    refine all_fail (i := i) hi1 ?_
                    rw [← hc00]
                    simp only [okI, decide_eq_false_iff_not]
                    simp only [Bool.and_eq_true, Bool.or_eq_true, Bool.and_eq_false_iff, Bool.or_eq_false_iff, Bool.not_eq_true', Bool.not_eq_false', decide_eq_true_eq, decide_eq_false_iff_not, beq_iff_eq, beq_eq_false_iff_ne, bne_iff_ne, bne_eq_false_iff_eq, ne_eq, Int.toNat_natCast] at *
                    omega)
            · skip
              refine j_q (qs_eql rfl rfl) ?_
              refine j_cond rfl (fun hc8 => ?_) (fun hc8 => ?_)
              · skip
                refine j_cond rfl (fun hc9 => ?_) (fun hc9 => ?_)
                · skip
                  refine j_q (qs_add64 rfl rfl (by first | omega | (simp only [Bool.and_eq_true, Bool.or_eq_true, Bool.and_eq_false_iff, Bool.or_eq_false_iff, Bool.not_eq_true', Bool.not_eq_false', decide_eq_true_eq, decide_eq_false_iff_not, beq_iff_eq, beq_eq_false_iff_ne, bne_iff_ne, bne_eq_false_iff_eq, ne_eq, Int.toNat_natCast] at *; omega))) ?_
                  refine j_back rfl ?_
                  first
                    | (exfalso; simp only [Bool.and_eq_true, Bool.or_eq_true, Bool.and_eq_false_iff, Bool.or_eq_false_iff, Bool.not_eq_true', Bool.not_eq_false', decide_eq_true_eq, decide_eq_false_iff_not, beq_iff_eq, beq_eq_false_iff_ne, bne_iff_ne, bne_eq_false_iff_eq, ne_eq, Int.toNat_natCast] at * <;> omega)
                    | (
                      have h4 : okI ((l.getD i 0).toNat : Int) = true := by
                        rw [← hc00]
                        simp only [okI, decide_eq_true_eq]
                        simp only [Bool.and_eq_true, Bool.or_eq_true, Bool.and_eq_false_iff, Bool.or_eq_false_iff, Bool.not_eq_true', Bool.not_eq_false', decide_eq_true_eq, decide_eq_false_iff_not, beq_iff_eq, beq_eq_false_iff_ne, bne_iff_ne, bne_eq_false_iff_eq, ne_eq, Int.toNat_natCast] at *
                        omega
                      exact ⟨_, (by omega : l.length - (i + 1) < l.length - i), i + 1, by show [Value.int IntKind.i64 _] = _; congr 2, rfl, by omega, rfl, all_step hall hi1 h4⟩)
                · skip
                  refine j_q (qs_ac) ?_
                  refine j_ret_con (vs := [_]) (fun w' hw' => ⟨rfl, trivial⟩) ?_
                  first
                    | (exfalso; simp only [Bool.and_eq_true, Bool.or_eq_true, Bool.and_eq_false_iff, Bool.or_eq_false_iff, Bool.not_eq_true', Bool.not_eq_false', decide_eq_true_eq, decide_eq_false_iff_not, beq_iff_eq, beq_eq_false_iff_ne, bne_iff_ne, bne_eq_false_iff_eq, ne_eq, Int.toNat_natCast] at * <;> omega)
                    | (
                      show Value.bool _ = _
                      congr 1
                      symm
                      refine all_fail (i := i) hi1 ?_
                      rw [← hc00]
                      simp only [okI, decide_eq_false_iff_not]
                      simp only [Bool.and_eq_true, Bool.or_eq_true, Bool.and_eq_false_iff, Bool.or_eq_false_iff, Bool.not_eq_true', Bool.not_eq_false', decide_eq_true_eq, decide_eq_false_iff_not, beq_iff_eq, beq_eq_false_iff_ne, bne_iff_ne, bne_eq_false_iff_eq, ne_eq, Int.toNat_natCast] at *
                      omega)
              · skip
                refine j_q (qs_eql rfl rfl) ?_
                refine j_cond rfl (fun hc10 => ?_) (fun hc10 => ?_)
                · skip
                  refine j_cond rfl (fun hc11 => ?_) (fun hc11 => ?_)
                  · skip
                    refine j_q (qs_add64 rfl rfl (by first | omega | (simp only [Bool.and_eq_true, Bool.or_eq_true, Bool.and_eq_false_iff, Bool.or_eq_false_iff, Bool.not_eq_true', Bool.not_eq_false', decide_eq_true_eq, decide_eq_false_iff_not, beq_iff_eq, beq_eq_false_iff_ne, bne_iff_ne, bne_eq_false_iff_eq, ne_eq, Int.toNat_natCast] at *; omega))) ?_
                    refine j_back rfl ?_
                    first
                      | (exfalso; simp only [Bool.and_eq_true, Bool.or_eq_true, Bool.and_eq_false_iff, Bool.or_eq_false_iff, Bool.not_eq_true', Bool.not_eq_false', decide_eq_true_eq, decide_eq_false_iff_not, beq_iff_eq, beq_eq_false_iff_ne, bne_iff_ne, bne_eq_false_iff_eq, ne_eq, Int.toNat_natCast] at * <;> omega)
                      | (
                        have h4 : okI ((l.getD i 0).toNat : Int) = true := by
                          rw [← hc00]
                          simp only [okI, decide_eq_true_eq]
                          simp only [Bool.and_eq_true, Bool.or_eq_true, Bool.and_eq_false_iff, Bool.or_eq_false_iff, Bool.not_eq_true', Bool.not_eq_false', decide_eq_true_eq, decide_eq_false_iff_not, beq_iff_eq, beq_eq_false_iff_ne, bne_iff_ne, bne_eq_false_iff_eq, ne_eq, Int.toNat_natCast] at *
                          omega
                        exact ⟨_, (by omega : l.length - (i + 1) < l.length - i), i + 1, by show [Value.int IntKind.i64 _] = _; congr 2, rfl, by omega, rfl, all_step hall hi1 h4⟩)
                  · skip
                    refine j_q (qs_ac) ?_
                    refine j_ret_con (vs := [_]) (fun w' hw' => ⟨rfl, trivial⟩) ?_
                    first
                      | (exfalso; simp only [Bool.and_eq_true, Bool.or_eq_true, Bool.and_eq_false_iff, Bool.or_eq_false_iff, Bool.not_eq_true', Bool.not_eq_false', decide_eq_true_eq, decide_eq_false_iff_not, beq_iff_eq, beq_eq_false_iff_ne, bne_iff_ne, bne_eq_false_iff_eq, ne_eq, Int.toNat_natCast] at * <;> omega)
                      | (
                        show Value.bool _ = _
                        congr 1
                        symm
                        refine all_fail (i := i) hi1 ?_
                        rw [← hc00]
                        simp only [okI, decide_eq_false_iff_not]
                        simp only [Bool.and_eq_true, Bool.or_eq_true, Bool.and_eq_false_iff, Bool.or_eq_false_iff, Bool.not_eq_true', Bool.not_eq_false', decide_eq_true_eq, decide_eq_false_iff_not, beq_iff_eq, beq_eq_false_iff_ne, bne_iff_ne, bne_eq_false_iff_eq, ne_eq, Int.toNat_natCast] at *
                        omega)
                · skip
                  refine j_q (qs_eql rfl rfl) ?_
                  refine j_cond rfl (fun hc12 => ?_) (fun hc12 => ?_)
                  · skip
                    refine j_cond rfl (fun hc13 => ?_) (fun hc13 => ?_)
                    · skip
                      refine j_q (qs_add64 rfl rfl (by first | omega | (simp only [Bool.and_eq_true, Bool.or_eq_true, Bool.and_eq_false_iff, Bool.or_eq_false_iff, Bool.not_eq_true', Bool.not_eq_false', decide_eq_true_eq, decide_eq_false_iff_not, beq_iff_eq, beq_eq_false_iff_ne, bne_iff_ne, bne_eq_false_iff_eq, ne_eq, Int.toNat_natCast] at *; omega))) ?_
                      refine j_back rfl ?_
                      first
                        | (exfalso; simp only [Bool.and_eq_true, Bool.or_eq_true, Bool.and_eq_false_iff, Bool.or_eq_false_iff, Bool.not_eq_true', Bool.not_eq_false', decide_eq_true_eq, decide_eq_false_iff_not, beq_iff_eq, beq_eq_false_iff_ne, bne_iff_ne, bne_eq_false_iff_eq, ne_eq, Int.toNat_natCast] at * <;> omega)
                        | (
                          have h4 : okI ((l.getD i 0).toNat : Int) = true := by
                            rw [← hc00]
                            simp only [okI, decide_eq_true_eq]
                            simp only [Bool.and_eq_true, Bool.or_eq_true, Bool.and_eq_false_iff, Bool.or_eq_false_iff, Bool.not_eq_true', Bool.not_eq_false', decide_eq_true_eq, decide_eq_false_iff_not, beq_iff_eq, beq_eq_false_iff_ne, bne_iff_ne, bne_eq_false_iff_eq, ne_eq, Int.toNat_natCast] at *
                            omega
                          exact ⟨_, (by omega : l.length - (i + 1) < l.length - i), i + 1, by show [Value.int IntKind.i64 _] = _; congr 2, rfl, by omega, rfl, all_step hall hi1 h4⟩)
                    · skip
                      refine j_q (qs_ac) ?_
                      refine j_ret_con (vs := [_]) (fun w' hw' => ⟨rfl, trivial⟩) ?_
                      first
                        | (exfalso; simp only [Bool.and_eq_true, Bool.or_eq_true, Bool.and_eq_false_iff, Bool.or_eq_false_iff, Bool.not_eq_true', Bool.not_eq_false', decide_eq_true_eq, decide_eq_false_iff_not, beq_iff_eq, beq_eq_false_iff_ne, bne_iff_ne, bne_eq_false_iff_eq, ne_eq, Int.toNat_natCast] at * <;> omega)
                        | (
                          show Value.bool _ = _
                          congr 1
                          symm
                          refine all_fail (i := i) hi1 ?_
                          rw [← hc00]
                          simp only [okI, decide_eq_false_iff_not]
                          simp only [Bool.and_eq_true, Bool.or_eq_true, Bool.and_eq_false_iff, Bool.or_eq_false_iff, Bool.not_eq_true', Bool.not_eq_false', decide_eq_true_eq, decide_eq_false_iff_not, beq_iff_eq, beq_eq_false_iff_ne, bne_iff_ne, bne_eq_false_iff_eq, ne_eq, Int.toNat_natCast] at *
                          omega)
                  · skip
                    refine j_q (qs_eql rfl rfl) ?_
                    refine j_cond rfl (fun hc14 => ?_) (fun hc14 => ?_)
                    · skip
                      refine j_q (qs_add64 rfl rfl (by first | omega | (simp only [Bool.and_eq_true, Bool.or_eq_true, Bool.and_eq_false_iff, Bool.or_eq_false_iff, Bool.not_eq_true', Bool.not_eq_false', decide_eq_true_eq, decide_eq_false_iff_not, beq_iff_eq, beq_eq_false_iff_ne, bne_iff_ne, bne_eq_false_iff_eq, ne_eq, Int.toNat_natCast] at *; omega))) ?_
                      refine j_back rfl ?_
                      first
                        | (exfalso; simp only [Bool.and_eq_true, Bool.or_eq_true, Bool.and_eq_false_iff, Bool.or_eq_false_iff, Bool.not_eq_true', Bool.not_eq_false', decide_eq_true_eq, decide_eq_false_iff_not, beq_iff_eq, beq_eq_false_iff_ne, bne_iff_ne, bne_eq_false_iff_eq, ne_eq, Int.toNat_natCast] at * <;> omega)
                        | (
                          have h4 : okI ((l.getD i 0).toNat : Int) = true := by
                            rw [← hc00]
                            simp only [okI, decide_eq_true_eq]
                            simp only [Bool.and_eq_true, Bool.or_eq_true, Bool.and_eq_false_iff, Bool.or_eq_false_iff, Bool.not_eq_true', Bool.not_eq_false', decide_eq_true_eq, decide_eq_false_iff_not, beq_iff_eq, beq_eq_false_iff_ne, bne_iff_ne, bne_eq_false_iff_eq, ne_eq, Int.toNat_natCast] at *
                            omega
                          exact ⟨_, (by omega : l.length - (i + 1) < l.length - i), i + 1, by show [Value.int IntKind.i64 _] = _; congr 2, rfl, by omega, rfl, all_step hall hi1 h4⟩)
                    · skip
                      refine j_q (qs_ac) ?_
                      refine j_ret_con (vs := [_]) (fun w' hw' => ⟨rfl, trivial⟩) ?_
                      first
                        | (exfalso; simp only [Bool.and_eq_true, Bool.or_eq_true, Bool.and_eq_false_iff, Bool.or_eq_false_iff, Bool.not_eq_true', Bool.not_eq_false', decide_eq_true_eq, decide_eq_false_iff_not, beq_iff_eq, beq_eq_false_iff_ne, bne_iff_ne, bne_eq_false_iff_eq, ne_eq, Int.toNat_natCast] at * <;> omega)
                        | (
                          show Value.bool _ = _
                          congr 1
                          symm
                          refine all_fail (i := i) hi1 ?_
                          rw [← hc00]
                          simp only [okI, decide_eq_false_iff_not]
                          simp only [Bool.and_eq_true, Bool.or_eq_true, Bool.and_eq_false_iff, Bool.or_eq_false_iff, Bool.not_eq_true', Bool.not_eq_false', decide_eq_true_eq, decide_eq_false_iff_not, beq_iff_eq, beq_eq_false_iff_ne, bne_iff_ne, bne_eq_false_iff_eq, ne_eq, Int.toNat_natCast] at *
                          omega)
      · skip
        refine j_q (qs_geq rfl rfl) ?_
        refine j_g rfl (fun hb => qs_mt rfl) ?_
        refine j_g rfl (fun hb => qs_leq (gd_eq hb) rfl) ?_
        refine j_q (qs_and rfl rfl) ?_
        refine j_cond rfl (fun hc15 => ?_) (fun hc15 => ?_)
        · skip
          refine j_cond rfl (fun hc16 => ?_) (fun hc16 => ?_)
          · skip
            refine j_q (qs_add64 rfl rfl (by first | omega | (simp only [Bool.and_eq_true, Bool.or_eq_true, Bool.and_eq_false_iff, Bool.or_eq_false_iff, Bool.not_eq_true', Bool.not_eq_false', decide_eq_true_eq, decide_eq_false_iff_not, beq_iff_eq, beq_eq_false_iff_ne, bne_iff_ne, bne_eq_false_iff_eq, ne_eq, Int.toNat_natCast] at *; omega))) ?_
            refine j_back rfl ?_
            first
              | (exfalso; simp only [Bool.and_eq_true, Bool.or_eq_true, Bool.and_eq_false_iff, Bool.or_eq_false_iff, Bool.not_eq_true', Bool.not_eq_false', decide_eq_true_eq, decide_eq_false_iff_not, beq_iff_eq, beq_eq_false_iff_ne, bne_iff_ne, bne_eq_false_iff_eq, ne_eq, Int.toNat_natCast] at * <;> omega)
              | (
                have h4 : okI ((l.getD i 0).toNat : Int) = true := by
                  rw [← hc00]
                  simp only [okI, decide_eq_true_eq]
                  simp only [Bool.and_eq_true, Bool.or_eq_true, Bool.and_eq_false_iff, Bool.or_eq_false_iff, Bool.not_eq_true', Bool.not_eq_false', decide_eq_true_eq, decide_eq_false_iff_not, beq_iff_eq, beq_eq_false_iff_ne, bne_iff_ne, bne_eq_false_iff_eq, ne_eq, Int.toNat_natCast] at *
                  omega
                exact ⟨_, (by omega : l.length - (i + 1) < l.length - i), i + 1, by show [Value.int IntKind.i64 _] = _; congr 2, rfl, by omega, rfl, all_step hall hi1 h4⟩)
          · skip
            refine j_q (qs_eql rfl rfl) ?_
            refine j_cond rfl (fun hc17 => ?_) (fun hc17 => ?_)
            · skip
              refine j_cond rfl (fun hc18 => ?_) (fun hc18 => ?_)
              · skip
                refine j_q (qs_add64 rfl rfl (by first | omega | (simp only [Bool.and_eq_true, Bool.or_eq_true, Bool.and_eq_false_iff, Bool.or_eq_false_iff, Bool.not_eq_true', Bool.not_eq_false', decide_eq_true_eq, decide_eq_false_iff_not, beq_iff_eq, beq_eq_false_iff_ne, bne_iff_ne, bne_eq_false_iff_eq, ne_eq, Int.toNat_natCast] at *; omega))) ?_
                refine j_back rfl ?_
                first
                  | (exfalso; simp only [Bool.and_eq_true, Bool.or_eq_true, Bool.and_eq_false_iff, Bool.or_eq_false_iff, Bool.not_eq_true', Bool.not_eq_false', decide_eq_true_eq, decide_eq_false_iff_not, beq_iff_eq, beq_eq_false_iff_ne, bne_iff_ne, bne_eq_false_iff_eq, ne_eq, Int.toNat_natCast] at * <;> omega)
                  | (
                    have h4 : okI ((l.getD i 0).toNat : Int) = true := by
                      rw [← hc00]
                      simp only [okI, decide_eq_true_eq]
                      simp only [Bool.and_eq_true, Bool.or_eq_true, Bool.and_eq_false_iff, Bool.or_eq_false_iff, Bool.not_eq_true', Bool.not_eq_false', decide_eq_true_eq, decide_eq_false_iff_not, beq_iff_eq, beq_eq_false_iff_ne, bne_iff_ne, bne_eq_false_iff_eq, ne_eq, Int.toNat_natCast] at *
                      omega
                    exact ⟨_, (by omega : l.length - (i + 1) < l.length - i), i + 1, by show [Value.int IntKind.i64 _] = _; congr 2, rfl, by omega, rfl, all_step hall hi1 h4⟩)
              · skip
                refine j_q (qs_ac) ?_
                refine j_ret_con (vs := [_]) (fun w' hw' => ⟨rfl, trivial⟩) ?_
                first
                  | (exfalso; simp only [Bool.and_eq_true, Bool.or_eq_true, Bool.and_eq_false_iff, Bool.or_eq_false_iff, Bool.not_eq_true', Bool.not_eq_false', decide_eq_true_eq, decide_eq_false_iff_not, beq_iff_eq, beq_eq_false_iff_ne, bne_iff_ne, bne_eq_false_iff_eq, ne_eq, Int.toNat_natCast] at * <;> omega)
                  | (
                    show Value.bool _ = _
                    congr 1
                    symm
                    refine all_fail (i := i) hi1 ?_
                    rw [← hc00]
                    simp only [okI, decide_eq_false_iff_not]
                    simp only [Bool.and_eq_true, Bool.or_eq_true, Bool.and_eq_false_iff, Bool.or_eq_false_iff, Bool.not_eq_true', Bool.not_eq_false', decide_eq_true_eq, decide_eq_false_iff_not, beq_iff_eq, beq_eq_false_iff_ne, bne_iff_ne, bne_eq_false_iff_eq, ne_eq, Int.toNat_natCast] at *
                    omega)
            · skip
              refine j_q (qs_eql rfl rfl) ?_
              refine j_cond rfl (fun hc19 => ?_) (fun hc19 => ?_)
              · skip
                refine j_cond rfl (fun hc20 => ?_) (fun hc20 => ?_)
                · skip
                  refine j_q (qs_add64 rfl rfl (by first | omega | (simp only [Bool.and_eq_true, Bool.or_eq_true, Bool.and_eq_false_iff, Bool.or_eq_false_iff, Bool.not_eq_true', Bool.not_eq_false', decide_eq_true_eq, decide_eq_false_iff_not, beq_iff_eq, beq_eq_false_iff_ne, bne_iff_ne, bne_eq_false_iff_eq, ne_eq, Int.toNat_natCast] at *; omega))) ?_
                  refine j_back rfl ?_
                  first
                    | (exfalso; simp only [Bool.and_eq_true, Bool.or_eq_true, Bool.and_eq_false_iff, Bool.or_eq_false_iff, Bool.not_eq_true', Bool.not_eq_false', decide_eq_true_eq, decide_eq_false_iff_not, beq_iff_eq, beq_eq_false_iff_ne, bne_iff_ne, bne_eq_false_iff_eq, ne_eq, Int.toNat_natCast] at * <;> omega)
                    | (
                      have h4 : okI ((l.getD i 0).toNat : Int) = true := by
                        rw [← hc00]
                        simp only [okI, decide_eq_true_eq]
                        simp only [Bool.and_eq_true, Bool.or_eq_true, Bool.and_eq_false_iff, Bool.or_eq_false_iff, Bool.not_eq_true', Bool.not_eq_false', decide_eq_true_eq, decide_eq_false_iff_not, beq_iff_eq, beq_eq_false_iff_ne, bne_iff_ne, bne_eq_false_iff_eq, ne_eq, Int.toNat_natCast] at *
                        omega
                      exact ⟨_, (by omega : l.length - (i + 1) < l.length - i), i + 1, by show [Value.int IntKind.i64 _] = _; congr 2, rfl, by omega, rfl, all_step hall hi1 h4⟩)
                · skip
                  refine j_q (qs_ac) ?_
                  refine j_ret_con (vs := [_]) (fun w' hw' => ⟨rfl, trivial⟩) ?_
                  first
                    | (exfalso; simp only [Bool.and_eq_true, Bool.or_eq_true, Bool.and_eq_false_iff, Bool.or_eq_false_iff, Bool.not_eq_true', Bool.not_eq_false', decide_eq_true_eq, decide_eq_false_iff_not, beq_iff_eq, beq_eq_false_iff_ne, bne_iff_ne, bne_eq_false_iff_eq, ne_eq, Int.toNat_natCast] at * <;> omega)
                    | (
                      show Value.bool _ = _
                      congr 1
                      symm
                      refine all_fail (i := i) hi1 ?_
                      rw [← hc00]
                      simp only [okI, decide_eq_false_iff_not]
                      simp only [Bool.and_eq_true, Bool.or_eq_true, Bool.and_eq_false_iff, Bool.or_eq_false_iff, Bool.not_eq_true', Bool.not_eq_false', decide_eq_true_eq, decide_eq_false_iff_not, beq_iff_eq, beq_eq_false_iff_ne, bne_iff_ne, bne_eq_false_iff_eq, ne_eq, Int.toNat_natCast] at *
                      omega)
              · skip
                refine j_q (qs_eql rfl rfl) ?_
                refine j_cond rfl (fun hc21 => ?_) (fun hc21 => ?_)
                · skip
                  refine j_cond rfl (fun hc22 => ?_) (fun hc22 => ?_)
                  · skip
                    refine j_q (qs_add64 rfl rfl (by first | omega | (simp only [Bool.and_eq_true, Bool.or_eq_true, Bool.and_eq_false_iff, Bool.or_eq_false_iff, Bool.not_eq_true', Bool.not_eq_false', decide_eq_true_eq, decide_eq_false_iff_not, beq_iff_eq, beq_eq_false_iff_ne, bne_iff_ne, bne_eq_false_iff_eq, ne_eq, Int.toNat_natCast] at *; omega))) ?_
                    refine j_back rfl ?_
                    first
                      | (exfalso; simp only [Bool.and_eq_true, Bool.or_eq_true, Bool.and_eq_false_iff, Bool.or_eq_false_iff, Bool.not_eq_true', Bool.not_eq_false', decide_eq_true_eq, decide_eq_false_iff_not, beq_iff_eq, beq_eq_false_iff_ne, bne_iff_ne, bne_eq_false_iff_eq, ne_eq, Int.toNat_natCast] at * <;> omega)
                      | (
                        have h4 : okI ((l.getD i 0).toNat : Int) = true := by
                          rw [← hc00]
                          simp only [okI, decide_eq_true_eq]
                          simp only [Bool.and_eq_true, Bool.or_eq_true, Bool.and_eq_false_iff, Bool.or_eq_false_iff, Bool.not_eq_true', Bool.not_eq_false', decide_eq_true_eq, decide_eq_false_iff_not, beq_iff_eq, beq_eq_false_iff_ne, bne_iff_ne, bne_eq_false_iff_eq, ne_eq, Int.toNat_natCast] at *
                          omega
                        exact ⟨_, (by omega : l.length - (i + 1) < l.length - i), i + 1, by show [Value.int IntKind.i64 _] = _; congr 2, rfl, by omega, rfl, all_step hall hi1 h4⟩)
                  · skip
                    refine j_q (qs_ac) ?_
                    refine j_ret_con (vs := [_]) (fun w' hw' => ⟨rfl, trivial⟩) ?_
                    first
                      | (exfalso; simp only [Bool.and_eq_true, Bool.or_eq_true, Bool.and_eq_false_iff, Bool.or_eq_false_iff, Bool.not_eq_true', Bool.not_eq_false', decide_eq_true_eq, decide_eq_false_iff_not, beq_iff_eq, beq_eq_false_iff_ne, bne_iff_ne, bne_eq_false_iff_eq, ne_eq, Int.toNat_natCast] at * <;> omega)
                      | (
                        show Value.bool _ = _
                        congr 1
                        symm
                        refine all_fail (i := i) hi1 ?_
                        rw [← hc00]
                        simp only [okI, decide_eq_false_iff_not]
                        simp only [Bool.and_eq_true, Bool.or_eq_true, Bool.and_eq_false_iff, Bool.or_eq_false_iff, Bool.not_eq_true', Bool.not_eq_false', decide_eq_true_eq, decide_eq_false_iff_not, beq_iff_eq, beq_eq_false_iff_ne, bne_iff_ne, bne_eq_false_iff_eq, ne_eq, Int.toNat_natCast] at *
                        omega)
                · skip
                  refine j_q (qs_eql rfl rfl) ?_
                  refine j_cond rfl (fun hc23 => ?_) (fun hc23 => ?_)
                  · skip
                    refine j_cond rfl (fun hc24 => ?_) (fun hc24 => ?_)
                    · skip
                      refine j_q (qs_add64 rfl rfl (by first | omega | (simp only [Bool.and_eq_true, Bool.or_eq_true, Bool.and_eq_false_iff, Bool.or_eq_false_iff, Bool.not_eq_true', Bool.not_eq_false', decide_eq_true_eq, decide_eq_false_iff_not, beq_iff_eq, beq_eq_false_iff_ne, bne_iff_ne, bne_eq_false_iff_eq, ne_eq, Int.toNat_natCast] at *; omega))) ?_
                      refine j_back rfl ?_
                      first
                        | (exfalso; simp only [Bool.and_eq_true, Bool.or_eq_true, Bool.and_eq_false_iff, Bool.or_eq_false_iff, Bool.not_eq_true', Bool.not_eq_false', decide_eq_true_eq, decide_eq_false_iff_not, beq_iff_eq, beq_eq_false_iff_ne, bne_iff_ne, bne_eq_false_iff_eq, ne_eq, Int.toNat_natCast] at * <;> omega)
                        | (
                          have h4 : okI ((l.getD i 0).toNat : Int) = true := by
                            rw [← hc00]
                            simp only [okI, decide_eq_true_eq]
                            simp only [Bool.and_eq_true, Bool.or_eq_true, Bool.and_eq_false_iff, Bool.or_eq_false_iff, Bool.not_eq_true', Bool.not_eq_false', decide_eq_true_eq, decide_eq_false_iff_not, beq_iff_eq, beq_eq_false_iff_ne, bne_iff_ne, bne_eq_false_iff_eq, ne_eq, Int.toNat_natCast] at *
                            omega
                          exact ⟨_, (by omega : l.length - (i + 1) < l.length - i), i + 1, by show [Value.int IntKind.i64 _] = _; congr 2, rfl, by omega, rfl, all_step hall hi1 h4⟩)
                    · skip
                      refine j_q (qs_ac) ?_
                      refine j_ret_con (vs := [_]) (fun w' hw' => ⟨rfl, trivial⟩) ?_
                      first
                        | (exfalso; simp only [Bool.and_eq_true, Bool.or_eq_true, Bool.and_eq_false_iff, Bool.or_eq_false_iff, Bool.not_eq_true', Bool.not_eq_false', decide_eq_true_eq, decide_eq_false_iff_not, beq_iff_eq, beq_eq_false_iff_ne, bne_iff_ne, bne_eq_false_iff_eq, ne_eq, Int.toNat_natCast] at * <;> omega)
                        | (
                          show Value.bool _ = _
                          congr 1
                          symm
                          refine all_fail (i := i) hi1 ?_
                          rw [← hc00]
                          simp only [okI, decide_eq_false_iff_not]
                          simp only [Bool.and_eq_true, Bool.or_eq_true, Bool.and_eq_false_iff, Bool.or_eq_false_iff, Bool.not_eq_true', Bool.not_eq_false', decide_eq_true_eq, decide_eq_false_iff_not, beq_iff_eq, beq_eq_false_iff_ne, bne_iff_ne, bne_eq_false_iff_eq, ne_eq, Int.toNat_natCast] at *
                          omega)
                  · skip
                    refine j_q (qs_eql rfl rfl) ?_
                    refine j_cond rfl (fun hc25 => ?_) (fun hc25 => ?_)
                    · skip
                      refine j_cond rfl (fun hc26 => ?_) (fun hc26 => ?_)
                      · skip
                        refine j_q (qs_add64 rfl rfl (by first | omega | (simp only [Bool.and_eq_true, Bool.or_eq_true, Bool.and_eq_false_iff, Bool.or_eq_false_iff, Bool.not_eq_true', Bool.not_eq_false', decide_eq_true_eq, decide_eq_false_iff_not, beq_iff_eq, beq_eq_false_iff_ne, bne_iff_ne, bne_eq_false_iff_eq, ne_eq, Int.toNat_natCast] at *; omega))) ?_
                        refine j_back rfl ?_
                        first
                          | (exfalso; simp only [Bool.and_eq_true, Bool.or_eq_true, Bool.and_eq_false_iff, Bool.or_eq_false_iff, Bool.not_eq_true', Bool.not_eq_false', decide_eq_true_eq, decide_eq_false_iff_not, beq_iff_eq, beq_eq_false_iff_ne, bne_iff_ne, bne_eq_false_iff_eq, ne_eq, Int.toNat_natCast] at * <;> omega)
                          | (
                            have h4 : okI ((l.getD i 0).toNat : Int) = true := by
                              rw [← hc00]
                              simp only [okI, decide_eq_true_eq]
                              simp only [Bool.and_eq_true, Bool.or_eq_true, Bool.and_eq_false_iff, Bool.or_eq_false_iff, Bool.not_eq_true', Bool.not_eq_false', decide_eq_true_eq, decide_eq_false_iff_not, beq_iff_eq, beq_eq_false_iff_ne, bne_iff_ne, bne_eq_false_iff_eq, ne_eq, Int.toNat_natCast] at *
                              omega
                            exact ⟨_, (by omega : l.length - (i + 1) < l.length - i), i + 1, by show [Value.int IntKind.i64 _] = _; congr 2, rfl, by omega, rfl, all_step hall hi1 h4⟩)
                      · skip
                        refine j_q (qs_ac) ?_
                        refine j_ret_con (vs := [_]) (fun w' hw' => ⟨rfl, trivial⟩) ?_
                        first
                          | (exfalso; simp only [Bool.and_eq_true, Bool.or_eq_true, Bool.and_eq_false_iff, Bool.or_eq_false_iff, Bool.not_eq_true', Bool.not_eq_false', decide_eq_true_eq, decide_eq_false_iff_not, beq_iff_eq, beq_eq_false_iff_ne, bne_iff_ne, bne_eq_false_iff_eq, ne_eq, Int.toNat_natCast] at * <;> omega)
                          | (
                            show Value.bool _ = _
                            congr 1
                            symm
                            refine all_fail (i := i) hi1 ?_
                            rw [← hc00]
                            simp only [okI, decide_eq_false_iff_not]
                            simp only [Bool.and_eq_true, Bool.or_eq_true, Bool.and_eq_false_iff, Bool.or_eq_false_iff, Bool.not_eq_true', Bool.not_eq_false', decide_eq_true_eq, decide_eq_false_iff_not, beq_iff_eq, beq_eq_false_iff_ne, bne_iff_ne, bne_eq_false_iff_eq, ne_eq, Int.toNat_natCast] at *
                            omega)
                    · skip
                      refine j_q (qs_eql rfl rfl) ?_
                      refine j_cond rfl (fun hc27 => ?_) (fun hc27 => ?_)
                      · skip
                        refine j_q (qs_add64 rfl rfl (by first | omega | (simp only [Bool.and_eq_true, Bool.or_eq_true, Bool.and_eq_false_iff, Bool.or_eq_false_iff, Bool.not_eq_true', Bool.not_eq_false', decide_eq_true_eq, decide_eq_false_iff_not, beq_iff_eq, beq_eq_false_iff_ne, bne_iff_ne, bne_eq_false_iff_eq, ne_eq, Int.toNat_natCast] at *; omega))) ?_
                        refine j_back rfl ?_
                        first
                          | (exfalso; simp only [Bool.and_eq_true, Bool.or_eq_true, Bool.and_eq_false_iff, Bool.or_eq_false_iff, Bool.not_eq_true', Bool.not_eq_false', decide_eq_true_eq, decide_eq_false_iff_not, beq_iff_eq, beq_eq_false_iff_ne, bne_iff_ne, bne_eq_false_iff_eq, ne_eq, Int.toNat_natCast] at * <;> omega)
                          | (
                            have h4 : okI ((l.getD i 0).toNat : Int) = true := by
                              rw [← hc00]
                              simp only [okI, decide_eq_true_eq]
                              simp only [Bool.and_eq_true, Bool.or_eq_true, Bool.and_eq_false_iff, Bool.or_eq_false_iff, Bool.not_eq_true', Bool.not_eq_false', decide_eq_true_eq, decide_eq_false_iff_not, beq_iff_eq, beq_eq_false_iff_ne, bne_iff_ne, bne_eq_false_iff_eq, ne_eq, Int.toNat_natCast] at *
                              omega
                            exact ⟨_, (by omega : l.length - (i + 1) < l.length - i), i + 1, by show [Value.int IntKind.i64 _] = _; congr 2, rfl, by omega, rfl, all_step hall hi1 h4⟩)
                      · skip
                        refine j_q (qs_ac) ?_
                        refine j_ret_con (vs := [_]) (fun w' hw' => ⟨rfl, trivial⟩) ?_
                        first
                          | (exfalso; simp only [Bool.and_eq_true, Bool.or_eq_true, Bool.and_eq_false_iff, Bool.or_eq_false_iff, Bool.not_eq_true', Bool.not_eq_false', decide_eq_true_eq, decide_eq_false_iff_not, beq_iff_eq, beq_eq_false_iff_ne, bne_iff_ne, bne_eq_false_iff_eq, ne_eq, Int.toNat_natCast] at * <;> omega)
                          | (
                            show Value.bool _ = _
                            congr 1
                            symm
                            refine all_fail (i := i) hi1 ?_
                            rw [← hc00]
                            simp only [okI, decide_eq_false_iff_not]
                            simp only [Bool.and_eq_true, Bool.or_eq_true, Bool.and_eq_false_iff, Bool.or_eq_false_iff, Bool.not_eq_true', Bool.not_eq_false', decide_eq_true_eq, decide_eq_false_iff_not, beq_iff_eq, beq_eq_false_iff_ne, bne_iff_ne, bne_eq_false_iff_eq, ne_eq, Int.toNat_natCast] at *
                            omega)
        · skip
          refine j_q (qs_geq rfl rfl) ?_
          refine j_g rfl (fun hb => qs_mt rfl) ?_
          refine j_g rfl (fun hb => qs_leq (gd_eq hb) rfl) ?_
          refine j_q (qs_and rfl rfl) ?_
          refine j_cond rfl (fun hc28 => ?_) (fun hc28 => ?_)
          · skip
            refine j_q (qs_add64 rfl rfl (by first | omega | (simp only [Bool.and_eq_true, Bool.or_eq_true, Bool.and_eq_false_iff, Bool.or_eq_false_iff, Bool.not_eq_true', Bool.not_eq_false', decide_eq_true_eq, decide_eq_false_iff_not, beq_iff_eq, beq_eq_false_iff_ne, bne_iff_ne, bne_eq_false_iff_eq, ne_eq, Int.toNat_natCast] at *; omega))) ?_
            refine j_back rfl ?_
            first
              | (exfalso; simp only [Bool.and_eq_true, Bool.or_eq_true, Bool.and_eq_false_iff, Bool.or_eq_false_iff, Bool.not_eq_true', Bool.not_eq_false', decide_eq_true_eq, decide_eq_false_iff_not, beq_iff_eq, beq_eq_false_iff_ne, bne_iff_ne, bne_eq_false_iff_eq, ne_eq, Int.toNat_natCast] at * <;> omega)
              | (
                have h4 : okI ((l.getD i 0).toNat : Int) = true := by
                  rw [← hc00]
                  simp only [okI, decide_eq_true_eq]
                  simp only [Bool.and_eq_true, Bool.or_eq_true, Bool.and_eq_false_iff, Bool.or_eq_false_iff, Bool.not_eq_true', Bool.not_eq_false', decide_eq_true_eq, decide_eq_false_iff_not, beq_iff_eq, beq_eq_false_iff_ne, bne_iff_ne, bne_eq_false_iff_eq, ne_eq, Int.toNat_natCast] at *
                  omega
                exact ⟨_, (by omega : l.length - (i + 1) < l.length - i), i + 1, by show [Value.int IntKind.i64 _] = _; congr 2, rfl, by omega, rfl, all_step hall hi1 h4⟩)
          · skip
            refine j_q (qs_eql rfl rfl) ?_
            refine j_cond rfl (fun hc29 => ?_) (fun hc29 => ?_)
            · skip
              refine j_cond rfl (fun hc30 => ?_) (fun hc30 => ?_)
              · skip
                refine j_q (qs_add64 rfl rfl (by first | omega | (simp only [Bool.and_eq_true, Bool.or_eq_true, Bool.and_eq_false_iff, Bool.or_eq_false_iff, Bool.not_eq_true', Bool.not_eq_false', decide_eq_true_eq, decide_eq_false_iff_not, beq_iff_eq, beq_eq_false_iff_ne, bne_iff_ne, bne_eq_false_iff_eq, ne_eq, Int.toNat_natCast] at *; omega))) ?_
                refine j_back rfl ?_
                first
                  | (exfalso; simp only [Bool.and_eq_true, Bool.or_eq_true, Bool.and_eq_false_iff, Bool.or_eq_false_iff, Bool.not_eq_true', Bool.not_eq_false', decide_eq_true_eq, decide_eq_false_iff_not, beq_iff_eq, beq_eq_false_iff_ne, bne_iff_ne, bne_eq_false_iff_eq, ne_eq, Int.toNat_natCast] at * <;> omega)
                  | (
                    have h4 : okI ((l.getD i 0).toNat : Int) = true := by
                      rw [← hc00]
                      simp only [okI, decide_eq_true_eq]
                      simp only [Bool.and_eq_true, Bool.or_eq_true, Bool.and_eq_false_iff, Bool.or_eq_false_iff, Bool.not_eq_true', Bool.not_eq_false', decide_eq_true_eq, decide_eq_false_iff_not, beq_iff_eq, beq_eq_false_iff_ne, bne_iff_ne, bne_eq_false_iff_eq, ne_eq, Int.toNat_natCast] at *
                      omega
                    exact ⟨_, (by omega : l.length - (i + 1) < l.length - i), i + 1, by show [Value.int IntKind.i64 _] = _; congr 2, rfl, by omega, rfl, all_step hall hi1 h4⟩)
              · skip
                refine j_q (qs_ac) ?_
                refine j_ret_con (vs := [_]) (fun w' hw' => ⟨rfl, trivial⟩) ?_
                first
                  | (exfalso; simp only [Bool.and_eq_true, Bool.or_eq_true, Bool.and_eq_false_iff, Bool.or_eq_false_iff, Bool.not_eq_true', Bool.not_eq_false', decide_eq_true_eq, decide_eq_false_iff_not, beq_iff_eq, beq_eq_false_iff_ne, bne_iff_ne, bne_eq_false_iff_eq, ne_eq, Int.toNat_natCast] at * <;> omega)
                  | (
                    show Value.bool _ = _
                    congr 1
                    symm
                    refine all_fail (i := i) hi1 ?_
                    rw [← hc00]
                    simp only [okI, decide_eq_false_iff_not]
                    simp only [Bool.and_eq_true, Bool.or_eq_true, Bool.and_eq_false_iff, Bool.or_eq_false_iff, Bool.not_eq_true', Bool.not_eq_false', decide_eq_true_eq, decide_eq_false_iff_not, beq_iff_eq, beq_eq_false_iff_ne, bne_iff_ne, bne_eq_false_iff_eq, ne_eq, Int.toNat_natCast] at *
                    omega)
            · skip
              refine j_q (qs_eql rfl rfl) ?_
              refine j_cond rfl (fun hc31 => ?_) (fun hc31 => ?_)
              · skip
                refine j_cond rfl (fun hc32 => ?_) (fun hc32 => ?_)
                · skip
                  refine j_q (qs_add64 rfl rfl (by first | omega | (simp only [Bool.and_eq_true, Bool.or_eq_true, Bool.and_eq_false_iff, Bool.or_eq_false_iff, Bool.not_eq_true', Bool.not_eq_false', decide_eq_true_eq, decide_eq_false_iff_not, beq_iff_eq, beq_eq_false_iff_ne, bne_iff_ne, bne_eq_false_iff_eq, ne_eq, Int.toNat_natCast] at *; omega))) ?_
                  refine j_back rfl ?_
                  first
                    | (exfalso; simp only [Bool.and_eq_true, Bool.or_eq_true, Bool.and_eq_false_iff, Bool.or_eq_false_iff, Bool.not_eq_true', Bool.not_eq_false', decide_eq_true_eq, decide_eq_false_iff_not, beq_iff_eq, beq_eq_false_iff_ne, bne_iff_ne, bne_eq_false_iff_eq, ne_eq, Int.toNat_natCast] at * <;> omega)
                    | (
                      have h4 : okI ((l.getD i 0).toNat : Int) = true := by
                        rw [← hc00]
                        simp only [okI, decide_eq_true_eq]
                        simp only [Bool.and_eq_true, Bool.or_eq_true, Bool.and_eq_false_iff, Bool.or_eq_false_iff, Bool.not_eq_true', Bool.not_eq_false', decide_eq_true_eq, decide_eq_false_iff_not, beq_iff_eq, beq_eq_false_iff_ne, bne_iff_ne, bne_eq_false_iff_eq, ne_eq, Int.toNat_natCast] at *
                        omega
                      exact ⟨_, (by omega : l.length - (i + 1) < l.length - i), i + 1, by show [Value.int IntKind.i64 _] = _; congr 2, rfl, by omega, rfl, all_step hall hi1 h4⟩)
                · skip
                  refine j_q (qs_ac) ?_
                  refine j_ret_con (vs := [_]) (fun w' hw' => ⟨rfl, trivial⟩) ?_
                  first
                    | (exfalso; simp only [Bool.and_eq_true, Bool.or_eq_true, Bool.and_eq_false_iff, Bool.or_eq_false_iff, Bool.not_eq_true', Bool.not_eq_false', decide_eq_true_eq, decide_eq_false_iff_not, beq_iff_eq, beq_eq_false_iff_ne, bne_iff_ne, bne_eq_false_iff_eq, ne_eq, Int.toNat_natCast] at * <;> omega)
                    | (
                      show Value.bool _ = _
                      congr 1
                      symm
                      refine all_fail (i := i) hi1 ?_
                      rw [← hc00]
                      simp only [okI, decide_eq_false_iff_not]
                      simp only [Bool.and_eq_true, Bool.or_eq_true, Bool.and_eq_false_iff, Bool.or_eq_false_iff, Bool.not_eq_true', Bool.not_eq_false', decide_eq_true_eq, decide_eq_false_iff_not, beq_iff_eq, beq_eq_false_iff_ne, bne_iff_ne, bne_eq_false_iff_eq, ne_eq, Int.toNat_natCast] at *
                      omega)
              · skip
                refine j_q (qs_eql rfl rfl) ?_
                refine j_cond rfl (fun hc33 => ?_) (fun hc33 => ?_)
                · skip
                  refine j_cond rfl (fun hc34 => ?_) (fun hc34 => ?_)
                  · skip
                    refine j_q (qs_add64 rfl rfl (by first | omega | (simp only [Bool.and_eq_true, Bool.or_eq_true, Bool.and_eq_false_iff, Bool.or_eq_false_iff, Bool.not_eq_true', Bool.not_eq_false', decide_eq_true_eq, decide_eq_false_iff_not, beq_iff_eq, beq_eq_false_iff_ne, bne_iff_ne, bne_eq_false_iff_eq, ne_eq, Int.toNat_natCast] at *; omega))) ?_
                    refine j_back rfl ?_
                    first
                      | (exfalso; simp only [Bool.and_eq_true, Bool.or_eq_true, Bool.and_eq_false_iff, Bool.or_eq_false_iff, Bool.not_eq_true', Bool.not_eq_false', decide_eq_true_eq, decide_eq_false_iff_not, beq_iff_eq, beq_eq_false_iff_ne, bne_iff_ne, bne_eq_false_iff_eq, ne_eq, Int.toNat_natCast] at * <;> omega)
                      | (
                        have h4 : okI ((l.getD i 0).toNat : Int) = true := by
                          rw [← hc00]
                          simp only [okI, decide_eq_true_eq]
                          simp only [Bool.and_eq_true, Bool.or_eq_true, Bool.and_eq_false_iff, Bool.or_eq_false_iff, Bool.not_eq_true', Bool.not_eq_false', decide_eq_true_eq, decide_eq_false_iff_not, beq_iff_eq, beq_eq_false_iff_ne, bne_iff_ne, bne_eq_false_iff_eq, ne_eq, Int.toNat_natCast] at *
                          omega
                        exact ⟨_, (by omega : l.length - (i + 1) < l.length - i), i + 1, by show [Value.int IntKind.i64 _] = _; congr 2, rfl, by omega, rfl, all_step hall hi1 h4⟩)
                  · skip
                    refine j_q (qs_ac) ?_
                    refine j_ret_con (vs := [_]) (fun w' hw' => ⟨rfl, trivial⟩) ?_
                    first
                      | (exfalso; simp only [Bool.and_eq_true, Bool.or_eq_true, Bool.and_eq_false_iff, Bool.or_eq_false_iff, Bool.not_eq_true', Bool.not_eq_false', decide_eq_true_eq, decide_eq_false_iff_not, beq_iff_eq, beq_eq_false_iff_ne, bne_iff_ne, bne_eq_false_iff_eq, ne_eq, Int.toNat_natCast] at * <;> omega)
                      | (
                        show Value.bool _ = _
                        congr 1
                        symm
                        refine all_fail (i := i) hi1 ?_
                        rw [← hc00]
                        simp only [okI, decide_eq_false_iff_not]
                        simp only [Bool.and_eq_true, Bool.or_eq_true, Bool.and_eq_false_iff, Bool.or_eq_false_iff, Bool.not_eq_true', Bool.not_eq_false', decide_eq_true_eq, decide_eq_false_iff_not, beq_iff_eq, beq_eq_false_iff_ne, bne_iff_ne, bne_eq_false_iff_eq, ne_eq, Int.toNat_natCast] at *
                        omega)
                · skip
                  refine j_q (qs_eql rfl rfl) ?_
                  refine j_cond rfl (fun hc35 => ?_) (fun hc35 => ?_)
                  · skip
                    refine j_cond rfl (fun hc36 => ?_) (fun hc36 => ?_)
                    · skip
                      refine j_q (qs_add64 rfl rfl (by first | omega | (simp only [Bool.and_eq_true, Bool.or_eq_true, Bool.and_eq_false_iff, Bool.or_eq_false_iff, Bool.not_eq_true', Bool.not_eq_false', decide_eq_true_eq, decide_eq_false_iff_not, beq_iff_eq, beq_eq_false_iff_ne, bne_iff_ne, bne_eq_false_iff_eq, ne_eq, Int.toNat_natCast] at *; omega))) ?_
                      refine j_back rfl ?_
                      first
                        | (exfalso; simp only [Bool.and_eq_true, Bool.or_eq_true, Bool.and_eq_false_iff, Bool.or_eq_false_iff, Bool.not_eq_true', Bool.not_eq_false', decide_eq_true_eq, decide_eq_false_iff_not, beq_iff_eq, beq_eq_false_iff_ne, bne_iff_ne, bne_eq_false_iff_eq, ne_eq, Int.toNat_natCast] at * <;> omega)
                        | (
                          have h4 : okI ((l.getD i 0).toNat : Int) = true := by
                            rw [← hc00]
                            simp only [okI, decide_eq_true_eq]
                            simp only [Bool.and_eq_true, Bool.or_eq_true, Bool.and_eq_false_iff, Bool.or_eq_false_iff, Bool.not_eq_true', Bool.not_eq_false', decide_eq_true_eq, decide_eq_false_iff_not, beq_iff_eq, beq_eq_false_iff_ne, bne_iff_ne, bne_eq_false_iff_eq, ne_eq, Int.toNat_natCast] at *
                            omega
                          exact ⟨_, (by omega : l.length - (i + 1) < l.length - i), i + 1, by show [Value.int IntKind.i64 _] = _; congr 2, rfl, by omega, rfl, all_step hall hi1 h4⟩)
                    · skip
                      refine j_q (qs_ac) ?_
                      refine j_ret_con (vs := [_]) (fun w' hw' => ⟨rfl, trivial⟩) ?_
                      first
                        | (exfalso; simp only [Bool.and_eq_true, Bool.or_eq_true, Bool.and_eq_false_iff, Bool.or_eq_false_iff, Bool.not_eq_true', Bool.not_eq_false', decide_eq_true_eq, decide_eq_false_iff_not, beq_iff_eq, beq_eq_false_iff_ne, bne_iff_ne, bne_eq_false_iff_eq, ne_eq, Int.toNat_natCast] at * <;> omega)
                        | (
                          show Value.bool _ = _
                          congr 1
                          symm
                          refine all_fail (i := i) hi1 ?_
                          rw [← hc00]
                          simp only [okI, decide_eq_false_iff_not]
                          simp only [Bool.and_eq_true, Bool.or_eq_true, Bool.and_eq_false_iff, Bool.or_eq_false_iff, Bool.not_eq_true', Bool.not_eq_false', decide_eq_true_eq, decide_eq_false_iff_not, beq_iff_eq, beq_eq_false_iff_ne, bne_iff_ne, bne_eq_false_iff_eq, ne_eq, Int.toNat_natCast] at *
                          omega)
                  · skip
                    refine j_q (qs_eql rfl rfl) ?_
                    refine j_cond rfl (fun hc37 => ?_) (fun hc37 => ?_)
                    · skip
                      refine j_cond rfl (fun hc38 => ?_) (fun hc38 => ?_)
                      · skip
                        refine j_q (qs_add64 rfl rfl (by first | omega | (simp only [Bool.and_eq_true, Bool.or_eq_true, Bool.and_eq_false_iff, Bool.or_eq_false_iff, Bool.not_eq_true', Bool.not_eq_false', decide_eq_true_eq, decide_eq_false_iff_not, beq_iff_eq, beq_eq_false_iff_ne, bne_iff_ne, bne_eq_false_iff_eq, ne_eq, Int.toNat_natCast] at *; omega))) ?_
                        refine j_back rfl ?_
                        first
                          | (exfalso; simp only [Bool.and_eq_true, Bool.or_eq_true, Bool.and_eq_false_iff, Bool.or_eq_false_iff, Bool.not_eq_true', Bool.not_eq_false', decide_eq_true_eq, decide_eq_false_iff_not, beq_iff_eq, beq_eq_false_iff_ne, bne_iff_ne, bne_eq_false_iff_eq, ne_eq, Int.toNat_natCast] at * <;> omega)
                          | (
                            have h4 : okI ((l.getD i 0).toNat : Int) = true := by
                              rw [← hc00]
                              simp only [okI, decide_eq_true_eq]
                              simp only [Bool.and_eq_true, Bool.or_eq_true, Bool.and_eq_false_iff, Bool.or_eq_false_iff, Bool.not_eq_true', Bool.not_eq_false', decide_eq_true_eq, decide_eq_false_iff_not, beq_iff_eq, beq_eq_false_iff_ne, bne_iff_ne, bne_eq_false_iff_eq, ne_eq, Int.toNat_natCast] at *
                              omega
                            exact ⟨_, (by omega : l.length - (i + 1) < l.length - i), i + 1, by show [Value.int IntKind.i64 _] = _; congr 2, rfl, by omega, rfl, all_step hall hi1 h4⟩)
                      · skip
                        refine j_q (qs_ac) ?_
                        refine j_ret_con (vs := [_]) (fun w' hw' => ⟨rfl, trivial⟩) ?_
                        first
                          | (exfalso; simp only [Bool.and_eq_true, Bool.or_eq_true, Bool.and_eq_false_iff, Bool.or_eq_false_iff, Bool.not_eq_true', Bool.not_eq_false', decide_eq_true_eq, decide_eq_false_iff_not, beq_iff_eq, beq_eq_false_iff_ne, bne_iff_ne, bne_eq_false_iff_eq, ne_eq, Int.toNat_natCast] at * <;> omega)
                          | (
                            show Value.bool _ = _
                            congr 1
                            symm
                            refine all_fail (i := i) hi1 ?_
                            rw [← hc00]
                            simp only [okI, decide_eq_false_iff_not]
                            simp only [Bool.and_eq_true, Bool.or_eq_true, Bool.and_eq_false_iff, Bool.or_eq_false_iff, Bool.not_eq_true', Bool.not_eq_false', decide_eq_true_eq, decide_eq_false_iff_not, beq_iff_eq, beq_eq_false_iff_ne, bne_iff_ne, bne_eq_false_iff_eq, ne_eq, Int.toNat_natCast] at *
                            omega)
                    · skip
                      refine j_q (qs_eql rfl rfl) ?_
                      refine j_cond rfl (fun hc39 => ?_) (fun hc39 => ?_)
                      · skip
                        refine j_q (qs_add64 rfl rfl (by first | omega | (simp only [Bool.and_eq_true, Bool.or_eq_true, Bool.and_eq_false_iff, Bool.or_eq_false_iff, Bool.not_eq_true', Bool.not_eq_false', decide_eq_true_eq, decide_eq_false_iff_not, beq_iff_eq, beq_eq_false_iff_ne, bne_iff_ne, bne_eq_false_iff_eq, ne_eq, Int.toNat_natCast] at *; omega))) ?_
                        refine j_back rfl ?_
                        first
                          | (exfalso; simp only [Bool.and_eq_true, Bool.or_eq_true, Bool.and_eq_false_iff, Bool.or_eq_false_iff, Bool.not_eq_true', Bool.not_eq_false', decide_eq_true_eq, decide_eq_false_iff_not, beq_iff_eq, beq_eq_false_iff_ne, bne_iff_ne, bne_eq_false_iff_eq, ne_eq, Int.toNat_natCast] at * <;> omega)
                          | (
                            have h4 : okI ((l.getD i 0).toNat : Int) = true := by
                              rw [← hc00]
                              simp only [okI, decide_eq_true_eq]
                              simp only [Bool.and_eq_true, Bool.or_eq_true, Bool.and_eq_false_iff, Bool.or_eq_false_iff, Bool.not_eq_true', Bool.not_eq_false', decide_eq_true_eq, decide_eq_false_iff_not, beq_iff_eq, beq_eq_false_iff_ne, bne_iff_ne, bne_eq_false_iff_eq, ne_eq, Int.toNat_natCast] at *
                              omega
                            exact ⟨_, (by omega : l.length - (i + 1) < l.length - i), i + 1, by show [Value.int IntKind.i64 _] = _; congr 2, rfl, by omega, rfl, all_step hall hi1 h4⟩)
                      · skip
                        refine j_q (qs_ac) ?_
                        refine j_ret_con (vs := [_]) (fun w' hw' => ⟨rfl, trivial⟩) ?_
                        first
                          | (exfalso; simp only [Bool.and_eq_true, Bool.or_eq_true, Bool.and_eq_false_iff, Bool.or_eq_false_iff, Bool.not_eq_true', Bool.not_eq_false', decide_eq_true_eq, decide_eq_false_iff_not, beq_iff_eq, beq_eq_false_iff_ne, bne_iff_ne, bne_eq_false_iff_eq, ne_eq, Int.toNat_natCast] at * <;> omega)
                          | (
                            show Value.bool _ = _
                            congr 1
                            symm
                            refine all_fail (i := i) hi1 ?_
                            rw [← hc00]
                            simp only [okI, decide_eq_false_iff_not]
                            simp only [Bool.and_eq_true, Bool.or_eq_true, Bool.and_eq_false_iff, Bool.or_eq_false_iff, Bool.not_eq_true', Bool.not_eq_false', decide_eq_true_eq, decide_eq_false_iff_not, beq_iff_eq, beq_eq_false_iff_ne, bne_iff_ne, bne_eq_false_iff_eq, ne_eq, Int.toNat_natCast] at *
                            omega)
    · skip
      refine j_q (qs_ac) ?_
      refine j_ret_con (vs := [_]) (fun w' hw' => ⟨rfl, trivial⟩) ?_
      first
        | (exfalso; simp only [Bool.and_eq_true, Bool.or_eq_true, Bool.and_eq_false_iff, Bool.or_eq_false_iff, Bool.not_eq_true', Bool.not_eq_false', decide_eq_true_eq, decide_eq_false_iff_not, beq_iff_eq, beq_eq_false_iff_ne, bne_iff_ne, bne_eq_false_iff_eq, ne_eq, Int.toNat_natCast] at * <;> omega)
        | (
          show Value.bool _ = _
          congr 1
          symm
          have h00 : Int.toNat 0 = 0 := rfl
          rw [h00] at hc0
          simp only [Bool.and_eq_true, Bool.or_eq_true, Bool.and_eq_false_iff, Bool.or_eq_false_iff, Bool.not_eq_true', Bool.not_eq_false', decide_eq_true_eq, decide_eq_false_iff_not, beq_iff_eq, beq_eq_false_iff_ne, bne_iff_ne, bne_eq_false_iff_eq, ne_eq, Int.toNat_natCast] at *
          exact all_done hall (by omega) (by omega) (by omega) (by omega))
end Go.Proofs.YtfeabbeebkkhaaaGreat
