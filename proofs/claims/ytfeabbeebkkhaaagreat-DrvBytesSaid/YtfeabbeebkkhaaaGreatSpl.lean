/- A path's digits and its name: what the program's and the document's Split answer. -/
import Derived.Test.YtfeabbeebkkhaaaGreatTa
import Derived.Test.YtfeabbeebkkhaaaGreatPath1
import Derived.Test.YtfeabbeebkkhaaaGreatPar
namespace Go.Proofs.YtfeabbeebkkhaaaGreat
open Go Go.Sx
set_option maxRecDepth 100000
set_option maxHeartbeats 4000000
set_option linter.unusedVariables false
set_option linter.unusedSimpArgs false
attribute [local irreducible] J JQ QS Con W opW
theorem ent38 : Sx.Enters Tryz.prog 38 := ⟨_, Tryz.func38, by kernel_rfl, by kernel_rfl⟩
theorem ent59 : Sx.Enters Tryz.prog 59 := ⟨_, Tryz.func59, by kernel_rfl, by kernel_rfl⟩
theorem ent60 : Sx.Enters Tryz.prog 60 := ⟨_, Tryz.func60, by kernel_rfl, by kernel_rfl⟩
theorem ent126 : Sx.Enters Tryz.prog 126 := ⟨_, Tryz.func126, by kernel_rfl, by kernel_rfl⟩

/-- is a text a path? -/
def isPath (l : List UInt8) : Bool := decide (34 ≤ l.length ∧ ((l.getD 32 0).toNat : Int) = 45) && isName (l.drop 33) && allDig (l.take 32)
def spA (l : List UInt8) : List UInt8 := if isPath l then l.take 32 else []
def spB (l : List UInt8) : List UInt8 := if isPath l then l.drop 33 else []
def spE (l : List UInt8) : Int := if isPath l then 0 else 3
/-- what Split answers -/
def spl (l : List UInt8) : Value := .tuple #[.string (bs (spA l)), .string (bs (spB l)), .int .i64 (spE l)]
theorem spl_no {l : List UInt8} (h : isPath l = false) : spl l = .tuple #[.string (bs []), .string (bs []), .int .i64 3] := by
  simp [spl, spA, spB, spE, h]
theorem spl_yes {l : List UInt8} (h : isPath l = true) : spl l = .tuple #[.string (bs (l.take 32)), .string (bs (l.drop 33)), .int .i64 0] := by
  simp [spl, spA, spB, spE, h]
theorem cut_no {l : List UInt8} (h : (decide ((l.length : Int) < 34) || ((l.getD (Int.toNat 32) 0).toNat : Int) != 45 || !isName (l.drop 33)) = true) : isPath l = false := by
  unfold isPath
  have e : Int.toNat 32 = 32 := rfl
  rw [e] at h
  simp only [Bool.or_eq_true, decide_eq_true_eq, bne_iff_ne, Bool.not_eq_true'] at h
  rcases h with (h | h) | h
  · rw [show decide (34 ≤ l.length ∧ ((l.getD 32 0).toNat : Int) = 45) = false by simp only [decide_eq_false_iff_not]; omega]; rfl
  · rw [show decide (34 ≤ l.length ∧ ((l.getD 32 0).toNat : Int) = 45) = false by simp only [decide_eq_false_iff_not]; rintro ⟨_, h2⟩; exact h h2]; rfl
  · rw [h, Bool.and_false]; rfl
theorem cut_yes {l : List UInt8} (h : (decide ((l.length : Int) < 34) || ((l.getD (Int.toNat 32) 0).toNat : Int) != 45 || !isName (l.drop 33)) = false) : 34 ≤ l.length ∧ isPath l = allDig (l.take 32) := by
  unfold isPath
  have e : Int.toNat 32 = 32 := rfl
  rw [e] at h
  simp only [Bool.or_eq_false_iff, decide_eq_false_iff_not, bne_eq_false_iff_eq, Bool.not_eq_false'] at h
  obtain ⟨⟨h1, h2⟩, h3⟩ := h
  have h4 : 34 ≤ l.length := by omega
  refine ⟨h4, ?_⟩
  rw [show decide (34 ≤ l.length ∧ ((l.getD 32 0).toNat : Int) = 45) = true by simp only [decide_eq_true_eq]; exact ⟨h4, h2⟩, h3]
  rfl
theorem parseE_take {l : List UInt8} (h : 34 ≤ l.length) : parseE ((l.take 32).drop 0) = if allDig (l.take 32) then 0 else 3 := by
  rw [List.drop_zero]
  unfold parseE
  have : (l.take 32).length = 32 := by rw [List.length_take]; omega
  simp [this]
attribute [local irreducible] allDig isName
/-- pantry.path.Split -/
theorem split_con (l : List UInt8) (w : World) (hl : l.length ≤ 9223372036854775807) : Con Tryz.prog 79 [.string (bs l)] w [] fun v _ => v = spl l := by
  refine con_of_tree mix Tryz.func79 T79_ok (by kernel_rfl) ?_
  unfold T79
  refine j_q (qs_ac) ?_
  refine j_q (qs_ac) ?_
  refine j_q (qs_ac) ?_
  refine j_q (qs_lens Tryz.underlying9 rfl) ?_
  refine j_q (qs_lss rfl rfl) ?_
  refine j_g rfl (fun hb => qs_mt rfl) ?_
  refine j_g rfl (fun hb => qs_idx Tryz.underlying9 (gd_eq hb) rfl ⟨(by first | omega | (simp only [Bool.and_eq_true, Bool.or_eq_true, Bool.and_eq_false_iff, Bool.or_eq_false_iff, Bool.not_eq_true', Bool.not_eq_false', decide_eq_true_eq, decide_eq_false_iff_not, beq_iff_eq, beq_eq_false_iff_ne, bne_iff_ne, bne_eq_false_iff_eq, ne_eq, Int.toNat_natCast] at *; omega)), (by first | omega | (simp only [Bool.and_eq_true, Bool.or_eq_true, Bool.and_eq_false_iff, Bool.or_eq_false_iff, Bool.not_eq_true', Bool.not_eq_false', decide_eq_true_eq, decide_eq_false_iff_not, beq_iff_eq, beq_eq_false_iff_ne, bne_iff_ne, bne_eq_false_iff_eq, ne_eq, Int.toNat_natCast] at *; omega))⟩) ?_
  refine j_g rfl (fun hb => qs_neq (gd_eq hb) rfl) ?_
  refine j_q (qs_or rfl rfl) ?_
  refine j_g rfl (fun hb => qs_mt rfl) ?_
  refine j_g rfl (fun hb => qs_cuts (a := 33) (z := l.length) Tryz.underlying9 (gd_eq hb) ⟨.i64, rfl⟩ rfl (by simp only [Bool.and_eq_true, Bool.or_eq_true, Bool.and_eq_false_iff, Bool.or_eq_false_iff, Bool.not_eq_true', Bool.not_eq_false', decide_eq_true_eq, decide_eq_false_iff_not, beq_iff_eq, beq_eq_false_iff_ne, bne_iff_ne, bne_eq_false_iff_eq, ne_eq, Int.toNat_natCast] at *; omega) (by omega)) ?_
  rw [List.take_length]
  refine j_g rfl (fun hb => qs_call ent38 rfl rfl (args1 (gd_eq hb)) (fun w' hw' => isName_con _ w' (by simp; omega))) ?_
  refine j_g rfl (fun hb => qs_not (gd_eq hb)) ?_
  refine j_q (qs_or rfl rfl) ?_
  refine j_cond rfl (fun hc0 => ?_) (fun hc0 => ?_)
  · skip
    have hno := cut_no hc0
    refine j_q (qs_ac) ?_
    refine j_q (qs_ac) ?_
    refine j_q (qs_ac) ?_
    refine j_ret_con (vs := [_, _, _]) (fun w' hw' => ⟨rfl, rfl, rfl, trivial⟩) ?_
    show Value.tuple #[_, _, _] = _
    rw [spl_no hno]
    rfl
  · skip
    have hy := cut_yes hc0
    have hy1 := hy.1
    refine j_q (qs_cuts (a := 0) (z := 32) Tryz.underlying9 rfl rfl ⟨.i64, rfl⟩ (by omega) (by omega)) ?_
    refine j_call0 ent126 rfl rfl rfl (fun w' hw' => parse_con _ w' (by simp; omega)) (fun u S2 hu => ?_)
    obtain ⟨u0, rfl⟩ := hu
    refine j_sub (S' := [[]]) (by simp) ?_
    rw [parseE_take hy.1]
    refine j_q (qs_ext (vs := [u0, .int .i64 (if allDig (l.take 32) then 0 else 3)]) rfl rfl) ?_
    refine j_q (qs_ext (vs := [u0, .int .i64 (if allDig (l.take 32) then 0 else 3)]) rfl rfl) ?_
    refine j_q (qs_neq rfl rfl) ?_
    refine j_cond rfl (fun hc1 => ?_) (fun hc1 => ?_)
    · skip
      have hd : isPath l = false := by
        rw [hy.2]
        cases hx : allDig (l.take 32)
        · rfl
        · rw [hx] at hc1; exact absurd hc1 (by decide)
      refine j_q (qs_ac) ?_
      refine j_q (qs_ac) ?_
      refine j_q (qs_ac) ?_
      refine j_ret_con (vs := [_, _, _]) (fun w' hw' => ⟨rfl, rfl, rfl, trivial⟩) ?_
      show Value.tuple #[_, _, _] = _
      rw [spl_no hd]
      rfl
    · skip
      have hd : isPath l = true := by
        rw [hy.2]
        cases hx : allDig (l.take 32)
        · rw [hx] at hc1; exact absurd hc1 (by decide)
        · rfl
      refine j_draw ?_
      refine jq_q (qs_cuts (a := 0) (z := 32) Tryz.underlying9 rfl rfl ⟨.i64, rfl⟩ (by omega) (by omega)) ?_
      refine jq_q (qs_cuts (a := 33) (z := l.length) Tryz.underlying9 rfl ⟨.i64, rfl⟩ rfl (by omega) (by omega)) ?_
      rw [List.take_length]
      refine jq_q (qs_ac) ?_
      refine jq_nil ?_
      refine j_ret_con (vs := [_, _, _]) (fun w' hw' => ⟨rfl, rfl, rfl, trivial⟩) ?_
      show Value.tuple #[_, _, _] = _
      rw [spl_yes hd]
      rfl
/-- pantry.pantryref3.Split -/
theorem rsplit_con (l : List UInt8) (w : World) (hl : l.length ≤ 9223372036854775807) : Con Tryz.prog 29 [.string (bs l)] w [] fun v _ => v = spl l := by
  refine con_of_tree mix Tryz.func29 T29_ok (by kernel_rfl) ?_
  unfold T29
  refine j_q (qs_ac) ?_
  refine j_q (qs_ac) ?_
  refine j_q (qs_ac) ?_
  refine j_q (qs_lens Tryz.underlying9 rfl) ?_
  refine j_q (qs_lss rfl rfl) ?_
  refine j_g rfl (fun hb => qs_mt rfl) ?_
  refine j_g rfl (fun hb => qs_idx Tryz.underlying9 (gd_eq hb) rfl ⟨(by first | omega | (simp only [Bool.and_eq_true, Bool.or_eq_true, Bool.and_eq_false_iff, Bool.or_eq_false_iff, Bool.not_eq_true', Bool.not_eq_false', decide_eq_true_eq, decide_eq_false_iff_not, beq_iff_eq, beq_eq_false_iff_ne, bne_iff_ne, bne_eq_false_iff_eq, ne_eq, Int.toNat_natCast] at *; omega)), (by first | omega | (simp only [Bool.and_eq_true, Bool.or_eq_true, Bool.and_eq_false_iff, Bool.or_eq_false_iff, Bool.not_eq_true', Bool.not_eq_false', decide_eq_true_eq, decide_eq_false_iff_not, beq_iff_eq, beq_eq_false_iff_ne, bne_iff_ne, bne_eq_false_iff_eq, ne_eq, Int.toNat_natCast] at *; omega))⟩) ?_
  refine j_g rfl (fun hb => qs_neq (gd_eq hb) rfl) ?_
  refine j_q (qs_or rfl rfl) ?_
  refine j_g rfl (fun hb => qs_mt rfl) ?_
  refine j_g rfl (fun hb => qs_cuts (a := 33) (z := l.length) Tryz.underlying9 (gd_eq hb) ⟨.i64, rfl⟩ rfl (by simp only [Bool.and_eq_true, Bool.or_eq_true, Bool.and_eq_false_iff, Bool.or_eq_false_iff, Bool.not_eq_true', Bool.not_eq_false', decide_eq_true_eq, decide_eq_false_iff_not, beq_iff_eq, beq_eq_false_iff_ne, bne_iff_ne, bne_eq_false_iff_eq, ne_eq, Int.toNat_natCast] at *; omega) (by omega)) ?_
  rw [List.take_length]
  refine j_g rfl (fun hb => qs_call ent59 rfl rfl (args1 (gd_eq hb)) (fun w' hw' => risName_con _ w' (by simp; omega))) ?_
  refine j_g rfl (fun hb => qs_not (gd_eq hb)) ?_
  refine j_q (qs_or rfl rfl) ?_
  refine j_cond rfl (fun hc0 => ?_) (fun hc0 => ?_)
  · skip
    have hno := cut_no hc0
    refine j_q (qs_ac) ?_
    refine j_q (qs_ac) ?_
    refine j_q (qs_ac) ?_
    refine j_ret_con (vs := [_, _, _]) (fun w' hw' => ⟨rfl, rfl, rfl, trivial⟩) ?_
    show Value.tuple #[_, _, _] = _
    rw [spl_no hno]
    rfl
  · skip
    have hy := cut_yes hc0
    have hy1 := hy.1
    refine j_q (qs_cuts (a := 0) (z := 32) Tryz.underlying9 rfl rfl ⟨.i64, rfl⟩ (by omega) (by omega)) ?_
    refine j_call0 ent60 rfl rfl rfl (fun w' hw' => rparse_con _ w' (by simp; omega)) (fun u S2 hu => ?_)
    obtain ⟨u0, rfl⟩ := hu
    refine j_sub (S' := [[]]) (by simp) ?_
    rw [parseE_take hy.1]
    refine j_q (qs_ext (vs := [u0, .int .i64 (if allDig (l.take 32) then 0 else 3)]) rfl rfl) ?_
    refine j_q (qs_ext (vs := [u0, .int .i64 (if allDig (l.take 32) then 0 else 3)]) rfl rfl) ?_
    refine j_q (qs_neq rfl rfl) ?_
    refine j_cond rfl (fun hc1 => ?_) (fun hc1 => ?_)
    · skip
      have hd : isPath l = false := by
        rw [hy.2]
        cases hx : allDig (l.take 32)
        · rfl
        · rw [hx] at hc1; exact absurd hc1 (by decide)
      refine j_q (qs_ac) ?_
      refine j_q (qs_ac) ?_
      refine j_q (qs_ac) ?_
      refine j_ret_con (vs := [_, _, _]) (fun w' hw' => ⟨rfl, rfl, rfl, trivial⟩) ?_
      show Value.tuple #[_, _, _] = _
      rw [spl_no hd]
      rfl
    · skip
      have hd : isPath l = true := by
        rw [hy.2]
        cases hx : allDig (l.take 32)
        · rw [hx] at hc1; exact absurd hc1 (by decide)
        · rfl
      refine j_draw ?_
      refine jq_q (qs_cuts (a := 0) (z := 32) Tryz.underlying9 rfl rfl ⟨.i64, rfl⟩ (by omega) (by omega)) ?_
      refine jq_q (qs_cuts (a := 33) (z := l.length) Tryz.underlying9 rfl ⟨.i64, rfl⟩ rfl (by omega) (by omega)) ?_
      rw [List.take_length]
      refine jq_q (qs_ac) ?_
      refine jq_nil ?_
      refine j_ret_con (vs := [_, _, _]) (fun w' hw' => ⟨rfl, rfl, rfl, trivial⟩) ?_
      show Value.tuple #[_, _, _] = _
      rw [spl_yes hd]
      rfl
end Go.Proofs.YtfeabbeebkkhaaaGreat
