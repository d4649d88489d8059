/- Small functions of scan and of its laws. -/
import Derived.Test.YtkafaodhppikfaaDoorTa
import Derived.Test.YtkafaodhppikfaaDoorSrk
import Derived.Test.YtkafaodhppikfaaDoorSx16
namespace Go.Proofs.YtkafaodhppikfaaDoor
open Go Go.Sx
set_option maxRecDepth 100000
set_option maxHeartbeats 4000000
set_option linter.unusedVariables false
set_option linter.unusedSimpArgs false
attribute [local irreducible] J JQ QS Con W opW
theorem ent24 : Sx.Enters Tryd.prog 24 := ⟨_, Tryd.func24, by kernel_rfl, by kernel_rfl⟩
theorem sz40 : (Tryd.prog.info? 40).map (·.size) = some 32 := by kernel_rfl
theorem zero40 : zeroL Tryd.prog 40 = some (ints (List.replicate 32 0)) := by kernel_rfl

attribute [local irreducible] isName isPath spA spB spE allDig cp sortS rise
/-- may a byte be a digit? -/
def isDig (c : UInt8) : Bool := decide (48 ≤ (c.toNat : Int)) && decide ((c.toNat : Int) ≤ 57) || decide (97 ≤ (c.toNat : Int)) && decide ((c.toNat : Int) ≤ 122)
/-- a path's digits, as an array -/
def dg (p : List UInt8) : List UInt8 := if isPath p then p.take 32 else List.replicate 32 0
theorem path_min {l : List UInt8} (h : isPath l = true) : 34 ≤ l.length := by
  unfold isPath at h
  simp only [Bool.and_eq_true, decide_eq_true_eq] at h
  exact h.1.1.1
theorem dg_length (p : List UInt8) : (dg p).length = 32 := by
  unfold dg
  split
  · rename_i h
    have := path_min h
    rw [List.length_take]
    omega
  · simp
theorem spA_yes {l : List UInt8} (h : isPath l = true) : spA l = l.take 32 := by unfold spA; rw [if_pos h]
theorem spA_no {l : List UInt8} (h : isPath l = false) : spA l = [] := by unfold spA; rw [if_neg (by rw [h]; decide)]
theorem spE_yes {l : List UInt8} (h : isPath l = true) : spE l = 0 := by unfold spE; rw [if_pos h]
theorem spE_no {l : List UInt8} (h : isPath l = false) : spE l = 3 := by unfold spE; rw [if_neg (by rw [h]; decide)]
theorem spA_len (l : List UInt8) : (spA l).length ≤ 32 := by
  cases h : isPath l
  · rw [spA_no h]; simp
  · rw [spA_yes h, List.length_take]; omega
theorem spE_eq (l : List UInt8) : (spE l == 0) = isPath l := by
  cases h : isPath l
  · rw [spE_no h]; rfl
  · rw [spE_yes h]; rfl
theorem dg_eq (p : List UInt8) : spA p ++ (List.replicate 32 (0 : UInt8)).drop (spA p).length = dg p := by
  unfold dg
  cases h : isPath p
  · rw [spA_no h]; rfl
  · have := path_min h
    rw [spA_yes h, List.length_take, Nat.min_eq_left (by omega)]
    simp
theorem take_eq_succ {l m : List UInt8} {i : Nat} (h : l.take i = m.take i) (hl : i < l.length) (hm : i < m.length) (h2 : l.getD i 0 = m.getD i 0) : l.take (i + 1) = m.take (i + 1) := by
  rw [List.take_add_one, List.take_add_one, h, List.getElem?_eq_getElem hl, List.getElem?_eq_getElem hm]
  rw [List.getD_eq_getElem?_getD, List.getD_eq_getElem?_getD, List.getElem?_eq_getElem hl, List.getElem?_eq_getElem hm] at h2
  simp only [Option.getD_some] at h2
  rw [h2]
theorem byte_ne {a c : UInt8} (h : ((a.toNat : Int) != (c.toNat : Int)) = true) : a ≠ c := by
  rintro rfl
  simp at h
theorem byte_eq {a c : UInt8} (h : ((a.toNat : Int) != (c.toNat : Int)) = false) : a = c := by
  have : (a.toNat : Int) = (c.toNat : Int) := by simpa using h
  exact UInt8.toNat_inj.1 (by omega)
/-- pantry.scan.isDigit -/
theorem isDigit_con (c : UInt8) (w : World) : Con Tryd.prog 45 [.int .u8 (c.toNat : Int)] w [] fun v _ => v = .bool (isDig c) := by
  refine con_of_tree mix Tryd.func45 T45_ok (by kernel_rfl) ?_
  unfold T45
  refine j_q (qs_ac) ?_
  refine j_q (qs_geq rfl rfl) ?_
  refine j_g rfl (fun hb => qs_mt rfl) ?_
  refine j_g rfl (fun hb => qs_leq (gd_eq hb) rfl) ?_
  refine j_q (qs_and rfl rfl) ?_
  refine j_g rfl (fun hb => qs_mt rfl) ?_
  refine j_g rfl (fun hb => qs_geq (gd_eq hb) rfl) ?_
  refine j_g rfl (fun hb => qs_move (gd_eq hb)) ?_
  refine j_gg rfl (fun hb hb1 => qs_mt rfl) ?_
  refine j_gg rfl (fun hb hb1 => qs_leq (gd_eq2 hb hb1) rfl) ?_
  refine j_g rfl (fun hb => qs_and (gd_eq hb) (gd_eq hb)) ?_
  refine j_q (qs_or rfl rfl) ?_
  refine j_ret_con (vs := [_]) (fun w' hw' => ⟨rfl, trivial⟩) ?_
  rfl
/-- pantry.scan.of -/
theorem of_con (p : List UInt8) (w : World) (hp : p.length ≤ 9223372036854775807) : Con Tryd.prog 12 [.string (bs p)] w [] fun v _ => v = .tuple #[.agg (ints (dg p)).toArray, .bool (isPath p)] := by
  refine con_of_tree mix Tryd.func12 T12_ok (by kernel_rfl) ?_
  unfold T12
  refine j_alloc zero40 (fun g0 hg0 hs0 => ?_)
  refine j_q (qs_ac) ?_
  refine j_q (qs_call ent24 rfl rfl rfl (fun w' hw' => split_con p w' hp)) ?_
  unfold spl
  refine j_q (qs_ext (vs := [.string (bs (spA p)), .string (bs (spB p)), .int .i64 (spE p)]) rfl rfl) ?_
  refine j_q (qs_ext (vs := [.string (bs (spA p)), .string (bs (spB p)), .int .i64 (spE p)]) rfl rfl) ?_
  refine j_q (qs_ext (vs := [.string (bs (spA p)), .string (bs (spB p)), .int .i64 (spE p)]) rfl rfl) ?_
  refine j_q (qs_cuta (a := 0) (z := 32) Tryd.underlying40 sz5 rfl rfl rfl (by first | omega | (simp only [Bool.and_eq_true, Bool.or_eq_true, Bool.and_eq_false_iff, Bool.or_eq_false_iff, Bool.not_eq_true', Bool.not_eq_false', decide_eq_true_eq, decide_eq_false_iff_not, beq_iff_eq, beq_eq_false_iff_ne, bne_iff_ne, bne_eq_false_iff_eq, ne_eq, Int.toNat_natCast] at *; omega)) (by first | omega | (simp only [Bool.and_eq_true, Bool.or_eq_true, Bool.and_eq_false_iff, Bool.or_eq_false_iff, Bool.not_eq_true', Bool.not_eq_false', decide_eq_true_eq, decide_eq_false_iff_not, beq_iff_eq, beq_eq_false_iff_ne, bne_iff_ne, bne_eq_false_iff_eq, ne_eq, Int.toNat_natCast] at *; omega))) ?_
  have hsl := spA_len p
  refine j_copy (off := 0) (l := ints (List.replicate 32 0)) 0 Tryd.underlying22 sz5 rfl (.inr (.inr ⟨spA p, rfl, rfl, rfl, rfl⟩)) rfl ints_one (by rw [ints_length]; simp) (fun j h1 h2 => by simp) ?_
  rw [Nat.min_eq_left (by simpa using hsl), List.take_zero, List.nil_append, Nat.zero_add, ints_drop, ints_take, List.take_of_length_le (Nat.le_refl _), ← ints_append]
  simp only [Nat.zero_add]
  rw [dg_eq]
  refine j_q (qs_loadw 0 Tryd.underlying40 rfl sz40 rfl rfl (by first | (rw [ints_length]; exact dg_length p) | rfl)) ?_
  skip
  refine j_q (qs_eql rfl rfl) ?_
  rw [spE_eq]
  refine j_storew 0 sz40 rfl rfl (by first | (rw [ints_length]; exact dg_length p) | rfl) ints_one rfl (by first | (rw [ints_length]; exact dg_length p) | rfl) ?_
  refine j_ret_con (vs := [_, _]) (fun w' hw' => ⟨rv_agg 0 Tryd.underlying40 rfl sz40 rfl rfl (by first | (rw [ints_length]; exact dg_length p) | rfl) hw', rfl, trivial⟩) ?_
  rfl
/-- pantry.pantrylaw6.same -/
theorem same_con (l k : List UInt8) (v1 v2 : Value) (w : World) (h1 : RSl w v1 (ints l)) (h2 : RSl w v2 (ints k)) (hl : l.length ≤ 4611686018427387903) : Con Tryd.prog 11 [v1, v2] w [] fun u _ => u = .bool (l == k) := by
  refine con_of_tree mix Tryd.func11 T11_ok (by kernel_rfl) ?_
  unfold T11
  obtain ⟨A1, cap1, rfl, hcap1⟩ := rsl_form h1
  obtain ⟨A2, cap2, rfl, hcap2⟩ := rsl_form h2
  rw [ints_length] at h1 h2 hcap1 hcap2 ⊢
  rw [ints_length]
  refine j_q (qs_ac) ?_
  refine j_q (qs_lenl Tryd.underlying22 rfl) ?_
  refine j_q (qs_lenl Tryd.underlying22 rfl) ?_
  refine j_q (qs_neq rfl rfl) ?_
  refine j_cond rfl (fun hc0 => ?_) (fun hc0 => ?_)
  · skip
    have hne : l.length ≠ k.length := by
      simp only [Bool.and_eq_true, Bool.or_eq_true, Bool.and_eq_false_iff, Bool.or_eq_false_iff, Bool.not_eq_true', Bool.not_eq_false', decide_eq_true_eq, decide_eq_false_iff_not, beq_iff_eq, beq_eq_false_iff_ne, bne_iff_ne, bne_eq_false_iff_eq, ne_eq, Int.toNat_natCast] at *
      omega
    refine j_q (qs_ac) ?_
    refine j_ret_con (vs := [_]) (fun w' hw' => ⟨rfl, trivial⟩) ?_
    show Value.bool _ = _
    congr 1
    symm
    rw [beq_eq_false_iff_ne]
    intro h
    exact hne (by rw [h])
  · skip
    have hlm : l.length = k.length := by
      simp only [Bool.and_eq_true, Bool.or_eq_true, Bool.and_eq_false_iff, Bool.or_eq_false_iff, Bool.not_eq_true', Bool.not_eq_false', decide_eq_true_eq, decide_eq_false_iff_not, beq_iff_eq, beq_eq_false_iff_ne, bne_iff_ne, bne_eq_false_iff_eq, ne_eq, Int.toNat_natCast] at *
      omega
    refine j_q (qs_ac) ?_
    refine j_loop (fun m vs S' => ∃ i : Nat, vs = [.int .i64 (i : Int)] ∧ S' = [[]] ∧ i ≤ l.length ∧ l.take i = k.take i ∧ m = l.length - i) ⟨_, 0, rfl, rfl, Nat.zero_le _, rfl, rfl⟩ ?_
    rintro m vs S' hlen ⟨i, rfl, rfl, hin, htk, rfl⟩
    refine j_q (qs_lenl Tryd.underlying22 rfl) ?_
    refine j_q (qs_lss rfl rfl) ?_
    refine j_cond rfl (fun hc1 => ?_) (fun hc1 => ?_)
    · skip
      have hi : i < l.length := by
        simp only [Bool.and_eq_true, Bool.or_eq_true, Bool.and_eq_false_iff, Bool.or_eq_false_iff, Bool.not_eq_true', Bool.not_eq_false', decide_eq_true_eq, decide_eq_false_iff_not, beq_iff_eq, beq_eq_false_iff_ne, bne_iff_ne, bne_eq_false_iff_eq, ne_eq, Int.toNat_natCast] at *
        omega
      obtain ⟨ga, off, rfl, hga, hcells⟩ := rsl_addr h1 (by rw [ints_length]; omega)
      obtain ⟨ga2, off2, rfl, hga2, hcells2⟩ := rsl_addr h2 (by rw [ints_length]; omega)
      refine j_draw ?_
      refine jq_q (qs_ixl0 Tryd.underlying22 sz5 rfl rfl ⟨(by first | omega | (simp only [Bool.and_eq_true, Bool.or_eq_true, Bool.and_eq_false_iff, Bool.or_eq_false_iff, Bool.not_eq_true', Bool.not_eq_false', decide_eq_true_eq, decide_eq_false_iff_not, beq_iff_eq, beq_eq_false_iff_ne, bne_iff_ne, bne_eq_false_iff_eq, ne_eq, Int.toNat_natCast] at *; omega)), (by first | omega | (simp only [Bool.and_eq_true, Bool.or_eq_true, Bool.and_eq_false_iff, Bool.or_eq_false_iff, Bool.not_eq_true', Bool.not_eq_false', decide_eq_true_eq, decide_eq_false_iff_not, beq_iff_eq, beq_eq_false_iff_ne, bne_iff_ne, bne_eq_false_iff_eq, ne_eq, Int.toNat_natCast] at *; omega))⟩) ?_
      refine jq_q (qs_loadr8 (rd_cells hcells (by simp)) Tryd.underlying5 rfl (by simp only [Int.toNat_natCast]; omega)) ?_
      simp only [Int.toNat_natCast]
      refine jq_q (qs_ixl0 Tryd.underlying22 sz5 rfl rfl ⟨(by first | omega | (simp only [Bool.and_eq_true, Bool.or_eq_true, Bool.and_eq_false_iff, Bool.or_eq_false_iff, Bool.not_eq_true', Bool.not_eq_false', decide_eq_true_eq, decide_eq_false_iff_not, beq_iff_eq, beq_eq_false_iff_ne, bne_iff_ne, bne_eq_false_iff_eq, ne_eq, Int.toNat_natCast] at *; omega)), (by first | omega | (simp only [Bool.and_eq_true, Bool.or_eq_true, Bool.and_eq_false_iff, Bool.or_eq_false_iff, Bool.not_eq_true', Bool.not_eq_false', decide_eq_true_eq, decide_eq_false_iff_not, beq_iff_eq, beq_eq_false_iff_ne, bne_iff_ne, bne_eq_false_iff_eq, ne_eq, Int.toNat_natCast] at *; omega))⟩) ?_
      refine jq_q (qs_loadr8 (rd_cells hcells2 (by simp)) Tryd.underlying5 rfl (by simp only [Int.toNat_natCast]; omega)) ?_
      simp only [Int.toNat_natCast]
      refine jq_q (qs_neq rfl rfl) ?_
      refine jq_nil ?_
      refine j_cond rfl (fun hc2 => ?_) (fun hc2 => ?_)
      · skip
        refine j_q (qs_ac) ?_
        refine j_ret_con (vs := [_]) (fun w' hw' => ⟨rfl, trivial⟩) ?_
        show Value.bool _ = _
        congr 1
        symm
        rw [beq_eq_false_iff_ne]
        intro h
        exact byte_ne hc2 (by rw [h])
      · skip
        refine j_q (qs_add64 rfl rfl (by first | omega | (simp only [Bool.and_eq_true, Bool.or_eq_true, Bool.and_eq_false_iff, Bool.or_eq_false_iff, Bool.not_eq_true', Bool.not_eq_false', decide_eq_true_eq, decide_eq_false_iff_not, beq_iff_eq, beq_eq_false_iff_ne, bne_iff_ne, bne_eq_false_iff_eq, ne_eq, Int.toNat_natCast] at *; omega))) ?_
        refine j_back rfl ?_
        exact ⟨l.length - (i + 1), by omega, i + 1, rfl, rfl, by omega, take_eq_succ htk hi (by omega) (byte_eq hc2), rfl⟩
    · skip
      obtain rfl : i = l.length := by
        simp only [Bool.and_eq_true, Bool.or_eq_true, Bool.and_eq_false_iff, Bool.or_eq_false_iff, Bool.not_eq_true', Bool.not_eq_false', decide_eq_true_eq, decide_eq_false_iff_not, beq_iff_eq, beq_eq_false_iff_ne, bne_iff_ne, bne_eq_false_iff_eq, ne_eq, Int.toNat_natCast] at *
        omega
      refine j_q (qs_ac) ?_
      refine j_ret_con (vs := [_]) (fun w' hw' => ⟨rfl, trivial⟩) ?_
      show Value.bool _ = _
      congr 1
      symm
      rw [beq_iff_eq]
      rw [List.take_of_length_le (Nat.le_refl _), List.take_of_length_le (by omega)] at htk
      exact htk
end Go.Proofs.YtkafaodhppikfaaDoor
