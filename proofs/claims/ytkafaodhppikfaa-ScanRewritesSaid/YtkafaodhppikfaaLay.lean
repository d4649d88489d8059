/- The document's row of paths that rise: Lay and Rising. -/
import Derived.Test.YtkafaodhppikfaaTa
import Derived.Test.YtkafaodhppikfaaOrd
namespace Go.Proofs.Ytkafaodhppikfaa
open Go Go.Sx
set_option maxRecDepth 100000
set_option maxHeartbeats 4000000
set_option linter.unusedVariables false
set_option linter.unusedSimpArgs false
attribute [local irreducible] J JQ QS Con W opW
theorem ent32 : Sx.Enters Try.prog 32 := ⟨_, Try.func32, by kernel_rfl, by kernel_rfl⟩
theorem sb25 : (Try.prog.info? 25).map (fun i => (i.size, i.bytes)) = some (1, 16) := by kernel_rfl
theorem sz25 : (Try.prog.info? 25).map (·.size) = some 1 := by kernel_rfl
theorem zero25 : zeroL Try.prog 25 = some ([.string (bs [])]) := by kernel_rfl

attribute [local irreducible] isPath spA spB spE isName cp sortS rise
theorem less_iff {x y : List UInt8} {r : Bool} (h : Op.bytesLess x y = r) : (x < y) ↔ r = true := by
  rw [← h, bytesLess_eq, decide_eq_true_eq]
theorem one_of {u : Value} {p : List UInt8} (h : u ∈ [Value.string (bs p)]) : oneV u = true := by
  rw [List.mem_singleton] at h
  rw [h]
  rfl
/-- pantry.pantryref3.Is -/
theorem is_con (p : List UInt8) (w : World) (hp : p.length ≤ 9223372036854775807) : Con Try.prog 15 [.string (bs p)] w [] fun v _ => v = .bool (isPath p) := by
  refine con_of_tree mix Try.func15 T15_ok (by kernel_rfl) ?_
  unfold T15
  refine j_q (qs_ac) ?_
  refine j_q (qs_call ent32 rfl rfl rfl (fun w' hw' => rsplit_con p w' (by omega))) ?_
  unfold spl
  refine j_q (qs_ext (vs := [.string (bs (spA p)), .string (bs (spB p)), .int .i64 (spE p)]) rfl rfl) ?_
  refine j_q (qs_ext (vs := [.string (bs (spA p)), .string (bs (spB p)), .int .i64 (spE p)]) rfl rfl) ?_
  refine j_q (qs_ext (vs := [.string (bs (spA p)), .string (bs (spB p)), .int .i64 (spE p)]) rfl rfl) ?_
  refine j_q (qs_eql rfl rfl) ?_
  refine j_ret_con (vs := [_]) (fun w' hw' => ⟨rfl, trivial⟩) ?_
  show Value.bool _ = _
  congr 1
  unfold spE
  cases isPath p <;> rfl
/-- pantry.pantryref3.Lay -/
theorem lay_con (os : List (List UInt8)) (p : List UInt8) (v : Value) (c : SH) (ho : Sx.Own 25 1 (strs os) v c) (hs : Strict os) (hsz : os.length ≤ 100000) (w : World) : Con Try.prog 16 [v, .string (bs p)] w c fun u S' => ∃ zs c', S' = [c'] ∧ Sx.Own 25 1 (strs zs) u c' ∧ Strict zs ∧ (∀ x, x ∈ zs ↔ x ∈ os ∨ x = p) ∧ zs.length ≤ os.length + 1 := by
  refine con_of_tree mix Try.func16 T16_ok (by kernel_rfl) ?_
  unfold T16
  obtain ⟨n, A, cap, rfl, hn⟩ := own_form ho (by decide)
  rw [strs_length, Nat.mul_one] at hn
  subst hn
  have hcap := own_cap ho
  refine j_q (qs_ac) ?_
  refine j_q (qs_lenl Try.underlying23 rfl) ?_
  refine j_q (qs_ac) ?_
  refine j_loop (fun m vs S' => ∃ lo hi : Nat, vs = [.int .i64 (lo : Int), .int .i64 (hi : Int)] ∧ S' = [c] ∧ lo ≤ hi ∧ hi ≤ os.length ∧ (∀ i, i < lo → os.getD i [] < p) ∧ (∀ i, hi ≤ i → i < os.length → ¬ os.getD i [] < p) ∧ m = hi - lo) ⟨_, 0, os.length, rfl, rfl, Nat.zero_le _, Nat.le_refl _, fun i h => by omega, fun i h h2 => by omega, rfl⟩ ?_
  rintro m vs S' hlen ⟨lo, hi, rfl, rfl, hlh, hhn, hlo, hhi, rfl⟩
  refine j_q (qs_lss rfl rfl) ?_
  refine j_cond rfl (fun hc0 => ?_) (fun hc0 => ?_)
  · skip
    have hlt : lo < hi := by
      simp only [Bool.and_eq_true, Bool.or_eq_true, Bool.and_eq_false_iff, Bool.or_eq_false_iff, Bool.not_eq_true', Bool.not_eq_false', decide_eq_true_eq, decide_eq_false_iff_not, beq_iff_eq, beq_eq_false_iff_ne, bne_iff_ne, bne_eq_false_iff_eq, ne_eq, Int.toNat_natCast] at *
      omega
    obtain ⟨g, rfl⟩ := own_addr ho (by rw [strs_length]; omega)
    refine j_q (qs_add64 rfl rfl (by first | omega | (simp only [Bool.and_eq_true, Bool.or_eq_true, Bool.and_eq_false_iff, Bool.or_eq_false_iff, Bool.not_eq_true', Bool.not_eq_false', decide_eq_true_eq, decide_eq_false_iff_not, beq_iff_eq, beq_eq_false_iff_ne, bne_iff_ne, bne_eq_false_iff_eq, ne_eq, Int.toNat_natCast] at *; omega))) ?_
    refine j_q (qs_quo64 rfl rfl (by first | omega | (simp only [Bool.and_eq_true, Bool.or_eq_true, Bool.and_eq_false_iff, Bool.or_eq_false_iff, Bool.not_eq_true', Bool.not_eq_false', decide_eq_true_eq, decide_eq_false_iff_not, beq_iff_eq, beq_eq_false_iff_ne, bne_iff_ne, bne_eq_false_iff_eq, ne_eq, Int.toNat_natCast] at *; omega)) (by first | omega | (simp only [Bool.and_eq_true, Bool.or_eq_true, Bool.and_eq_false_iff, Bool.or_eq_false_iff, Bool.not_eq_true', Bool.not_eq_false', decide_eq_true_eq, decide_eq_false_iff_not, beq_iff_eq, beq_eq_false_iff_ne, bne_iff_ne, bne_eq_false_iff_eq, ne_eq, Int.toNat_natCast] at *; omega)) (by first | omega | (simp only [Bool.and_eq_true, Bool.or_eq_true, Bool.and_eq_false_iff, Bool.or_eq_false_iff, Bool.not_eq_true', Bool.not_eq_false', decide_eq_true_eq, decide_eq_false_iff_not, beq_iff_eq, beq_eq_false_iff_ne, bne_iff_ne, bne_eq_false_iff_eq, ne_eq, Int.toNat_natCast] at *; omega))) ?_
    rw [show ((lo : Int) + (hi : Int)) / 2 = (((lo + hi) / 2 : Nat) : Int) by omega]
    refine j_q (qs_ixl0 Try.underlying23 sz25 rfl rfl ⟨(by first | omega | (simp only [Bool.and_eq_true, Bool.or_eq_true, Bool.and_eq_false_iff, Bool.or_eq_false_iff, Bool.not_eq_true', Bool.not_eq_false', decide_eq_true_eq, decide_eq_false_iff_not, beq_iff_eq, beq_eq_false_iff_ne, bne_iff_ne, bne_eq_false_iff_eq, ne_eq, Int.toNat_natCast] at *; omega)), (by first | omega | (simp only [Bool.and_eq_true, Bool.or_eq_true, Bool.and_eq_false_iff, Bool.or_eq_false_iff, Bool.not_eq_true', Bool.not_eq_false', decide_eq_true_eq, decide_eq_false_iff_not, beq_iff_eq, beq_eq_false_iff_ne, bne_iff_ne, bne_eq_false_iff_eq, ne_eq, Int.toNat_natCast] at *; omega))⟩) ?_
    refine j_q (qs_loadrs (own_rd ho 0 rfl) Try.underlying25 rfl (by simp only [Int.toNat_natCast]; omega)) ?_
    simp only [Int.toNat_natCast]
    refine j_q (qs_slss rfl rfl) ?_
    refine j_cond rfl (fun hc1 => ?_) (fun hc1 => ?_)
    · skip
      have hl8 : os.getD ((lo + hi) / 2) [] < p := (less_iff rfl).2 hc1
      refine j_q (qs_add64 rfl rfl (by first | omega | (simp only [Bool.and_eq_true, Bool.or_eq_true, Bool.and_eq_false_iff, Bool.or_eq_false_iff, Bool.not_eq_true', Bool.not_eq_false', decide_eq_true_eq, decide_eq_false_iff_not, beq_iff_eq, beq_eq_false_iff_ne, bne_iff_ne, bne_eq_false_iff_eq, ne_eq, Int.toNat_natCast] at *; omega))) ?_
      refine j_back rfl ?_
      exact ⟨hi - ((lo + hi) / 2 + 1), by omega, (lo + hi) / 2 + 1, hi, rfl, rfl, by omega, by omega, fun i hi' => by
        by_cases h : i < (lo + hi) / 2
        · exact List.lt_trans (strict_get hs (by omega) (by omega)) hl8
        · obtain rfl : i = (lo + hi) / 2 := by omega
          exact hl8, hhi, rfl⟩
    · skip
      have hl8 : ¬ os.getD ((lo + hi) / 2) [] < p := fun h => by rw [(less_iff rfl).1 h] at hc1; cases hc1
      refine j_back rfl ?_
      exact ⟨(lo + hi) / 2 - lo, by omega, lo, (lo + hi) / 2, rfl, rfl, by omega, by omega, hlo, fun i h1 h2 h3 => by
        by_cases h : i = (lo + hi) / 2
        · subst h; exact hl8 h3
        · exact hl8 (List.lt_trans (strict_get hs (by omega) h2) h3), rfl⟩
  · skip
    obtain rfl : lo = hi := by
      simp only [Bool.and_eq_true, Bool.or_eq_true, Bool.and_eq_false_iff, Bool.or_eq_false_iff, Bool.not_eq_true', Bool.not_eq_false', decide_eq_true_eq, decide_eq_false_iff_not, beq_iff_eq, beq_eq_false_iff_ne, bne_iff_ne, bne_eq_false_iff_eq, ne_eq, Int.toNat_natCast] at *
      omega
    have hA : decide ((lo : Int) < (os.length : Int)) = true → ∃ a, A = some a := fun hb => by
      have hb2 : lo < os.length := by simpa using hb
      obtain ⟨g, h⟩ := own_addr ho (by rw [strs_length]; omega)
      exact ⟨_, h⟩
    refine j_q (qs_lenl Try.underlying23 rfl) ?_
    refine j_q (qs_lss rfl rfl) ?_
    refine j_g rfl (fun hb => qs_mt rfl) ?_
    refine j_g rfl (fun hb => qs_mt rfl) ?_
    refine j_g (v := .pointer (A.map (·.add (lo : Int).toNat))) rfl (fun hb => by obtain ⟨a, rfl⟩ := hA hb; exact qs_ixl0 Try.underlying23 sz25 (gd_eq hb) (gd_eq hb) (by simp only [Bool.and_eq_true, Bool.or_eq_true, Bool.and_eq_false_iff, Bool.or_eq_false_iff, Bool.not_eq_true', Bool.not_eq_false', decide_eq_true_eq, decide_eq_false_iff_not, beq_iff_eq, beq_eq_false_iff_ne, bne_iff_ne, bne_eq_false_iff_eq, ne_eq, Int.toNat_natCast] at *; omega)) ?_
    simp only [Int.toNat_natCast]
    refine j_g (v := .string (bs (os.getD lo []))) rfl (fun hb => by obtain ⟨a, rfl⟩ := hA hb; exact qs_loadrs (own_rd ho 0 rfl) Try.underlying25 (gd_eq hb) (by simp only [Bool.and_eq_true, Bool.or_eq_true, Bool.and_eq_false_iff, Bool.or_eq_false_iff, Bool.not_eq_true', Bool.not_eq_false', decide_eq_true_eq, decide_eq_false_iff_not, beq_iff_eq, beq_eq_false_iff_ne, bne_iff_ne, bne_eq_false_iff_eq, ne_eq, Int.toNat_natCast] at *; omega)) ?_
    refine j_g rfl (fun hb => qs_mt rfl) ?_
    refine j_g rfl (fun hb => qs_seql (gd_eq hb) (gd_eq hb)) ?_
    refine j_q (qs_and rfl rfl) ?_
    refine j_cond rfl (fun hc2 => ?_) (fun hc2 => ?_)
    · skip
      simp only [Bool.and_eq_true, decide_eq_true_eq, beq_iff_eq, Int.toNat_natCast] at hc2
      have hlt : lo < os.length := by omega
      refine j_ret_con (vs := [_]) (fun w' hw' => ⟨rfl, trivial⟩) ?_
      exact ⟨os, c, rfl, ho, hs, fun x => ⟨.inl, fun h => h.elim id fun e => by rw [e, ← hc2.2, List.getD_eq_getElem?_getD, List.getElem?_eq_getElem hlt]; exact List.getElem_mem hlt⟩, by omega⟩
    · skip
      have hne : lo < os.length → os.getD lo [] ≠ p := fun h1 h2 => by
        rw [h2] at hc2
        have h3 : decide ((lo : Int) < (os.length : Int)) = true := by simpa using h1
        rw [h3] at hc2
        simp at hc2
      refine j_lit (vs := []) Try.underlying23 sz25 zero25 rfl (by simp [oneV]) ⟨rfl, by decide⟩ (fun g19 v19 c19 hv19 hc19 ho19 => ?_)
      subst hv19 hc19
      refine j_q (qs_cutl (z := lo) Try.underlying23 sz25 rfl rfl ⟨_, rfl⟩ (by first | omega | (simp only [Bool.and_eq_true, Bool.or_eq_true, Bool.and_eq_false_iff, Bool.or_eq_false_iff, Bool.not_eq_true', Bool.not_eq_false', decide_eq_true_eq, decide_eq_false_iff_not, beq_iff_eq, beq_eq_false_iff_ne, bne_iff_ne, bne_eq_false_iff_eq, ne_eq, Int.toNat_natCast] at *; omega)) (by first | omega | (simp only [Bool.and_eq_true, Bool.or_eq_true, Bool.and_eq_false_iff, Bool.or_eq_false_iff, Bool.not_eq_true', Bool.not_eq_false', decide_eq_true_eq, decide_eq_false_iff_not, beq_iff_eq, beq_eq_false_iff_ne, bne_iff_ne, bne_eq_false_iff_eq, ne_eq, Int.toNat_natCast] at *; omega))) ?_
      refine j_append 0 Try.underlying23 Try.underlying23 (.inr ⟨_, rfl⟩) sb25 zero25 rfl ho19 rfl (src_cut ho 1 rfl (Nat.zero_le _) (by omega)) (fun u hu => strs_one u (by rw [List.drop_zero, strs_take] at hu; exact List.map_subset _ (fun _ h => h) hu)) ⟨(by simp [strs_length]; omega), (by decide)⟩ (fun v21 c21 ho21 => ?_)
      rw [List.drop_zero, strs_take] at ho21
      simp only [List.nil_append] at ho21
      refine j_lit (vs := [.string (bs _)]) Try.underlying23 sz25 zero25 rfl (by simp [oneV]) ⟨rfl, by decide⟩ (fun g22 v22 c22 hv22 hc22 ho22 => ?_)
      subst hv22 hc22
      refine j_append 1 Try.underlying23 Try.underlying23 (.inr ⟨_, rfl⟩) sb25 zero25 rfl ho21 rfl (.inl ⟨_, _, rfl, own_rd ho22 0 rfl, rfl⟩) (fun u hu => one_of hu) ⟨(by simp [strs_length]; omega), (by decide)⟩ (fun v23 c23 ho23 => ?_)
      refine j_q (qs_cutl (a := lo) Try.underlying23 sz25 rfl ⟨_, rfl⟩ rfl (by first | omega | (simp only [Bool.and_eq_true, Bool.or_eq_true, Bool.and_eq_false_iff, Bool.or_eq_false_iff, Bool.not_eq_true', Bool.not_eq_false', decide_eq_true_eq, decide_eq_false_iff_not, beq_iff_eq, beq_eq_false_iff_ne, bne_iff_ne, bne_eq_false_iff_eq, ne_eq, Int.toNat_natCast] at *; omega)) (by first | omega | (simp only [Bool.and_eq_true, Bool.or_eq_true, Bool.and_eq_false_iff, Bool.or_eq_false_iff, Bool.not_eq_true', Bool.not_eq_false', decide_eq_true_eq, decide_eq_false_iff_not, beq_iff_eq, beq_eq_false_iff_ne, bne_iff_ne, bne_eq_false_iff_eq, ne_eq, Int.toNat_natCast] at *; omega))) ?_
      refine j_append 1 Try.underlying23 Try.underlying23 (.inr ⟨_, rfl⟩) sb25 zero25 rfl ho23 rfl (src_cut ho 2 rfl (show lo ≤ os.length by omega) (Nat.le_refl _)) (fun u hu => strs_one u (List.mem_of_mem_take (List.mem_of_mem_drop hu))) ⟨(by simp [strs_length]; omega), (by decide)⟩ (fun v25 c25 ho25 => ?_)
      rw [show List.take os.length (strs os) = strs os from List.take_of_length_le (by rw [strs_length]; exact Nat.le_refl _), strs_drop, show [Value.string (bs p)] = strs [p] by rfl, ← strs_append, ← strs_append] at ho25
      refine j_sub (S' := [c25]) (by simp) ?_
      refine j_ret_con (vs := [_]) (fun w' hw' => ⟨rfl, trivial⟩) ?_
      exact ⟨_, c25, rfl, ho25, strict_put hs hlo hhi hne hhn, put_mem, by simp only [List.length_append, List.length_take, List.length_drop, List.length_singleton]; omega⟩
end Go.Proofs.Ytkafaodhppikfaa
