/- A text between its signs: how package strings' Replacer is built. -/
import Derived.Test.YtfeabbeebkkhaaaGreatTa
import Derived.Test.YtfeabbeebkkhaaaGreatDv1
namespace Go.Proofs.YtfeabbeebkkhaaaGreat
open Go Go.Sx
set_option maxRecDepth 100000
set_option maxHeartbeats 4000000
set_option linter.unusedVariables false
set_option linter.unusedSimpArgs false
attribute [local irreducible] J JQ QS Con W opW
theorem ent179 : Sx.Enters Tryz.prog 179 := ⟨_, Tryz.func179, by kernel_rfl, by kernel_rfl⟩
theorem ent180 : Sx.Enters Tryz.prog 180 := ⟨_, Tryz.func180, by kernel_rfl, by kernel_rfl⟩
theorem sb9 : (Tryz.prog.info? 9).map (fun i => (i.size, i.bytes)) = some (1, 16) := by kernel_rfl
theorem sz210 : (Tryz.prog.info? 210).map (·.size) = some 5 := by kernel_rfl
theorem sz242 : (Tryz.prog.info? 242).map (·.size) = some 256 := by kernel_rfl
theorem zero9 : zeroL Tryz.prog 9 = some ([.string (bs [])]) := by kernel_rfl
theorem zero242 : zeroL Tryz.prog 242 = some (ints (List.replicate 256 0)) := by kernel_rfl

abbrev ON : List Bs := [[34], [92, 34], [92], [92, 92], [10], [92, 110], [13], [92, 114], [9], [92, 116]]
theorem on_even {k : Nat} (h : k < 5) : ON.getD (2 * k) [] = [TRb.getD (4 - k) 0] := by
  have : k = 0 ∨ k = 1 ∨ k = 2 ∨ k = 3 ∨ k = 4 := by omega
  rcases this with rfl | rfl | rfl | rfl | rfl <;> rfl
theorem on_odd {k : Nat} (h : k < 5) : ON.getD (2 * k + 1) [] = esc (TRb.getD (4 - k) 0) := by
  have : k = 0 ∨ k = 1 ∨ k = 2 ∨ k = 3 ∨ k = 4 := by omega
  rcases this with rfl | rfl | rfl | rfl | rfl <;> rfl
theorem tr_step {k : Nat} (h : k < 5) : TRb.take (5 - k) = TRb.take (4 - k) ++ [TRb.getD (4 - k) 0] ∧ TR.take (5 - k) = TR.take (4 - k) ++ [[TRb.getD (4 - k) 0]] ∧ TRb.getD (4 - k) 0 ∉ TRb.take (4 - k) ∧ TRb.getD (4 - k) 0 ∈ TRb := by
  have : k = 0 ∨ k = 1 ∨ k = 2 ∨ k = 3 ∨ k = 4 := by omega
  rcases this with rfl | rfl | rfl | rfl | rfl <;> exact ⟨rfl, rfl, by decide, by decide⟩
theorem zero246b : zeroL Tryz.prog 246 = some (List.replicate 257 (.slice none 0 0)) := by kernel_rfl
theorem strsl_ownw {w : World} {e : TypeId} {xs : List Bs} {v : Value} {c : SH} (ho : Sx.Own e 1 (strs xs) v c) (h : ∀ p ∈ c, w.heap[p.1]? = some p.2) : StrSl w v xs := by
  rcases ho with ⟨rfl, h1, rfl⟩ | ⟨g, n, cap, rest, fz, rfl, rfl, h1, h2, h3, h4⟩
  · exact .inl ⟨rfl, strs_nil h1⟩
  · rw [strs_length, Nat.mul_one] at h1
    subst h1
    have hg := h (g, _) (List.mem_singleton.2 rfl)
    exact .inr ⟨g, 0, cap, rfl, lt_of_get hg, h3, fun j u hu => by
      rw [add_off, Nat.zero_add, cell_of hg, List.getElem?_append_left (List.getElem?_eq_some_iff.1 hu).1]
      exact hu⟩
theorem cells_ownw {w : World} {e : TypeId} {xs : List Value} {g n cap : Nat} {c : SH} (ho : Sx.Own e 1 xs (.slice (some ⟨g, 0, none⟩) n cap) c) (h : ∀ p ∈ c, w.heap[p.1]? = some p.2) : Cells w ⟨g, 0, none⟩ xs := by
  rcases ho with ⟨h1, _⟩ | ⟨g, n, cap, rest, fz, h1, rfl, h2, h3, h4, h5⟩
  · cases h1
  · cases h1
    have hg := h (_, _) (List.mem_singleton.2 rfl)
    exact fun j u hu => by
      rw [add_off, Nat.zero_add, cell_of hg, List.getElem?_append_left (List.getElem?_eq_some_iff.1 hu).1]
      exact hu
/-- what stands where, while some signs are laid -/
def Half (l : List Value) (ds : Bs) (F : SH) : Prop := l.length = 256 ∧ ∀ c : UInt8, (c ∉ ds ∧ l[c.toNat]? = some (.slice none 0 0)) ∨ (c ∈ ds ∧ ∃ g cap cc, l[c.toNat]? = some (.slice (some ⟨g, 0, none⟩) 2 cap) ∧ Sx.Own 5 1 (ints (esc c)) (.slice (some ⟨g, 0, none⟩) 2 cap) cc ∧ ∀ p ∈ cc, p ∈ F)
theorem half_nil : Half (List.replicate 256 (.slice none 0 0)) [] [] := ⟨by simp, fun c => .inl ⟨by simp, by
  have := c.toNat_lt
  rw [List.getElem?_replicate, if_pos (by omega)]⟩⟩
theorem half_step {l : List Value} {ds : Bs} {F cc : SH} {o : UInt8} {g cap : Nat} (h : Half l ds F) (ho : Sx.Own 5 1 (ints (esc o)) (.slice (some ⟨g, 0, none⟩) 2 cap) cc) : Half (l.set o.toNat (.slice (some ⟨g, 0, none⟩) 2 cap)) (ds ++ [o]) (cc ++ F) := by
  obtain ⟨hl, ht⟩ := h
  refine ⟨by rw [List.length_set]; exact hl, fun c => ?_⟩
  by_cases hc : c = o
  · subst hc
    refine .inr ⟨by simp, g, cap, cc, ?_, ho, fun p hp => List.mem_append_left _ hp⟩
    rw [List.getElem?_set_self]
    have := c.toNat_lt
    omega
  · have hne : o.toNat ≠ c.toNat := fun e => hc (UInt8.toNat_inj.1 e.symm)
    rw [List.getElem?_set_ne hne]
    rcases ht c with ⟨h1, h2⟩ | ⟨h1, g2, cap2, cc2, h2, h3, h4⟩
    · exact .inl ⟨by simp [h1, hc], h2⟩
    · exact .inr ⟨by simp [h1], g2, cap2, cc2, h2, h3, fun p hp => List.mem_append_right _ (h4 p hp)⟩
theorem half_tbl {l : List Value} {tv : Value} {ct F : SH} {gb : Nat} {w : World} (h : Half l TRb F) (ho : Sx.Own 9 1 (strs TR) tv ct) (hw : ∀ p ∈ (gb, Obj.cells (l ++ [tv]).toArray 246 (0, 0)) :: (ct ++ F), w.heap[p.1]? = some p.2) : Tbl w gb := by
  unfold Tbl
  refine ⟨l, tv, (0, 0), hw (gb, _) (by simp), h.1, strsl_ownw ho (fun p hp => hw p (by simp [hp])), fun c => ?_⟩
  rcases h.2 c with ⟨h1, h2⟩ | ⟨h1, g2, cap2, cc2, h2, h3, h4⟩
  · exact ⟨none, 0, 0, h2, .inl ⟨h1, rfl⟩⟩
  · exact ⟨_, 2, cap2, h2, .inr ⟨h1, rfl, g2, rfl, own_cap h3, cells_ownw h3 (fun p hp => hw p (by simp [h4 p hp]))⟩⟩
theorem vsb {a a' : Int} {b b' : Bool} (h2 : b = b') (h1 : a = a') : [Value.bool b, .int .i64 a] = [.bool b', .int .i64 a'] := by rw [h1, h2]
attribute [local irreducible] es Tbl Half
/-- (*strings.Replacer).build -/
theorem build_con (gr : Nat) (a b c iv ov : Value) (w : World) (hgr : w.heap[gr]? = some (.cells [a, b, c, iv, ov].toArray 210 (0, 0))) (ho : StrSl w ov ON) : Con Tryz.prog 167 [.pointer (some ⟨gr, 0, none⟩)] w [] fun v S' => ∃ gb F, v = .iface 247 (.pointer (some ⟨gb, 0, none⟩)) ∧ S' = [F] ∧ ∀ w' : World, (∀ p ∈ F, w'.heap[p.1]? = some p.2) → Tbl w' gb := by
  refine con_of_tree mix Tryz.func167 T167_ok (by kernel_rfl) ?_
  unfold T167
  obtain ⟨A, cap, rfl, hcap⟩ := strsl_form ho
  obtain ⟨ga, off, rfl, hga, hcells⟩ := strsl_addr ho (by decide)
  have hON : ON.length = 10 := rfl
  refine j_q (qs_ac) ?_
  refine j_q (qs_nil rfl) ?_
  refine j_q (qs_field Tryz.underlying210 rfl sz22 (by decide) rfl) ?_
  refine j_q (qs_loadO (u := .slice (some ⟨ga, off, none⟩) ON.length cap) (rdo_base (o := .cells [a, b, c, iv, .slice (some ⟨ga, off, none⟩) ON.length cap].toArray 210 (0, 0)) hgr (by simp)) Tryz.underlying22 rfl rfl rfl) ?_
  refine j_q (qs_lenl Tryz.underlying22 rfl) ?_
  refine j_q (qs_eql rfl rfl) ?_
  refine j_gf rfl (by decide) ?_
  refine j_gf rfl (by decide) ?_
  refine j_gf rfl (by decide) ?_
  refine j_gf rfl (by decide) ?_
  refine j_gf rfl (by decide) ?_
  refine j_q (qs_and (b0 := false) (b1 := false) rfl rfl) ?_
  refine j_cond rfl (fun hc0 => ?_) (fun hc0 => ?_)
  · skip
    cases hc0
  · skip
    refine j_q (qs_ac) ?_
    refine j_q (qs_ac) ?_
    refine j_loop (fun m vs S' => ∃ k : Nat, vs = [.bool (decide (k = 0)), .int .i64 ((2 * k : Nat) : Int)] ∧ S' = [[]] ∧ k ≤ 5 ∧ m = 5 - k) ⟨_, 0, rfl, rfl, by omega, rfl⟩ ?_
    rintro m vs S' hlen ⟨k, rfl, rfl, hk5, rfl⟩
    refine j_q (qs_lenl Tryz.underlying22 rfl) ?_
    refine j_q (qs_lss rfl rfl) ?_
    refine j_cond rfl (fun hc1 => ?_) (fun hc1 => ?_)
    · skip
      have hk : k < 5 := by
        simp only [Bool.and_eq_true, Bool.or_eq_true, Bool.and_eq_false_iff, Bool.or_eq_false_iff, Bool.not_eq_true', Bool.not_eq_false', decide_eq_true_eq, decide_eq_false_iff_not, beq_iff_eq, beq_eq_false_iff_ne, bne_iff_ne, bne_eq_false_iff_eq, ne_eq, Int.toNat_natCast] at *
        omega
      refine j_q (qs_ixl0 Tryz.underlying22 sz9 rfl rfl ⟨(by first | omega | (simp only [Bool.and_eq_true, Bool.or_eq_true, Bool.and_eq_false_iff, Bool.or_eq_false_iff, Bool.not_eq_true', Bool.not_eq_false', decide_eq_true_eq, decide_eq_false_iff_not, beq_iff_eq, beq_eq_false_iff_ne, bne_iff_ne, bne_eq_false_iff_eq, ne_eq, Int.toNat_natCast] at *; omega)), (by first | omega | (simp only [Bool.and_eq_true, Bool.or_eq_true, Bool.and_eq_false_iff, Bool.or_eq_false_iff, Bool.not_eq_true', Bool.not_eq_false', decide_eq_true_eq, decide_eq_false_iff_not, beq_iff_eq, beq_eq_false_iff_ne, bne_iff_ne, bne_eq_false_iff_eq, ne_eq, Int.toNat_natCast] at *; omega))⟩) ?_
      refine j_q (qs_loadrs (rd_cells hcells (by simp)) Tryz.underlying9 rfl (by first | omega | (simp only [Int.toNat_natCast]; omega))) ?_
      rw [show (((2 * k : Nat) : Int)).toNat = 2 * k by omega, on_even hk]
      refine j_q (qs_lens Tryz.underlying9 rfl) ?_
      refine j_q (qs_neq rfl rfl) ?_
      refine j_cond rfl (fun hc2 => ?_) (fun hc2 => ?_)
      · skip
        simp at hc2
      · skip
        refine j_q (qs_add64 rfl rfl (by first | omega | (simp only [Bool.and_eq_true, Bool.or_eq_true, Bool.and_eq_false_iff, Bool.or_eq_false_iff, Bool.not_eq_true', Bool.not_eq_false', decide_eq_true_eq, decide_eq_false_iff_not, beq_iff_eq, beq_eq_false_iff_ne, bne_iff_ne, bne_eq_false_iff_eq, ne_eq, Int.toNat_natCast] at *; omega))) ?_
        refine j_q (qs_ixl0 Tryz.underlying22 sz9 rfl rfl ⟨(by first | omega | (simp only [Bool.and_eq_true, Bool.or_eq_true, Bool.and_eq_false_iff, Bool.or_eq_false_iff, Bool.not_eq_true', Bool.not_eq_false', decide_eq_true_eq, decide_eq_false_iff_not, beq_iff_eq, beq_eq_false_iff_ne, bne_iff_ne, bne_eq_false_iff_eq, ne_eq, Int.toNat_natCast] at *; omega)), (by first | omega | (simp only [Bool.and_eq_true, Bool.or_eq_true, Bool.and_eq_false_iff, Bool.or_eq_false_iff, Bool.not_eq_true', Bool.not_eq_false', decide_eq_true_eq, decide_eq_false_iff_not, beq_iff_eq, beq_eq_false_iff_ne, bne_iff_ne, bne_eq_false_iff_eq, ne_eq, Int.toNat_natCast] at *; omega))⟩) ?_
        refine j_q (qs_loadrs (rd_cells hcells (by simp)) Tryz.underlying9 rfl (by first | omega | (simp only [Int.toNat_natCast]; omega))) ?_
        rw [show (((2 * k : Nat) : Int) + 1).toNat = 2 * k + 1 by omega, on_odd hk]
        refine j_q (qs_lens Tryz.underlying9 rfl) ?_
        refine j_q (qs_neq rfl rfl) ?_
        refine j_cond rfl (fun hc3 => ?_) (fun hc3 => ?_)
        · skip
          refine j_q (qs_ac) ?_
          refine j_q (qs_add64 rfl rfl (by first | omega | (simp only [Bool.and_eq_true, Bool.or_eq_true, Bool.and_eq_false_iff, Bool.or_eq_false_iff, Bool.not_eq_true', Bool.not_eq_false', decide_eq_true_eq, decide_eq_false_iff_not, beq_iff_eq, beq_eq_false_iff_ne, bne_iff_ne, bne_eq_false_iff_eq, ne_eq, Int.toNat_natCast] at *; omega))) ?_
          refine j_back rfl ?_
          exact ⟨5 - (k + 1), by omega, k + 1, vsb (by simp) (by omega), rfl, by omega, rfl⟩
        · skip
          rw [(esc_in _).1 (trb_mem (by omega))] at hc3; exact absurd hc3 (by decide)
    · skip
      obtain rfl : k = 5 := by
        simp only [Bool.and_eq_true, Bool.or_eq_true, Bool.and_eq_false_iff, Bool.or_eq_false_iff, Bool.not_eq_true', Bool.not_eq_false', decide_eq_true_eq, decide_eq_false_iff_not, beq_iff_eq, beq_eq_false_iff_ne, bne_iff_ne, bne_eq_false_iff_eq, ne_eq, Int.toNat_natCast] at *
        omega
      refine j_cond rfl (fun hc4 => ?_) (fun hc4 => ?_)
      · skip
        exact absurd hc4 (by decide)
      · skip
        refine j_q (qs_lenl Tryz.underlying22 rfl) ?_
        refine j_q (qs_quo64 rfl rfl (by first | omega | (simp only [Bool.and_eq_true, Bool.or_eq_true, Bool.and_eq_false_iff, Bool.or_eq_false_iff, Bool.not_eq_true', Bool.not_eq_false', decide_eq_true_eq, decide_eq_false_iff_not, beq_iff_eq, beq_eq_false_iff_ne, bne_iff_ne, bne_eq_false_iff_eq, ne_eq, Int.toNat_natCast] at *; omega)) (by first | omega | (simp only [Bool.and_eq_true, Bool.or_eq_true, Bool.and_eq_false_iff, Bool.or_eq_false_iff, Bool.not_eq_true', Bool.not_eq_false', decide_eq_true_eq, decide_eq_false_iff_not, beq_iff_eq, beq_eq_false_iff_ne, bne_iff_ne, bne_eq_false_iff_eq, ne_eq, Int.toNat_natCast] at *; omega)) (by first | omega | (simp only [Bool.and_eq_true, Bool.or_eq_true, Bool.and_eq_false_iff, Bool.or_eq_false_iff, Bool.not_eq_true', Bool.not_eq_false', decide_eq_true_eq, decide_eq_false_iff_not, beq_iff_eq, beq_eq_false_iff_ne, bne_iff_ne, bne_eq_false_iff_eq, ne_eq, Int.toNat_natCast] at *; omega))) ?_
        refine j_make Tryz.underlying22 sb9 zero9 rfl (by decide) rfl rfl (by first | omega | (simp only [Bool.and_eq_true, Bool.or_eq_true, Bool.and_eq_false_iff, Bool.or_eq_false_iff, Bool.not_eq_true', Bool.not_eq_false', decide_eq_true_eq, decide_eq_false_iff_not, beq_iff_eq, beq_eq_false_iff_ne, bne_iff_ne, bne_eq_false_iff_eq, ne_eq, Int.toNat_natCast] at *; omega)) (by first | omega | (simp only [Bool.and_eq_true, Bool.or_eq_true, Bool.and_eq_false_iff, Bool.or_eq_false_iff, Bool.not_eq_true', Bool.not_eq_false', decide_eq_true_eq, decide_eq_false_iff_not, beq_iff_eq, beq_eq_false_iff_ne, bne_iff_ne, bne_eq_false_iff_eq, ne_eq, Int.toNat_natCast] at *; omega)) (fun g61 v61 c61 hv61 hc61 ho61 => ?_)
        subst hv61 hc61
        rw [show zeros [Value.string (bs [])] 0 = ([] : List Value) from rfl] at ho61
        refine j_q (qs_build (places := [(0, 256), (256, 1)]) (offs := [(256, [.slice (some ⟨g61, 0, none⟩) 0 5])]) Tryz.underlying246 zero246b (by kernel_rfl) rfl (by rintro (_ | j) p q hp hq <;> first | (simp at hp hq; subst hp hq; exact ⟨rfl, rfl, by simp⟩) | (simp at hp))) ?_
        rw [show ([(256, [Value.slice (some ⟨g61, 0, none⟩) 0 5])] : List (Nat × List Value)).foldl (fun l q => putAt l q.1 q.2) (List.replicate 257 (.slice none 0 0)) = List.replicate 256 (.slice none 0 0) ++ [.slice (some ⟨g61, 0, none⟩) 0 5] by simp [putAt, List.take_replicate, List.drop_replicate]]
        refine j_alloc zero246b (fun g63 hg63 hs63 => ?_)
        refine j_storew 0 sz246 rfl rfl (by simp) (fun u hu => by simp at hu; rcases hu with rfl | rfl <;> rfl) rfl (by simp) ?_
        refine j_q (qs_lenl Tryz.underlying22 rfl) ?_
        refine j_q (qs_sub64 rfl rfl (by first | omega | (simp only [Bool.and_eq_true, Bool.or_eq_true, Bool.and_eq_false_iff, Bool.or_eq_false_iff, Bool.not_eq_true', Bool.not_eq_false', decide_eq_true_eq, decide_eq_false_iff_not, beq_iff_eq, beq_eq_false_iff_ne, bne_iff_ne, bne_eq_false_iff_eq, ne_eq, Int.toNat_natCast] at *; omega))) ?_
        refine j_loop (fun m vs S' => ∃ (k : Nat) (l : List Value) (tv : Value) (ct F : SH), vs = [.int .i64 (((2 * k : Nat) : Int) - 2)] ∧ S' = [[(g63, .cells (l ++ [tv]).toArray 246 (0, 0))], ct, F] ∧ Half l (TRb.take (5 - k)) F ∧ Sx.Own 9 1 (strs (TR.take (5 - k))) tv ct ∧ k ≤ 5 ∧ m = k) ⟨_, 5, List.replicate 256 (.slice none 0 0), .slice (some ⟨g61, 0, none⟩) 0 5, _, [], rfl, rfl, (by rw [show TRb.take (5 - 5) = [] from rfl]; exact half_nil), (by rw [show strs (TR.take (5 - 5)) = [] from rfl]; exact ho61), Nat.le_refl _, rfl⟩ ?_
        rintro m vs S' hlen ⟨k0, l, tv, ct, F, rfl, rfl, hhalf, hot, hk5, hmk⟩
        refine j_q (qs_geq rfl rfl) ?_
        refine j_cond rfl (fun hc7 => ?_) (fun hc7 => ?_)
        · skip
          obtain ⟨k, rfl⟩ : ∃ j, k0 = j + 1 := ⟨k0 - 1, by simp only [Bool.and_eq_true, Bool.or_eq_true, Bool.and_eq_false_iff, Bool.or_eq_false_iff, Bool.not_eq_true', Bool.not_eq_false', decide_eq_true_eq, decide_eq_false_iff_not, beq_iff_eq, beq_eq_false_iff_ne, bne_iff_ne, bne_eq_false_iff_eq, ne_eq, Int.toNat_natCast] at *; omega⟩
          have hk : k < 5 := by omega
          rw [show (((2 * (k + 1) : Nat) : Int) - 2) = ((2 * k : Nat) : Int) by omega]
          rw [show 5 - (k + 1) = 4 - k by omega] at hhalf hot
          obtain ⟨hst1, hst2, hst3, hst4⟩ := tr_step hk
          have hl256 : l.length = 256 := by unfold Half at hhalf; exact hhalf.1
          have hnil : l[(TRb.getD (4 - k) 0).toNat]? = some (.slice none 0 0) := by
            unfold Half at hhalf
            rcases hhalf.2 (TRb.getD (4 - k) 0) with h | h
            · exact h.2
            · exact absurd h.1 hst3
          have he2 : (esc (TRb.getD (4 - k) 0)).length = 2 := (esc_in _).1 hst4
          refine j_q (qs_ixl0 Tryz.underlying22 sz9 rfl rfl ⟨(by first | omega | (simp only [Bool.and_eq_true, Bool.or_eq_true, Bool.and_eq_false_iff, Bool.or_eq_false_iff, Bool.not_eq_true', Bool.not_eq_false', decide_eq_true_eq, decide_eq_false_iff_not, beq_iff_eq, beq_eq_false_iff_ne, bne_iff_ne, bne_eq_false_iff_eq, ne_eq, Int.toNat_natCast] at *; omega)), (by first | omega | (simp only [Bool.and_eq_true, Bool.or_eq_true, Bool.and_eq_false_iff, Bool.or_eq_false_iff, Bool.not_eq_true', Bool.not_eq_false', decide_eq_true_eq, decide_eq_false_iff_not, beq_iff_eq, beq_eq_false_iff_ne, bne_iff_ne, bne_eq_false_iff_eq, ne_eq, Int.toNat_natCast] at *; omega))⟩) ?_
          refine j_q (qs_loadrs (rd_cells hcells (by simp)) Tryz.underlying9 rfl (by first | omega | (simp only [Int.toNat_natCast]; omega))) ?_
          rw [show (((2 * k : Nat) : Int)).toNat = 2 * k by omega, on_even hk]
          obtain ⟨o, hoo⟩ : ∃ o, o = TRb.getD (4 - k) 0 := ⟨_, rfl⟩
          rw [← hoo] at hst1 hst2 hst3 hst4 hnil he2 ⊢
          have hb256 := o.toNat_lt
          refine j_q (qs_idx Tryz.underlying9 rfl rfl (by simp)) ?_
          rw [show ([o] : Bs).getD (Int.toNat 0) 0 = o from rfl]
          refine j_q (qs_add64 rfl rfl (by first | omega | (simp only [Bool.and_eq_true, Bool.or_eq_true, Bool.and_eq_false_iff, Bool.or_eq_false_iff, Bool.not_eq_true', Bool.not_eq_false', decide_eq_true_eq, decide_eq_false_iff_not, beq_iff_eq, beq_eq_false_iff_ne, bne_iff_ne, bne_eq_false_iff_eq, ne_eq, Int.toNat_natCast] at *; omega))) ?_
          refine j_q (qs_ixl0 Tryz.underlying22 sz9 rfl rfl ⟨(by first | omega | (simp only [Bool.and_eq_true, Bool.or_eq_true, Bool.and_eq_false_iff, Bool.or_eq_false_iff, Bool.not_eq_true', Bool.not_eq_false', decide_eq_true_eq, decide_eq_false_iff_not, beq_iff_eq, beq_eq_false_iff_ne, bne_iff_ne, bne_eq_false_iff_eq, ne_eq, Int.toNat_natCast] at *; omega)), (by first | omega | (simp only [Bool.and_eq_true, Bool.or_eq_true, Bool.and_eq_false_iff, Bool.or_eq_false_iff, Bool.not_eq_true', Bool.not_eq_false', decide_eq_true_eq, decide_eq_false_iff_not, beq_iff_eq, beq_eq_false_iff_ne, bne_iff_ne, bne_eq_false_iff_eq, ne_eq, Int.toNat_natCast] at *; omega))⟩) ?_
          refine j_q (qs_loadrs (rd_cells hcells (by simp)) Tryz.underlying9 rfl (by first | omega | (simp only [Int.toNat_natCast]; omega))) ?_
          rw [show (((2 * k : Nat) : Int) + 1).toNat = 2 * k + 1 by omega, on_odd hk, ← hoo]
          refine j_q (qs_field Tryz.underlying246 rfl sz244 (by decide) rfl) ?_
          refine j_q (qs_ix0 Tryz.underlying244 sz46 rfl rfl ⟨(by first | omega | (simp only [Bool.and_eq_true, Bool.or_eq_true, Bool.and_eq_false_iff, Bool.or_eq_false_iff, Bool.not_eq_true', Bool.not_eq_false', decide_eq_true_eq, decide_eq_false_iff_not, beq_iff_eq, beq_eq_false_iff_ne, bne_iff_ne, bne_eq_false_iff_eq, ne_eq, Int.toNat_natCast] at *; omega)), (by first | omega | (simp only [Bool.and_eq_true, Bool.or_eq_true, Bool.and_eq_false_iff, Bool.or_eq_false_iff, Bool.not_eq_true', Bool.not_eq_false', decide_eq_true_eq, decide_eq_false_iff_not, beq_iff_eq, beq_eq_false_iff_ne, bne_iff_ne, bne_eq_false_iff_eq, ne_eq, Int.toNat_natCast] at *; omega))⟩) ?_
          refine j_q (qs_load (l := l ++ [tv]) (i := o.toNat) (v := .slice none 0 0) 0 Tryz.underlying46 rfl (by simp only [ev]; first | rfl | (congr 3; simp) | (simp only [Int.toNat_natCast, Nat.zero_add])) rfl (by rw [List.getElem?_append_left (by omega)]; exact hnil)) ?_
          refine j_q (qs_slnil Tryz.underlying46 rfl) ?_
          refine j_cond rfl (fun hc8 => ?_) (fun hc8 => ?_)
          · skip
            refine j_q (qs_field Tryz.underlying246 rfl sz22 (by decide) rfl) ?_
            refine j_q (qs_load (l := l ++ [tv]) (i := 256) (v := tv) 0 Tryz.underlying22 rfl rfl rfl (by rw [List.getElem?_append_right (by omega), hl256]; rfl)) ?_
            refine j_lit (vs := [.int .u8 _]) Tryz.underlying46 sz5 zero5 rfl (by simp [oneV]) ⟨rfl, by decide⟩ (fun g80 v80 c80 hv80 hc80 ho80 => ?_)
            subst hv80 hc80
            refine j_q (qs_stro (l := [o]) 0 Tryz.underlying46 Tryz.underlying5 Tryz.underlying9 (by exact ho80) rfl) ?_
            refine j_lit (vs := [.string (bs _)]) Tryz.underlying22 sz9 zero9 rfl (by simp [oneV]) ⟨rfl, by decide⟩ (fun g82 v82 c82 hv82 hc82 ho82 => ?_)
            subst hv82 hc82
            refine j_append 3 Tryz.underlying22 Tryz.underlying22 (.inr ⟨_, rfl⟩) sb9 zero9 rfl hot rfl (.inl ⟨_, _, rfl, rd_own (off := 0) (n := 1) 0 rfl rfl, rfl⟩) (by simp [oneV]) ⟨(by rw [strs_length, List.length_take]; simp; omega), (by decide)⟩ (fun v83 c83 ho83 => ?_)
            have ho83 : Sx.Own 9 1 (strs (TR.take (5 - k))) v83 c83 := by
              rw [hst2, strs_append]
              exact ho83
            have hone1 : oneV v83 = true := by
              obtain ⟨n83, A83, cap83, rfl, _⟩ := own_form ho83 (by decide)
              rfl
            refine j_q (qs_field Tryz.underlying246 rfl sz22 (by decide) rfl) ?_
            refine j_store (g := g63) (i := 256) (l := l ++ [tv]) 2 sz22 rfl rfl hone1 rfl (by simp [hl256]) (by simp) ?_
            rw [List.set_append_right _ _ (by omega), hl256]
            refine j_bytes Tryz.underlying9 Tryz.underlying46 Tryz.underlying5 rfl (fun v86 c86 ho86 hv86 => ?_)
            obtain ⟨g86, cap86, rfl⟩ := hv86
            rw [he2] at ho86 ⊢
            refine j_q (qs_field Tryz.underlying246 rfl sz244 (by decide) rfl) ?_
            refine j_q (qs_ix0 Tryz.underlying244 sz46 rfl rfl ⟨(by first | omega | (simp only [Bool.and_eq_true, Bool.or_eq_true, Bool.and_eq_false_iff, Bool.or_eq_false_iff, Bool.not_eq_true', Bool.not_eq_false', decide_eq_true_eq, decide_eq_false_iff_not, beq_iff_eq, beq_eq_false_iff_ne, bne_iff_ne, bne_eq_false_iff_eq, ne_eq, Int.toNat_natCast] at *; omega)), (by first | omega | (simp only [Bool.and_eq_true, Bool.or_eq_true, Bool.and_eq_false_iff, Bool.or_eq_false_iff, Bool.not_eq_true', Bool.not_eq_false', decide_eq_true_eq, decide_eq_false_iff_not, beq_iff_eq, beq_eq_false_iff_ne, bne_iff_ne, bne_eq_false_iff_eq, ne_eq, Int.toNat_natCast] at *; omega))⟩) ?_
            refine j_store (g := g63) (i := o.toNat) (l := l ++ [v83]) 3 sz46 (by simp only [ev]; first | rfl | (congr 3; simp) | (simp only [Int.toNat_natCast, Nat.zero_add])) rfl rfl rfl (by simp [hl256]; omega) (by simp) ?_
            rw [List.set_append_left _ _ (by omega)]
            refine j_q (qs_sub64 rfl rfl (by first | omega | (simp only [Bool.and_eq_true, Bool.or_eq_true, Bool.and_eq_false_iff, Bool.or_eq_false_iff, Bool.not_eq_true', Bool.not_eq_false', decide_eq_true_eq, decide_eq_false_iff_not, beq_iff_eq, beq_eq_false_iff_ne, bne_iff_ne, bne_eq_false_iff_eq, ne_eq, Int.toNat_natCast] at *; omega))) ?_
            refine j_subl (S' := [c86, [(g63, .cells (l.set o.toNat (.slice (some ⟨g86, 0, none⟩) 2 cap86) ++ [v83]).toArray 246 (0, 0))], c83, F]) (by repeat first | exact List.Sublist.refl _ | exact List.nil_sublist _ | apply List.Sublist.cons_cons | apply List.Sublist.cons) ?_
            refine j_perm (S' := [[(g63, .cells (l.set o.toNat (.slice (some ⟨g86, 0, none⟩) 2 cap86) ++ [v83]).toArray 246 (0, 0))], c83, c86 ++ F]) (by classical exact List.perm_iff_count.2 fun a => by simp only [List.flatten_cons, List.flatten_nil, List.append_nil, List.count_append]; omega) ?_
            refine j_back rfl ?_
            exact ⟨k, by omega, k, _, v83, c83, c86 ++ F, by rw [show (((2 * k : Nat) : Int) - 2) = ((2 * k : Nat) : Int) - 2 from rfl]; rfl, rfl, (by rw [hst1]; exact half_step hhalf ho86), ho83, by omega, rfl⟩
          · skip
            cases hc8
        · skip
          obtain rfl : k0 = 0 := by
            simp only [Bool.and_eq_true, Bool.or_eq_true, Bool.and_eq_false_iff, Bool.or_eq_false_iff, Bool.not_eq_true', Bool.not_eq_false', decide_eq_true_eq, decide_eq_false_iff_not, beq_iff_eq, beq_eq_false_iff_ne, bne_iff_ne, bne_eq_false_iff_eq, ne_eq, Int.toNat_natCast] at *
            omega
          refine j_q (qs_mkiface Tryz.underlying247 (fun _ h => by cases h) rfl) ?_
          refine j_perm (S' := [[(g63, .cells (l ++ [tv]).toArray 246 (0, 0))] ++ (ct ++ F)]) (by simp) ?_
          refine j_ret_con (vs := [_]) (fun w' hw' => ⟨rfl, trivial⟩) ?_
          exact ⟨g63, _, rfl, rfl, fun w' hw => half_tbl hhalf hot hw⟩
end Go.Proofs.YtfeabbeebkkhaaaGreat
