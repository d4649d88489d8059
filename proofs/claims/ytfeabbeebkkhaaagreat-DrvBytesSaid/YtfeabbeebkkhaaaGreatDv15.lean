/- Derivations: digits read as a digest. -/
import Derived.Test.YtfeabbeebkkhaaaGreatTa
import Derived.Test.YtfeabbeebkkhaaaGreatDv14
namespace Go.Proofs.YtfeabbeebkkhaaaGreat
open Go Go.Sx
set_option maxRecDepth 100000
set_option maxHeartbeats 4000000
set_option linter.unusedVariables false
set_option linter.unusedSimpArgs false
attribute [local irreducible] J JQ QS Con W opW
theorem zero51 : zeroL Tryz.prog 51 = some (ints (List.replicate 32 0)) := by kernel_rfl

def comb (x : UInt8) (n : Int) : UInt8 := by8 (bw .or .u8 (IntKind.u8.wrap ((x.toNat : Int) * 2 ^ min (Int.toNat 4) IntKind.u8.bits)) n)
theorem digit_lo {k : Int} (h0 : 0 ≤ k) (h1 : k < 16) (hl : 48 ≤ ((digit k).toNat : Int) ∧ ((digit k).toNat : Int) ≤ 57) : IntKind.u8.wrap (((digit k).toNat : Int) - 48) = k := by
  have : ∀ k : Fin 16, (48 ≤ ((digit (k.val : Int)).toNat : Int) ∧ ((digit (k.val : Int)).toNat : Int) ≤ 57) → IntKind.u8.wrap (((digit (k.val : Int)).toNat : Int) - 48) = (k.val : Int) := by decide +kernel
  have h := this ⟨k.toNat, by omega⟩
  simp only [Int.toNat_of_nonneg h0] at h
  exact h hl
theorem digit_hi {k : Int} (h0 : 0 ≤ k) (h1 : k < 16) (hl : ¬ (48 ≤ ((digit k).toNat : Int) ∧ ((digit k).toNat : Int) ≤ 57)) : (97 ≤ ((digit k).toNat : Int) ∧ ((digit k).toNat : Int) ≤ 102) ∧ IntKind.u8.wrap (IntKind.u8.wrap (((digit k).toNat : Int) - 97) + 10) = k := by
  have : ∀ k : Fin 16, ¬ (48 ≤ ((digit (k.val : Int)).toNat : Int) ∧ ((digit (k.val : Int)).toNat : Int) ≤ 57) → (97 ≤ ((digit (k.val : Int)).toNat : Int) ∧ ((digit (k.val : Int)).toNat : Int) ≤ 102) ∧ IntKind.u8.wrap (IntKind.u8.wrap (((digit (k.val : Int)).toNat : Int) - 97) + 10) = (k.val : Int) := by decide +kernel
  have h := this ⟨k.toNat, by omega⟩
  simp only [Int.toNat_of_nonneg h0] at h
  exact h hl
theorem comb_0 (c : UInt8) : comb 0 ((c.toNat : Int) / 16) = by8 ((c.toNat : Int) / 16) := by
  have : ∀ k : Fin 256, comb 0 (((UInt8.ofNat k.val).toNat : Int) / 16) = by8 (((UInt8.ofNat k.val).toNat : Int) / 16) := by decide +kernel
  have h := this ⟨c.toNat, c.toNat_lt⟩
  rwa [ofNat_lt] at h
theorem comb_1 (c : UInt8) : comb (by8 ((c.toNat : Int) / 16)) ((c.toNat : Int) % 16) = c := by
  have : ∀ k : Fin 256, comb (by8 (((UInt8.ofNat k.val).toNat : Int) / 16)) (((UInt8.ofNat k.val).toNat : Int) % 16) = UInt8.ofNat k.val := by decide +kernel
  have h := this ⟨c.toNat, c.toNat_lt⟩
  rwa [ofNat_lt] at h
def nibs (h : Bs) (i : Nat) : Int := if i % 2 = 0 then ((h.getD (i / 2) 0).toNat : Int) / 16 else ((h.getD (i / 2) 0).toNat : Int) % 16
theorem nibs_rng (h : Bs) (i : Nat) : 0 ≤ nibs h i ∧ nibs h i < 16 := by
  unfold nibs
  have := (h.getD (i / 2) 0).toNat_lt
  split <;> omega
theorem hexN_get (h : Bs) : ∀ (n i : Nat), i < 2 * n → (hexN h n).getD i 0 = digit (nibs h i)
  | 0, i, hi => by omega
  | n + 1, i, hi => by
    have hl := hexN_length h n
    unfold hexN
    by_cases h1 : i < 2 * n
    · rw [← hexN_get h n i h1, List.getD_eq_getElem?_getD, List.getElem?_append_left (by omega)]
      exact (List.getD_eq_getElem?_getD ..).symm
    · rw [List.getD_eq_getElem?_getD, List.getElem?_append_right (by omega), hl]
      have : i = 2 * n ∨ i = 2 * n + 1 := by omega
      rcases this with rfl | rfl
      · unfold nibs
        rw [if_pos (by omega), show 2 * n / 2 = n by omega, Nat.sub_self]
        first | rfl | simp [List.getD_eq_getElem?_getD]
      · unfold nibs
        rw [if_neg (by omega), show (2 * n + 1) / 2 = n by omega, show 2 * n + 1 - 2 * n = 1 by omega]
        rfl
/-- the bytes that the first i digits say -/
def hx (h : Bs) (i : Nat) : Bs := (List.range 32).map fun j => if 2 * j + 2 ≤ i then h.getD j 0 else if 2 * j + 1 ≤ i then by8 (((h.getD j 0).toNat : Int) / 16) else 0
theorem hx_len (h : Bs) (i : Nat) : (hx h i).length = 32 := by simp [hx]
theorem hx_get (h : Bs) (i j : Nat) (hj : j < 32) : (hx h i)[j]? = some (if 2 * j + 2 ≤ i then h.getD j 0 else if 2 * j + 1 ≤ i then by8 (((h.getD j 0).toNat : Int) / 16) else 0) := by
  unfold hx
  rw [List.getElem?_map, List.getElem?_range hj]
  rfl
theorem hx_0 (h : Bs) : hx h 0 = List.replicate 32 0 := by
  apply List.ext_getElem?
  intro j
  by_cases hj : j < 32
  · rw [hx_get h 0 j hj, if_neg (by omega), if_neg (by omega), List.getElem?_replicate, if_pos hj]
  · rw [List.getElem?_eq_none (by rw [hx_len]; omega), List.getElem?_eq_none (by simp; omega)]
theorem hx_64 {h : Bs} (hl : h.length = 32) : hx h 64 = h := by
  apply List.ext_getElem?
  intro j
  by_cases hj : j < 32
  · rw [hx_get h 64 j hj, if_pos (by omega), List.getD_eq_getElem?_getD, List.getElem?_eq_getElem (by omega)]
    rfl
  · rw [List.getElem?_eq_none (by rw [hx_len]; omega), List.getElem?_eq_none (by omega)]
theorem hx_step {h : Bs} {i : Nat} (hi : i < 64) : (hx h i).set (i / 2) (comb ((hx h i).getD (i / 2) 0) (nibs h i)) = hx h (i + 1) := by
  apply List.ext_getElem?
  intro j
  by_cases hj : j < 32
  · rw [List.getElem?_set, hx_get h (i + 1) j hj]
    by_cases hij : i / 2 = j
    · rw [if_pos hij, if_pos (by rw [hx_len]; omega)]
      subst hij
      rw [List.getD_eq_getElem?_getD, hx_get h i (i / 2) (by omega), Option.getD_some]
      unfold nibs
      by_cases he : i % 2 = 0
      · rw [if_pos he, if_neg (by omega), if_neg (by omega), comb_0, if_neg (by omega), if_pos (by omega)]
      · rw [if_neg he, if_neg (by omega), if_pos (by omega), comb_1, if_pos (by omega)]
    · rw [if_neg hij, hx_get h i j hj]
      congr 1
      by_cases h1 : 2 * j + 2 ≤ i
      · rw [if_pos h1, if_pos (by omega)]
      · rw [if_neg h1, if_neg (by omega), if_neg (by omega), if_neg (by omega)]
  · rw [List.getElem?_eq_none (by rw [List.length_set, hx_len]; omega), List.getElem?_eq_none (by rw [hx_len]; omega)]
def HxK (s l : Bs) (i : Nat) : Prop := ∀ h : Bs, h.length = 32 → s = hex h → l = hx h i
theorem hxk_step {s l : Bs} {i : Nat} {n : Int} (hk : HxK s l i) (hi : i < 64) (hn : ∀ h : Bs, h.length = 32 → s = hex h → n = nibs h i) : HxK s (l.set (i / 2) (comb (l.getD (i / 2) 0) n)) (i + 1) := fun h hl hs => by
  rw [hk h hl hs, hn h hl hs]
  exact hx_step hi
theorem hex_char {s h : Bs} {i : Nat} (hi : i < 64) (hs : s = hex h) : s.getD i 0 = digit (nibs h i) := by
  rw [hs]
  exact hexN_get h 32 i (by omega)
attribute [local irreducible] es qt cms hex HxK hx comb nibs digit
/-- pantry.digest.FromHex -/
theorem fromHex_con (s : Bs) (w : World) (hs : s.length ≤ 1099511627776) : Con Tryz.prog 130 [.string (bs s)] w [] fun v _ => ∃ l e, v = .tuple #[.agg (ints l).toArray, .int .i64 e] ∧ l.length = 32 ∧ ∀ h : Bs, h.length = 32 → s = hex h → l = h ∧ e = 0 := by
  refine con_of_tree mix Tryz.func130 T130_ok (by kernel_rfl) ?_
  unfold T130
  refine j_alloc zero51 (fun g0 hg0 hs0 => ?_)
  refine j_q (qs_ac) ?_
  refine j_q (qs_lens Tryz.underlying9 rfl) ?_
  refine j_q (qs_neq rfl rfl) ?_
  refine j_cond rfl (fun hc0 => ?_) (fun hc0 => ?_)
  · skip
    have hne : s.length ≠ 64 := by simp only [Bool.and_eq_true, Bool.or_eq_true, Bool.and_eq_false_iff, Bool.or_eq_false_iff, Bool.not_eq_true', Bool.not_eq_false', decide_eq_true_eq, decide_eq_false_iff_not, beq_iff_eq, beq_eq_false_iff_ne, bne_iff_ne, bne_eq_false_iff_eq, ne_eq, Int.toNat_natCast] at *; omega
    refine j_q (qs_run (v := .agg (ints (List.replicate 32 0)).toArray) (fun w => by kernel_rfl)) ?_
    refine j_storew (l := ints (List.replicate 32 0)) (vs := ints (List.replicate 32 0)) 0 sz51 rfl rfl rfl ints_one rfl rfl ?_
    refine j_q (qs_ac) ?_
    first
      | refine j_ret_con (vs := [_, _]) (fun w' hw' => ⟨rv_agg 0 Tryz.underlying51 rfl sz51 rfl rfl (by first | (rw [ints_length]; exact hl32) | rfl) hw', rfl, trivial⟩) ?_
      | refine j_ret_con (vs := [_, _]) (fun w' hw' => ⟨rv_agg 1 Tryz.underlying51 rfl sz51 rfl rfl (by first | (rw [ints_length]; exact hl32) | rfl) hw', rfl, trivial⟩) ?_
      | refine j_ret_con (vs := [_, _]) (fun w' hw' => ⟨rv_agg 2 Tryz.underlying51 rfl sz51 rfl rfl (by first | (rw [ints_length]; exact hl32) | rfl) hw', rfl, trivial⟩) ?_
    exact ⟨_, _, rfl, by simp, fun h hl hs => absurd (by rw [hs]; exact hexL h) hne⟩
  · skip
    have h64 : s.length = 64 := by simp only [Bool.and_eq_true, Bool.or_eq_true, Bool.and_eq_false_iff, Bool.or_eq_false_iff, Bool.not_eq_true', Bool.not_eq_false', decide_eq_true_eq, decide_eq_false_iff_not, beq_iff_eq, beq_eq_false_iff_ne, bne_iff_ne, bne_eq_false_iff_eq, ne_eq, Int.toNat_natCast] at *; omega
    refine j_bytes Tryz.underlying9 Tryz.underlying46 Tryz.underlying5 rfl (fun v7 c7 ho7 hv7 => ?_)
    obtain ⟨g7, cap7, rfl⟩ := hv7
    refine j_q (qs_lenl Tryz.underlying46 rfl) ?_
    refine j_q (qs_mc) ?_
    refine j_loop (fun m vs S' => ∃ (i : Nat) (l : Bs), vs = [.int .i64 (i : Int)] ∧ S' = [c7, [(g0, .cells (ints l).toArray 51 (0, 0))], []] ∧ l.length = 32 ∧ HxK s l i ∧ i ≤ 64 ∧ m = 64 - i) ⟨_, 0, List.replicate 32 0, rfl, rfl, by simp, (by unfold HxK; exact fun h hl hs => (hx_0 h).symm), by omega, rfl⟩ ?_
    rintro m vs S' hlen ⟨i, l, rfl, rfl, hl32, hk, hin, rfl⟩
    refine j_q (qs_lss rfl rfl) ?_
    refine j_cond rfl (fun hc1 => ?_) (fun hc1 => ?_)
    · skip
      have hi : i < 64 := by
        simp only [Bool.and_eq_true, Bool.or_eq_true, Bool.and_eq_false_iff, Bool.or_eq_false_iff, Bool.not_eq_true', Bool.not_eq_false', decide_eq_true_eq, decide_eq_false_iff_not, beq_iff_eq, beq_eq_false_iff_ne, bne_iff_ne, bne_eq_false_iff_eq, ne_eq, Int.toNat_natCast] at *
        omega
      have hcl := (s.getD i 0).toNat_lt
      refine j_q (qs_ixl0 Tryz.underlying46 sz5 rfl rfl (by omega)) ?_
      refine j_q (qs_loadr8 (own_rd ho7 0 rfl) Tryz.underlying5 rfl (by simp only [Int.toNat_natCast]; omega)) ?_
      simp only [Int.toNat_natCast]
      refine j_q (qs_ac) ?_
      refine j_q (qs_geq rfl rfl) ?_
      refine j_g rfl (fun hb => qs_mt rfl) ?_
      refine j_g rfl (fun hb => qs_leq (gd_eq hb) rfl) ?_
      refine j_q (qs_and rfl rfl) ?_
      refine j_cond rfl (fun hc2 => ?_) (fun hc2 => ?_)
      · skip
        have hd : 48 ≤ ((s.getD i 0).toNat : Int) ∧ ((s.getD i 0).toNat : Int) ≤ 57 := by simp only [Bool.and_eq_true, Bool.or_eq_true, Bool.and_eq_false_iff, Bool.or_eq_false_iff, Bool.not_eq_true', Bool.not_eq_false', decide_eq_true_eq, decide_eq_false_iff_not, beq_iff_eq, beq_eq_false_iff_ne, bne_iff_ne, bne_eq_false_iff_eq, ne_eq, Int.toNat_natCast] at *; omega
        have hk2 : HxK s (l.set (i / 2) (comb (l.getD (i / 2) 0) (IntKind.u8.wrap (((s.getD i 0).toNat : Int) - 48)))) (i + 1) := hxk_step hk hi (fun h hl hs => by rw [hex_char hi hs] at hd ⊢; exact digit_lo (nibs_rng h i).1 (nibs_rng h i).2 hd)
        refine j_q (qs_sub rfl rfl) ?_
        refine j_q (qs_quo64 rfl rfl (by first | omega | (simp only [Bool.and_eq_true, Bool.or_eq_true, Bool.and_eq_false_iff, Bool.or_eq_false_iff, Bool.not_eq_true', Bool.not_eq_false', decide_eq_true_eq, decide_eq_false_iff_not, beq_iff_eq, beq_eq_false_iff_ne, bne_iff_ne, bne_eq_false_iff_eq, ne_eq, Int.toNat_natCast] at *; omega)) (by first | omega | (simp only [Bool.and_eq_true, Bool.or_eq_true, Bool.and_eq_false_iff, Bool.or_eq_false_iff, Bool.not_eq_true', Bool.not_eq_false', decide_eq_true_eq, decide_eq_false_iff_not, beq_iff_eq, beq_eq_false_iff_ne, bne_iff_ne, bne_eq_false_iff_eq, ne_eq, Int.toNat_natCast] at *; omega)) (by first | omega | (simp only [Bool.and_eq_true, Bool.or_eq_true, Bool.and_eq_false_iff, Bool.or_eq_false_iff, Bool.not_eq_true', Bool.not_eq_false', decide_eq_true_eq, decide_eq_false_iff_not, beq_iff_eq, beq_eq_false_iff_ne, bne_iff_ne, bne_eq_false_iff_eq, ne_eq, Int.toNat_natCast] at *; omega))) ?_
        rw [show ((i : Int) / 2) = ((i / 2 : Nat) : Int) by omega]
        refine j_q (qs_quo64 rfl rfl (by first | omega | (simp only [Bool.and_eq_true, Bool.or_eq_true, Bool.and_eq_false_iff, Bool.or_eq_false_iff, Bool.not_eq_true', Bool.not_eq_false', decide_eq_true_eq, decide_eq_false_iff_not, beq_iff_eq, beq_eq_false_iff_ne, bne_iff_ne, bne_eq_false_iff_eq, ne_eq, Int.toNat_natCast] at *; omega)) (by first | omega | (simp only [Bool.and_eq_true, Bool.or_eq_true, Bool.and_eq_false_iff, Bool.or_eq_false_iff, Bool.not_eq_true', Bool.not_eq_false', decide_eq_true_eq, decide_eq_false_iff_not, beq_iff_eq, beq_eq_false_iff_ne, bne_iff_ne, bne_eq_false_iff_eq, ne_eq, Int.toNat_natCast] at *; omega)) (by first | omega | (simp only [Bool.and_eq_true, Bool.or_eq_true, Bool.and_eq_false_iff, Bool.or_eq_false_iff, Bool.not_eq_true', Bool.not_eq_false', decide_eq_true_eq, decide_eq_false_iff_not, beq_iff_eq, beq_eq_false_iff_ne, bne_iff_ne, bne_eq_false_iff_eq, ne_eq, Int.toNat_natCast] at *; omega))) ?_
        rw [show ((i : Int) / 2) = ((i / 2 : Nat) : Int) by omega]
        refine j_q (qs_ix0 Tryz.underlying51 sz5 rfl rfl ⟨by omega, by omega⟩) ?_
        rw [Int.toNat_natCast]
        refine j_q (qs_loadi (l := l) 1 Tryz.underlying5 rfl rfl (by omega)) ?_
        refine j_q (qs_shl rfl rfl (by first | omega | (simp only [Bool.and_eq_true, Bool.or_eq_true, Bool.and_eq_false_iff, Bool.or_eq_false_iff, Bool.not_eq_true', Bool.not_eq_false', decide_eq_true_eq, decide_eq_false_iff_not, beq_iff_eq, beq_eq_false_iff_ne, bne_iff_ne, bne_eq_false_iff_eq, ne_eq, Int.toNat_natCast] at *; omega))) ?_
        refine j_q (qs_or_ rfl rfl) ?_
        rw [bw_by8]
        rw [show (by8 (bw .or .u8 (IntKind.u8.wrap (((l.getD (i / 2) 0).toNat : Int) * 2 ^ min (Int.toNat 4) IntKind.u8.bits)) (IntKind.u8.wrap (((s.getD i 0).toNat : Int) - 48)))) = comb (l.getD (i / 2) 0) (IntKind.u8.wrap (((s.getD i 0).toNat : Int) - 48)) by unfold comb; rfl]
        refine j_q (qs_ix0 Tryz.underlying51 sz5 rfl rfl ⟨by omega, by omega⟩) ?_
        rw [Int.toNat_natCast]
        refine j_storei (l := l) (c := comb (l.getD (i / 2) 0) (IntKind.u8.wrap (((s.getD i 0).toNat : Int) - 48))) 1 sz5 rfl rfl rfl (by omega) ?_
        refine j_q (qs_add64 rfl rfl (by first | omega | (simp only [Bool.and_eq_true, Bool.or_eq_true, Bool.and_eq_false_iff, Bool.or_eq_false_iff, Bool.not_eq_true', Bool.not_eq_false', decide_eq_true_eq, decide_eq_false_iff_not, beq_iff_eq, beq_eq_false_iff_ne, bne_iff_ne, bne_eq_false_iff_eq, ne_eq, Int.toNat_natCast] at *; omega))) ?_
        refine j_back rfl ?_
        exact ⟨64 - (i + 1), by omega, i + 1, _, rfl, rfl, by rw [List.length_set]; exact hl32, hk2, by omega, rfl⟩
      · skip
        have hd : ¬ (48 ≤ ((s.getD i 0).toNat : Int) ∧ ((s.getD i 0).toNat : Int) ≤ 57) := by simp only [Bool.and_eq_true, Bool.or_eq_true, Bool.and_eq_false_iff, Bool.or_eq_false_iff, Bool.not_eq_true', Bool.not_eq_false', decide_eq_true_eq, decide_eq_false_iff_not, beq_iff_eq, beq_eq_false_iff_ne, bne_iff_ne, bne_eq_false_iff_eq, ne_eq, Int.toNat_natCast] at *; omega
        refine j_q (qs_geq rfl rfl) ?_
        refine j_g rfl (fun hb => qs_mt rfl) ?_
        refine j_g rfl (fun hb => qs_leq (gd_eq hb) rfl) ?_
        refine j_q (qs_and rfl rfl) ?_
        refine j_cond rfl (fun hc3 => ?_) (fun hc3 => ?_)
        · skip
          have hk2 : HxK s (l.set (i / 2) (comb (l.getD (i / 2) 0) (IntKind.u8.wrap (IntKind.u8.wrap (((s.getD i 0).toNat : Int) - 97) + 10)))) (i + 1) := hxk_step hk hi (fun h hl hs => by rw [hex_char hi hs] at hd ⊢; exact (digit_hi (nibs_rng h i).1 (nibs_rng h i).2 hd).2)
          refine j_q (qs_sub rfl rfl) ?_
          refine j_q (qs_add rfl rfl) ?_
          refine j_q (qs_quo64 rfl rfl (by first | omega | (simp only [Bool.and_eq_true, Bool.or_eq_true, Bool.and_eq_false_iff, Bool.or_eq_false_iff, Bool.not_eq_true', Bool.not_eq_false', decide_eq_true_eq, decide_eq_false_iff_not, beq_iff_eq, beq_eq_false_iff_ne, bne_iff_ne, bne_eq_false_iff_eq, ne_eq, Int.toNat_natCast] at *; omega)) (by first | omega | (simp only [Bool.and_eq_true, Bool.or_eq_true, Bool.and_eq_false_iff, Bool.or_eq_false_iff, Bool.not_eq_true', Bool.not_eq_false', decide_eq_true_eq, decide_eq_false_iff_not, beq_iff_eq, beq_eq_false_iff_ne, bne_iff_ne, bne_eq_false_iff_eq, ne_eq, Int.toNat_natCast] at *; omega)) (by first | omega | (simp only [Bool.and_eq_true, Bool.or_eq_true, Bool.and_eq_false_iff, Bool.or_eq_false_iff, Bool.not_eq_true', Bool.not_eq_false', decide_eq_true_eq, decide_eq_false_iff_not, beq_iff_eq, beq_eq_false_iff_ne, bne_iff_ne, bne_eq_false_iff_eq, ne_eq, Int.toNat_natCast] at *; omega))) ?_
          rw [show ((i : Int) / 2) = ((i / 2 : Nat) : Int) by omega]
          refine j_q (qs_quo64 rfl rfl (by first | omega | (simp only [Bool.and_eq_true, Bool.or_eq_true, Bool.and_eq_false_iff, Bool.or_eq_false_iff, Bool.not_eq_true', Bool.not_eq_false', decide_eq_true_eq, decide_eq_false_iff_not, beq_iff_eq, beq_eq_false_iff_ne, bne_iff_ne, bne_eq_false_iff_eq, ne_eq, Int.toNat_natCast] at *; omega)) (by first | omega | (simp only [Bool.and_eq_true, Bool.or_eq_true, Bool.and_eq_false_iff, Bool.or_eq_false_iff, Bool.not_eq_true', Bool.not_eq_false', decide_eq_true_eq, decide_eq_false_iff_not, beq_iff_eq, beq_eq_false_iff_ne, bne_iff_ne, bne_eq_false_iff_eq, ne_eq, Int.toNat_natCast] at *; omega)) (by first | omega | (simp only [Bool.and_eq_true, Bool.or_eq_true, Bool.and_eq_false_iff, Bool.or_eq_false_iff, Bool.not_eq_true', Bool.not_eq_false', decide_eq_true_eq, decide_eq_false_iff_not, beq_iff_eq, beq_eq_false_iff_ne, bne_iff_ne, bne_eq_false_iff_eq, ne_eq, Int.toNat_natCast] at *; omega))) ?_
          rw [show ((i : Int) / 2) = ((i / 2 : Nat) : Int) by omega]
          refine j_q (qs_ix0 Tryz.underlying51 sz5 rfl rfl ⟨by omega, by omega⟩) ?_
          rw [Int.toNat_natCast]
          refine j_q (qs_loadi (l := l) 1 Tryz.underlying5 rfl rfl (by omega)) ?_
          refine j_q (qs_shl rfl rfl (by first | omega | (simp only [Bool.and_eq_true, Bool.or_eq_true, Bool.and_eq_false_iff, Bool.or_eq_false_iff, Bool.not_eq_true', Bool.not_eq_false', decide_eq_true_eq, decide_eq_false_iff_not, beq_iff_eq, beq_eq_false_iff_ne, bne_iff_ne, bne_eq_false_iff_eq, ne_eq, Int.toNat_natCast] at *; omega))) ?_
          refine j_q (qs_or_ rfl rfl) ?_
          rw [bw_by8]
          rw [show (by8 (bw .or .u8 (IntKind.u8.wrap (((l.getD (i / 2) 0).toNat : Int) * 2 ^ min (Int.toNat 4) IntKind.u8.bits)) (IntKind.u8.wrap (IntKind.u8.wrap (((s.getD i 0).toNat : Int) - 97) + 10)))) = comb (l.getD (i / 2) 0) (IntKind.u8.wrap (IntKind.u8.wrap (((s.getD i 0).toNat : Int) - 97) + 10)) by unfold comb; rfl]
          refine j_q (qs_ix0 Tryz.underlying51 sz5 rfl rfl ⟨by omega, by omega⟩) ?_
          rw [Int.toNat_natCast]
          refine j_storei (l := l) (c := comb (l.getD (i / 2) 0) (IntKind.u8.wrap (IntKind.u8.wrap (((s.getD i 0).toNat : Int) - 97) + 10))) 1 sz5 rfl rfl rfl (by omega) ?_
          refine j_q (qs_add64 rfl rfl (by first | omega | (simp only [Bool.and_eq_true, Bool.or_eq_true, Bool.and_eq_false_iff, Bool.or_eq_false_iff, Bool.not_eq_true', Bool.not_eq_false', decide_eq_true_eq, decide_eq_false_iff_not, beq_iff_eq, beq_eq_false_iff_ne, bne_iff_ne, bne_eq_false_iff_eq, ne_eq, Int.toNat_natCast] at *; omega))) ?_
          refine j_back rfl ?_
          exact ⟨64 - (i + 1), by omega, i + 1, _, rfl, rfl, by rw [List.length_set]; exact hl32, hk2, by omega, rfl⟩
        · skip
          have hno : ∀ h : Bs, h.length = 32 → s ≠ hex h := fun h hl hs => by
            rw [hex_char hi hs] at hd hc3
            have h2 := (digit_hi (nibs_rng h i).1 (nibs_rng h i).2 hd).1
            simp only [Bool.and_eq_true, Bool.or_eq_true, Bool.and_eq_false_iff, Bool.or_eq_false_iff, Bool.not_eq_true', Bool.not_eq_false', decide_eq_true_eq, decide_eq_false_iff_not, beq_iff_eq, beq_eq_false_iff_ne, bne_iff_ne, bne_eq_false_iff_eq, ne_eq, Int.toNat_natCast] at *
            omega
          refine j_q (qs_run (v := .agg (ints (List.replicate 32 0)).toArray) (fun w => by kernel_rfl)) ?_
          refine j_storew (l := ints l) (vs := ints (List.replicate 32 0)) 1 sz51 rfl rfl rfl ints_one rfl (by rw [ints_length]; exact hl32) ?_
          refine j_q (qs_ac) ?_
          first
            | refine j_ret_con (vs := [_, _]) (fun w' hw' => ⟨rv_agg 0 Tryz.underlying51 rfl sz51 rfl rfl (by first | (rw [ints_length]; exact hl32) | rfl) hw', rfl, trivial⟩) ?_
            | refine j_ret_con (vs := [_, _]) (fun w' hw' => ⟨rv_agg 1 Tryz.underlying51 rfl sz51 rfl rfl (by first | (rw [ints_length]; exact hl32) | rfl) hw', rfl, trivial⟩) ?_
            | refine j_ret_con (vs := [_, _]) (fun w' hw' => ⟨rv_agg 2 Tryz.underlying51 rfl sz51 rfl rfl (by first | (rw [ints_length]; exact hl32) | rfl) hw', rfl, trivial⟩) ?_
          exact ⟨_, _, rfl, by simp, fun h hl hs => absurd hs (hno h hl)⟩
    · skip
      obtain rfl : i = 64 := by
        simp only [Bool.and_eq_true, Bool.or_eq_true, Bool.and_eq_false_iff, Bool.or_eq_false_iff, Bool.not_eq_true', Bool.not_eq_false', decide_eq_true_eq, decide_eq_false_iff_not, beq_iff_eq, beq_eq_false_iff_ne, bne_iff_ne, bne_eq_false_iff_eq, ne_eq, Int.toNat_natCast] at *
        omega
      refine j_q (qs_loadw (l := ints l) 1 Tryz.underlying51 rfl sz51 rfl rfl (by rw [ints_length]; exact hl32)) ?_
      refine j_storew (l := ints l) (vs := ints l) 1 sz51 rfl rfl (by rw [ints_length]; exact hl32) ints_one rfl (by rw [ints_length]; exact hl32) ?_
      refine j_q (qs_ac) ?_
      first
        | refine j_ret_con (vs := [_, _]) (fun w' hw' => ⟨rv_agg 0 Tryz.underlying51 rfl sz51 rfl rfl (by first | (rw [ints_length]; exact hl32) | rfl) hw', rfl, trivial⟩) ?_
        | refine j_ret_con (vs := [_, _]) (fun w' hw' => ⟨rv_agg 1 Tryz.underlying51 rfl sz51 rfl rfl (by first | (rw [ints_length]; exact hl32) | rfl) hw', rfl, trivial⟩) ?_
        | refine j_ret_con (vs := [_, _]) (fun w' hw' => ⟨rv_agg 2 Tryz.underlying51 rfl sz51 rfl rfl (by first | (rw [ints_length]; exact hl32) | rfl) hw', rfl, trivial⟩) ?_
      exact ⟨_, _, rfl, hl32, fun h hl hs => ⟨by unfold HxK at hk; rw [hk h hl hs, hx_64 hl], rfl⟩⟩
end Go.Proofs.YtfeabbeebkkhaaaGreat
