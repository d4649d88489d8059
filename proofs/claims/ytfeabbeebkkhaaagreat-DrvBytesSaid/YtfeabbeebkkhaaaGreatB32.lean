/- Digits to the base thirty-two: what the program's and the document's functions answer. -/
import Derived.Test.YtfeabbeebkkhaaaGreatTa
import Derived.Test.YtfeabbeebkkhaaaGreatSx9
import Derived.Test.YtfeabbeebkkhaaaGreatHex
namespace Go.Proofs.YtfeabbeebkkhaaaGreat
open Go Go.Sx
set_option maxRecDepth 100000
set_option maxHeartbeats 4000000
set_option linter.unusedVariables false
set_option linter.unusedSimpArgs false
attribute [local irreducible] J JQ QS Con W opW
theorem ent110 : Sx.Enters Tryz.prog 110 := ⟨_, Tryz.func110, by kernel_rfl, by kernel_rfl⟩
theorem ent136 : Sx.Enters Tryz.prog 136 := ⟨_, Tryz.func136, by kernel_rfl, by kernel_rfl⟩
theorem ent147 : Sx.Enters Tryz.prog 147 := ⟨_, Tryz.func147, by kernel_rfl, by kernel_rfl⟩

theorem back_lt {n i : Nat} (h : i < n) : n - (i + 1) < n - i := by omega
/-- pantry.b32.Len -/
theorem len_con (n : Nat) (w : World) (hn : n ≤ 16777216) : Con Tryz.prog 147 [.int .i64 n] w [] fun v _ => v = .int .i64 (lenD n : Nat) := by
  refine con_of_tree mix Tryz.func147 T147_ok (by kernel_rfl) ?_
  unfold T147
  refine j_q (qs_ac) ?_
  refine j_q (qs_min rfl rfl) ?_
  refine j_q (qs_max rfl rfl) ?_
  refine j_q (qs_mul64 rfl rfl (by first | omega | (simp only [Bool.and_eq_true, Bool.or_eq_true, Bool.and_eq_false_iff, Bool.or_eq_false_iff, Bool.not_eq_true', Bool.not_eq_false', decide_eq_true_eq, decide_eq_false_iff_not, beq_iff_eq, beq_eq_false_iff_ne, bne_iff_ne, bne_eq_false_iff_eq, ne_eq, Int.toNat_natCast] at *; omega))) ?_
  refine j_q (qs_add64 rfl rfl (by first | omega | (simp only [Bool.and_eq_true, Bool.or_eq_true, Bool.and_eq_false_iff, Bool.or_eq_false_iff, Bool.not_eq_true', Bool.not_eq_false', decide_eq_true_eq, decide_eq_false_iff_not, beq_iff_eq, beq_eq_false_iff_ne, bne_iff_ne, bne_eq_false_iff_eq, ne_eq, Int.toNat_natCast] at *; omega))) ?_
  refine j_q (qs_sub64 rfl rfl (by first | omega | (simp only [Bool.and_eq_true, Bool.or_eq_true, Bool.and_eq_false_iff, Bool.or_eq_false_iff, Bool.not_eq_true', Bool.not_eq_false', decide_eq_true_eq, decide_eq_false_iff_not, beq_iff_eq, beq_eq_false_iff_ne, bne_iff_ne, bne_eq_false_iff_eq, ne_eq, Int.toNat_natCast] at *; omega))) ?_
  refine j_q (qs_quo64 rfl rfl (by first | omega | (simp only [Bool.and_eq_true, Bool.or_eq_true, Bool.and_eq_false_iff, Bool.or_eq_false_iff, Bool.not_eq_true', Bool.not_eq_false', decide_eq_true_eq, decide_eq_false_iff_not, beq_iff_eq, beq_eq_false_iff_ne, bne_iff_ne, bne_eq_false_iff_eq, ne_eq, Int.toNat_natCast] at *; omega)) (by first | omega | (simp only [Bool.and_eq_true, Bool.or_eq_true, Bool.and_eq_false_iff, Bool.or_eq_false_iff, Bool.not_eq_true', Bool.not_eq_false', decide_eq_true_eq, decide_eq_false_iff_not, beq_iff_eq, beq_eq_false_iff_ne, bne_iff_ne, bne_eq_false_iff_eq, ne_eq, Int.toNat_natCast] at *; omega)) (by first | omega | (simp only [Bool.and_eq_true, Bool.or_eq_true, Bool.and_eq_false_iff, Bool.or_eq_false_iff, Bool.not_eq_true', Bool.not_eq_false', decide_eq_true_eq, decide_eq_false_iff_not, beq_iff_eq, beq_eq_false_iff_ne, bne_iff_ne, bne_eq_false_iff_eq, ne_eq, Int.toNat_natCast] at *; omega))) ?_
  refine j_ret_con (vs := [_]) (fun w' hw' => ⟨rfl, trivial⟩) ?_
  show Value.int _ _ = _
  congr 1
  unfold lenD
  omega
/-- pantry.pantryref2.Len -/
theorem rlen_con (n : Nat) (w : World) (hn : n ≤ 16777216) : Con Tryz.prog 110 [.int .i64 n] w [] fun v _ => v = .int .i64 (lenD n : Nat) := by
  refine con_of_tree mix Tryz.func110 T110_ok (by kernel_rfl) ?_
  unfold T110
  refine j_q (qs_ac) ?_
  refine j_q (qs_min rfl rfl) ?_
  refine j_q (qs_max rfl rfl) ?_
  refine j_q (qs_mul64 rfl rfl (by first | omega | (simp only [Bool.and_eq_true, Bool.or_eq_true, Bool.and_eq_false_iff, Bool.or_eq_false_iff, Bool.not_eq_true', Bool.not_eq_false', decide_eq_true_eq, decide_eq_false_iff_not, beq_iff_eq, beq_eq_false_iff_ne, bne_iff_ne, bne_eq_false_iff_eq, ne_eq, Int.toNat_natCast] at *; omega))) ?_
  refine j_q (qs_add64 rfl rfl (by first | omega | (simp only [Bool.and_eq_true, Bool.or_eq_true, Bool.and_eq_false_iff, Bool.or_eq_false_iff, Bool.not_eq_true', Bool.not_eq_false', decide_eq_true_eq, decide_eq_false_iff_not, beq_iff_eq, beq_eq_false_iff_ne, bne_iff_ne, bne_eq_false_iff_eq, ne_eq, Int.toNat_natCast] at *; omega))) ?_
  refine j_q (qs_quo64 rfl rfl (by first | omega | (simp only [Bool.and_eq_true, Bool.or_eq_true, Bool.and_eq_false_iff, Bool.or_eq_false_iff, Bool.not_eq_true', Bool.not_eq_false', decide_eq_true_eq, decide_eq_false_iff_not, beq_iff_eq, beq_eq_false_iff_ne, bne_iff_ne, bne_eq_false_iff_eq, ne_eq, Int.toNat_natCast] at *; omega)) (by first | omega | (simp only [Bool.and_eq_true, Bool.or_eq_true, Bool.and_eq_false_iff, Bool.or_eq_false_iff, Bool.not_eq_true', Bool.not_eq_false', decide_eq_true_eq, decide_eq_false_iff_not, beq_iff_eq, beq_eq_false_iff_ne, bne_iff_ne, bne_eq_false_iff_eq, ne_eq, Int.toNat_natCast] at *; omega)) (by first | omega | (simp only [Bool.and_eq_true, Bool.or_eq_true, Bool.and_eq_false_iff, Bool.or_eq_false_iff, Bool.not_eq_true', Bool.not_eq_false', decide_eq_true_eq, decide_eq_false_iff_not, beq_iff_eq, beq_eq_false_iff_ne, bne_iff_ne, bne_eq_false_iff_eq, ne_eq, Int.toNat_natCast] at *; omega))) ?_
  refine j_ret_con (vs := [_]) (fun w' hw' => ⟨rfl, trivial⟩) ?_
  show Value.int _ _ = _
  congr 1
  unfold lenD
  omega
/-- pantry.b32.Text -/
theorem text_con (p : List UInt8) (a : Addr) (c : Nat) (w : World) (hpm : p.length ≤ 16777216) (hpc : Cells w a (ints p)) : Con Tryz.prog 132 [.slice (some a) p.length c] w [] fun v _ => v = .string (bs (text32 p)) := by
  refine con_of_tree mix Tryz.func132 T132_ok (by kernel_rfl) ?_
  unfold T132
  have hld : lenD p.length ≤ 33554432 := by unfold lenD; omega
  refine j_q (qs_ac) ?_
  refine j_q (qs_lenl Tryz.underlying46 rfl) ?_
  refine j_q (qs_call ent147 rfl rfl rfl (fun w' hw' => len_con p.length w' hpm)) ?_
  refine j_make Tryz.underlying46 sb5 zero5 rfl (by decide) rfl rfl (by first | omega | (simp only [Bool.and_eq_true, Bool.or_eq_true, Bool.and_eq_false_iff, Bool.or_eq_false_iff, Bool.not_eq_true', Bool.not_eq_false', decide_eq_true_eq, decide_eq_false_iff_not, beq_iff_eq, beq_eq_false_iff_ne, bne_iff_ne, bne_eq_false_iff_eq, ne_eq, Int.toNat_natCast] at *; omega)) (by first | omega | (simp only [Bool.and_eq_true, Bool.or_eq_true, Bool.and_eq_false_iff, Bool.or_eq_false_iff, Bool.not_eq_true', Bool.not_eq_false', decide_eq_true_eq, decide_eq_false_iff_not, beq_iff_eq, beq_eq_false_iff_ne, bne_iff_ne, bne_eq_false_iff_eq, ne_eq, Int.toNat_natCast] at *; omega)) (fun g3 v3 c3 hv3 hc3 ho3 => ?_)
  subst hv3 hc3
  rw [ints_rep]
  refine j_q (qs_ac) ?_
  refine j_q (qs_ac) ?_
  refine j_q (qs_ac) ?_
  refine j_q (qs_lenl Tryz.underlying46 rfl) ?_
  refine j_q (qs_mc) ?_
  refine j_loop (fun m vs S' => ∃ (i at_ h bits : Nat), vs = [.int .u32 bits, .int .u64 h, .int .i64 at_, .int .i64 i] ∧ S' = [[(g3, .cells (ints (List.replicate (lenD p.length - i) 0 ++ digs (numL p) i)).toArray 5 (0, 0))], []] ∧ Buf p i at_ h bits ∧ i ≤ lenD p.length ∧ m = lenD p.length - i) ⟨_, 0, 0, 0, 0, rfl, by simp [digs], Buf.start p, by omega, rfl⟩ ?_
  rintro m vs S' hlen ⟨i, at_, h, bits, rfl, rfl, B, hi, rfl⟩
  have hba := B.a_le
  have hbh := B.h_le
  clear hlen
  refine j_q (qs_lss rfl rfl) ?_
  refine j_cond rfl (fun hc0 => ?_) (fun hc0 => ?_)
  · skip
    have hi1 : i < lenD p.length := by
      simp only [Bool.and_eq_true, Bool.or_eq_true, Bool.and_eq_false_iff, Bool.or_eq_false_iff, Bool.not_eq_true', Bool.not_eq_false', decide_eq_true_eq, decide_eq_false_iff_not, beq_iff_eq, beq_eq_false_iff_ne, bne_iff_ne, bne_eq_false_iff_eq, ne_eq, Int.toNat_natCast] at *
      omega
    refine j_q (qs_lss rfl rfl) ?_
    refine j_g rfl (fun hb => qs_mt rfl) ?_
    refine j_g rfl (fun hb => qs_mt rfl) ?_
    refine j_g rfl (fun hb => qs_lenl Tryz.underlying46 (gd_eq hb)) ?_
    refine j_g rfl (fun hb => qs_lss (gd_eq hb) (gd_eq hb)) ?_
    refine j_q (qs_and rfl rfl) ?_
    refine j_cond rfl (fun hc1 => ?_) (fun hc1 => ?_)
    · skip
      have hh1 : h < 5 := by
        simp only [Bool.and_eq_true, Bool.or_eq_true, Bool.and_eq_false_iff, Bool.or_eq_false_iff, Bool.not_eq_true', Bool.not_eq_false', decide_eq_true_eq, decide_eq_false_iff_not, beq_iff_eq, beq_eq_false_iff_ne, bne_iff_ne, bne_eq_false_iff_eq, ne_eq, Int.toNat_natCast] at *
        omega
      have ha1 : at_ < p.length := by
        simp only [Bool.and_eq_true, Bool.or_eq_true, Bool.and_eq_false_iff, Bool.or_eq_false_iff, Bool.not_eq_true', Bool.not_eq_false', decide_eq_true_eq, decide_eq_false_iff_not, beq_iff_eq, beq_eq_false_iff_ne, bne_iff_ne, bne_eq_false_iff_eq, ne_eq, Int.toNat_natCast] at *
        omega
      first
        | refine j_q (qs_ixg Tryz.underlying46 sz5 rfl rfl ⟨(by first | omega | (simp only [Bool.and_eq_true, Bool.or_eq_true, Bool.and_eq_false_iff, Bool.or_eq_false_iff, Bool.not_eq_true', Bool.not_eq_false', decide_eq_true_eq, decide_eq_false_iff_not, beq_iff_eq, beq_eq_false_iff_ne, bne_iff_ne, bne_eq_false_iff_eq, ne_eq, Int.toNat_natCast] at *; omega)), (by first | omega | (simp only [Bool.and_eq_true, Bool.or_eq_true, Bool.and_eq_false_iff, Bool.or_eq_false_iff, Bool.not_eq_true', Bool.not_eq_false', decide_eq_true_eq, decide_eq_false_iff_not, beq_iff_eq, beq_eq_false_iff_ne, bne_iff_ne, bne_eq_false_iff_eq, ne_eq, Int.toNat_natCast] at *; omega))⟩) ?_
        | refine j_q (qs_ixl0 Tryz.underlying46 sz5 rfl rfl ⟨(by first | omega | (simp only [Bool.and_eq_true, Bool.or_eq_true, Bool.and_eq_false_iff, Bool.or_eq_false_iff, Bool.not_eq_true', Bool.not_eq_false', decide_eq_true_eq, decide_eq_false_iff_not, beq_iff_eq, beq_eq_false_iff_ne, bne_iff_ne, bne_eq_false_iff_eq, ne_eq, Int.toNat_natCast] at *; omega)), (by first | omega | (simp only [Bool.and_eq_true, Bool.or_eq_true, Bool.and_eq_false_iff, Bool.or_eq_false_iff, Bool.not_eq_true', Bool.not_eq_false', decide_eq_true_eq, decide_eq_false_iff_not, beq_iff_eq, beq_eq_false_iff_ne, bne_iff_ne, bne_eq_false_iff_eq, ne_eq, Int.toNat_natCast] at *; omega))⟩) ?_
      first
        | refine j_q (qs_loadr8 (rd_cells hpc (by simp)) Tryz.underlying5 rfl (by first | omega | (simp only [Bool.and_eq_true, Bool.or_eq_true, Bool.and_eq_false_iff, Bool.or_eq_false_iff, Bool.not_eq_true', Bool.not_eq_false', decide_eq_true_eq, decide_eq_false_iff_not, beq_iff_eq, beq_eq_false_iff_ne, bne_iff_ne, bne_eq_false_iff_eq, ne_eq, Int.toNat_natCast] at *; omega))) ?_
        | refine j_q (qs_loadk 0 Tryz.underlying5 rfl rfl (by first | omega | (simp only [Bool.and_eq_true, Bool.or_eq_true, Bool.and_eq_false_iff, Bool.or_eq_false_iff, Bool.not_eq_true', Bool.not_eq_false', decide_eq_true_eq, decide_eq_false_iff_not, beq_iff_eq, beq_eq_false_iff_ne, bne_iff_ne, bne_eq_false_iff_eq, ne_eq, Int.toNat_natCast] at *; omega))) ?_
        | refine j_q (qs_loadk 1 Tryz.underlying5 rfl rfl (by first | omega | (simp only [Bool.and_eq_true, Bool.or_eq_true, Bool.and_eq_false_iff, Bool.or_eq_false_iff, Bool.not_eq_true', Bool.not_eq_false', decide_eq_true_eq, decide_eq_false_iff_not, beq_iff_eq, beq_eq_false_iff_ne, bne_iff_ne, bne_eq_false_iff_eq, ne_eq, Int.toNat_natCast] at *; omega))) ?_
        | refine j_q (qs_loadi 0 Tryz.underlying5 rfl rfl (by first | omega | (simp only [Bool.and_eq_true, Bool.or_eq_true, Bool.and_eq_false_iff, Bool.or_eq_false_iff, Bool.not_eq_true', Bool.not_eq_false', decide_eq_true_eq, decide_eq_false_iff_not, beq_iff_eq, beq_eq_false_iff_ne, bne_iff_ne, bne_eq_false_iff_eq, ne_eq, Int.toNat_natCast] at *; omega))) ?_
        | refine j_q (qs_loadi 1 Tryz.underlying5 rfl rfl (by first | omega | (simp only [Bool.and_eq_true, Bool.or_eq_true, Bool.and_eq_false_iff, Bool.or_eq_false_iff, Bool.not_eq_true', Bool.not_eq_false', decide_eq_true_eq, decide_eq_false_iff_not, beq_iff_eq, beq_eq_false_iff_ne, bne_iff_ne, bne_eq_false_iff_eq, ne_eq, Int.toNat_natCast] at *; omega))) ?_
        | refine j_q (qs_load 0 Tryz.underlying5 rfl rfl rfl rfl) ?_
        | refine j_q (qs_load 1 Tryz.underlying5 rfl rfl rfl rfl) ?_
      try rw [Int.toNat_natCast]
      refine j_q (qs_conv Tryz.underlying5 Tryz.underlying145 rfl) ?_
      refine j_q (qs_shl rfl rfl (by first | omega | (simp only [Bool.and_eq_true, Bool.or_eq_true, Bool.and_eq_false_iff, Bool.or_eq_false_iff, Bool.not_eq_true', Bool.not_eq_false', decide_eq_true_eq, decide_eq_false_iff_not, beq_iff_eq, beq_eq_false_iff_ne, bne_iff_ne, bne_eq_false_iff_eq, ne_eq, Int.toNat_natCast] at *; omega))) ?_
      refine j_q (qs_or_ rfl rfl) ?_
      have e20 : bw .or .u32 (bits : Int) (IntKind.u32.wrap (IntKind.u32.wrap ((p.getD at_ 0).toNat : Int) * 2 ^ min ((h : Int)).toNat IntKind.u32.bits)) = _ := or32 bits (p.getD at_ 0).toNat h B.lt (UInt8.toNat_lt _) B.h_le
      rw [e20]
      have hnx := B.next1 ha1 hh1
      have hX := B.next1 ha1 hh1
      obtain ⟨X, hXe⟩ : ∃ X, X = bits + (p.getD at_ 0).toNat * 2 ^ h := ⟨_, rfl⟩
      rw [← hXe] at hnx ⊢
      have hXb : X < 65536 := by
        rw [hXe]
        have h1 : 2 ^ h ≤ 16 := Nat.pow_le_pow_right (n := 2) (by decide) (by omega : h ≤ 4)
        have h2 := B.lt
        have h3 : (p.getD at_ 0).toNat * 2 ^ h ≤ 255 * 16 := Nat.mul_le_mul (by have := (p.getD at_ 0).toNat_lt; omega) h1
        omega
      refine j_q (qs_add rfl rfl) ?_
      rw [IntWalk.u64_in _ (by omega)]
      refine j_q (qs_add64 rfl rfl (by first | omega | (simp only [Bool.and_eq_true, Bool.or_eq_true, Bool.and_eq_false_iff, Bool.or_eq_false_iff, Bool.not_eq_true', Bool.not_eq_false', decide_eq_true_eq, decide_eq_false_iff_not, beq_iff_eq, beq_eq_false_iff_ne, bne_iff_ne, bne_eq_false_iff_eq, ne_eq, Int.toNat_natCast] at *; omega))) ?_
      refine j_q (qs_sub64 rfl rfl (by first | omega | (simp only [Bool.and_eq_true, Bool.or_eq_true, Bool.and_eq_false_iff, Bool.or_eq_false_iff, Bool.not_eq_true', Bool.not_eq_false', decide_eq_true_eq, decide_eq_false_iff_not, beq_iff_eq, beq_eq_false_iff_ne, bne_iff_ne, bne_eq_false_iff_eq, ne_eq, Int.toNat_natCast] at *; omega))) ?_
      refine j_q (qs_sub64 rfl rfl (by first | omega | (simp only [Bool.and_eq_true, Bool.or_eq_true, Bool.and_eq_false_iff, Bool.or_eq_false_iff, Bool.not_eq_true', Bool.not_eq_false', decide_eq_true_eq, decide_eq_false_iff_not, beq_iff_eq, beq_eq_false_iff_ne, bne_iff_ne, bne_eq_false_iff_eq, ne_eq, Int.toNat_natCast] at *; omega))) ?_
      refine j_q (qs_and_ rfl rfl) ?_
      have e25 : bw .and .u32 (X : Int) 31 = _ := and32 X (by omega)
      rw [e25]
      refine j_q (qs_idx (l := DIG) Tryz.underlying9 rfl rfl ⟨by omega, by show _ < ((32 : Nat) : Int); omega⟩) ?_
      rw [Int.toNat_natCast, hnx.1]
      first
        | refine j_q (qs_ixg Tryz.underlying46 sz5 rfl rfl ⟨(by first | omega | (simp only [Bool.and_eq_true, Bool.or_eq_true, Bool.and_eq_false_iff, Bool.or_eq_false_iff, Bool.not_eq_true', Bool.not_eq_false', decide_eq_true_eq, decide_eq_false_iff_not, beq_iff_eq, beq_eq_false_iff_ne, bne_iff_ne, bne_eq_false_iff_eq, ne_eq, Int.toNat_natCast] at *; omega)), (by first | omega | (simp only [Bool.and_eq_true, Bool.or_eq_true, Bool.and_eq_false_iff, Bool.or_eq_false_iff, Bool.not_eq_true', Bool.not_eq_false', decide_eq_true_eq, decide_eq_false_iff_not, beq_iff_eq, beq_eq_false_iff_ne, bne_iff_ne, bne_eq_false_iff_eq, ne_eq, Int.toNat_natCast] at *; omega))⟩) ?_
        | refine j_q (qs_ixl0 Tryz.underlying46 sz5 rfl rfl ⟨(by first | omega | (simp only [Bool.and_eq_true, Bool.or_eq_true, Bool.and_eq_false_iff, Bool.or_eq_false_iff, Bool.not_eq_true', Bool.not_eq_false', decide_eq_true_eq, decide_eq_false_iff_not, beq_iff_eq, beq_eq_false_iff_ne, bne_iff_ne, bne_eq_false_iff_eq, ne_eq, Int.toNat_natCast] at *; omega)), (by first | omega | (simp only [Bool.and_eq_true, Bool.or_eq_true, Bool.and_eq_false_iff, Bool.or_eq_false_iff, Bool.not_eq_true', Bool.not_eq_false', decide_eq_true_eq, decide_eq_false_iff_not, beq_iff_eq, beq_eq_false_iff_ne, bne_iff_ne, bne_eq_false_iff_eq, ne_eq, Int.toNat_natCast] at *; omega))⟩) ?_
      have hset : (List.replicate (lenD p.length - i) (0 : UInt8) ++ digs (numL p) i).set ((lenD p.length : Int) - 1 - (i : Int)).toNat (DIG.getD (dg (numL p) i) 0) = List.replicate (lenD p.length - (i + 1)) 0 ++ digs (numL p) (i + 1) := by
        rw [show ((lenD p.length : Int) - 1 - (i : Int)).toNat = lenD p.length - 1 - i by omega]
        exact digs_put hi1
      refine j_storei 0 sz5 rfl rfl rfl (by simp [digs_length]; omega) ?_
      rw [hset]
      refine j_q (qs_shr rfl rfl (by first | omega | (simp only [Bool.and_eq_true, Bool.or_eq_true, Bool.and_eq_false_iff, Bool.or_eq_false_iff, Bool.not_eq_true', Bool.not_eq_false', decide_eq_true_eq, decide_eq_false_iff_not, beq_iff_eq, beq_eq_false_iff_ne, bne_iff_ne, bne_eq_false_iff_eq, ne_eq, Int.toNat_natCast] at *; omega))) ?_
      have e29 : (X : Int).fdiv (2 ^ min (Int.toNat 5) IntKind.u32.bits) = _ := shr5 X
      rw [e29]
      refine j_q (qs_max rfl rfl) ?_
      refine j_q (qs_sub rfl rfl) ?_
      rw [show max ((h : Int) + 8) 5 - 5 = ((h + 8 - 5 : Nat) : Int) by omega, IntWalk.u64_in _ (by omega)]
      refine j_q (qs_add64 rfl rfl (by first | omega | (simp only [Bool.and_eq_true, Bool.or_eq_true, Bool.and_eq_false_iff, Bool.or_eq_false_iff, Bool.not_eq_true', Bool.not_eq_false', decide_eq_true_eq, decide_eq_false_iff_not, beq_iff_eq, beq_eq_false_iff_ne, bne_iff_ne, bne_eq_false_iff_eq, ne_eq, Int.toNat_natCast] at *; omega))) ?_
      refine j_back rfl ?_
      exact ⟨_, back_lt hi1, i + 1, at_ + 1, h + 8 - 5, X / 32, rfl, rfl, hnx.2, by omega, rfl⟩
    · skip
      have hn1 : ¬ (h < 5 ∧ at_ < p.length) := by
        simp only [Bool.and_eq_true, Bool.or_eq_true, Bool.and_eq_false_iff, Bool.or_eq_false_iff, Bool.not_eq_true', Bool.not_eq_false', decide_eq_true_eq, decide_eq_false_iff_not, beq_iff_eq, beq_eq_false_iff_ne, bne_iff_ne, bne_eq_false_iff_eq, ne_eq, Int.toNat_natCast] at *
        omega
      have hnx := B.next0 hn1
      have hXb : bits < 65536 := by
        have h1 : 2 ^ h ≤ 128 := Nat.pow_le_pow_right (n := 2) (by decide) hbh
        have h2 := B.lt
        omega
      refine j_q (qs_sub64 rfl rfl (by first | omega | (simp only [Bool.and_eq_true, Bool.or_eq_true, Bool.and_eq_false_iff, Bool.or_eq_false_iff, Bool.not_eq_true', Bool.not_eq_false', decide_eq_true_eq, decide_eq_false_iff_not, beq_iff_eq, beq_eq_false_iff_ne, bne_iff_ne, bne_eq_false_iff_eq, ne_eq, Int.toNat_natCast] at *; omega))) ?_
      refine j_q (qs_sub64 rfl rfl (by first | omega | (simp only [Bool.and_eq_true, Bool.or_eq_true, Bool.and_eq_false_iff, Bool.or_eq_false_iff, Bool.not_eq_true', Bool.not_eq_false', decide_eq_true_eq, decide_eq_false_iff_not, beq_iff_eq, beq_eq_false_iff_ne, bne_iff_ne, bne_eq_false_iff_eq, ne_eq, Int.toNat_natCast] at *; omega))) ?_
      refine j_q (qs_and_ rfl rfl) ?_
      have e25 : bw .and .u32 (bits : Int) 31 = _ := and32 bits (by omega)
      rw [e25]
      refine j_q (qs_idx (l := DIG) Tryz.underlying9 rfl rfl ⟨by omega, by show _ < ((32 : Nat) : Int); omega⟩) ?_
      rw [Int.toNat_natCast, hnx.1]
      first
        | refine j_q (qs_ixg Tryz.underlying46 sz5 rfl rfl ⟨(by first | omega | (simp only [Bool.and_eq_true, Bool.or_eq_true, Bool.and_eq_false_iff, Bool.or_eq_false_iff, Bool.not_eq_true', Bool.not_eq_false', decide_eq_true_eq, decide_eq_false_iff_not, beq_iff_eq, beq_eq_false_iff_ne, bne_iff_ne, bne_eq_false_iff_eq, ne_eq, Int.toNat_natCast] at *; omega)), (by first | omega | (simp only [Bool.and_eq_true, Bool.or_eq_true, Bool.and_eq_false_iff, Bool.or_eq_false_iff, Bool.not_eq_true', Bool.not_eq_false', decide_eq_true_eq, decide_eq_false_iff_not, beq_iff_eq, beq_eq_false_iff_ne, bne_iff_ne, bne_eq_false_iff_eq, ne_eq, Int.toNat_natCast] at *; omega))⟩) ?_
        | refine j_q (qs_ixl0 Tryz.underlying46 sz5 rfl rfl ⟨(by first | omega | (simp only [Bool.and_eq_true, Bool.or_eq_true, Bool.and_eq_false_iff, Bool.or_eq_false_iff, Bool.not_eq_true', Bool.not_eq_false', decide_eq_true_eq, decide_eq_false_iff_not, beq_iff_eq, beq_eq_false_iff_ne, bne_iff_ne, bne_eq_false_iff_eq, ne_eq, Int.toNat_natCast] at *; omega)), (by first | omega | (simp only [Bool.and_eq_true, Bool.or_eq_true, Bool.and_eq_false_iff, Bool.or_eq_false_iff, Bool.not_eq_true', Bool.not_eq_false', decide_eq_true_eq, decide_eq_false_iff_not, beq_iff_eq, beq_eq_false_iff_ne, bne_iff_ne, bne_eq_false_iff_eq, ne_eq, Int.toNat_natCast] at *; omega))⟩) ?_
      have hset : (List.replicate (lenD p.length - i) (0 : UInt8) ++ digs (numL p) i).set ((lenD p.length : Int) - 1 - (i : Int)).toNat (DIG.getD (dg (numL p) i) 0) = List.replicate (lenD p.length - (i + 1)) 0 ++ digs (numL p) (i + 1) := by
        rw [show ((lenD p.length : Int) - 1 - (i : Int)).toNat = lenD p.length - 1 - i by omega]
        exact digs_put hi1
      refine j_storei 0 sz5 rfl rfl rfl (by simp [digs_length]; omega) ?_
      rw [hset]
      refine j_q (qs_shr rfl rfl (by first | omega | (simp only [Bool.and_eq_true, Bool.or_eq_true, Bool.and_eq_false_iff, Bool.or_eq_false_iff, Bool.not_eq_true', Bool.not_eq_false', decide_eq_true_eq, decide_eq_false_iff_not, beq_iff_eq, beq_eq_false_iff_ne, bne_iff_ne, bne_eq_false_iff_eq, ne_eq, Int.toNat_natCast] at *; omega))) ?_
      have e29 : (bits : Int).fdiv (2 ^ min (Int.toNat 5) IntKind.u32.bits) = _ := shr5 bits
      rw [e29]
      refine j_q (qs_max rfl rfl) ?_
      refine j_q (qs_sub rfl rfl) ?_
      rw [show max (h : Int) 5 - 5 = ((max h 5 - 5 : Nat) : Int) by omega, IntWalk.u64_in _ (by omega)]
      refine j_q (qs_add64 rfl rfl (by first | omega | (simp only [Bool.and_eq_true, Bool.or_eq_true, Bool.and_eq_false_iff, Bool.or_eq_false_iff, Bool.not_eq_true', Bool.not_eq_false', decide_eq_true_eq, decide_eq_false_iff_not, beq_iff_eq, beq_eq_false_iff_ne, bne_iff_ne, bne_eq_false_iff_eq, ne_eq, Int.toNat_natCast] at *; omega))) ?_
      refine j_back rfl ?_
      exact ⟨_, back_lt hi1, i + 1, at_, max h 5 - 5, bits / 32, rfl, rfl, hnx.2, by omega, rfl⟩
  · skip
    have hi1 : i = lenD p.length := by
      simp only [Bool.and_eq_true, Bool.or_eq_true, Bool.and_eq_false_iff, Bool.or_eq_false_iff, Bool.not_eq_true', Bool.not_eq_false', decide_eq_true_eq, decide_eq_false_iff_not, beq_iff_eq, beq_eq_false_iff_ne, bne_iff_ne, bne_eq_false_iff_eq, ne_eq, Int.toNat_natCast] at *
      omega
    obtain rfl := hi1
    rw [Nat.sub_self]
    refine j_q (qs_str (l := text32 p) Tryz.underlying46 Tryz.underlying5 Tryz.underlying9 (by rw [text32_length]; rfl) (rd_own (n := (text32 p).length) 0 rfl (by rw [List.drop_zero, List.take_of_length_le (by simp [ints, text32])]; rfl))) ?_
    refine j_ret_con (vs := [_]) (fun w' hw' => ⟨rfl, trivial⟩) ?_
    rfl
/-- pantry.pantryref2.bit -/
theorem bit_con (p : List UInt8) (k : Nat) (a : Addr) (c : Nat) (w : World) (hk : k ≤ 268435456) (hpc : Cells w a (ints p)) : Con Tryz.prog 136 [.slice (some a) p.length c, .int .i64 k] w [] fun v _ => v = .int .i64 (numL p / 2 ^ k % 2 : Nat) := by
  refine con_of_tree mix Tryz.func136 T136_ok (by kernel_rfl) ?_
  unfold T136
  refine j_q (qs_ac) ?_
  refine j_q (qs_quo64 rfl rfl (by first | omega | (simp only [Bool.and_eq_true, Bool.or_eq_true, Bool.and_eq_false_iff, Bool.or_eq_false_iff, Bool.not_eq_true', Bool.not_eq_false', decide_eq_true_eq, decide_eq_false_iff_not, beq_iff_eq, beq_eq_false_iff_ne, bne_iff_ne, bne_eq_false_iff_eq, ne_eq, Int.toNat_natCast] at *; omega)) (by first | omega | (simp only [Bool.and_eq_true, Bool.or_eq_true, Bool.and_eq_false_iff, Bool.or_eq_false_iff, Bool.not_eq_true', Bool.not_eq_false', decide_eq_true_eq, decide_eq_false_iff_not, beq_iff_eq, beq_eq_false_iff_ne, bne_iff_ne, bne_eq_false_iff_eq, ne_eq, Int.toNat_natCast] at *; omega)) (by first | omega | (simp only [Bool.and_eq_true, Bool.or_eq_true, Bool.and_eq_false_iff, Bool.or_eq_false_iff, Bool.not_eq_true', Bool.not_eq_false', decide_eq_true_eq, decide_eq_false_iff_not, beq_iff_eq, beq_eq_false_iff_ne, bne_iff_ne, bne_eq_false_iff_eq, ne_eq, Int.toNat_natCast] at *; omega))) ?_
  refine j_q (qs_lenl Tryz.underlying46 rfl) ?_
  refine j_q (qs_geq rfl rfl) ?_
  refine j_cond rfl (fun hc0 => ?_) (fun hc0 => ?_)
  · skip
    have hk1 : p.length ≤ k / 8 := by
      simp only [Bool.and_eq_true, Bool.or_eq_true, Bool.and_eq_false_iff, Bool.or_eq_false_iff, Bool.not_eq_true', Bool.not_eq_false', decide_eq_true_eq, decide_eq_false_iff_not, beq_iff_eq, beq_eq_false_iff_ne, bne_iff_ne, bne_eq_false_iff_eq, ne_eq, Int.toNat_natCast] at *
      omega
    refine j_q (qs_ac) ?_
    refine j_ret_con (vs := [_]) (fun w' hw' => ⟨rfl, trivial⟩) ?_
    show Value.int _ _ = _
    rw [bit_past p k hk1]
    rfl
  · skip
    have hk1 : k / 8 < p.length := by
      simp only [Bool.and_eq_true, Bool.or_eq_true, Bool.and_eq_false_iff, Bool.or_eq_false_iff, Bool.not_eq_true', Bool.not_eq_false', decide_eq_true_eq, decide_eq_false_iff_not, beq_iff_eq, beq_eq_false_iff_ne, bne_iff_ne, bne_eq_false_iff_eq, ne_eq, Int.toNat_natCast] at *
      omega
    refine j_q (qs_quo64 rfl rfl (by first | omega | (simp only [Bool.and_eq_true, Bool.or_eq_true, Bool.and_eq_false_iff, Bool.or_eq_false_iff, Bool.not_eq_true', Bool.not_eq_false', decide_eq_true_eq, decide_eq_false_iff_not, beq_iff_eq, beq_eq_false_iff_ne, bne_iff_ne, bne_eq_false_iff_eq, ne_eq, Int.toNat_natCast] at *; omega)) (by first | omega | (simp only [Bool.and_eq_true, Bool.or_eq_true, Bool.and_eq_false_iff, Bool.or_eq_false_iff, Bool.not_eq_true', Bool.not_eq_false', decide_eq_true_eq, decide_eq_false_iff_not, beq_iff_eq, beq_eq_false_iff_ne, bne_iff_ne, bne_eq_false_iff_eq, ne_eq, Int.toNat_natCast] at *; omega)) (by first | omega | (simp only [Bool.and_eq_true, Bool.or_eq_true, Bool.and_eq_false_iff, Bool.or_eq_false_iff, Bool.not_eq_true', Bool.not_eq_false', decide_eq_true_eq, decide_eq_false_iff_not, beq_iff_eq, beq_eq_false_iff_ne, bne_iff_ne, bne_eq_false_iff_eq, ne_eq, Int.toNat_natCast] at *; omega))) ?_
    first
      | refine j_q (qs_ixg Tryz.underlying46 sz5 rfl rfl ⟨(by first | omega | (simp only [Bool.and_eq_true, Bool.or_eq_true, Bool.and_eq_false_iff, Bool.or_eq_false_iff, Bool.not_eq_true', Bool.not_eq_false', decide_eq_true_eq, decide_eq_false_iff_not, beq_iff_eq, beq_eq_false_iff_ne, bne_iff_ne, bne_eq_false_iff_eq, ne_eq, Int.toNat_natCast] at *; omega)), (by first | omega | (simp only [Bool.and_eq_true, Bool.or_eq_true, Bool.and_eq_false_iff, Bool.or_eq_false_iff, Bool.not_eq_true', Bool.not_eq_false', decide_eq_true_eq, decide_eq_false_iff_not, beq_iff_eq, beq_eq_false_iff_ne, bne_iff_ne, bne_eq_false_iff_eq, ne_eq, Int.toNat_natCast] at *; omega))⟩) ?_
      | refine j_q (qs_ixl0 Tryz.underlying46 sz5 rfl rfl ⟨(by first | omega | (simp only [Bool.and_eq_true, Bool.or_eq_true, Bool.and_eq_false_iff, Bool.or_eq_false_iff, Bool.not_eq_true', Bool.not_eq_false', decide_eq_true_eq, decide_eq_false_iff_not, beq_iff_eq, beq_eq_false_iff_ne, bne_iff_ne, bne_eq_false_iff_eq, ne_eq, Int.toNat_natCast] at *; omega)), (by first | omega | (simp only [Bool.and_eq_true, Bool.or_eq_true, Bool.and_eq_false_iff, Bool.or_eq_false_iff, Bool.not_eq_true', Bool.not_eq_false', decide_eq_true_eq, decide_eq_false_iff_not, beq_iff_eq, beq_eq_false_iff_ne, bne_iff_ne, bne_eq_false_iff_eq, ne_eq, Int.toNat_natCast] at *; omega))⟩) ?_
    first
      | refine j_q (qs_loadr8 (rd_cells hpc (by simp)) Tryz.underlying5 rfl (by first | omega | (simp only [Bool.and_eq_true, Bool.or_eq_true, Bool.and_eq_false_iff, Bool.or_eq_false_iff, Bool.not_eq_true', Bool.not_eq_false', decide_eq_true_eq, decide_eq_false_iff_not, beq_iff_eq, beq_eq_false_iff_ne, bne_iff_ne, bne_eq_false_iff_eq, ne_eq, Int.toNat_natCast] at *; omega))) ?_
      | refine j_q (qs_loadk 0 Tryz.underlying5 rfl rfl (by first | omega | (simp only [Bool.and_eq_true, Bool.or_eq_true, Bool.and_eq_false_iff, Bool.or_eq_false_iff, Bool.not_eq_true', Bool.not_eq_false', decide_eq_true_eq, decide_eq_false_iff_not, beq_iff_eq, beq_eq_false_iff_ne, bne_iff_ne, bne_eq_false_iff_eq, ne_eq, Int.toNat_natCast] at *; omega))) ?_
      | refine j_q (qs_loadi 0 Tryz.underlying5 rfl rfl (by first | omega | (simp only [Bool.and_eq_true, Bool.or_eq_true, Bool.and_eq_false_iff, Bool.or_eq_false_iff, Bool.not_eq_true', Bool.not_eq_false', decide_eq_true_eq, decide_eq_false_iff_not, beq_iff_eq, beq_eq_false_iff_ne, bne_iff_ne, bne_eq_false_iff_eq, ne_eq, Int.toNat_natCast] at *; omega))) ?_
      | refine j_q (qs_load 0 Tryz.underlying5 rfl rfl rfl rfl) ?_
    rw [show ((k : Int) / 8).toNat = k / 8 by omega]
    refine j_q (qs_rem64 rfl rfl (by first | omega | (simp only [Bool.and_eq_true, Bool.or_eq_true, Bool.and_eq_false_iff, Bool.or_eq_false_iff, Bool.not_eq_true', Bool.not_eq_false', decide_eq_true_eq, decide_eq_false_iff_not, beq_iff_eq, beq_eq_false_iff_ne, bne_iff_ne, bne_eq_false_iff_eq, ne_eq, Int.toNat_natCast] at *; omega)) (by first | omega | (simp only [Bool.and_eq_true, Bool.or_eq_true, Bool.and_eq_false_iff, Bool.or_eq_false_iff, Bool.not_eq_true', Bool.not_eq_false', decide_eq_true_eq, decide_eq_false_iff_not, beq_iff_eq, beq_eq_false_iff_ne, bne_iff_ne, bne_eq_false_iff_eq, ne_eq, Int.toNat_natCast] at *; omega))) ?_
    refine j_q (qs_conv Tryz.underlying3 Tryz.underlying152 rfl) ?_
    rw [IntWalk.u64_in _ (by omega)]
    refine j_q (qs_shr rfl rfl (by first | omega | (simp only [Bool.and_eq_true, Bool.or_eq_true, Bool.and_eq_false_iff, Bool.or_eq_false_iff, Bool.not_eq_true', Bool.not_eq_false', decide_eq_true_eq, decide_eq_false_iff_not, beq_iff_eq, beq_eq_false_iff_ne, bne_iff_ne, bne_eq_false_iff_eq, ne_eq, Int.toNat_natCast] at *; omega))) ?_
    rw [show min ((k : Int) % 8).toNat IntKind.u8.bits = k % 8 by show min _ 8 = _; omega]
    refine j_q (qs_conv Tryz.underlying5 Tryz.underlying3 rfl) ?_
    refine j_q (qs_and_ rfl rfl) ?_
    rw [and1 _ _ (Nat.mod_lt _ (by decide))]
    refine j_ret_con (vs := [_]) (fun w' hw' => ⟨rfl, trivial⟩) ?_
    show Value.int _ _ = _
    rw [bit_at p k hk1]
/-- pantry.pantryref2.Text -/
theorem rtext_con (p : List UInt8) (a : Addr) (c : Nat) (w : World) (hpm : p.length ≤ 16777216) (hpc : Cells w a (ints p)) : Con Tryz.prog 105 [.slice (some a) p.length c] w [] fun v _ => v = .string (bs (text32 p)) := by
  refine con_of_tree mix Tryz.func105 T105_ok (by kernel_rfl) ?_
  unfold T105
  have hld : lenD p.length ≤ 33554432 := by unfold lenD; omega
  refine j_q (qs_ac) ?_
  refine j_q (qs_lenl Tryz.underlying46 rfl) ?_
  refine j_q (qs_gtr rfl rfl) ?_
  refine j_cond rfl (fun hc0 => ?_) (fun hc0 => ?_)
  · skip
    exfalso
    simp only [Bool.and_eq_true, Bool.or_eq_true, Bool.and_eq_false_iff, Bool.or_eq_false_iff, Bool.not_eq_true', Bool.not_eq_false', decide_eq_true_eq, decide_eq_false_iff_not, beq_iff_eq, beq_eq_false_iff_ne, bne_iff_ne, bne_eq_false_iff_eq, ne_eq, Int.toNat_natCast] at *
    omega
  · skip
    refine j_q (qs_ac) ?_
    refine j_q (qs_lenl Tryz.underlying46 rfl) ?_
    refine j_q (qs_call ent110 rfl rfl rfl (fun w' hw' => rlen_con p.length w' hpm)) ?_
    refine j_q (qs_sub64 rfl rfl (by first | omega | (simp only [Bool.and_eq_true, Bool.or_eq_true, Bool.and_eq_false_iff, Bool.or_eq_false_iff, Bool.not_eq_true', Bool.not_eq_false', decide_eq_true_eq, decide_eq_false_iff_not, beq_iff_eq, beq_eq_false_iff_ne, bne_iff_ne, bne_eq_false_iff_eq, ne_eq, Int.toNat_natCast] at *; omega))) ?_
    refine j_perm (S' := [[], []]) (by simp) ?_
    refine j_loop (fun m vs S' => ∃ (i : Nat) (s : List UInt8) (v : Value) (c : SH), vs = [v, .int .i64 ((i : Int) - 1)] ∧ S' = [c, []] ∧ Own 5 1 (ints s) v c ∧ s ++ digs (numL p) i = text32 p ∧ i ≤ lenD p.length ∧ m = i) ⟨_, lenD p.length, [], _, _, rfl, rfl, own_nil, rfl, by omega, rfl⟩ ?_
    rintro m vs S' hlen ⟨i0, s, v, ch, rfl, rfl, ho, hs, hi, rfl⟩
    have hsl : s.length ≤ 33554432 := by
      have h1 := congrArg List.length hs
      rw [List.length_append, text32_length, digs_length] at h1
      omega
    clear hlen
    refine j_q (qs_geq rfl rfl) ?_
    refine j_cond rfl (fun hc1 => ?_) (fun hc1 => ?_)
    · skip
      obtain ⟨i, rfl⟩ : ∃ i, m = i + 1 := ⟨m - 1, by
        simp only [Bool.and_eq_true, Bool.or_eq_true, Bool.and_eq_false_iff, Bool.or_eq_false_iff, Bool.not_eq_true', Bool.not_eq_false', decide_eq_true_eq, decide_eq_false_iff_not, beq_iff_eq, beq_eq_false_iff_ne, bne_iff_ne, bne_eq_false_iff_eq, ne_eq, Int.toNat_natCast] at *
        omega⟩
      rw [show ((i + 1 : Nat) : Int) - 1 = (i : Int) by omega]
      refine j_q (qs_ac) ?_
      refine j_q (qs_ac) ?_
      refine j_loop (fun m vs S' => ∃ (t : Nat), vs = [.int .i64 (numL p / 2 ^ (5 * i + (5 - t)) % 2 ^ t : Nat), .int .i64 (4 - (t : Int))] ∧ S' = [ch, []] ∧ t ≤ 5 ∧ m = 5 - t) ⟨_, 0, (by rw [Nat.pow_zero, Nat.mod_one]; rfl), rfl, by omega, rfl⟩ ?_
      rintro m vs S' hlen ⟨t, rfl, rfl, ht, rfl⟩
      have hdl : numL p / 2 ^ (5 * i + (5 - t)) % 2 ^ t < 2 ^ t := Nat.mod_lt _ (Nat.two_pow_pos _)
      have hd5 : 2 ^ t ≤ 32 := Nat.pow_le_pow_right (n := 2) (by decide) ht
      obtain ⟨d, hd⟩ : ∃ d : Nat, d = numL p / 2 ^ (5 * i + (5 - t)) % 2 ^ t := ⟨_, rfl⟩
      rw [← hd] at hdl ⊢
      have hd6 : d < 32 := by omega
      clear hlen hdl hd5
      refine j_q (qs_geq rfl rfl) ?_
      refine j_cond rfl (fun hc2 => ?_) (fun hc2 => ?_)
      · skip
        have ht1 : t < 5 := by
          simp only [Bool.and_eq_true, Bool.or_eq_true, Bool.and_eq_false_iff, Bool.or_eq_false_iff, Bool.not_eq_true', Bool.not_eq_false', decide_eq_true_eq, decide_eq_false_iff_not, beq_iff_eq, beq_eq_false_iff_ne, bne_iff_ne, bne_eq_false_iff_eq, ne_eq, Int.toNat_natCast] at *
          omega
        refine j_q (qs_mul64 rfl rfl (by first | omega | (simp only [Bool.and_eq_true, Bool.or_eq_true, Bool.and_eq_false_iff, Bool.or_eq_false_iff, Bool.not_eq_true', Bool.not_eq_false', decide_eq_true_eq, decide_eq_false_iff_not, beq_iff_eq, beq_eq_false_iff_ne, bne_iff_ne, bne_eq_false_iff_eq, ne_eq, Int.toNat_natCast] at *; omega))) ?_
        refine j_q (qs_mul64 rfl rfl (by first | omega | (simp only [Bool.and_eq_true, Bool.or_eq_true, Bool.and_eq_false_iff, Bool.or_eq_false_iff, Bool.not_eq_true', Bool.not_eq_false', decide_eq_true_eq, decide_eq_false_iff_not, beq_iff_eq, beq_eq_false_iff_ne, bne_iff_ne, bne_eq_false_iff_eq, ne_eq, Int.toNat_natCast] at *; omega))) ?_
        refine j_q (qs_add64 rfl rfl (by first | omega | (simp only [Bool.and_eq_true, Bool.or_eq_true, Bool.and_eq_false_iff, Bool.or_eq_false_iff, Bool.not_eq_true', Bool.not_eq_false', decide_eq_true_eq, decide_eq_false_iff_not, beq_iff_eq, beq_eq_false_iff_ne, bne_iff_ne, bne_eq_false_iff_eq, ne_eq, Int.toNat_natCast] at *; omega))) ?_
        rw [show 5 * (i : Int) + (4 - (t : Int)) = ((5 * i + (4 - t) : Nat) : Int) by omega]
        refine j_q (qs_call ent136 rfl rfl rfl (fun w' hw' => bit_con p (5 * i + (4 - t)) a c w' (by omega) (rd_w (rd_cells hpc (by simp)) hw'))) ?_
        refine j_q (qs_add64 rfl rfl (by first | omega | (simp only [Bool.and_eq_true, Bool.or_eq_true, Bool.and_eq_false_iff, Bool.or_eq_false_iff, Bool.not_eq_true', Bool.not_eq_false', decide_eq_true_eq, decide_eq_false_iff_not, beq_iff_eq, beq_eq_false_iff_ne, bne_iff_ne, bne_eq_false_iff_eq, ne_eq, Int.toNat_natCast] at *; omega))) ?_
        refine j_q (qs_sub64 rfl rfl (by first | omega | (simp only [Bool.and_eq_true, Bool.or_eq_true, Bool.and_eq_false_iff, Bool.or_eq_false_iff, Bool.not_eq_true', Bool.not_eq_false', decide_eq_true_eq, decide_eq_false_iff_not, beq_iff_eq, beq_eq_false_iff_ne, bne_iff_ne, bne_eq_false_iff_eq, ne_eq, Int.toNat_natCast] at *; omega))) ?_
        refine j_back rfl ?_
        have e1 : (2 * (d : Int) + ((numL p / 2 ^ (5 * i + (4 - t)) % 2 : Nat) : Int)) = ((numL p / 2 ^ (5 * i + (5 - (t + 1))) % 2 ^ (t + 1) : Nat) : Int) := by
          rw [← bit_step _ _ _ ht1, ← hd]
          omega
        have e2 : 4 - (t : Int) - 1 = 4 - ((t + 1 : Nat) : Int) := by omega
        refine ⟨_, back_lt ht1, t + 1, ?_, rfl, by omega, rfl⟩
        show [Value.int .i64 (2 * (d : Int) + ((numL p / 2 ^ (5 * i + (4 - t)) % 2 : Nat) : Int)), Value.int .i64 (4 - (t : Int) - 1)] = _
        rw [e1, e2]
      · skip
        obtain rfl : t = 5 := by
          simp only [Bool.and_eq_true, Bool.or_eq_true, Bool.and_eq_false_iff, Bool.or_eq_false_iff, Bool.not_eq_true', Bool.not_eq_false', decide_eq_true_eq, decide_eq_false_iff_not, beq_iff_eq, beq_eq_false_iff_ne, bne_iff_ne, bne_eq_false_iff_eq, ne_eq, Int.toNat_natCast] at *
          omega
        have hdd : d = dg (numL p) i := hd
        refine j_q (qs_idx (l := DIG) Tryz.underlying9 rfl rfl ⟨by omega, by show _ < ((32 : Nat) : Int); omega⟩) ?_
        rw [Int.toNat_natCast, hdd]
        refine j_lit (vs := [.int .u8 _]) Tryz.underlying46 sz5 zero5 rfl (by simp [oneV]) ⟨rfl, by decide⟩ (fun g19 v19 c19 hv19 hc19 ho19 => ?_)
        subst hv19 hc19
        refine j_append 1 Tryz.underlying46 Tryz.underlying46 (.inr ⟨_, rfl⟩) sb5 zero5 rfl ho rfl (src_sl (rd_own 0 rfl (n := 1) rfl) rfl) (by simp [oneV]) ⟨(by simp [ints_length]; omega), (by decide)⟩ (fun v20 c20 ho20 => ?_)
        have ho20' : Own 5 1 (ints (s ++ [DIG.getD (dg (numL p) i) 0])) v20 c20 := by rw [ints_append]; exact ho20
        refine j_drop ?_
        refine j_q (qs_sub64 rfl rfl (by first | omega | (simp only [Bool.and_eq_true, Bool.or_eq_true, Bool.and_eq_false_iff, Bool.or_eq_false_iff, Bool.not_eq_true', Bool.not_eq_false', decide_eq_true_eq, decide_eq_false_iff_not, beq_iff_eq, beq_eq_false_iff_ne, bne_iff_ne, bne_eq_false_iff_eq, ne_eq, Int.toNat_natCast] at *; omega))) ?_
        refine j_back rfl ?_
        refine ⟨i, by omega, i, _, _, _, rfl, rfl, ho20', ?_, by omega, rfl⟩
        rw [List.append_assoc]
        exact hs
    · skip
      obtain rfl : m = 0 := by
        simp only [Bool.and_eq_true, Bool.or_eq_true, Bool.and_eq_false_iff, Bool.or_eq_false_iff, Bool.not_eq_true', Bool.not_eq_false', decide_eq_true_eq, decide_eq_false_iff_not, beq_iff_eq, beq_eq_false_iff_ne, bne_iff_ne, bne_eq_false_iff_eq, ne_eq, Int.toNat_natCast] at *
        omega
      rw [digs, List.append_nil] at hs
      subst hs
      refine j_q (qs_stro 0 Tryz.underlying46 Tryz.underlying5 Tryz.underlying9 ho rfl) ?_
      refine j_ret_con (vs := [_]) (fun w' hw' => ⟨rfl, trivial⟩) ?_
      rfl
end Go.Proofs.YtfeabbeebkkhaaaGreat
