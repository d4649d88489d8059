/- Reading digits to the base thirty-two: which texts of thirty-two bytes are twenty bytes. -/
import Derived.Test.YtfeabbeebkkhaaaGreatTa
import Derived.Test.YtfeabbeebkkhaaaGreatSx10
import Derived.Test.YtfeabbeebkkhaaaGreatB32
namespace Go.Proofs.YtfeabbeebkkhaaaGreat
open Go Go.Sx
set_option maxRecDepth 100000
set_option maxHeartbeats 4000000
set_option linter.unusedVariables false
set_option linter.unusedSimpArgs false
attribute [local irreducible] J JQ QS Con W opW
theorem ent111 : Sx.Enters Tryz.prog 111 := ⟨_, Tryz.func111, by kernel_rfl, by kernel_rfl⟩
theorem ent128 : Sx.Enters Tryz.prog 128 := ⟨_, Tryz.func128, by kernel_rfl, by kernel_rfl⟩
theorem ent149 : Sx.Enters Tryz.prog 149 := ⟨_, Tryz.func149, by kernel_rfl, by kernel_rfl⟩

/-- what Parse answers of twenty bytes -/
def parseE (l : List UInt8) : Int := if l.length = 32 ∧ allDig l = true then 0 else 3
theorem parseE_fail {l : List UInt8} {i : Nat} (hi : i < l.length) (h : dpos (l.getD i 0) < 0) : parseE l = 3 := by
  unfold parseE
  rw [if_neg]
  rintro ⟨_, h2⟩
  rw [allDig_fail hi h] at h2
  cases h2
theorem parseE_len {l : List UInt8} (h : l.length ≠ 32) : parseE l = 3 := by
  unfold parseE
  rw [if_neg (fun h2 => h h2.1)]
theorem parseE_ok {l : List UInt8} (h : l.length = 32) (h2 : ∀ i, i < l.length → 0 ≤ dpos (l.getD i 0)) : parseE l = 0 := by
  unfold parseE
  rw [if_pos ⟨h, allDig_of h2⟩]
/-- internal.stringslite.IndexByte -/
theorem slIndex_con (s : List UInt8) (c : UInt8) (w : World) : Con Tryz.prog 149 [.string (bs s), .int .u8 (c.toNat : Int)] w [] fun v _ => v = .int .i64 (firstIdx (bs s) c) := by
  refine con_of_tree mix Tryz.func149 T149_ok (by kernel_rfl) ?_
  unfold T149
  refine j_q (qs_ac) ?_
  refine j_q (qs_extern Tryz.func168 (by kernel_rfl) (by kernel_rfl) (by kernel_rfl) (e := Extern.BytealgIndexByte.indexByte) (by kernel_rfl) rfl rfl rfl (fun w => run_indexByte_string (bs s) (c.toNat : Int) w)) ?_
  refine j_ret_con (vs := [_]) (fun w' hw' => ⟨rfl, trivial⟩) ?_
  show Value.int _ _ = _
  rw [show ((c.toNat : Int)).toNat.toUInt8 = c by simp]
/-- strings.IndexByte -/
theorem index_con (s : List UInt8) (c : UInt8) (w : World) : Con Tryz.prog 128 [.string (bs s), .int .u8 (c.toNat : Int)] w [] fun v _ => v = .int .i64 (firstIdx (bs s) c) := by
  refine con_of_tree mix Tryz.func128 T128_ok (by kernel_rfl) ?_
  unfold T128
  refine j_q (qs_ac) ?_
  refine j_q (qs_call ent149 rfl rfl rfl (fun w' hw' => slIndex_con s c w')) ?_
  refine j_ret_con (vs := [_]) (fun w' hw' => ⟨rfl, trivial⟩) ?_
  rfl
/-- pantry.pantryref2.value -/
theorem value_con (c : UInt8) (w : World) : Con Tryz.prog 111 [.int .u8 (c.toNat : Int)] w [] fun v _ => v = .int .i64 (dpos c) := by
  refine con_of_tree mix Tryz.func111 T111_ok (by kernel_rfl) ?_
  unfold T111
  refine j_q (qs_ac) ?_
  refine j_q (qs_ac) ?_
  refine j_loop (fun m vs S' => ∃ i : Nat, vs = [.int .i64 i] ∧ S' = [[]] ∧ i ≤ 32 ∧ m = 32 - i ∧ ∀ j, j < i → DIG.getD j 0 ≠ c) ⟨_, 0, rfl, rfl, by omega, rfl, fun j h => by omega⟩ ?_
  rintro m vs S' hlen ⟨i, rfl, rfl, hi, rfl, hall⟩
  clear hlen
  refine j_q (qs_lss rfl rfl) ?_
  refine j_cond rfl (fun hc0 => ?_) (fun hc0 => ?_)
  · skip
    have hi1 : i < 32 := by
      simp only [Bool.and_eq_true, Bool.or_eq_true, Bool.and_eq_false_iff, Bool.or_eq_false_iff, Bool.not_eq_true', Bool.not_eq_false', decide_eq_true_eq, decide_eq_false_iff_not, beq_iff_eq, beq_eq_false_iff_ne, bne_iff_ne, bne_eq_false_iff_eq, ne_eq, Int.toNat_natCast] at *
      omega
    refine j_q (qs_idx (l := DIG) Tryz.underlying9 rfl rfl ⟨by omega, by show _ < ((32 : Nat) : Int); omega⟩) ?_
    rw [Int.toNat_natCast]
    refine j_q (qs_eql rfl rfl) ?_
    refine j_cond rfl (fun hc1 => ?_) (fun hc1 => ?_)
    · skip
      have he : DIG.getD i 0 = c := UInt8.toNat_inj.1 (by simp only [beq_iff_eq] at hc1; omega)
      refine j_ret_con (vs := [_]) (fun w' hw' => ⟨rfl, trivial⟩) ?_
      show Value.int _ _ = _
      rw [← he, dpos_at i hi1]
    · skip
      have he : DIG.getD i 0 ≠ c := fun h => by rw [h] at hc1; simp at hc1
      refine j_q (qs_add64 rfl rfl (by first | omega | (simp only [Bool.and_eq_true, Bool.or_eq_true, Bool.and_eq_false_iff, Bool.or_eq_false_iff, Bool.not_eq_true', Bool.not_eq_false', decide_eq_true_eq, decide_eq_false_iff_not, beq_iff_eq, beq_eq_false_iff_ne, bne_iff_ne, bne_eq_false_iff_eq, ne_eq, Int.toNat_natCast] at *; omega))) ?_
      refine j_back rfl ?_
      refine ⟨_, (by omega : 32 - (i + 1) < 32 - i), i + 1, rfl, rfl, by omega, rfl, fun j hj => ?_⟩
      rcases Nat.lt_or_ge j i with h | h
      · exact hall j h
      · obtain rfl : j = i := by omega
        exact he
  · skip
    have hi1 : i = 32 := by
      simp only [Bool.and_eq_true, Bool.or_eq_true, Bool.and_eq_false_iff, Bool.or_eq_false_iff, Bool.not_eq_true', Bool.not_eq_false', decide_eq_true_eq, decide_eq_false_iff_not, beq_iff_eq, beq_eq_false_iff_ne, bne_iff_ne, bne_eq_false_iff_eq, ne_eq, Int.toNat_natCast] at *
      omega
    refine j_q (qs_ac) ?_
    refine j_ret_con (vs := [_]) (fun w' hw' => ⟨rfl, trivial⟩) ?_
    show Value.int _ _ = _
    subst hi1
    rw [dpos_none c hall]
/-- pantry.b32.Parse -/
theorem parse_con (l : List UInt8) (w : World) (hl : l.length ≤ 9223372036854775807) : Con Tryz.prog 126 [.string (bs l), .int .i64 20] w [] fun v _ => ∃ u, v = .tuple #[u, .int .i64 (parseE l)] := by
  refine con_of_tree mix Tryz.func126 T126_ok (by kernel_rfl) ?_
  unfold T126
  refine j_q (qs_ac) ?_
  refine j_q (qs_ac) ?_
  refine j_q (qs_lss rfl rfl) ?_
  refine j_g rfl (fun hb => qs_mt rfl) ?_
  refine j_g rfl (fun hb => qs_gtr (gd_eq hb) rfl) ?_
  refine j_q (qs_or rfl rfl) ?_
  refine j_cond rfl (fun hc0 => ?_) (fun hc0 => ?_)
  · skip
    exact absurd hc0 (by decide)
  · skip
    refine j_q (qs_lens Tryz.underlying9 rfl) ?_
    refine j_q (qs_call ent147 rfl rfl rfl (fun w' hw' => len_con 20 w' (by decide))) ?_
    refine j_q (qs_neq rfl rfl) ?_
    refine j_cond rfl (fun hc1 => ?_) (fun hc1 => ?_)
    · skip
      have hl32 : l.length ≠ 32 := by
        have h20 : lenD 20 = 32 := rfl
        rw [h20] at hc1
        simp only [Bool.and_eq_true, Bool.or_eq_true, Bool.and_eq_false_iff, Bool.or_eq_false_iff, Bool.not_eq_true', Bool.not_eq_false', decide_eq_true_eq, decide_eq_false_iff_not, beq_iff_eq, beq_eq_false_iff_ne, bne_iff_ne, bne_eq_false_iff_eq, ne_eq, Int.toNat_natCast] at *
        omega
      refine j_q (qs_ac) ?_
      refine j_q (qs_ac) ?_
      refine j_ret_con (vs := [_, _]) (fun w' hw' => ⟨rfl, rfl, trivial⟩) ?_
      show ∃ u, Value.tuple #[_, _] = Value.tuple #[u, _]
      rw [parseE_len hl32]
      exact ⟨_, rfl⟩
    · skip
      have hl32 : l.length = 32 := by
        have h20 : lenD 20 = 32 := rfl
        rw [h20] at hc1
        simp only [Bool.and_eq_true, Bool.or_eq_true, Bool.and_eq_false_iff, Bool.or_eq_false_iff, Bool.not_eq_true', Bool.not_eq_false', decide_eq_true_eq, decide_eq_false_iff_not, beq_iff_eq, beq_eq_false_iff_ne, bne_iff_ne, bne_eq_false_iff_eq, ne_eq, Int.toNat_natCast] at *
        omega
      refine j_make (n := 0) (c := 20) Tryz.underlying46 sb5 zero5 rfl (by decide) rfl rfl (by decide) (by decide) (fun g13 v13 c13 hv13 hc13 ho13 => ?_)
      refine j_q (qs_ac) ?_
      refine j_q (qs_ac) ?_
      refine j_q (qs_lens Tryz.underlying9 rfl) ?_
      refine j_q (qs_sub64 rfl rfl (by first | omega | (simp only [Bool.and_eq_true, Bool.or_eq_true, Bool.and_eq_false_iff, Bool.or_eq_false_iff, Bool.not_eq_true', Bool.not_eq_false', decide_eq_true_eq, decide_eq_false_iff_not, beq_iff_eq, beq_eq_false_iff_ne, bne_iff_ne, bne_eq_false_iff_eq, ne_eq, Int.toNat_natCast] at *; omega))) ?_
      rw [show (l.length : Int) - 1 = 31 - ((0 : Nat) : Int) by omega]
      refine j_loop (fun m vs S' => ∃ (t bits : Nat) (xs : List Value) (v : Value) (c : SH), vs = [v, .int .u32 bits, .int .u64 (5 * t % 8 : Nat), .int .i64 (31 - (t : Int))] ∧ S' = [c, []] ∧ Own 5 1 xs v c ∧ xs.length = 5 * t / 8 ∧ bits < 2 ^ (5 * t % 8) ∧ t ≤ 32 ∧ (∀ j, 32 - t ≤ j → j < 32 → 0 ≤ dpos (l.getD j 0)) ∧ m = 32 - t) ⟨_, 0, 0, _, _, _, rfl, rfl, ho13, rfl, by decide, by omega, fun j h1 h2 => by omega, rfl⟩ ?_
      rintro m vs S' hlen ⟨t, bits, xs, v, ch, rfl, rfl, ho, hxl, hb2, ht, hall, rfl⟩
      obtain ⟨n, A, cap, rfl, hn⟩ := own_form ho (by decide)
      rw [Nat.mul_one] at hn
      clear hlen
      refine j_q (qs_geq rfl rfl) ?_
      refine j_cond rfl (fun hc2 => ?_) (fun hc2 => ?_)
      · skip
        have ht1 : t < 32 := by
          simp only [Bool.and_eq_true, Bool.or_eq_true, Bool.and_eq_false_iff, Bool.or_eq_false_iff, Bool.not_eq_true', Bool.not_eq_false', decide_eq_true_eq, decide_eq_false_iff_not, beq_iff_eq, beq_eq_false_iff_ne, bne_iff_ne, bne_eq_false_iff_eq, ne_eq, Int.toNat_natCast] at *
          omega
        obtain ⟨h, hh⟩ : ∃ h, h = 5 * t % 8 := ⟨_, rfl⟩
        rw [← hh] at hb2 ⊢
        refine j_q (qs_idx Tryz.underlying9 rfl rfl ⟨(by first | omega | (simp only [Bool.and_eq_true, Bool.or_eq_true, Bool.and_eq_false_iff, Bool.or_eq_false_iff, Bool.not_eq_true', Bool.not_eq_false', decide_eq_true_eq, decide_eq_false_iff_not, beq_iff_eq, beq_eq_false_iff_ne, bne_iff_ne, bne_eq_false_iff_eq, ne_eq, Int.toNat_natCast] at *; omega)), (by first | omega | (simp only [Bool.and_eq_true, Bool.or_eq_true, Bool.and_eq_false_iff, Bool.or_eq_false_iff, Bool.not_eq_true', Bool.not_eq_false', decide_eq_true_eq, decide_eq_false_iff_not, beq_iff_eq, beq_eq_false_iff_ne, bne_iff_ne, bne_eq_false_iff_eq, ne_eq, Int.toNat_natCast] at *; omega))⟩) ?_
        rw [show (31 - (t : Int)).toNat = 31 - t by omega]
        refine j_q (qs_call ent128 rfl rfl rfl (fun w' hw' => index_con DIG (l.getD (31 - t) 0) w')) ?_
        rw [firstIdx_dig]
        refine j_q (qs_lss rfl rfl) ?_
        refine j_cond rfl (fun hc3 => ?_) (fun hc3 => ?_)
        · skip
          refine j_q (qs_ac) ?_
          refine j_q (qs_ac) ?_
          refine j_ret_con (vs := [_, _]) (fun w' hw' => ⟨rfl, rfl, trivial⟩) ?_
          show ∃ u, Value.tuple #[_, _] = Value.tuple #[u, _]
          rw [parseE_fail (i := 31 - t) (by omega) (by simp only [Bool.and_eq_true, Bool.or_eq_true, Bool.and_eq_false_iff, Bool.or_eq_false_iff, Bool.not_eq_true', Bool.not_eq_false', decide_eq_true_eq, decide_eq_false_iff_not, beq_iff_eq, beq_eq_false_iff_ne, bne_iff_ne, bne_eq_false_iff_eq, ne_eq, Int.toNat_natCast] at *; omega)]
          exact ⟨_, rfl⟩
        · skip
          have hr := dpos_range (l.getD (31 - t) 0)
          have hd0 : 0 ≤ dpos (l.getD (31 - t) 0) := by
            simp only [Bool.and_eq_true, Bool.or_eq_true, Bool.and_eq_false_iff, Bool.or_eq_false_iff, Bool.not_eq_true', Bool.not_eq_false', decide_eq_true_eq, decide_eq_false_iff_not, beq_iff_eq, beq_eq_false_iff_ne, bne_iff_ne, bne_eq_false_iff_eq, ne_eq, Int.toNat_natCast] at *
            omega
          obtain ⟨d, hd⟩ : ∃ d : Nat, dpos (l.getD (31 - t) 0) = (d : Int) := ⟨(dpos (l.getD (31 - t) 0)).toNat, by omega⟩
          have hd32 : d < 32 := by omega
          rw [hd]
          refine j_q (qs_conv Tryz.underlying3 Tryz.underlying145 rfl) ?_
          refine j_q (qs_shl rfl rfl (by first | omega | (simp only [Bool.and_eq_true, Bool.or_eq_true, Bool.and_eq_false_iff, Bool.or_eq_false_iff, Bool.not_eq_true', Bool.not_eq_false', decide_eq_true_eq, decide_eq_false_iff_not, beq_iff_eq, beq_eq_false_iff_ne, bne_iff_ne, bne_eq_false_iff_eq, ne_eq, Int.toNat_natCast] at *; omega))) ?_
          refine j_q (qs_or_ rfl rfl) ?_
          have e26 : bw .or .u32 (bits : Int) (IntKind.u32.wrap (IntKind.u32.wrap (d : Int) * 2 ^ min ((h : Int)).toNat IntKind.u32.bits)) = _ := or32' bits d h hb2 hd32 (by omega)
          rw [e26]
          have hX := more_lt bits d h hb2 hd32
          obtain ⟨X, hXe⟩ : ∃ X, X = bits + d * 2 ^ h := ⟨_, rfl⟩
          rw [← hXe] at hX ⊢
          refine j_q (qs_add rfl rfl) ?_
          rw [show (h : Int) + 5 = ((h + 5 : Nat) : Int) by omega, IntWalk.u64_in _ (by omega)]
          refine j_q (qs_geq rfl rfl) ?_
          refine j_g rfl (fun hb => qs_mt rfl) ?_
          refine j_g rfl (fun hb => qs_lenl Tryz.underlying46 (gd_eq hb)) ?_
          refine j_g rfl (fun hb => qs_mt rfl) ?_
          refine j_g rfl (fun hb => qs_lss (gd_eq hb) (gd_eq hb)) ?_
          refine j_q (qs_and rfl rfl) ?_
          refine j_cond rfl (fun hc4 => ?_) (fun hc4 => ?_)
          · skip
            have h48 : 8 ≤ h + 5 := by
              simp only [Bool.and_eq_true, Bool.or_eq_true, Bool.and_eq_false_iff, Bool.or_eq_false_iff, Bool.not_eq_true', Bool.not_eq_false', decide_eq_true_eq, decide_eq_false_iff_not, beq_iff_eq, beq_eq_false_iff_ne, bne_iff_ne, bne_eq_false_iff_eq, ne_eq, Int.toNat_natCast] at *
              omega
            refine j_q (qs_conv8 Tryz.underlying145 Tryz.underlying5 rfl) ?_
            refine j_lit (vs := [.int .u8 _]) Tryz.underlying46 sz5 zero5 rfl (by simp [oneV]) ⟨rfl, by decide⟩ (fun g35 v35 c35 hv35 hc35 ho35 => ?_)
            subst hv35 hc35
            refine j_append 1 Tryz.underlying46 Tryz.underlying46 (.inr ⟨_, rfl⟩) sb5 zero5 rfl ho rfl (src_sl (rd_own 0 rfl (n := 1) rfl) rfl) (by simp [oneV]) ⟨(by simp; omega), (by decide)⟩ (fun v36 c36 ho36 => ?_)
            refine j_drop ?_
            refine j_q (qs_shr rfl rfl (by first | omega | (simp only [Bool.and_eq_true, Bool.or_eq_true, Bool.and_eq_false_iff, Bool.or_eq_false_iff, Bool.not_eq_true', Bool.not_eq_false', decide_eq_true_eq, decide_eq_false_iff_not, beq_iff_eq, beq_eq_false_iff_ne, bne_iff_ne, bne_eq_false_iff_eq, ne_eq, Int.toNat_natCast] at *; omega))) ?_
            have e37 : (X : Int).fdiv (2 ^ min (Int.toNat 8) IntKind.u32.bits) = _ := shr8' X
            rw [e37]
            refine j_q (qs_sub rfl rfl) ?_
            rw [show ((h + 5 : Nat) : Int) - 8 = ((h + 5 - 8 : Nat) : Int) by omega, IntWalk.u64_in _ (by omega)]
            refine j_q (qs_sub64 rfl rfl (by first | omega | (simp only [Bool.and_eq_true, Bool.or_eq_true, Bool.and_eq_false_iff, Bool.or_eq_false_iff, Bool.not_eq_true', Bool.not_eq_false', decide_eq_true_eq, decide_eq_false_iff_not, beq_iff_eq, beq_eq_false_iff_ne, bne_iff_ne, bne_eq_false_iff_eq, ne_eq, Int.toNat_natCast] at *; omega))) ?_
            refine j_back rfl ?_
            refine ⟨_, (by omega : 32 - (t + 1) < 32 - t), t + 1, X / 256, _, _, _, ?_, rfl, ho36, by simp; omega, ?_, by omega, fun j h1 h2 => by
                  rcases Nat.lt_or_ge j (32 - t) with h3 | h3
                  · obtain rfl : j = 31 - t := by omega
                    omega
                  · exact hall j h3 h2, rfl⟩
            · have e1 : h + 5 - 8 = 5 * (t + 1) % 8 := by omega
              have e2 : 31 - (t : Int) - 1 = 31 - ((t + 1 : Nat) : Int) := by omega
              show [v36, Value.int .u32 ((X / 256 : Nat) : Int), Value.int .u64 ((h + 5 - 8 : Nat) : Int), Value.int .i64 (31 - (t : Int) - 1)] = _
              rw [e1, e2]
            · rw [show 5 * (t + 1) % 8 = h + 5 - 8 by omega]
              exact less_lt X (h + 5) hX h48
          · skip
            have h48 : h + 5 < 8 := by
              simp only [Bool.and_eq_true, Bool.or_eq_true, Bool.and_eq_false_iff, Bool.or_eq_false_iff, Bool.not_eq_true', Bool.not_eq_false', decide_eq_true_eq, decide_eq_false_iff_not, beq_iff_eq, beq_eq_false_iff_ne, bne_iff_ne, bne_eq_false_iff_eq, ne_eq, Int.toNat_natCast] at *
              omega
            refine j_q (qs_sub64 rfl rfl (by first | omega | (simp only [Bool.and_eq_true, Bool.or_eq_true, Bool.and_eq_false_iff, Bool.or_eq_false_iff, Bool.not_eq_true', Bool.not_eq_false', decide_eq_true_eq, decide_eq_false_iff_not, beq_iff_eq, beq_eq_false_iff_ne, bne_iff_ne, bne_eq_false_iff_eq, ne_eq, Int.toNat_natCast] at *; omega))) ?_
            refine j_back rfl ?_
            refine ⟨_, (by omega : 32 - (t + 1) < 32 - t), t + 1, X, _, _, _, ?_, rfl, ho, by omega, ?_, by omega, fun j h1 h2 => by
                  rcases Nat.lt_or_ge j (32 - t) with h3 | h3
                  · obtain rfl : j = 31 - t := by omega
                    omega
                  · exact hall j h3 h2, rfl⟩
            · have e1 : h + 5 = 5 * (t + 1) % 8 := by omega
              have e2 : 31 - (t : Int) - 1 = 31 - ((t + 1 : Nat) : Int) := by omega
              show [Value.slice A n cap, Value.int .u32 (X : Int), Value.int .u64 ((h + 5 : Nat) : Int), Value.int .i64 (31 - (t : Int) - 1)] = _
              rw [e1, e2]
            · rw [show 5 * (t + 1) % 8 = h + 5 by omega]
              exact hX
      · skip
        obtain rfl : t = 32 := by
          simp only [Bool.and_eq_true, Bool.or_eq_true, Bool.and_eq_false_iff, Bool.or_eq_false_iff, Bool.not_eq_true', Bool.not_eq_false', decide_eq_true_eq, decide_eq_false_iff_not, beq_iff_eq, beq_eq_false_iff_ne, bne_iff_ne, bne_eq_false_iff_eq, ne_eq, Int.toNat_natCast] at *
          omega
        refine j_q (qs_neq rfl rfl) ?_
        refine j_cond rfl (fun hc5 => ?_) (fun hc5 => ?_)
        · skip
          exfalso
          have h0 : 5 * 32 % 8 = 0 := rfl
          rw [h0] at hb2
          simp only [Bool.and_eq_true, Bool.or_eq_true, Bool.and_eq_false_iff, Bool.or_eq_false_iff, Bool.not_eq_true', Bool.not_eq_false', decide_eq_true_eq, decide_eq_false_iff_not, beq_iff_eq, beq_eq_false_iff_ne, bne_iff_ne, bne_eq_false_iff_eq, ne_eq, Int.toNat_natCast] at *
          omega
        · skip
          refine j_q (qs_ac) ?_
          refine j_ret_con (vs := [_, _]) (fun w' hw' => ⟨rfl, rfl, trivial⟩) ?_
          show ∃ u, Value.tuple #[_, _] = Value.tuple #[u, _]
          rw [parseE_ok hl32 (fun i hi => hall i (by omega) (by omega))]
          exact ⟨_, rfl⟩
/-- pantry.pantryref2.Parse -/
theorem rparse_con (l : List UInt8) (w : World) (hl : l.length ≤ 9223372036854775807) : Con Tryz.prog 60 [.string (bs l), .int .i64 20] w [] fun v _ => ∃ u, v = .tuple #[u, .int .i64 (parseE l)] := by
  refine con_of_tree mix Tryz.func60 T60_ok (by kernel_rfl) ?_
  unfold T60
  refine j_q (qs_ac) ?_
  refine j_q (qs_ac) ?_
  refine j_q (qs_lss rfl rfl) ?_
  refine j_g rfl (fun hb => qs_mt rfl) ?_
  refine j_g rfl (fun hb => qs_gtr (gd_eq hb) rfl) ?_
  refine j_q (qs_or rfl rfl) ?_
  refine j_cond rfl (fun hc0 => ?_) (fun hc0 => ?_)
  · skip
    exact absurd hc0 (by decide)
  · skip
    refine j_q (qs_lens Tryz.underlying9 rfl) ?_
    refine j_q (qs_call ent110 rfl rfl rfl (fun w' hw' => rlen_con 20 w' (by decide))) ?_
    refine j_q (qs_neq rfl rfl) ?_
    refine j_cond rfl (fun hc1 => ?_) (fun hc1 => ?_)
    · skip
      have hl32 : l.length ≠ 32 := by
        have h20 : lenD 20 = 32 := rfl
        rw [h20] at hc1
        simp only [Bool.and_eq_true, Bool.or_eq_true, Bool.and_eq_false_iff, Bool.or_eq_false_iff, Bool.not_eq_true', Bool.not_eq_false', decide_eq_true_eq, decide_eq_false_iff_not, beq_iff_eq, beq_eq_false_iff_ne, bne_iff_ne, bne_eq_false_iff_eq, ne_eq, Int.toNat_natCast] at *
        omega
      refine j_q (qs_ac) ?_
      refine j_q (qs_ac) ?_
      refine j_ret_con (vs := [_, _]) (fun w' hw' => ⟨rfl, rfl, trivial⟩) ?_
      show ∃ u, Value.tuple #[_, _] = Value.tuple #[u, _]
      rw [parseE_len hl32]
      exact ⟨_, rfl⟩
    · skip
      have hl32 : l.length = 32 := by
        have h20 : lenD 20 = 32 := rfl
        rw [h20] at hc1
        simp only [Bool.and_eq_true, Bool.or_eq_true, Bool.and_eq_false_iff, Bool.or_eq_false_iff, Bool.not_eq_true', Bool.not_eq_false', decide_eq_true_eq, decide_eq_false_iff_not, beq_iff_eq, beq_eq_false_iff_ne, bne_iff_ne, bne_eq_false_iff_eq, ne_eq, Int.toNat_natCast] at *
        omega
      refine j_make (n := 20) (c := 20) Tryz.underlying46 sb5 zero5 rfl (by decide) rfl rfl (by decide) (by decide) (fun g13 v13 c13 hv13 hc13 ho13 => ?_)
      subst hv13 hc13
      rw [ints_rep]
      clear ho13
      refine j_q (qs_ac) ?_
      refine j_loop (fun m vs S' => ∃ (t : Nat) (q : List UInt8), vs = [.int .i64 t] ∧ S' = [[(g13, .cells (ints q).toArray 5 (0, 0))], []] ∧ q.length = 20 ∧ t ≤ 32 ∧ (∀ j, 32 - t ≤ j → j < 32 → 0 ≤ dpos (l.getD j 0)) ∧ m = 32 - t) ⟨_, 0, _, rfl, rfl, by simp, by omega, fun j h1 h2 => by omega, rfl⟩ ?_
      rintro m vs S' hlen ⟨t, q, rfl, rfl, hq, ht, hall, rfl⟩
      clear hlen
      refine j_q (qs_lens Tryz.underlying9 rfl) ?_
      refine j_q (qs_lss rfl rfl) ?_
      refine j_cond rfl (fun hc2 => ?_) (fun hc2 => ?_)
      · skip
        have ht1 : t < 32 := by
          simp only [Bool.and_eq_true, Bool.or_eq_true, Bool.and_eq_false_iff, Bool.or_eq_false_iff, Bool.not_eq_true', Bool.not_eq_false', decide_eq_true_eq, decide_eq_false_iff_not, beq_iff_eq, beq_eq_false_iff_ne, bne_iff_ne, bne_eq_false_iff_eq, ne_eq, Int.toNat_natCast] at *
          omega
        refine j_q (qs_lens Tryz.underlying9 rfl) ?_
        refine j_q (qs_sub64 rfl rfl (by first | omega | (simp only [Bool.and_eq_true, Bool.or_eq_true, Bool.and_eq_false_iff, Bool.or_eq_false_iff, Bool.not_eq_true', Bool.not_eq_false', decide_eq_true_eq, decide_eq_false_iff_not, beq_iff_eq, beq_eq_false_iff_ne, bne_iff_ne, bne_eq_false_iff_eq, ne_eq, Int.toNat_natCast] at *; omega))) ?_
        refine j_q (qs_sub64 rfl rfl (by first | omega | (simp only [Bool.and_eq_true, Bool.or_eq_true, Bool.and_eq_false_iff, Bool.or_eq_false_iff, Bool.not_eq_true', Bool.not_eq_false', decide_eq_true_eq, decide_eq_false_iff_not, beq_iff_eq, beq_eq_false_iff_ne, bne_iff_ne, bne_eq_false_iff_eq, ne_eq, Int.toNat_natCast] at *; omega))) ?_
        refine j_q (qs_idx Tryz.underlying9 rfl rfl ⟨(by first | omega | (simp only [Bool.and_eq_true, Bool.or_eq_true, Bool.and_eq_false_iff, Bool.or_eq_false_iff, Bool.not_eq_true', Bool.not_eq_false', decide_eq_true_eq, decide_eq_false_iff_not, beq_iff_eq, beq_eq_false_iff_ne, bne_iff_ne, bne_eq_false_iff_eq, ne_eq, Int.toNat_natCast] at *; omega)), (by first | omega | (simp only [Bool.and_eq_true, Bool.or_eq_true, Bool.and_eq_false_iff, Bool.or_eq_false_iff, Bool.not_eq_true', Bool.not_eq_false', decide_eq_true_eq, decide_eq_false_iff_not, beq_iff_eq, beq_eq_false_iff_ne, bne_iff_ne, bne_eq_false_iff_eq, ne_eq, Int.toNat_natCast] at *; omega))⟩) ?_
        rw [show ((l.length : Int) - 1 - (t : Int)).toNat = 31 - t by omega]
        refine j_q (qs_call ent111 rfl rfl rfl (fun w' hw' => value_con (l.getD (31 - t) 0) w')) ?_
        refine j_q (qs_lss rfl rfl) ?_
        refine j_cond rfl (fun hc3 => ?_) (fun hc3 => ?_)
        · skip
          refine j_q (qs_ac) ?_
          refine j_q (qs_ac) ?_
          refine j_ret_con (vs := [_, _]) (fun w' hw' => ⟨rfl, rfl, trivial⟩) ?_
          show ∃ u, Value.tuple #[_, _] = Value.tuple #[u, _]
          rw [parseE_fail (i := 31 - t) (by omega) (by simp only [Bool.and_eq_true, Bool.or_eq_true, Bool.and_eq_false_iff, Bool.or_eq_false_iff, Bool.not_eq_true', Bool.not_eq_false', decide_eq_true_eq, decide_eq_false_iff_not, beq_iff_eq, beq_eq_false_iff_ne, bne_iff_ne, bne_eq_false_iff_eq, ne_eq, Int.toNat_natCast] at *; omega)]
          exact ⟨_, rfl⟩
        · skip
          have hd0 : 0 ≤ dpos (l.getD (31 - t) 0) := by
            simp only [Bool.and_eq_true, Bool.or_eq_true, Bool.and_eq_false_iff, Bool.or_eq_false_iff, Bool.not_eq_true', Bool.not_eq_false', decide_eq_true_eq, decide_eq_false_iff_not, beq_iff_eq, beq_eq_false_iff_ne, bne_iff_ne, bne_eq_false_iff_eq, ne_eq, Int.toNat_natCast] at *
            omega
          obtain ⟨dd, hdd⟩ : ∃ dd, dd = dpos (l.getD (31 - t) 0) := ⟨_, rfl⟩
          rw [← hdd]
          refine j_q (qs_ac) ?_
          refine j_loop (fun m vs S' => ∃ (j : Nat) (q : List UInt8), vs = [.int .i64 j] ∧ S' = [[(g13, .cells (ints q).toArray 5 (0, 0))], []] ∧ q.length = 20 ∧ j ≤ 5 ∧ m = 5 - j) ⟨_, 0, _, rfl, rfl, hq, by omega, rfl⟩ ?_
          rintro m vs S' hlen ⟨j, q, rfl, rfl, hq, hj, rfl⟩
          clear hlen
          refine j_q (qs_lss rfl rfl) ?_
          refine j_cond rfl (fun hc4 => ?_) (fun hc4 => ?_)
          · skip
            have hj1 : j < 5 := by
              simp only [Bool.and_eq_true, Bool.or_eq_true, Bool.and_eq_false_iff, Bool.or_eq_false_iff, Bool.not_eq_true', Bool.not_eq_false', decide_eq_true_eq, decide_eq_false_iff_not, beq_iff_eq, beq_eq_false_iff_ne, bne_iff_ne, bne_eq_false_iff_eq, ne_eq, Int.toNat_natCast] at *
              omega
            refine j_q (qs_conv Tryz.underlying3 Tryz.underlying152 rfl) ?_
            rw [IntWalk.u64_in _ (by omega)]
            refine j_q (qs_shr rfl rfl (by first | omega | (simp only [Bool.and_eq_true, Bool.or_eq_true, Bool.and_eq_false_iff, Bool.or_eq_false_iff, Bool.not_eq_true', Bool.not_eq_false', decide_eq_true_eq, decide_eq_false_iff_not, beq_iff_eq, beq_eq_false_iff_ne, bne_iff_ne, bne_eq_false_iff_eq, ne_eq, Int.toNat_natCast] at *; omega))) ?_
            refine j_q (qs_and_ rfl rfl) ?_
            refine j_q (qs_eql rfl rfl) ?_
            refine j_cond rfl (fun hc5 => ?_) (fun hc5 => ?_)
            · skip
              refine j_q (qs_add64 rfl rfl (by first | omega | (simp only [Bool.and_eq_true, Bool.or_eq_true, Bool.and_eq_false_iff, Bool.or_eq_false_iff, Bool.not_eq_true', Bool.not_eq_false', decide_eq_true_eq, decide_eq_false_iff_not, beq_iff_eq, beq_eq_false_iff_ne, bne_iff_ne, bne_eq_false_iff_eq, ne_eq, Int.toNat_natCast] at *; omega))) ?_
              refine j_back rfl ?_
              exact ⟨_, (by omega : 5 - (j + 1) < 5 - j), j + 1, _, rfl, rfl, hq, by omega, rfl⟩
            · skip
              refine j_q (qs_mul64 rfl rfl (by first | omega | (simp only [Bool.and_eq_true, Bool.or_eq_true, Bool.and_eq_false_iff, Bool.or_eq_false_iff, Bool.not_eq_true', Bool.not_eq_false', decide_eq_true_eq, decide_eq_false_iff_not, beq_iff_eq, beq_eq_false_iff_ne, bne_iff_ne, bne_eq_false_iff_eq, ne_eq, Int.toNat_natCast] at *; omega))) ?_
              refine j_q (qs_add64 rfl rfl (by first | omega | (simp only [Bool.and_eq_true, Bool.or_eq_true, Bool.and_eq_false_iff, Bool.or_eq_false_iff, Bool.not_eq_true', Bool.not_eq_false', decide_eq_true_eq, decide_eq_false_iff_not, beq_iff_eq, beq_eq_false_iff_ne, bne_iff_ne, bne_eq_false_iff_eq, ne_eq, Int.toNat_natCast] at *; omega))) ?_
              refine j_q (qs_quo64 rfl rfl (by first | omega | (simp only [Bool.and_eq_true, Bool.or_eq_true, Bool.and_eq_false_iff, Bool.or_eq_false_iff, Bool.not_eq_true', Bool.not_eq_false', decide_eq_true_eq, decide_eq_false_iff_not, beq_iff_eq, beq_eq_false_iff_ne, bne_iff_ne, bne_eq_false_iff_eq, ne_eq, Int.toNat_natCast] at *; omega)) (by first | omega | (simp only [Bool.and_eq_true, Bool.or_eq_true, Bool.and_eq_false_iff, Bool.or_eq_false_iff, Bool.not_eq_true', Bool.not_eq_false', decide_eq_true_eq, decide_eq_false_iff_not, beq_iff_eq, beq_eq_false_iff_ne, bne_iff_ne, bne_eq_false_iff_eq, ne_eq, Int.toNat_natCast] at *; omega)) (by first | omega | (simp only [Bool.and_eq_true, Bool.or_eq_true, Bool.and_eq_false_iff, Bool.or_eq_false_iff, Bool.not_eq_true', Bool.not_eq_false', decide_eq_true_eq, decide_eq_false_iff_not, beq_iff_eq, beq_eq_false_iff_ne, bne_iff_ne, bne_eq_false_iff_eq, ne_eq, Int.toNat_natCast] at *; omega))) ?_
              refine j_q (qs_geq rfl rfl) ?_
              refine j_cond rfl (fun hc6 => ?_) (fun hc6 => ?_)
              · skip
                exfalso
                simp only [Bool.and_eq_true, Bool.or_eq_true, Bool.and_eq_false_iff, Bool.or_eq_false_iff, Bool.not_eq_true', Bool.not_eq_false', decide_eq_true_eq, decide_eq_false_iff_not, beq_iff_eq, beq_eq_false_iff_ne, bne_iff_ne, bne_eq_false_iff_eq, ne_eq, Int.toNat_natCast] at *
                omega
              · skip
                refine j_q (qs_quo64 rfl rfl (by first | omega | (simp only [Bool.and_eq_true, Bool.or_eq_true, Bool.and_eq_false_iff, Bool.or_eq_false_iff, Bool.not_eq_true', Bool.not_eq_false', decide_eq_true_eq, decide_eq_false_iff_not, beq_iff_eq, beq_eq_false_iff_ne, bne_iff_ne, bne_eq_false_iff_eq, ne_eq, Int.toNat_natCast] at *; omega)) (by first | omega | (simp only [Bool.and_eq_true, Bool.or_eq_true, Bool.and_eq_false_iff, Bool.or_eq_false_iff, Bool.not_eq_true', Bool.not_eq_false', decide_eq_true_eq, decide_eq_false_iff_not, beq_iff_eq, beq_eq_false_iff_ne, bne_iff_ne, bne_eq_false_iff_eq, ne_eq, Int.toNat_natCast] at *; omega)) (by first | omega | (simp only [Bool.and_eq_true, Bool.or_eq_true, Bool.and_eq_false_iff, Bool.or_eq_false_iff, Bool.not_eq_true', Bool.not_eq_false', decide_eq_true_eq, decide_eq_false_iff_not, beq_iff_eq, beq_eq_false_iff_ne, bne_iff_ne, bne_eq_false_iff_eq, ne_eq, Int.toNat_natCast] at *; omega))) ?_
                refine j_q (qs_quo64 rfl rfl (by first | omega | (simp only [Bool.and_eq_true, Bool.or_eq_true, Bool.and_eq_false_iff, Bool.or_eq_false_iff, Bool.not_eq_true', Bool.not_eq_false', decide_eq_true_eq, decide_eq_false_iff_not, beq_iff_eq, beq_eq_false_iff_ne, bne_iff_ne, bne_eq_false_iff_eq, ne_eq, Int.toNat_natCast] at *; omega)) (by first | omega | (simp only [Bool.and_eq_true, Bool.or_eq_true, Bool.and_eq_false_iff, Bool.or_eq_false_iff, Bool.not_eq_true', Bool.not_eq_false', decide_eq_true_eq, decide_eq_false_iff_not, beq_iff_eq, beq_eq_false_iff_ne, bne_iff_ne, bne_eq_false_iff_eq, ne_eq, Int.toNat_natCast] at *; omega)) (by first | omega | (simp only [Bool.and_eq_true, Bool.or_eq_true, Bool.and_eq_false_iff, Bool.or_eq_false_iff, Bool.not_eq_true', Bool.not_eq_false', decide_eq_true_eq, decide_eq_false_iff_not, beq_iff_eq, beq_eq_false_iff_ne, bne_iff_ne, bne_eq_false_iff_eq, ne_eq, Int.toNat_natCast] at *; omega))) ?_
                first
                  | refine j_q (qs_ixg Tryz.underlying46 sz5 rfl rfl ⟨(by first | omega | (simp only [Bool.and_eq_true, Bool.or_eq_true, Bool.and_eq_false_iff, Bool.or_eq_false_iff, Bool.not_eq_true', Bool.not_eq_false', decide_eq_true_eq, decide_eq_false_iff_not, beq_iff_eq, beq_eq_false_iff_ne, bne_iff_ne, bne_eq_false_iff_eq, ne_eq, Int.toNat_natCast] at *; omega)), (by first | omega | (simp only [Bool.and_eq_true, Bool.or_eq_true, Bool.and_eq_false_iff, Bool.or_eq_false_iff, Bool.not_eq_true', Bool.not_eq_false', decide_eq_true_eq, decide_eq_false_iff_not, beq_iff_eq, beq_eq_false_iff_ne, bne_iff_ne, bne_eq_false_iff_eq, ne_eq, Int.toNat_natCast] at *; omega))⟩) ?_
                  | refine j_q (qs_ixl0 Tryz.underlying46 sz5 rfl rfl ⟨(by first | omega | (simp only [Bool.and_eq_true, Bool.or_eq_true, Bool.and_eq_false_iff, Bool.or_eq_false_iff, Bool.not_eq_true', Bool.not_eq_false', decide_eq_true_eq, decide_eq_false_iff_not, beq_iff_eq, beq_eq_false_iff_ne, bne_iff_ne, bne_eq_false_iff_eq, ne_eq, Int.toNat_natCast] at *; omega)), (by first | omega | (simp only [Bool.and_eq_true, Bool.or_eq_true, Bool.and_eq_false_iff, Bool.or_eq_false_iff, Bool.not_eq_true', Bool.not_eq_false', decide_eq_true_eq, decide_eq_false_iff_not, beq_iff_eq, beq_eq_false_iff_ne, bne_iff_ne, bne_eq_false_iff_eq, ne_eq, Int.toNat_natCast] at *; omega))⟩) ?_
                first
                  | refine j_q (qs_loadk 0 Tryz.underlying5 rfl rfl (by first | omega | (simp only [Bool.and_eq_true, Bool.or_eq_true, Bool.and_eq_false_iff, Bool.or_eq_false_iff, Bool.not_eq_true', Bool.not_eq_false', decide_eq_true_eq, decide_eq_false_iff_not, beq_iff_eq, beq_eq_false_iff_ne, bne_iff_ne, bne_eq_false_iff_eq, ne_eq, Int.toNat_natCast] at *; omega))) ?_
                  | refine j_q (qs_loadi 0 Tryz.underlying5 rfl rfl (by first | omega | (simp only [Bool.and_eq_true, Bool.or_eq_true, Bool.and_eq_false_iff, Bool.or_eq_false_iff, Bool.not_eq_true', Bool.not_eq_false', decide_eq_true_eq, decide_eq_false_iff_not, beq_iff_eq, beq_eq_false_iff_ne, bne_iff_ne, bne_eq_false_iff_eq, ne_eq, Int.toNat_natCast] at *; omega))) ?_
                  | refine j_q (qs_load 0 Tryz.underlying5 rfl rfl rfl rfl) ?_
                refine j_q (qs_rem64 rfl rfl (by first | omega | (simp only [Bool.and_eq_true, Bool.or_eq_true, Bool.and_eq_false_iff, Bool.or_eq_false_iff, Bool.not_eq_true', Bool.not_eq_false', decide_eq_true_eq, decide_eq_false_iff_not, beq_iff_eq, beq_eq_false_iff_ne, bne_iff_ne, bne_eq_false_iff_eq, ne_eq, Int.toNat_natCast] at *; omega)) (by first | omega | (simp only [Bool.and_eq_true, Bool.or_eq_true, Bool.and_eq_false_iff, Bool.or_eq_false_iff, Bool.not_eq_true', Bool.not_eq_false', decide_eq_true_eq, decide_eq_false_iff_not, beq_iff_eq, beq_eq_false_iff_ne, bne_iff_ne, bne_eq_false_iff_eq, ne_eq, Int.toNat_natCast] at *; omega))) ?_
                refine j_q (qs_conv Tryz.underlying3 Tryz.underlying152 rfl) ?_
                rw [IntWalk.u64_in _ (by omega)]
                refine j_q (qs_shl rfl rfl (by first | omega | (simp only [Bool.and_eq_true, Bool.or_eq_true, Bool.and_eq_false_iff, Bool.or_eq_false_iff, Bool.not_eq_true', Bool.not_eq_false', decide_eq_true_eq, decide_eq_false_iff_not, beq_iff_eq, beq_eq_false_iff_ne, bne_iff_ne, bne_eq_false_iff_eq, ne_eq, Int.toNat_natCast] at *; omega))) ?_
                refine j_q (qs_or_ rfl rfl) ?_
                rw [bw_by8]
                first
                  | refine j_q (qs_ixg Tryz.underlying46 sz5 rfl rfl ⟨(by first | omega | (simp only [Bool.and_eq_true, Bool.or_eq_true, Bool.and_eq_false_iff, Bool.or_eq_false_iff, Bool.not_eq_true', Bool.not_eq_false', decide_eq_true_eq, decide_eq_false_iff_not, beq_iff_eq, beq_eq_false_iff_ne, bne_iff_ne, bne_eq_false_iff_eq, ne_eq, Int.toNat_natCast] at *; omega)), (by first | omega | (simp only [Bool.and_eq_true, Bool.or_eq_true, Bool.and_eq_false_iff, Bool.or_eq_false_iff, Bool.not_eq_true', Bool.not_eq_false', decide_eq_true_eq, decide_eq_false_iff_not, beq_iff_eq, beq_eq_false_iff_ne, bne_iff_ne, bne_eq_false_iff_eq, ne_eq, Int.toNat_natCast] at *; omega))⟩) ?_
                  | refine j_q (qs_ixl0 Tryz.underlying46 sz5 rfl rfl ⟨(by first | omega | (simp only [Bool.and_eq_true, Bool.or_eq_true, Bool.and_eq_false_iff, Bool.or_eq_false_iff, Bool.not_eq_true', Bool.not_eq_false', decide_eq_true_eq, decide_eq_false_iff_not, beq_iff_eq, beq_eq_false_iff_ne, bne_iff_ne, bne_eq_false_iff_eq, ne_eq, Int.toNat_natCast] at *; omega)), (by first | omega | (simp only [Bool.and_eq_true, Bool.or_eq_true, Bool.and_eq_false_iff, Bool.or_eq_false_iff, Bool.not_eq_true', Bool.not_eq_false', decide_eq_true_eq, decide_eq_false_iff_not, beq_iff_eq, beq_eq_false_iff_ne, bne_iff_ne, bne_eq_false_iff_eq, ne_eq, Int.toNat_natCast] at *; omega))⟩) ?_
                first
                  | refine j_storek 0 sz5 rfl rfl rfl (by first | omega | (simp only [Bool.and_eq_true, Bool.or_eq_true, Bool.and_eq_false_iff, Bool.or_eq_false_iff, Bool.not_eq_true', Bool.not_eq_false', decide_eq_true_eq, decide_eq_false_iff_not, beq_iff_eq, beq_eq_false_iff_ne, bne_iff_ne, bne_eq_false_iff_eq, ne_eq, Int.toNat_natCast] at *; omega)) ?_
                  | refine j_storei 0 sz5 rfl rfl rfl (by first | omega | (simp only [Bool.and_eq_true, Bool.or_eq_true, Bool.and_eq_false_iff, Bool.or_eq_false_iff, Bool.not_eq_true', Bool.not_eq_false', decide_eq_true_eq, decide_eq_false_iff_not, beq_iff_eq, beq_eq_false_iff_ne, bne_iff_ne, bne_eq_false_iff_eq, ne_eq, Int.toNat_natCast] at *; omega)) ?_
                  | refine j_store 0 sz5 rfl rfl rfl rfl (by simp) (by first | omega | (simp only [Bool.and_eq_true, Bool.or_eq_true, Bool.and_eq_false_iff, Bool.or_eq_false_iff, Bool.not_eq_true', Bool.not_eq_false', decide_eq_true_eq, decide_eq_false_iff_not, beq_iff_eq, beq_eq_false_iff_ne, bne_iff_ne, bne_eq_false_iff_eq, ne_eq, Int.toNat_natCast] at *; omega)) ?_
                refine j_q (qs_add64 rfl rfl (by first | omega | (simp only [Bool.and_eq_true, Bool.or_eq_true, Bool.and_eq_false_iff, Bool.or_eq_false_iff, Bool.not_eq_true', Bool.not_eq_false', decide_eq_true_eq, decide_eq_false_iff_not, beq_iff_eq, beq_eq_false_iff_ne, bne_iff_ne, bne_eq_false_iff_eq, ne_eq, Int.toNat_natCast] at *; omega))) ?_
                refine j_back rfl ?_
                exact ⟨_, (by omega : 5 - (j + 1) < 5 - j), j + 1, _, rfl, rfl, by simpa using hq, by omega, rfl⟩
          · skip
            refine j_q (qs_add64 rfl rfl (by first | omega | (simp only [Bool.and_eq_true, Bool.or_eq_true, Bool.and_eq_false_iff, Bool.or_eq_false_iff, Bool.not_eq_true', Bool.not_eq_false', decide_eq_true_eq, decide_eq_false_iff_not, beq_iff_eq, beq_eq_false_iff_ne, bne_iff_ne, bne_eq_false_iff_eq, ne_eq, Int.toNat_natCast] at *; omega))) ?_
            refine j_back rfl ?_
            exact ⟨_, (by omega : 32 - (t + 1) < 32 - t), t + 1, _, rfl, rfl, hq, by omega, fun j h1 h2 => by
                  rcases Nat.lt_or_ge j (32 - t) with h3 | h3
                  · obtain rfl : j = 31 - t := by omega
                    omega
                  · exact hall j h3 h2, rfl⟩
      · skip
        obtain rfl : t = 32 := by
          simp only [Bool.and_eq_true, Bool.or_eq_true, Bool.and_eq_false_iff, Bool.or_eq_false_iff, Bool.not_eq_true', Bool.not_eq_false', decide_eq_true_eq, decide_eq_false_iff_not, beq_iff_eq, beq_eq_false_iff_ne, bne_iff_ne, bne_eq_false_iff_eq, ne_eq, Int.toNat_natCast] at *
          omega
        refine j_q (qs_ac) ?_
        refine j_ret_con (vs := [_, _]) (fun w' hw' => ⟨rfl, rfl, trivial⟩) ?_
        show ∃ u, Value.tuple #[_, _] = Value.tuple #[u, _]
        rw [parseE_ok hl32 (fun i hi => hall i (by omega) (by omega))]
        exact ⟨_, rfl⟩
end Go.Proofs.YtfeabbeebkkhaaaGreat
