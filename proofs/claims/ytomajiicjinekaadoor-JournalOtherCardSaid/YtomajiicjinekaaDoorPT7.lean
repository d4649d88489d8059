/- Part 7. -/
import Derived.Test.YtomajiicjinekaaDoorPT2
import Derived.Test.YtomajiicjinekaaDoorPT3
import Derived.Test.YtomajiicjinekaaDoorPT6
import Derived.Tactics
import Derived.Tactics2
import Derived.Defers
import Derived.Recover
import Derived.Laws.Pointers
import Derived.RegionTactic
import Derived.RegionCalls
import Derived.ChangeAlike
import Derived.Laws.LoneSync
/-! Num -/
namespace Go.Proofs.YtomajiicjinekaaDoor
open Go Go.Sx
set_option maxRecDepth 100000
set_option maxHeartbeats 4000000
set_option linter.unusedVariables false
set_option linter.unusedSimpArgs false
attribute [local irreducible] J JQ QS Con W opW
def dec (n : Nat) : List UInt8 := if n < 10 then [UInt8.ofNat (48 + n)] else dec (n / 10) ++ [UInt8.ofNat (48 + n % 10)]
theorem dec_small {n : Nat} (h : n < 10) : dec n = [UInt8.ofNat (48 + n)] := by rw [dec, if_pos h]
theorem dec_big {n : Nat} (h : 10 ≤ n) : dec n = dec (n / 10) ++ [UInt8.ofNat (48 + n % 10)] := by rw [dec, if_neg (by omega)]
theorem dec2 {n : Nat} (h : 10 ≤ n) (h2 : n < 100) : dec n = [UInt8.ofNat (48 + n / 10), UInt8.ofNat (48 + n % 10)] := by
  rw [dec_big h, dec_small (by omega)]
  rfl
theorem dec3 {n : Nat} (h : 100 ≤ n) (h2 : n < 1000) : dec n = [UInt8.ofNat (48 + n / 100), UInt8.ofNat (48 + n / 10 % 10), UInt8.ofNat (48 + n % 10)] := by
  rw [dec_big (by omega), dec2 (by omega) (by omega), Nat.div_div_eq_div_mul]
  rfl
theorem dec4 {n : Nat} (h : 1000 ≤ n) (h2 : n < 10000) : dec n = [UInt8.ofNat (48 + n / 1000), UInt8.ofNat (48 + n / 100 % 10), UInt8.ofNat (48 + n / 10 % 10), UInt8.ofNat (48 + n % 10)] := by
  rw [dec_big (by omega), dec3 (by omega) (by omega), Nat.div_div_eq_div_mul, Nat.div_div_eq_div_mul]
  rfl
theorem dec_len {n : Nat} (h : n < 10000) : (dec n).length ≤ 4 := by
  by_cases h1 : n < 10
  · rw [dec_small h1]; simp
  · by_cases h2 : n < 100
    · rw [dec2 (by omega) h2]; simp
    · by_cases h3 : n < 1000
      · rw [dec3 (by omega) h3]; simp
      · rw [dec4 (by omega) h]; simp
def SMD : List UInt8 := [48, 48, 48, 49, 48, 50, 48, 51, 48, 52, 48, 53, 48, 54, 48, 55, 48, 56, 48, 57, 49, 48, 49, 49, 49, 50, 49, 51, 49, 52, 49, 53, 49, 54, 49, 55, 49, 56, 49, 57, 50, 48, 50, 49, 50, 50, 50, 51, 50, 52, 50, 53, 50, 54, 50, 55, 50, 56, 50, 57, 51, 48, 51, 49, 51, 50, 51, 51, 51, 52, 51, 53, 51, 54, 51, 55, 51, 56, 51, 57, 52, 48, 52, 49, 52, 50, 52, 51, 52, 52, 52, 53, 52, 54, 52, 55, 52, 56, 52, 57, 53, 48, 53, 49, 53, 50, 53, 51, 53, 52, 53, 53, 53, 54, 53, 55, 53, 56, 53, 57, 54, 48, 54, 49, 54, 50, 54, 51, 54, 52, 54, 53, 54, 54, 54, 55, 54, 56, 54, 57, 55, 48, 55, 49, 55, 50, 55, 51, 55, 52, 55, 53, 55, 54, 55, 55, 55, 56, 55, 57, 56, 48, 56, 49, 56, 50, 56, 51, 56, 52, 56, 53, 56, 54, 56, 55, 56, 56, 56, 57, 57, 48, 57, 49, 57, 50, 57, 51, 57, 52, 57, 53, 57, 54, 57, 55, 57, 56, 57, 57]
def SDG : List UInt8 := [48, 49, 50, 51, 52, 53, 54, 55, 56, 57, 97, 98, 99, 100, 101, 102, 103, 104, 105, 106, 107, 108, 109, 110, 111, 112, 113, 114, 115, 116, 117, 118, 119, 120, 121, 122]
theorem sm_len : SMD.length = 200 := by decide +kernel
theorem sm0 {n : Nat} (h : n < 100) : SMD.getD (n * 2) 0 = UInt8.ofNat (48 + n / 10) := by
  have : ∀ k : Fin 100, SMD.getD (k.val * 2) 0 = UInt8.ofNat (48 + k.val / 10) := by decide +kernel
  exact this ⟨n, h⟩
theorem sm1 {n : Nat} (h : n < 100) : SMD.getD (n * 2 + 1) 0 = UInt8.ofNat (48 + n % 10) := by
  have : ∀ k : Fin 100, SMD.getD (k.val * 2 + 1) 0 = UInt8.ofNat (48 + k.val % 10) := by decide +kernel
  exact this ⟨n, h⟩
theorem sm2 {n : Nat} (h : n < 100) (h2 : 10 ≤ n) : (SMD.take (n * 2 + 2)).drop (n * 2) = dec n := by
  rw [dec2 h2 h]
  have : ∀ k : Fin 100, (SMD.take (k.val * 2 + 2)).drop (k.val * 2) = [UInt8.ofNat (48 + k.val / 10), UInt8.ofNat (48 + k.val % 10)] := by decide +kernel
  exact this ⟨n, h⟩
theorem sd1 {n : Nat} (h : n < 10) : (SDG.take (n + 1)).drop n = dec n := by
  rw [dec_small h]
  have : ∀ k : Fin 10, (SDG.take (k.val + 1)).drop k.val = [UInt8.ofNat (48 + k.val)] := by decide +kernel
  exact this ⟨n, h⟩
def bl (n : Nat) : Nat := if n = 0 then 0 else n.log2 + 1
def LTD : List UInt8 := (List.range 256).map fun i => UInt8.ofNat (bl i)
theorem lt_get {n : Nat} (h : n < 256) : (LTD.getD n 0).toNat = bl n := by
  have : ∀ k : Fin 256, (LTD.getD k.val 0).toNat = bl k.val := by decide +kernel
  exact this ⟨n, h⟩
theorem lt_len : LTD.length = 256 := by decide +kernel
theorem bl_up {n : Nat} (h : 256 ≤ n) (h2 : n < 65536) : bl n = 8 + bl (n / 256) := by
  unfold bl
  rw [if_neg (by omega), if_neg (by omega)]
  have e : n / 256 = n >>> 8 := by rw [Nat.shiftRight_eq_div_pow]
  have hb1 := Nat.log2_self_le (n := n / 256) (by omega)
  have hb2 := Nat.lt_log2_self (n := n / 256)
  have h1 : 2 ^ ((n / 256).log2 + 8) ≤ n := by
    rw [Nat.pow_add]; omega
  have h3 : n < 2 ^ ((n / 256).log2 + 9) := by
    rw [show (n / 256).log2 + 9 = (n / 256).log2 + 1 + 8 by omega, Nat.pow_add]; omega
  have h4 : (n / 256).log2 + 8 ≤ n.log2 := (Nat.le_log2 (by omega)).2 h1
  have h5 : n.log2 < (n / 256).log2 + 9 := (Nat.log2_lt (by omega)).2 h3
  omega
theorem bl_spec {n : Nat} (h : 0 < n) : 2 ^ (bl n - 1) ≤ n ∧ n < 2 ^ bl n := by
  unfold bl
  rw [if_neg (by omega)]
  exact ⟨by simpa using Nat.log2_self_le (n := n) (by omega), Nat.lt_log2_self⟩
theorem nd_eq {n : Nat} (h1 : 100 ≤ n) (h2 : n < 10000) : bl n ≤ 14 ∧ bl n * 78913 / 262144 ≤ 4 ∧ 2 ≤ bl n * 78913 / 262144 ∧ (bl n * 78913 / 262144 : Nat) + (if 10 ^ (bl n * 78913 / 262144) ≤ n then 1 else 0) = (if n < 1000 then 3 else 4) := by
  obtain ⟨a, c⟩ := bl_spec (n := n) (by omega)
  generalize bl n = L at *
  have hL : 7 ≤ L := by
    rcases Nat.lt_or_ge L 7 with h | h
    · have : 2 ^ L ≤ 2 ^ 6 := Nat.pow_le_pow_right (by decide) (by omega)
      omega
    · exact h
  have hL2 : L ≤ 14 := by
    rcases Nat.lt_or_ge 14 L with h | h
    · have : 2 ^ 14 ≤ 2 ^ (L - 1) := Nat.pow_le_pow_right (by decide) (by omega)
      omega
    · exact h
  rcases (by omega : L = 7 ∨ L = 8 ∨ L = 9 ∨ L = 10 ∨ L = 11 ∨ L = 12 ∨ L = 13 ∨ L = 14) with rfl | rfl | rfl | rfl | rfl | rfl | rfl | rfl <;>
    (simp only [show (7 - 1 : Nat) = 6 from rfl, show (8 - 1 : Nat) = 7 from rfl, show (9 - 1 : Nat) = 8 from rfl, show (10 - 1 : Nat) = 9 from rfl, show (11 - 1 : Nat) = 10 from rfl, show (12 - 1 : Nat) = 11 from rfl, show (13 - 1 : Nat) = 12 from rfl, show (14 - 1 : Nat) = 13 from rfl] at a c
     refine ⟨by omega, by omega, by omega, ?_⟩
     split <;> split <;> omega)
def p10 : List Int := (List.range 20).map fun i => (10 : Int) ^ i
def P10 (w : World) : Prop := 0 < w.heap.size ∧ Cells w ⟨0, 0, none⟩ (ks .u64 p10)
theorem P10.keep {w w' : World} {D : List Nat} {S : List SH} (h : P10 w) (hs : Sig ⟨w, D⟩ S w') (hD : 0 ∉ D) : P10 w' := ⟨Nat.lt_of_lt_of_le h.1 hs.size, cells_stay h.2 hs hD⟩
theorem p10_get {i : Nat} (h : i < 20) : p10.getD i 0 = ((10 ^ i : Nat) : Int) := by
  have : ∀ k : Fin 20, p10.getD k.val 0 = ((10 ^ k.val : Nat) : Int) := by decide +kernel
  exact this ⟨i, h⟩
theorem wr32 {n : Nat} (h : n < 4294967296) : IntKind.u32.wrap (n : Int) = (n : Int) := by rw [IntKind.wrap_u32]; omega
theorem q32 (n d : Nat) (h : n < 4294967296) : IntKind.u32.wrap ((n : Int).tdiv (d : Int)) = ((n / d : Nat) : Int) := by
  rw [Int.tdiv_eq_ediv_of_nonneg (by omega), ← Int.natCast_ediv, wr32 (Nat.lt_of_le_of_lt (Nat.div_le_self _ _) h)]
theorem by8_natN {n : Nat} (h : n < 256) : by8 (n : Int) = UInt8.ofNat n := by
  have : ∀ k : Fin 256, by8 (k.val : Int) = UInt8.ofNat k.val := by decide +kernel
  exact this ⟨n, h⟩
attribute [local irreducible] SMD SDG LTD bl p10
theorem small_con (n : Nat) (w : World) (hn : n < 100) : Con Tryd.prog 72 [.int .i64 (n : Int)] w [] fun v _ => v = .string (bs (dec n)) := by
  refine con_of_tree mix Tryd.func72 T72_ok (by kernel_rfl) ?_
  unfold T72
  refine j_q (qs_ac) ?_
  refine j_q (qs_lss rfl rfl) ?_
  refine j_cond rfl (fun hc0 => ?_) (fun hc0 => ?_)
  · skip
    have h9 : n < 10 := by
      simp only [bnA] at *
      omega
    refine j_q (qs_add64 rfl rfl (by first | omega | (simp only [bnA] at *; omega))) ?_
    refine j_q (qs_cuts (l := SDG) (a := n) (z := n + 1) Tryd.underlying9 (by kernel_rfl) ⟨.i64, rfl⟩ ⟨.i64, rfl⟩ (by omega) (by rw [show SDG.length = 36 by decide +kernel]; omega)) ?_
    rw [sd1 h9]
    refine j_ret_con (vs := [_]) (fun w' hw' => ⟨rfl, trivial⟩) ?_
    rfl
  · skip
    have h9 : 10 ≤ n := by
      simp only [bnA] at *
      omega
    refine j_q (qs_mul64 rfl rfl (by first | omega | (simp only [bnA] at *; omega))) ?_
    refine j_q (qs_mul64 rfl rfl (by first | omega | (simp only [bnA] at *; omega))) ?_
    refine j_q (qs_add64 rfl rfl (by first | omega | (simp only [bnA] at *; omega))) ?_
    refine j_q (qs_cuts (l := SMD) (a := n * 2) (z := n * 2 + 2) Tryd.underlying9 (by kernel_rfl) ⟨.i64, by show Value.int _ _ = _; congr 1⟩ ⟨.i64, by show Value.int _ _ = _; congr 1⟩ (by omega) (by rw [sm_len]; omega)) ?_
    rw [sm2 hn h9]
    refine j_ret_con (vs := [_]) (fun w' hw' => ⟨rfl, trivial⟩) ?_
    rfl
theorem log10_con (n : Nat) (w : World) (hn : n ≤ 64) : Con Tryd.prog 80 [.int .i64 (n : Int)] w [] fun v _ => v = .int .i64 ((n * 78913 / 262144 : Nat) : Int) := by
  refine con_of_tree mix Tryd.func80 T80_ok (by kernel_rfl) ?_
  unfold T80
  refine j_q (qs_ac) ?_
  refine j_q (qs_mul64 rfl rfl (by first | omega | (simp only [bnA] at *; omega))) ?_
  refine j_q (qs_shr rfl rfl (by first | omega | (simp only [bnA] at *; omega))) ?_
  refine j_ret_con (vs := [_]) (fun w' hw' => ⟨rfl, trivial⟩) ?_
  show Value.int _ _ = _
  congr 1
  show Int.fdiv ((n : Int) * 78913) (2 ^ 18) = _
  rw [Int.fdiv_eq_ediv_of_nonneg _ (by decide)]
  omega
theorem bool2_con (x : Bool) (w : World) : Con Tryd.prog 82 [.bool x] w [] fun v _ => v = .int .i64 (if x then 1 else 0) := by
  refine con_of_tree mix Tryd.func82 T82_ok (by kernel_rfl) ?_
  unfold T82
  refine j_q (qs_ac) ?_
  refine j_cond rfl (fun hc0 => ?_) (fun hc0 => ?_)
  · skip
    refine j_q (qs_ac) ?_
    refine j_ret_con (vs := [_]) (fun w' hw' => ⟨rfl, trivial⟩) ?_
    show Value.int _ _ = _
    rw [if_pos hc0]
  · skip
    refine j_q (qs_ac) ?_
    refine j_ret_con (vs := [_]) (fun w' hw' => ⟨rfl, trivial⟩) ?_
    show Value.int _ _ = _
    rw [if_neg (by rw [hc0]; decide)]
theorem len64_con (n : Nat) (w : World) (hn : n < 10000) : Con Tryd.prog 81 [.int .u64 (n : Int)] w [] fun v _ => v = .int .i64 (bl n : Nat) := by
  refine con_of_tree mix Tryd.func81 T81_ok (by kernel_rfl) ?_
  unfold T81
  refine j_q (qs_ac) ?_
  refine j_q (qs_geq rfl rfl) ?_
  refine j_cond rfl (fun hc0 => ?_) (fun hc0 => ?_)
  · skip
    simp only [bnA] at *
    omega
  · skip
    refine j_q (qs_geq rfl rfl) ?_
    refine j_cond rfl (fun hc4 => ?_) (fun hc4 => ?_)
    · skip
      simp only [bnA] at *
      omega
    · skip
      refine j_q (qs_geq rfl rfl) ?_
      refine j_cond rfl (fun hc6 => ?_) (fun hc6 => ?_)
      · skip
        have h9 : 256 ≤ n := by
          simp only [bnA] at *
          omega
        have e9 : (by8 ((n / 256 : Nat) : Int)).toNat = n / 256 := by
          rw [by8_natN (by omega), UInt8.toNat_ofNat']
          omega
        have h8 : bl (n / 256) ≤ 20 := by
          by_cases h0 : (n / 256) = 0
          · rw [h0]; decide +kernel
          · have := bl_spec (n := (n / 256)) (by omega)
            rcases Nat.lt_or_ge 20 (bl ((n / 256))) with h | h
            · have : 2 ^ 20 ≤ 2 ^ (bl ((n / 256)) - 1) := Nat.pow_le_pow_right (by decide) (by omega)
              omega
            · exact h
        refine j_q (qs_shr rfl rfl (by decide)) ?_
        rw [show Int.fdiv (n : Int) (2 ^ min (8 : Int).toNat IntKind.u64.bits) = ((n / 256 : Nat) : Int) from by
          show Int.fdiv (n : Int) 256 = _
          rw [Int.fdiv_eq_ediv_of_nonneg _ (by decide)]
          rfl]
        refine j_q (qs_add64 rfl rfl (by first | omega | (simp only [bnA] at *; omega))) ?_
        refine j_q (qs_conv8 Tryd.underlying64 Tryd.underlying5 rfl) ?_
        refine j_q (qs_idx (l := LTD) Tryd.underlying9 (by kernel_rfl) rfl (by rw [lt_len]; have := UInt8.toNat_lt (by8 ((n / 256 : Nat) : Int)); omega)) ?_
        rw [Int.toNat_natCast, e9, lt_get (by omega)]
        refine j_q (qs_conv Tryd.underlying5 Tryd.underlying3 rfl) ?_
        rw [IntWalk.i64_in _ (by omega)]
        refine j_q (qs_add64 rfl rfl (by first | omega | (simp only [bnA] at *; omega))) ?_
        refine j_ret_con (vs := [_]) (fun w' hw' => ⟨rfl, trivial⟩) ?_
        show Value.int _ _ = _
        congr 1
        rw [bl_up h9 (by omega)]
        omega
      · skip
        have h9 : n < 256 := by
          simp only [bnA] at *
          omega
        have e9 : (by8 (n : Int)).toNat = n := by
          rw [by8_natN h9, UInt8.toNat_ofNat']
          omega
        have h8 : bl (n) ≤ 20 := by
          by_cases h0 : (n) = 0
          · rw [h0]; decide +kernel
          · have := bl_spec (n := (n)) (by omega)
            rcases Nat.lt_or_ge 20 (bl ((n))) with h | h
            · have : 2 ^ 20 ≤ 2 ^ (bl ((n)) - 1) := Nat.pow_le_pow_right (by decide) (by omega)
              omega
            · exact h
        refine j_q (qs_conv8 Tryd.underlying64 Tryd.underlying5 rfl) ?_
        refine j_q (qs_idx (l := LTD) Tryd.underlying9 (by kernel_rfl) rfl (by rw [lt_len]; have := UInt8.toNat_lt (by8 (n : Int)); omega)) ?_
        rw [Int.toNat_natCast, e9, lt_get (by omega)]
        refine j_q (qs_conv Tryd.underlying5 Tryd.underlying3 rfl) ?_
        rw [IntWalk.i64_in _ (by omega)]
        refine j_q (qs_add64 rfl rfl (by first | omega | (simp only [bnA] at *; omega))) ?_
        refine j_ret_con (vs := [_]) (fun w' hw' => ⟨rfl, trivial⟩) ?_
        show Value.int _ _ = _
        congr 1
        omega
theorem numDigits_con (n : Nat) (w : World) (h1 : 100 ≤ n) (h2 : n < 10000) (hP : P10 w) : Con Tryd.prog 73 [.int .u64 (n : Int)] w [] fun v _ => v = .int .i64 ((if n < 1000 then 3 else 4 : Nat) : Int) := by
  refine con_of_tree mix Tryd.func73 T73_ok (by kernel_rfl) ?_
  unfold T73
  obtain ⟨b1, b2, b3, b4⟩ := nd_eq h1 h2
  refine j_q (qs_ac) ?_
  refine j_q (qs_call ent81 rfl rfl rfl (fun w' hw' => len64_con n w' h2)) ?_
  refine j_q (qs_call ent80 rfl rfl rfl (fun w' hw' => log10_con (bl n) w' (by omega))) ?_
  refine j_q (qs_ix0 Tryd.underlying136 sz12 rfl rfl (by omega)) ?_
  rw [Int.toNat_natCast]
  refine j_q (qs_loadrk (a := ⟨0, 0, none⟩) (l := p10) (i := bl n * 78913 / 262144) (rd_cells hP.2 (by simp)) Tryd.underlying12 (by rw [add_off, Nat.zero_add]; rfl) (by rw [show p10.length = 20 by decide +kernel]; omega)) ?_
  rw [p10_get (by omega)]
  refine j_q (qs_geq rfl rfl) ?_
  refine j_q (qs_call ent82 rfl rfl rfl (fun w' hw' => bool2_con _ w')) ?_
  refine j_q (qs_add64 rfl rfl (by split <;> omega)) ?_
  refine j_ret_con (vs := [_]) (fun w' hw' => ⟨rfl, trivial⟩) ?_
  show Value.int _ _ = _
  congr 1
  rw [← b4]
  by_cases hx : 10 ^ (bl n * 78913 / 262144) ≤ n
  · rw [if_pos hx, if_pos (by rw [decide_eq_true_eq]; exact Int.ofNat_le.2 hx)]
    rfl
  · rw [if_neg hx, if_neg (by rw [decide_eq_true_eq]; intro h; exact hx (Int.ofNat_le.1 h))]
    rfl
theorem fmt3_con (n g : Nat) (w : World) (h1 : 100 ≤ n) (h2 : n < 1000) : Con Tryd.prog 74 [.slice (some ⟨g, 0, none⟩) 3 24, .int .u64 (n : Int)] w [(g, .cells (ints (List.replicate 24 0)).toArray 127 (0, 0))] fun v S' => v = .tuple #[] ∧ S' = [[(g, .cells (ints (dec n ++ List.replicate 21 0)).toArray 127 (0, 0))]] := by
  refine con_of_tree mix Tryd.func74 T74_ok (by kernel_rfl) ?_
  unfold T74
  refine j_q (qs_lenl Tryd.underlying22 rfl) ?_
  refine j_loop (fun m vs S' => vs = [.int .u64 (n : Int), .int .i64 3] ∧ S' = [[(g, .cells (ints (List.replicate 24 0)).toArray 127 (0, 0))]] ∧ m = 0) ⟨_, rfl, rfl, rfl⟩ ?_
  rintro m vs S' hlen ⟨rfl, rfl, rfl⟩
  refine j_q (qs_geq rfl rfl) ?_
  refine j_cond rfl (fun hc0 => ?_) (fun hc0 => ?_)
  · skip
    simp at hc0
  · skip
    refine j_q (qs_conv Tryd.underlying12 Tryd.underlying67 rfl) ?_
    rw [show IntKind.u32.wrap (n : Int) = (n : Int) from wr32 (by omega)]
    refine j_q (qs_geq rfl rfl) ?_
    refine j_cond rfl (fun hc1 => ?_) (fun hc1 => ?_)
    · skip
      simp at hc1
    · skip
      refine j_q (qs_geq rfl rfl) ?_
      refine j_cond rfl (fun hc5 => ?_) (fun hc5 => ?_)
      · skip
        refine j_q (qs_rem64 rfl rfl (by omega) (by decide)) ?_
        rw [show ((n : Nat) : Int) % 100 = ((n % 100 : Nat) : Int) from rfl]
        refine j_q (qs_mul rfl rfl) ?_
        rw [show IntKind.u32.wrap (((n % 100 : Nat) : Int) * 2) = ((n % 100 * 2 : Nat) : Int) from wr32 (n := n % 100 * 2) (by omega)]
        refine j_q (qs_quo rfl rfl (by decide)) ?_
        rw [show IntKind.u32.wrap (((n : Nat) : Int).tdiv 100) = ((n / 100 : Nat) : Int) from q32 (n) 100 (by omega)]
        refine j_mix [] (Le.of_sub (List.nil_sublist _)) ?_
        refine j_mq (qs_sub64 rfl rfl (by first | omega | (simp only [bnA] at *; omega))) ?_
        refine j_mq (qs_sub64 rfl rfl (by first | omega | (simp only [bnA] at *; omega))) ?_
        refine j_mq (qs_add rfl rfl) ?_
        rw [show IntKind.u32.wrap ((((n % 100) * 2 : Nat) : Int) + 1) = (((n % 100) * 2 + 1 : Nat) : Int) from wr32 (n := (n % 100) * 2 + 1) (by omega)]
        refine j_mq (qs_idx (l := SMD) Tryd.underlying9 (by kernel_rfl) rfl (by rw [sm_len]; omega)) ?_
        rw [Int.toNat_natCast, sm1 (show (n % 100) < 100 by omega)]
        refine j_mq (qs_idx (l := SMD) Tryd.underlying9 (by kernel_rfl) rfl (by rw [sm_len]; omega)) ?_
        rw [Int.toNat_natCast, sm0 (show (n % 100) < 100 by omega)]
        first
          | refine j_mq (qs_ixg Tryd.underlying22 sz5 rfl rfl ⟨(by first | omega | (simp only [bnA] at *; omega)), (by first | omega | (simp only [bnA] at *; omega))⟩) ?_
          | refine j_mq (qs_ixl0 Tryd.underlying22 sz5 rfl rfl ⟨(by first | omega | (simp only [bnA] at *; omega)), (by first | omega | (simp only [bnA] at *; omega))⟩) ?_
        refine j_storei 0 sz5 rfl rfl rfl (by simp) ?_
        refine j_mD0 (Le.of_sub (by repeat first | exact slR _ | exact slN _ | apply slC | apply slD)) ?_
        first
          | refine j_mq (qs_ixg Tryd.underlying22 sz5 rfl rfl ⟨(by first | omega | (simp only [bnA] at *; omega)), (by first | omega | (simp only [bnA] at *; omega))⟩) ?_
          | refine j_mq (qs_ixl0 Tryd.underlying22 sz5 rfl rfl ⟨(by first | omega | (simp only [bnA] at *; omega)), (by first | omega | (simp only [bnA] at *; omega))⟩) ?_
        refine j_storei 0 sz5 rfl rfl rfl (by simp) ?_
        refine j_mR _ (.refl _) ?_
        refine j_mend ?_
        refine j_q (qs_sub64 rfl rfl (by first | omega | (simp only [bnA] at *; omega))) ?_
        refine j_q (qs_gtr rfl rfl) ?_
        refine j_cond rfl (fun hc6 => ?_) (fun hc6 => ?_)
        · skip
          refine j_q (qs_add rfl rfl) ?_
          rw [show IntKind.u32.wrap (48 + ((n / 100 : Nat) : Int)) = ((48 + n / 100 : Nat) : Int) from wr32 (n := 48 + n / 100) (by omega)]
          refine j_q (qs_conv8 Tryd.underlying67 Tryd.underlying5 rfl) ?_
          rw [by8_natN (by omega)]
          first
            | refine j_q (qs_ixg Tryd.underlying22 sz5 rfl rfl ⟨(by first | omega | (simp only [bnA] at *; omega)), (by first | omega | (simp only [bnA] at *; omega))⟩) ?_
            | refine j_q (qs_ixl0 Tryd.underlying22 sz5 rfl rfl ⟨(by first | omega | (simp only [bnA] at *; omega)), (by first | omega | (simp only [bnA] at *; omega))⟩) ?_
          refine j_storei 0 sz5 rfl rfl rfl (by simp) ?_
          refine j_ret_con (vs := []) (fun w' hw' => trivial) ?_
          refine ⟨rfl, ?_⟩
          rw [dec3 h1 h2, show n / 10 % 10 = n % 100 / 10 by omega, show n % 10 = n % 100 % 10 by omega]
          rfl
        · skip
          simp at hc6
      · skip
        simp at hc5
theorem fmt4_con (n g : Nat) (w : World) (h1 : 1000 ≤ n) (h2 : n < 10000) : Con Tryd.prog 74 [.slice (some ⟨g, 0, none⟩) 4 24, .int .u64 (n : Int)] w [(g, .cells (ints (List.replicate 24 0)).toArray 127 (0, 0))] fun v S' => v = .tuple #[] ∧ S' = [[(g, .cells (ints (dec n ++ List.replicate 20 0)).toArray 127 (0, 0))]] := by
  refine con_of_tree mix Tryd.func74 T74_ok (by kernel_rfl) ?_
  unfold T74
  refine j_q (qs_lenl Tryd.underlying22 rfl) ?_
  refine j_loop (fun m vs S' => vs = [.int .u64 (n : Int), .int .i64 4] ∧ S' = [[(g, .cells (ints (List.replicate 24 0)).toArray 127 (0, 0))]] ∧ m = 0) ⟨_, rfl, rfl, rfl⟩ ?_
  rintro m vs S' hlen ⟨rfl, rfl, rfl⟩
  refine j_q (qs_geq rfl rfl) ?_
  refine j_cond rfl (fun hc0 => ?_) (fun hc0 => ?_)
  · skip
    simp at hc0
  · skip
    refine j_q (qs_conv Tryd.underlying12 Tryd.underlying67 rfl) ?_
    rw [show IntKind.u32.wrap (n : Int) = (n : Int) from wr32 (by omega)]
    refine j_q (qs_geq rfl rfl) ?_
    refine j_cond rfl (fun hc1 => ?_) (fun hc1 => ?_)
    · skip
      refine j_q (qs_rem64 rfl rfl (by omega) (by decide)) ?_
      rw [show ((n : Nat) : Int) % 10000 = ((n % 10000 : Nat) : Int) from rfl]
      refine j_q (qs_quo rfl rfl (by decide)) ?_
      rw [show IntKind.u32.wrap (((n : Nat) : Int).tdiv 10000) = ((n / 10000 : Nat) : Int) from q32 (n) 10000 (by omega)]
      refine j_q (qs_quo rfl rfl (by decide)) ?_
      rw [show IntKind.u32.wrap (((n % 10000 : Nat) : Int).tdiv 100) = ((n % 10000 / 100 : Nat) : Int) from q32 (n % 10000) 100 (by omega)]
      refine j_q (qs_mul rfl rfl) ?_
      rw [show IntKind.u32.wrap (((n % 10000 / 100 : Nat) : Int) * 2) = ((n % 10000 / 100 * 2 : Nat) : Int) from wr32 (n := n % 10000 / 100 * 2) (by omega)]
      refine j_q (qs_rem64 rfl rfl (by omega) (by decide)) ?_
      rw [show ((n % 10000 : Nat) : Int) % 100 = ((n % 10000 % 100 : Nat) : Int) from rfl]
      refine j_q (qs_mul rfl rfl) ?_
      rw [show IntKind.u32.wrap (((n % 10000 % 100 : Nat) : Int) * 2) = ((n % 10000 % 100 * 2 : Nat) : Int) from wr32 (n := n % 10000 % 100 * 2) (by omega)]
      refine j_mix [] (Le.of_sub (List.nil_sublist _)) ?_
      refine j_mq (qs_sub64 rfl rfl (by first | omega | (simp only [bnA] at *; omega))) ?_
      refine j_mq (qs_sub64 rfl rfl (by first | omega | (simp only [bnA] at *; omega))) ?_
      refine j_mq (qs_add rfl rfl) ?_
      rw [show IntKind.u32.wrap ((((n % 10000 % 100) * 2 : Nat) : Int) + 1) = (((n % 10000 % 100) * 2 + 1 : Nat) : Int) from wr32 (n := (n % 10000 % 100) * 2 + 1) (by omega)]
      refine j_mq (qs_idx (l := SMD) Tryd.underlying9 (by kernel_rfl) rfl (by rw [sm_len]; omega)) ?_
      rw [Int.toNat_natCast, sm1 (show (n % 10000 % 100) < 100 by omega)]
      refine j_mq (qs_idx (l := SMD) Tryd.underlying9 (by kernel_rfl) rfl (by rw [sm_len]; omega)) ?_
      rw [Int.toNat_natCast, sm0 (show (n % 10000 % 100) < 100 by omega)]
      first
        | refine j_mq (qs_ixg Tryd.underlying22 sz5 rfl rfl ⟨(by first | omega | (simp only [bnA] at *; omega)), (by first | omega | (simp only [bnA] at *; omega))⟩) ?_
        | refine j_mq (qs_ixl0 Tryd.underlying22 sz5 rfl rfl ⟨(by first | omega | (simp only [bnA] at *; omega)), (by first | omega | (simp only [bnA] at *; omega))⟩) ?_
      refine j_storei 0 sz5 rfl rfl rfl (by simp) ?_
      refine j_mD0 (Le.of_sub (by repeat first | exact slR _ | exact slN _ | apply slC | apply slD)) ?_
      first
        | refine j_mq (qs_ixg Tryd.underlying22 sz5 rfl rfl ⟨(by first | omega | (simp only [bnA] at *; omega)), (by first | omega | (simp only [bnA] at *; omega))⟩) ?_
        | refine j_mq (qs_ixl0 Tryd.underlying22 sz5 rfl rfl ⟨(by first | omega | (simp only [bnA] at *; omega)), (by first | omega | (simp only [bnA] at *; omega))⟩) ?_
      refine j_storei 0 sz5 rfl rfl rfl (by simp) ?_
      refine j_mR _ (.refl _) ?_
      refine j_mend ?_
      refine j_mix [] (Le.of_sub (List.nil_sublist _)) ?_
      refine j_mq (qs_sub64 rfl rfl (by first | omega | (simp only [bnA] at *; omega))) ?_
      refine j_mq (qs_sub64 rfl rfl (by first | omega | (simp only [bnA] at *; omega))) ?_
      refine j_mq (qs_add rfl rfl) ?_
      rw [show IntKind.u32.wrap ((((n % 10000 / 100) * 2 : Nat) : Int) + 1) = (((n % 10000 / 100) * 2 + 1 : Nat) : Int) from wr32 (n := (n % 10000 / 100) * 2 + 1) (by omega)]
      refine j_mq (qs_idx (l := SMD) Tryd.underlying9 (by kernel_rfl) rfl (by rw [sm_len]; omega)) ?_
      rw [Int.toNat_natCast, sm1 (show (n % 10000 / 100) < 100 by omega)]
      refine j_mq (qs_idx (l := SMD) Tryd.underlying9 (by kernel_rfl) rfl (by rw [sm_len]; omega)) ?_
      rw [Int.toNat_natCast, sm0 (show (n % 10000 / 100) < 100 by omega)]
      first
        | refine j_mq (qs_ixg Tryd.underlying22 sz5 rfl rfl ⟨(by first | omega | (simp only [bnA] at *; omega)), (by first | omega | (simp only [bnA] at *; omega))⟩) ?_
        | refine j_mq (qs_ixl0 Tryd.underlying22 sz5 rfl rfl ⟨(by first | omega | (simp only [bnA] at *; omega)), (by first | omega | (simp only [bnA] at *; omega))⟩) ?_
      refine j_storei 0 sz5 rfl rfl rfl (by simp) ?_
      refine j_mD0 (Le.of_sub (by repeat first | exact slR _ | exact slN _ | apply slC | apply slD)) ?_
      first
        | refine j_mq (qs_ixg Tryd.underlying22 sz5 rfl rfl ⟨(by first | omega | (simp only [bnA] at *; omega)), (by first | omega | (simp only [bnA] at *; omega))⟩) ?_
        | refine j_mq (qs_ixl0 Tryd.underlying22 sz5 rfl rfl ⟨(by first | omega | (simp only [bnA] at *; omega)), (by first | omega | (simp only [bnA] at *; omega))⟩) ?_
      refine j_storei 0 sz5 rfl rfl rfl (by simp) ?_
      refine j_mR _ (.refl _) ?_
      refine j_mend ?_
      refine j_q (qs_sub64 rfl rfl (by first | omega | (simp only [bnA] at *; omega))) ?_
      refine j_q (qs_geq rfl rfl) ?_
      refine j_cond rfl (fun hc2 => ?_) (fun hc2 => ?_)
      · skip
        simp at hc2
      · skip
        refine j_q (qs_gtr rfl rfl) ?_
        refine j_cond rfl (fun hc4 => ?_) (fun hc4 => ?_)
        · skip
          simp at hc4
        · skip
          refine j_ret_con (vs := []) (fun w' hw' => trivial) ?_
          refine ⟨rfl, ?_⟩
          rw [dec4 h1 h2, show n / 1000 = n % 10000 / 100 / 10 by omega, show n / 100 % 10 = n % 10000 / 100 % 10 by omega, show n / 10 % 10 = n % 10000 % 100 / 10 by omega, show n % 10 = n % 10000 % 100 % 10 by omega]
          rfl
    · skip
      simp at hc1
theorem fmt_con (d n g : Nat) (w : World) (hd : d = if n < 1000 then 3 else 4) (h1 : 100 ≤ n) (h2 : n < 10000) : Con Tryd.prog 74 [.slice (some ⟨g, 0, none⟩) d 24, .int .u64 (n : Int)] w [(g, .cells (ints (List.replicate 24 0)).toArray 127 (0, 0))] fun v S' => v = .tuple #[] ∧ (dec n).length = d ∧ S' = [[(g, .cells (ints (dec n ++ List.replicate (24 - d) 0)).toArray 127 (0, 0))]] := by
  subst hd
  by_cases h : n < 1000
  · rw [if_pos h]
    exact (fmt3_con n g w h1 h).mono fun u S' hu => ⟨hu.1, by rw [dec3 h1 h]; rfl, hu.2⟩
  · rw [if_neg h]
    exact (fmt4_con n g w (by omega) h2).mono fun u S' hu => ⟨hu.1, by rw [dec4 (by omega) h2]; rfl, hu.2⟩
end Go.Proofs.YtomajiicjinekaaDoor
/-! Jn2 -/
namespace Go.Proofs.YtomajiicjinekaaDoor
open Go Go.Sx
set_option maxRecDepth 100000
set_option maxHeartbeats 4000000
set_option linter.unusedVariables false
set_option linter.unusedSimpArgs false
attribute [local irreducible] J JQ QS Con W opW
theorem qs_strB {P : Program} {env : List Value} {ty : TypeId} {S : List SH} {t t' e : TypeId} {x : Operand} {xs : List UInt8} {w : World} {v : Value} (hs : P.underlying t = some (.slice e)) (he : P.underlying e = some (.int .u8)) (hd : P.underlying t' = some .string) (hx : ev env x = v) (h : BR w v xs) : QS P (O (.convert t t' x) ty) env ⟨w, dom []⟩ S (.string (bs xs)) := by
  rcases h with ⟨rfl, rfl⟩ | ⟨a, cap, rfl, _, _, h⟩
  · exact qs_strn hs he hd hx
  · exact qs_str hs he hd hx (rd_cells h (by simp))
def magic : List UInt8 := [112, 97, 110, 116, 114, 121, 32, 106, 111, 117, 114, 110, 97, 108, 32, 49, 10]
def headE (age : Nat) : List UInt8 := (magic ++ num age) ++ sum (magic ++ num age)
theorem magic_ints : ints magic = [.int .u8 112, .int .u8 97, .int .u8 110, .int .u8 116, .int .u8 114, .int .u8 121, .int .u8 32, .int .u8 106, .int .u8 111, .int .u8 117, .int .u8 114, .int .u8 110, .int .u8 97, .int .u8 108, .int .u8 32, .int .u8 49, .int .u8 10] := by
  unfold ints magic
  rfl
theorem headE_len (age : Nat) : (headE age).length = 17 + (num age).length + 32 := by
  unfold headE
  rw [List.length_append, List.length_append, sum_length]
  rfl
attribute [local irreducible] sum
theorem equal_con (xs ys : List UInt8) (v1 v2 : Value) (w : World) (h1 : BR w v1 xs) (h2 : BR w v2 ys) : Con Tryd.prog 55 [v1, v2] w [] fun u _ => u = .bool (xs == ys) := by
  refine con_of_tree mix Tryd.func55 T55_ok (by kernel_rfl) ?_
  unfold T55
  refine j_q (qs_ac) ?_
  refine j_q (qs_strB Tryd.underlying22 Tryd.underlying5 Tryd.underlying9 rfl h1) ?_
  refine j_q (qs_strB Tryd.underlying22 Tryd.underlying5 Tryd.underlying9 rfl h2) ?_
  refine j_q (qs_seql rfl rfl) ?_
  refine j_ret_con (vs := [_]) (fun w' hw' => ⟨rfl, trivial⟩) ?_
  rfl
theorem bprefix_con (p z : List UInt8) (v1 v2 : Value) (w : World) (h1 : BR w v1 (p ++ z)) (h2 : BR w v2 p) : Con Tryd.prog 67 [v1, v2] w [] fun u _ => u = .bool true := by
  refine con_of_tree mix Tryd.func67 T67_ok (by kernel_rfl) ?_
  unfold T67
  obtain ⟨A1, c1, hv1, hc1'⟩ := br_form h1
  obtain ⟨A2, c2, hv2, hc2'⟩ := br_form h2
  subst hv1 hv2
  have hll : (p ++ z).length = p.length + z.length := List.length_append
  refine j_q (qs_ac) ?_
  refine j_q (qs_lenl Tryd.underlying22 rfl) ?_
  refine j_q (qs_lenl Tryd.underlying22 rfl) ?_
  refine j_q (qs_geq rfl rfl) ?_
  rw [decide_eq_true (show ((p ++ z).length : Int) ≥ (p.length : Int) by omega)]
  refine j_gt rfl (qs_mt rfl) ?_
  refine j_gt rfl (qs_mt rfl) ?_
  refine j_gt rfl (qs_lenl Tryd.underlying22 rfl) ?_
  refine j_gt rfl (qs_cutl (a := 0) (z := p.length) Tryd.underlying22 sz5 rfl rfl ⟨.i64, rfl⟩ (by omega) (by omega)) ?_
  have hbs := br_sub h1 0 p.length (Nat.zero_le _) (by omega)
  rw [List.drop_zero, List.take_left] at hbs
  refine j_gt rfl (qs_mt rfl) ?_
  refine j_gt rfl (qs_call ent55 rfl rfl rfl (fun w' hw' => equal_con p p _ _ w' (br0 hbs hw') (br0 h2 hw'))) ?_
  rw [beq_self_eq_true]
  refine j_q (qs_and rfl rfl) ?_
  refine j_ret_con (vs := [_]) (fun w' hw' => ⟨rfl, trivial⟩) ?_
  rfl
theorem cutPrefix_con (p z : List UInt8) (A1 : Option Addr) (c1 : Nat) (v2 : Value) (w : World) (h1 : BR w (.slice A1 (p ++ z).length c1) (p ++ z)) (hc1' : (p ++ z).length ≤ c1) (h2 : BR w v2 p) : Con Tryd.prog 53 [.slice A1 (p ++ z).length c1, v2] w [] fun u _ => u = .tuple #[.slice (if c1 = p.length then A1 else A1.map (fun q : Addr => q.add (p.length * 1))) ((p ++ z).length - p.length) (c1 - p.length), .bool true] := by
  refine con_of_tree mix Tryd.func53 T53_ok (by kernel_rfl) ?_
  unfold T53
  obtain ⟨A2, c2, hv2, hc2'⟩ := br_form h2
  subst hv2
  have hll : (p ++ z).length = p.length + z.length := List.length_append
  refine j_q (qs_ac) ?_
  refine j_q (qs_ac) ?_
  refine j_q (qs_call ent67 rfl rfl rfl (fun w' hw' => bprefix_con p z _ _ w' (br0 h1 hw') (br0 h2 hw'))) ?_
  refine j_q (qs_not rfl) ?_
  refine j_cond rfl (fun hc0 => ?_) (fun hc0 => ?_)
  · skip
    simp at hc0
  · skip
    refine j_q (qs_lenl Tryd.underlying22 rfl) ?_
    refine j_q (qs_cutl  Tryd.underlying22 sz5 rfl ⟨_, rfl⟩ rfl (by first | omega | (simp only [bnA] at *; omega)) (by first | omega | (simp only [bnA] at *; omega))) ?_
    refine j_q (qs_ac) ?_
    refine j_ret_con (vs := [_, _]) (fun w' hw' => ⟨rfl, rfl, trivial⟩) ?_
    rfl
theorem sumB_con (xs : List UInt8) (v : Value) (w : World) (h : BR w v xs) (hne : xs ≠ []) (hl : xs.length ≤ 1000000000) : Con Tryd.prog 45 [v] w [] fun u _ => u = .agg (ints (sum xs)).toArray := by
  rcases h with ⟨_, h⟩ | ⟨a, c, rfl, hc, _, h⟩
  · exact absurd h hne
  · exact sum_con xs a c w (by omega) hc h
theorem head_con (age : Nat) (w : World) (hn : age < 268435456) : Con Tryd.prog 56 [.int .u64 (age : Int)] w [] fun u S' => ∃ c', S' = [c'] ∧ Sx.Own 5 1 (ints (headE age)) u c' := by
  refine con_of_tree mix Tryd.func56 T56_ok (by kernel_rfl) ?_
  unfold T56
  have hnl := num_len hn
  have hml : magic.length = 17 := rfl
  have hmn : (magic ++ num age).length = 17 + (num age).length := by rw [List.length_append]; rfl
  refine j_q (qs_ac) ?_
  refine j_lit (vs := [.int .u8 112, .int .u8 97, .int .u8 110, .int .u8 116, .int .u8 114, .int .u8 121, .int .u8 32, .int .u8 106, .int .u8 111, .int .u8 117, .int .u8 114, .int .u8 110, .int .u8 97, .int .u8 108, .int .u8 32, .int .u8 49, .int .u8 10]) Tryd.underlying22 sz5 zero5 rfl (by simp [oneV]) ⟨rfl, by decide⟩ (fun g1 v1 c1 hv1 hc1 ho1 => ?_)
  subst hv1 hc1
  refine j_convsl 0 Tryd.underlying22 Tryd.underlying5 rfl rfl ?_
  have ho2 : Sx.Own 5 1 (ints magic) (.slice (some ⟨g1, 0, none⟩) 17 17) [(g1, .cells (ints magic).toArray 5 (17, 18))] := own_froz (xs := magic)
  refine j_subl (S' := [[(g1, .cells (ints magic).toArray 5 (17, 18))]]) (by rw [magic_ints]; exact List.Sublist.cons_cons _ (List.nil_sublist _)) ?_
  refine j_call 0 ent44 rfl rfl rfl rfl (fun w' hw' => appendNum_con magic age _ _ w' ho2 hn (by decide)) (fun u S2 hu => ?_)
  obtain ⟨c3, rfl, ho3⟩ := hu
  refine j_subl (S' := [c3]) (by repeat first | exact slR _ | exact slN _ | apply slC | apply slD) ?_
  refine j_q (qs_call ent45 rfl rfl rfl (fun w' hw' => sumB_con (magic ++ num age) _ w' (own_br ho3 0 rfl hw') (fun h => by rw [h] at hmn; simp at hmn; omega) (by omega))) ?_
  refine j_alloc zero97 (fun g5 hg5 hs5 => ?_)
  first
    | refine j_storew 0 sz97 rfl rfl (by first | (rw [ints_length]; exact sum_length _) | rfl) ints_one rfl (by first | (rw [ints_length]; exact sum_length _) | rfl) ?_
    | refine j_storew 1 sz97 rfl rfl (by first | (rw [ints_length]; exact sum_length _) | rfl) ints_one rfl (by first | (rw [ints_length]; exact sum_length _) | rfl) ?_
  refine j_q (qs_cuta  Tryd.underlying97 sz5 rfl rfl rfl (by first | omega | (simp only [bnA] at *; omega)) (by first | omega | (simp only [bnA] at *; omega))) ?_
  refine j_append 1 Tryd.underlying22 Tryd.underlying22 (.inr ⟨_, rfl⟩) sb5 zero5 rfl ho3 rfl (src_sl (rd_own (off := 0) (n := (ints (sum (magic ++ num age))).length) 0 rfl (by rw [List.drop_zero, List.take_length])) (by rw [ints_length, sum_length])) ints_one ⟨(by simp only [ints_length, sum_length]; omega), (by decide)⟩ (fun v8 c8 ho8 => ?_)
  refine j_subl (S' := [c8]) (by repeat first | exact slR _ | exact slN _ | apply slC | apply slD) ?_
  refine j_ret_con (vs := [_]) (fun w' hw' => ⟨rfl, trivial⟩) ?_
  exact ⟨_, rfl, by rw [← ints_append] at ho8; exact ho8⟩
theorem readAge_con (age : Nat) (v : Value) (w : World) (h : BR w v (headE age)) (hn : age < 268435456) : Con Tryd.prog 39 [v] w [] fun u _ => u = .int .u64 (age : Int) := by
  refine con_of_tree mix Tryd.func39 T39_ok (by kernel_rfl) ?_
  unfold T39
  obtain ⟨A1, c1, hv1, hc1'⟩ := br_form h
  subst hv1
  have hnl := num_len hn
  have hnp := num_pos age
  have hhl := headE_len age
  have ha : headE age = magic ++ (num age ++ sum (magic ++ num age)) := by
    unfold headE
    rw [List.append_assoc]
  rw [ha] at h hc1' hhl
  rw [ha]
  obtain ⟨zz, hzz⟩ : ∃ zz, zz = num age ++ sum (magic ++ num age) := ⟨_, rfl⟩
  rw [← hzz] at h hc1' hhl ⊢
  have hml : magic.length = 17 := rfl
  have hbs := br_sub h magic.length (magic ++ zz).length (by rw [List.length_append]; omega) (Nat.le_refl _)
  rw [List.take_length, List.drop_left] at hbs
  have hzl : (num age ++ sum (magic ++ num age)).length = (num age).length + 32 := by rw [List.length_append, sum_length]
  refine j_q (qs_ac) ?_
  refine j_lit (vs := [.int .u8 112, .int .u8 97, .int .u8 110, .int .u8 116, .int .u8 114, .int .u8 121, .int .u8 32, .int .u8 106, .int .u8 111, .int .u8 117, .int .u8 114, .int .u8 110, .int .u8 97, .int .u8 108, .int .u8 32, .int .u8 49, .int .u8 10]) Tryd.underlying22 sz5 zero5 rfl (by simp [oneV]) ⟨rfl, by decide⟩ (fun g1 v1 c1 hv1 hc1 ho1 => ?_)
  subst hv1 hc1
  refine j_convsl 0 Tryd.underlying22 Tryd.underlying5 rfl rfl ?_
  have ho2 : Sx.Own 5 1 (ints magic) (.slice (some ⟨g1, 0, none⟩) 17 17) [(g1, .cells (ints magic).toArray 5 (17, 18))] := own_froz (xs := magic)
  refine j_subl (S' := [[(g1, .cells (ints magic).toArray 5 (17, 18))]]) (by rw [magic_ints]; exact List.Sublist.cons_cons _ (List.nil_sublist _)) ?_
  refine j_q (qs_call ent53 rfl rfl rfl (fun w' hw' => cutPrefix_con magic zz A1 c1 _ w' (br0 h hw') hc1' (own_br ho2 0 rfl hw'))) ?_
  refine j_q (qs_ext rfl rfl) ?_
  refine j_q (qs_ext rfl rfl) ?_
  refine j_q (qs_call ent54 rfl rfl rfl (fun w' hw' => takeNum_con age (sum (magic ++ num age)) _ w' (by rw [← hzz]; exact br0 hbs hw') hn (by omega))) ?_
  refine j_q (qs_ext rfl rfl) ?_
  refine j_q (qs_ext rfl rfl) ?_
  refine j_q (qs_not rfl) ?_
  refine j_gt rfl (qs_mt rfl) ?_
  refine j_gt rfl (qs_leq rfl rfl) ?_
  rw [decide_eq_false (show ¬ ((num age).length : Int) ≤ 0 by omega)]
  refine j_q (qs_or rfl rfl) ?_
  refine j_gt rfl (qs_mt rfl) ?_
  refine j_gt rfl (qs_mt rfl) ?_
  refine j_ga rfl ?_
  refine j_call0 ent56 rfl rfl rfl (fun w' hw' => head_con age w' hn) (fun u S2 hu => ?_)
  obtain ⟨c15, rfl, ho15⟩ := hu
  refine j_gt rfl (qs_call ent55 rfl rfl rfl (fun w' hw' => equal_con (headE age) (headE age) _ _ w' (by rw [ha, ← hzz]; exact br0 h hw') (own_br ho15 0 rfl hw'))) ?_
  rw [beq_self_eq_true]
  refine j_gt rfl (qs_not rfl) ?_
  refine j_q (qs_or rfl rfl) ?_
  refine j_cond rfl (fun hc0 => ?_) (fun hc0 => ?_)
  · skip
    simp at hc0
  · skip
    refine j_subl (S' := [c15]) (by repeat first | exact slR _ | exact slN _ | apply slC | apply slD) ?_
    refine j_ret_con (vs := [_]) (fun w' hw' => ⟨rfl, trivial⟩) ?_
    rfl
end Go.Proofs.YtomajiicjinekaaDoor
/-! Jn3 -/
namespace Go.Proofs.YtomajiicjinekaaDoor
open Go Go.Sx
set_option maxRecDepth 100000
set_option maxHeartbeats 4000000
set_option linter.unusedVariables false
set_option linter.unusedSimpArgs false
attribute [local irreducible] J JQ QS Con W opW
def fileN (name : List UInt8) (age part : Nat) : List UInt8 := name ++ [46] ++ dec age ++ [46] ++ dec part
theorem fmtU0_con (n : Nat) (w : World) (hP : P10 w) (hn : n < 10000) : Con Tryd.prog 63 [.int .u64 (n : Int), .int .i64 10] w [] fun u _ => u = .string (bs (dec n)) := by
  refine con_of_tree mix Tryd.func63 T63_ok (by kernel_rfl) ?_
  unfold T63
  have hdl := dec_len hn
  refine j_q (qs_ac) ?_
  refine j_q (qs_eql rfl rfl) ?_
  refine j_cond rfl (fun hc0 => ?_) (fun hc0 => ?_)
  · skip
    refine j_q (qs_lss rfl rfl) ?_
    refine j_cond rfl (fun hc1 => ?_) (fun hc1 => ?_)
    · skip
      have h9 : n < 100 := by
        simp only [bnA] at *
        omega
      refine j_q (qs_conv Tryd.underlying64 Tryd.underlying3 rfl) ?_
      rw [IntWalk.i64_in _ (by omega)]
      refine j_q (qs_call ent72 rfl rfl rfl (fun w' hw' => small_con n w' h9)) ?_
      refine j_ret_con (vs := [_]) (fun w' hw' => ⟨rfl, trivial⟩) ?_
      rfl
    · skip
      have h9 : 100 ≤ n := by
        simp only [bnA] at *
        omega
      refine j_alloc zero127 (fun g5 hg5 hs5 => ?_)
      refine j_q (qs_call ent73 rfl rfl rfl (fun w' hw' => numDigits_con n w' h9 hn (hP.keep hw' (by simp)))) ?_
      obtain ⟨d, hd⟩ : ∃ d, d = (if n < 1000 then 3 else 4) := ⟨_, rfl⟩
      rw [← hd]
      have hd2 : 3 ≤ d ∧ d ≤ 4 := by
        rw [hd]
        split <;> omega
      refine j_q (qs_cuta (a := 0) (z := d) Tryd.underlying127 sz5 rfl rfl ⟨.i64, rfl⟩ (by omega) (by omega)) ?_
      rw [if_neg (show ¬ 24 = 0 by omega)]
      simp only [Nat.zero_mul, Nat.add_zero, Nat.sub_zero]
      refine j_call 0 ent74 rfl rfl rfl rfl (fun w' hw' => fmt_con d n g5 w' hd h9 hn) (fun u S2 hu => ?_)
      obtain ⟨rfl, hdd, rfl⟩ := hu
      refine j_q (qs_cuta (a := 0) (z := d) Tryd.underlying127 sz5 rfl rfl ⟨.i64, rfl⟩ (by omega) (by omega)) ?_
      rw [if_neg (show ¬ 24 = 0 by omega)]
      simp only [Nat.zero_mul, Nat.add_zero, Nat.sub_zero]
      refine j_q (qs_str (l := dec n) (a := ⟨g5, 0, none⟩) (c := 24) Tryd.underlying22 Tryd.underlying5 Tryd.underlying9 (by rw [hdd]; rfl) (rd_own (off := 0) (n := (ints (dec n)).length) 0 rfl (by rw [List.drop_zero, ints_append, List.take_left]))) ?_
      refine j_ret_con (vs := [_]) (fun w' hw' => ⟨rfl, trivial⟩) ?_
      rfl
  · skip
    simp at hc0
theorem fmtU_con (n : Nat) (w : World) (hP : P10 w) (hn : n < 10000) : Con Tryd.prog 46 [.int .u64 (n : Int), .int .i64 10] w [] fun u _ => u = .string (bs (dec n)) := by
  refine con_of_tree mix Tryd.func46 T46_ok (by kernel_rfl) ?_
  unfold T46
  refine j_q (qs_ac) ?_
  refine j_q (qs_call ent63 rfl rfl rfl (fun w' hw' => fmtU0_con n w' (hP.keep hw' (by simp)) hn)) ?_
  refine j_ret_con (vs := [_]) (fun w' hw' => ⟨rfl, trivial⟩) ?_
  rfl
theorem fmtI_con (n : Nat) (w : World) (hn : n < 100) : Con Tryd.prog 76 [.int .i64 (n : Int), .int .i64 10] w [] fun u _ => u = .string (bs (dec n)) := by
  refine con_of_tree mix Tryd.func76 T76_ok (by kernel_rfl) ?_
  unfold T76
  refine j_q (qs_ac) ?_
  refine j_q (qs_eql rfl rfl) ?_
  refine j_cond rfl (fun hc0 => ?_) (fun hc0 => ?_)
  · skip
    refine j_q (qs_leq rfl rfl) ?_
    rw [decide_eq_true (show (0 : Int) ≤ (n : Int) by omega)]
    refine j_gt rfl (qs_mt rfl) ?_
    refine j_gt rfl (qs_lss rfl rfl) ?_
    rw [decide_eq_true (show (n : Int) < 100 by omega)]
    refine j_q (qs_and rfl rfl) ?_
    refine j_cond rfl (fun hc1 => ?_) (fun hc1 => ?_)
    · skip
      refine j_q (qs_call ent72 rfl rfl rfl (fun w' hw' => small_con n w' hn)) ?_
      refine j_ret_con (vs := [_]) (fun w' hw' => ⟨rfl, trivial⟩) ?_
      rfl
    · skip
      simp at hc1
  · skip
    simp at hc0
theorem itoa0_con (n : Nat) (w : World) (hn : n < 100) : Con Tryd.prog 64 [.int .i64 (n : Int)] w [] fun u _ => u = .string (bs (dec n)) := by
  refine con_of_tree mix Tryd.func64 T64_ok (by kernel_rfl) ?_
  unfold T64
  refine j_q (qs_ac) ?_
  refine j_q (qs_call ent76 rfl rfl rfl (fun w' hw' => fmtI_con n w' hn)) ?_
  refine j_ret_con (vs := [_]) (fun w' hw' => ⟨rfl, trivial⟩) ?_
  rfl
theorem itoa_con (n : Nat) (w : World) (hn : n < 100) : Con Tryd.prog 47 [.int .i64 (n : Int)] w [] fun u _ => u = .string (bs (dec n)) := by
  refine con_of_tree mix Tryd.func47 T47_ok (by kernel_rfl) ?_
  unfold T47
  refine j_q (qs_ac) ?_
  refine j_q (qs_call ent64 rfl rfl rfl (fun w' hw' => itoa0_con n w' hn)) ?_
  refine j_ret_con (vs := [_]) (fun w' hw' => ⟨rfl, trivial⟩) ?_
  rfl
theorem file_con (gj : Nat) (fp : Value) (name : List UInt8) (age part : Nat) (rest : List Value) (w : World) (hc : w.heap[gj]? = some (.cells (fp :: .string (bs name) :: .int .u64 (age : Int) :: rest).toArray 71 (0, 0))) (hP : P10 w) (ha : age < 10000) (hp : part < 100) (hl : name.length ≤ 1000) : Con Tryd.prog 29 [.pointer (some ⟨gj, 0, none⟩), .int .i64 (part : Int)] w [] fun u _ => u = .string (bs (fileN name age part)) := by
  refine con_of_tree mix Tryd.func29 T29_ok (by kernel_rfl) ?_
  unfold T29
  have hd0 : gj ∉ dom [] := by simp [dom]
  have hdl := dec_len ha
  have hdp := dec_len (show part < 10000 by omega)
  refine j_q (qs_ac) ?_
  refine j_draw ?_
  refine jq_q (qs_nil rfl) ?_
  refine jq_q (qs_field Tryd.underlying71 rfl sz9 (by decide) rfl) ?_
  refine jq_q (qs_loadO (rdo_base hc hd0) Tryd.underlying9 rfl rfl rfl) ?_
  refine jq_q (qs_sadd (l := name) (l' := [46]) rfl rfl (by simp only [List.length_append, List.length_cons, List.length_nil]; omega)) ?_
  refine jq_q (qs_nil rfl) ?_
  refine jq_q (qs_field Tryd.underlying71 rfl sz64 (by decide) rfl) ?_
  refine jq_q (qs_loadO (rdo_base hc hd0) Tryd.underlying64 rfl rfl rfl) ?_
  refine jq_q (qs_call ent46 rfl rfl rfl (fun w' hw' => fmtU_con age w' (hP.keep hw' (by simp)) ha)) ?_
  refine jq_q (qs_sadd (l := (name ++ [46])) (l' := (dec age)) rfl rfl (by simp only [List.length_append, List.length_cons, List.length_nil]; omega)) ?_
  refine jq_q (qs_sadd (l := (name ++ [46] ++ dec age)) (l' := [46]) rfl rfl (by simp only [List.length_append, List.length_cons, List.length_nil]; omega)) ?_
  refine jq_q (qs_call ent47 rfl rfl rfl (fun w' hw' => itoa_con part w' hp)) ?_
  refine jq_q (qs_sadd (l := (name ++ [46] ++ dec age ++ [46])) (l' := (dec part)) rfl rfl (by simp only [List.length_append, List.length_cons, List.length_nil]; omega)) ?_
  refine jq_nil ?_
  refine j_ret_con (vs := [_]) (fun w' hw' => ⟨rfl, trivial⟩) ?_
  rfl
theorem bload_con (g i : Nat) (l : List Value) (e : TypeId) (fz : Nat × Nat) (n : Int) (w : World) (hc : w.heap[g]? = some (.cells l.toArray e fz)) (hi : l[i]? = some (.int .u32 n)) : Con Tryd.prog 41 [.pointer (some ⟨g, i, none⟩)] w [] fun v _ => v = .bool (n != 0) := by
  refine con_of_tree mix Tryd.func41 T41_ok (by kernel_rfl) ?_
  unfold T41
  refine j_q (qs_ac) ?_
  refine j_q (qs_nil rfl) ?_
  refine j_q (qs_field Tryd.underlying69 rfl sz67 (by decide) rfl) ?_
  refine j_q (qs_extw (f := 58) (fn := Tryd.f58) (e := fun _ => pure .nilIface) rfl rfl rfl (fun w' hw' => run_call_load Tryd.func58 (by kernel_rfl) (by kernel_rfl) (by kernel_rfl) .u32 (by kernel_rfl) (by rw [cell_of ((hw'.frame g (lt_of_get hc) (by simp)).trans hc)]; exact hi))) ?_
  refine j_q (qs_neq rfl rfl) ?_
  refine j_ret_con (vs := [_]) (fun w' hw' => ⟨rfl, trivial⟩) ?_
  rfl
end Go.Proofs.YtomajiicjinekaaDoor
/-! Do2 -/
namespace Go.Proofs.YtomajiicjinekaaDoor
open Go Go.Sx
set_option linter.unusedVariables false
set_option maxRecDepth 100000
theorem disable (w : World) : (callFunc 85 #[]).run Tryd.prog w = .ok (.value (.tuple #[])) w := run_call_mark0 Tryd.func85 (by kernel_rfl) (by kernel_rfl) (by kernel_rfl) .disable (by kernel_rfl) w
theorem enable (w : World) : (callFunc 87 #[]).run Tryd.prog w = .ok (.value (.tuple #[])) w := run_call_mark0 Tryd.func87 (by kernel_rfl) (by kernel_rfl) (by kernel_rfl) .enable (by kernel_rfl) w
theorem acquire (a : Addr) (w : World) : (callFunc 88 #[.pointer (some a)]).run Tryd.prog w = .ok (.value (.tuple #[])) w := run_call_marked Tryd.func88 (by kernel_rfl) (by kernel_rfl) (by kernel_rfl) .acquire (by kernel_rfl) a w
theorem releaseMerge (a : Addr) (w : World) : (callFunc 90 #[.pointer (some a)]).run Tryd.prog w = .ok (.value (.tuple #[])) w := run_call_marked Tryd.func90 (by kernel_rfl) (by kernel_rfl) (by kernel_rfl) .releaseMerge (by kernel_rfl) a w
theorem store_deferred (a : Addr) (x : Value) (u : FrameMode) (w : World) (hc : w.cell? a = some x) (hz : w.frozen? a = false) :
    CallsD Tryd.prog 49 #[.pointer (some a), .bool true] u w fun e u' w' => u' = u ∧ (e = .returned (.tuple #[]) ∧ w' = w.drew.setCell a (.int .u32 1)) := by
  have hc' : w.drew.cell? a = some x := by go_simp
  have hz' : w.drew.frozen? a = false := by go_simp
  have hst := run_call_store (P := Tryd.prog) Tryd.func65 (by kernel_rfl) (by kernel_rfl) (by kernel_rfl) (by kernel_rfl) (k := .u32) (y := 1) hc' hz'
  go_enter_d Tryd.func49, Tryd.ntmps49
  go_wp2
  go_region_calls
  all_goals (go_end0; exact ⟨rfl, rfl⟩)
theorem unlock_deferred (a : Addr) (u : FrameMode) (w : World) (hc : w.cell? a = some (.int .i32 1)) (hz : w.frozen? a = false) :
    CallsD Tryd.prog 69 #[.pointer (some a)] u w fun e u' w' => u' = u ∧ (e = .returned (.tuple #[]) ∧ w' = w.setCell a (.int .i32 0)) := by
  have hd := disable
  have he := enable
  have hr := releaseMerge
  have hadd := run_call_add (P := Tryd.prog) Tryd.func52 (by kernel_rfl) (by kernel_rfl) (by kernel_rfl) .i32 (by kernel_rfl) (y := -1) (s := 0) hc hz (by simp [go_sem]; rfl)
  have hcv := run_convert_to_unsafe (P := Tryd.prog) (src := 140) (dst := 143) Tryd.underlying140 Tryd.underlying143 (by kernel_rfl) hc
  go_enter_d Tryd.func69, Tryd.ntmps69
  go_wp2
  go_end0
  go_wp2
  go_end0
  exact ⟨rfl, rfl⟩
theorem lock_free (a : Addr) (w : World) (hc : w.cell? a = some (.int .i32 0)) (hz : w.frozen? a = false) :
    Calls Tryd.prog 68 #[.pointer (some a)] w fun e w' => e = .returned (.tuple #[]) ∧ w' = w.setCell a (.int .i32 1) := by
  have hd := disable
  have he := enable
  have ha := acquire
  have hcas := run_call_cas_hit (P := Tryd.prog) Tryd.func86 (by kernel_rfl) (by kernel_rfl) (by kernel_rfl) .i32 (by kernel_rfl) (y := 1) hc hz
  have hc' : (w.setCell a (.int .i32 1)).cell? a = some (.int .i32 1) := World.cell?_setCell_same w a _ hc
  have hcv := run_convert_to_unsafe (P := Tryd.prog) (src := 140) (dst := 143) Tryd.underlying140 Tryd.underlying143 (by kernel_rfl) hc'
  go_enter Tryd.func68, Tryd.ntmps68
  go_wp2
  first | go_end0 | (simp only [Exit.inBlock, Exit.then]; refine bodyPost_ret (results_none rfl _ _ _) rfl ?_) | refine bodyPost_ret (results_none rfl _ _ _) rfl ?_
  go_wp2
  go_end0
  exact ⟨rfl, rfl⟩
set_option maxRecDepth 100000 in
set_option maxHeartbeats 1600000 in
theorem slow_gen (b off : Nat) (f : FuncId) (cap : Array Value) (w : World) (K : World → Prop) (hen : Sx.Enters Tryd.prog f)
    (h0 : w.cell? ⟨b, off, none⟩ = some (.int .u32 0)) (h1 : w.cell? ⟨b, off + 1, none⟩ = some (.int .i32 0)) (f1 : w.frozen? ⟨b, off + 1, none⟩ = false)
    (hc : Calls Tryd.prog f cap (w.setCell ⟨b, off + 1, none⟩ (.int .i32 1)) fun e w' => e = .returned (.tuple #[]) ∧ K w' ∧ w'.cell? ⟨b, off, none⟩ = some (.int .u32 0) ∧ w'.frozen? ⟨b, off, none⟩ = false ∧ w'.cell? ⟨b, off + 1, none⟩ = some (.int .i32 1) ∧ w'.frozen? ⟨b, off + 1, none⟩ = false) :
    Calls Tryd.prog 59 #[.pointer (some ⟨b, off, none⟩), .func (.func f) #[] cap] w fun e w' => e = .returned (.tuple #[]) ∧ ∃ w1, K w1 ∧ w' = (w1.drew.setCell ⟨b, off, none⟩ (.int .u32 1)).setCell ⟨b, off + 1, none⟩ (.int .i32 0) := by
  have hcall : ∀ w, (callFunc f cap).run Tryd.prog w = .ok (.enter f cap) w := fun w => run_callFunc hen cap w
  have hl := run_call_load (P := Tryd.prog) Tryd.func58 (by kernel_rfl) (by kernel_rfl) (by kernel_rfl) .u32 (by kernel_rfl) (w := w.setCell ⟨b, off + 1, none⟩ (.int .i32 1)) (a := ⟨b, off, none⟩) (x := 0) ((World.cell?_setCell_other _ ⟨b, off + 1, none⟩ ⟨b, off, none⟩ _ (by simp)).trans h0)
  have hnot : ∀ (x : Bool) (w : World), (Op.unary .not (.bool x)).run Tryd.prog w = .ok (.bool (!x)) w := fun _ _ => rfl
  go_enter_defers Tryd.func59, Tryd.ntmps59
  go_wp2_with (go_at_call 68; refine (lock_free ⟨b, off + 1, none⟩ _ (by go_simp) (by go_simp)).mono ?_; rintro e w' ⟨rfl, rfl⟩)
  go_wp2
  refine hc.mono ?_
  rintro e w1 ⟨rfl, hK, c0, z0, c1, z1⟩
  simp only
  go_wp2
  refine leaves_cons (f := 49) (args := #[.pointer (some ⟨b, off, none⟩), .bool true]) (by simp) (by simp [go_sem]) ?_
  refine (store_deferred ⟨b, off, none⟩ (.int .u32 0) .returning _ c0 z0).mono ?_
  rintro e u' w'' ⟨rfl, rfl, rfl⟩
  refine leaves_cons (f := 69) (args := #[.pointer (some ⟨b, off + 1, none⟩)]) (by simp [settle]) (by simp [go_sem]) ?_
  refine (unlock_deferred ⟨b, off + 1, none⟩ _ _ ?_ (by simp [z1])).mono ?_
  · refine (World.cell?_setCell_other _ ⟨b, off, none⟩ ⟨b, off + 1, none⟩ _ (by simp)).trans ?_
    rw [World.cell?_drew]
    exact c1
  rintro e u' w'' ⟨rfl, rfl, rfl⟩
  simp [Leaves, settle, results, Tryd.results59]
  exact ⟨w1, hK, rfl⟩
end Go.Proofs.YtomajiicjinekaaDoor
/-! Jn4 -/
namespace Go.Proofs.YtomajiicjinekaaDoor
open Go Go.Sx
set_option maxRecDepth 100000
set_option maxHeartbeats 4000000
set_option linter.unusedVariables false
set_option linter.unusedSimpArgs false
attribute [local irreducible] J JQ QS Con W opW
structure RR where
  v : Value
  c : SH
  L : List (List UInt8 × Value × SH)
def RR.lf (r : RR) : SH := (r.L.map fun t => t.2.2).flatten
def RR.heap (r : RR) : SH := r.c ++ r.lf
def RR.rs (r : RR) : List (List UInt8) := r.L.map Prod.fst
structure RR.Ok (r : RR) : Prop where
  row : Sx.Own 22 1 (r.L.map fun t => t.2.1) r.v r.c
  own : ∀ t ∈ r.L, Sx.Own 5 1 (ints t.1) t.2.1 t.2.2
theorem own_brI {w : World} {xs : List UInt8} {v : Value} {c : SH} (h : Sx.Own 5 1 (ints xs) v c) (hin : In w c) : BR w v xs := by
  rcases h with ⟨rfl, h, rfl⟩ | ⟨g, n, cap, rest, fz, rfl, rfl, h1, h2, h3, h4⟩
  · refine .inl ⟨rfl, ?_⟩
    cases xs
    · rfl
    · cases h
  · rw [ints_length, Nat.mul_one] at h1
    subst h1
    have hg := hin _ (List.mem_singleton.2 rfl)
    refine .inr ⟨_, _, rfl, h3, fun _ => lt_of_get hg, fun j u hu => ?_⟩
    rw [add_off, Nat.zero_add, cell_of hg]
    show (ints xs ++ rest)[j]? = some u
    rw [List.getElem?_append_left (by have := (List.getElem?_eq_some_iff.1 hu).1; omega)]
    exact hu
theorem RR.Ok.br {r : RR} (h : r.Ok) {w : World} (hin : In w r.lf) {t : List UInt8 × Value × SH} (ht : t ∈ r.L) : BR w t.2.1 t.1 :=
  own_brI (h.own t ht) fun q hq => hin q (List.mem_flatten.2 ⟨_, List.mem_map.2 ⟨t, ht, rfl⟩, hq⟩)
theorem own_src1 {e : TypeId} {xs : List Value} {v : Value} {c : SH} {b : Base} {S : List SH} (h : Sx.Own e 1 xs v c) (k : Nat) (hk : S[k]? = some c) : Src b S 1 v xs.length xs := by
  obtain ⟨m, hm, hl⟩ := src_own (b := b) k h hk
  rw [Nat.mul_one] at hl
  rwa [hl]
theorem RR.Ok.form {r : RR} (h : r.Ok) : ∃ A cap, r.v = .slice A r.L.length cap ∧ (0 < r.L.length → ∃ g, A = some ⟨g, 0, none⟩) := by
  rcases h.row with ⟨h1, h2, h3⟩ | ⟨g, n, cap, rest, fz, h1, h2, h3, h4, h5, h6⟩
  · have : r.L = [] := by simpa using h2
    exact ⟨none, 0, by rw [h1, this]; rfl, fun hp => by rw [this] at hp; simp at hp⟩
  · rw [List.length_map, Nat.mul_one] at h3
    exact ⟨_, cap, by rw [h1, h3], fun _ => ⟨g, rfl⟩⟩
theorem RR.Ok.src {r : RR} (h : r.Ok) {b : Base} {S : List SH} (k : Nat) (hk : S[k]? = some r.lf) {t : List UInt8 × Value × SH} (ht : t ∈ r.L) : Src b S 1 t.2.1 t.1.length (ints t.1) := by
  have hb : ∀ w, Sig b S w → BR w t.2.1 t.1 := fun w hw => h.br (in_own hw k hk) ht
  rcases h.own t ht with ⟨h1, h2, h3⟩ | ⟨g, n, cap, rest, fz, h1, h2, h3, h4, h5, h6⟩
  · have : t.1 = [] := by
      cases hx : t.1
      · rfl
      · rw [hx] at h2; cases h2
    rw [h1, this]
    exact .inr (.inl ⟨0, rfl, rfl, rfl⟩)
  · rw [ints_length, Nat.mul_one] at h3
    rw [h1, ← h3]
    refine .inl ⟨_, _, rfl, fun w hw => ?_, by rw [ints_length, Nat.mul_one]⟩
    rcases hb w hw with ⟨e, _⟩ | ⟨a, c, e, _, _, hc⟩
    · rw [h1] at e; cases e
    · rw [h1] at e
      injection e with e1 e2 e3
      injection e1 with e1
      rw [e1]
      exact hc
def recE (r : List UInt8) : List UInt8 := num r.length ++ r
def recsE (rs : List (List UInt8)) : List UInt8 := (rs.map recE).flatten
def bodyE (rs : List (List UInt8)) : List UInt8 := num rs.length ++ recsE rs
def grpE (rs : List (List UInt8)) : List UInt8 := num (bodyE rs).length ++ (bodyE rs ++ sum (bodyE rs))
def gsE (gs : List (List (List UInt8))) : List UInt8 := (gs.map grpE).flatten
def sizeR (rs : List (List UInt8)) : Nat := (rs.map List.length).sum
def sizeG (gs : List (List (List UInt8))) : Nat := (gs.map sizeR).sum
def limR (rs : List (List UInt8)) : Prop := rs.length ≤ 100 ∧ sizeR rs ≤ 12000
theorem sizeR_get {rs : List (List UInt8)} {x : List UInt8} (h : x ∈ rs) : x.length ≤ sizeR rs := by
  induction rs with
  | nil => cases h
  | cons y rs ih =>
    unfold sizeR at *
    rw [List.map_cons, List.sum_cons]
    rcases List.mem_cons.1 h with rfl | h
    · exact Nat.le_add_right _ _
    · exact Nat.le_trans (ih h) (Nat.le_add_left _ _)
theorem recsE_snoc (rs : List (List UInt8)) (x : List UInt8) : recsE (rs ++ [x]) = recsE rs ++ recE x := by
  unfold recsE
  rw [List.map_append, List.flatten_append, List.map_singleton, List.flatten_singleton]
theorem recsE_cons (rs : List (List UInt8)) (x : List UInt8) : recsE (x :: rs) = recE x ++ recsE rs := rfl
theorem recsE_take {rs : List (List UInt8)} {i : Nat} (h : i < rs.length) : recsE (rs.take (i + 1)) = recsE (rs.take i) ++ recE (rs.getD i []) := by
  rw [List.take_add_one, List.getElem?_eq_getElem h, Option.toList_some, recsE_snoc, List.getD_eq_getElem?_getD, List.getElem?_eq_getElem h]
  rfl
theorem recsE_len {rs : List (List UInt8)} (h : ∀ x ∈ rs, x.length ≤ 12000) : (recsE rs).length ≤ rs.length * 4 + sizeR rs := by
  induction rs with
  | nil => exact Nat.le_refl _
  | cons x rs ih =>
    have h1 := ih fun y hy => h y (List.mem_cons_of_mem _ hy)
    have h2 := num_len (show x.length < 268435456 by have := h x (List.mem_cons_self ..); omega)
    rw [recsE_cons, List.length_append]
    unfold recE sizeR at *
    rw [List.length_append, List.map_cons, List.sum_cons, List.length_cons]
    omega
theorem lim_take {rs : List (List UInt8)} (h : limR rs) (i : Nat) : limR (rs.take i) := by
  refine ⟨by rw [List.length_take]; have := h.1; omega, ?_⟩
  refine Nat.le_trans ?_ h.2
  unfold sizeR
  rw [← List.take_append_drop i rs] 
  rw [List.map_append, List.sum_append, List.take_append_drop]
  exact Nat.le_add_right _ _
theorem recsE_lim {rs : List (List UInt8)} (h : limR rs) : (recsE rs).length ≤ 12400 := by
  have h1 := recsE_len (rs := rs) fun x hx => Nat.le_trans (sizeR_get hx) h.2
  have := h.1
  have := h.2
  omega
theorem bodyE_lim {rs : List (List UInt8)} (h : limR rs) : (bodyE rs).length ≤ 12404 := by
  unfold bodyE
  rw [List.length_append]
  have h1 := recsE_lim h
  have h2 := num_len (show rs.length < 268435456 by have := h.1; omega)
  omega
theorem grpE_lim {rs : List (List UInt8)} (h : limR rs) : (grpE rs).length ≤ 12440 := by
  unfold grpE
  rw [List.length_append, List.length_append, sum_length]
  have h1 := bodyE_lim h
  have h2 := num_len (show (bodyE rs).length < 268435456 by omega)
  omega
abbrev gobj (rv : Value) (size d m s : Int) (bv : Value) : Obj := .cells [rv, .int .i64 size, .int .u32 d, .int .i32 m, .int .u32 s, bv].toArray 80 (0, 0)
abbrev gbox (gg : Nat) : Obj := .cells [.pointer (some ⟨gg, 0, none⟩)].toArray 66 (0, 0)
attribute [local irreducible] sum
theorem made1_con (gb gg : Nat) (r : RR) (size mu : Int) (w : World) (h : r.Ok) (hl : limR r.rs) : Con Tryd.prog 43 [.pointer (some ⟨gb, 0, none⟩)] w ((gb, gbox gg) :: (gg, gobj r.v size 0 mu 0 (.slice none 0 0)) :: r.heap) fun u S' => u = .tuple #[] ∧ ∃ bv c, S' = [c, [(gb, gbox gg)], [(gg, gobj r.v size 0 mu 0 (bv))], r.c, r.lf] ∧ Sx.Own 5 1 (ints (grpE r.rs)) bv c := by
  refine con_of_tree mix Tryd.func43 T43_ok (by kernel_rfl) ?_
  unfold T43
  obtain ⟨A, cap, hv, hA⟩ := h.form
  have hn : r.rs.length = r.L.length := List.length_map _
  have hl1 := hl.1
  have hnl := num_len (show r.rs.length < 268435456 by omega)
  have hnL := hnl
  rw [hn] at hnL
  have hbl := bodyE_lim hl
  have hbn := num_len (show (bodyE r.rs).length < 268435456 by omega)
  rw [hv]
  refine j_perm (S' := [[], [(gb, gbox gg)], [(gg, gobj (.slice A r.L.length cap) size 0 mu 0 (.slice none 0 0))], r.c, r.lf]) (by simp [RR.heap]) ?_
  refine j_q (qs_load (l := [.pointer (some ⟨gg, 0, none⟩)]) 1 Tryd.underlying66 rfl rfl rfl rfl) ?_
  refine j_q (qs_nil rfl) ?_
  refine j_q (qs_field Tryd.underlying80 rfl sz39 (by decide) rfl) ?_
  refine j_q (qs_load (l := [.slice A r.L.length cap, .int .i64 size, .int .u32 0, .int .i32 mu, .int .u32 0, .slice none 0 0]) (v := .slice A r.L.length cap) 2 Tryd.underlying39 rfl rfl rfl rfl) ?_
  refine j_q (qs_lenl Tryd.underlying39 rfl) ?_
  refine j_q (qs_conv Tryd.underlying3 Tryd.underlying64 rfl) ?_
  rw [IntWalk.u64_in _ (by omega)]
  refine j_call 0 ent44 rfl rfl rfl rfl (fun w' hw' => appendNum_con ([]) (r.L.length) _ _ w' own_nil (by omega) (by first | decide | (rw [List.length_append]; omega))) (fun u S2 hu => ?_)
  obtain ⟨c6, rfl, hoc6⟩ := hu
  refine j_subl (S' := [c6, [(gb, gbox gg)], [(gg, gobj (.slice A r.L.length cap) size 0 mu 0 (.slice none 0 0))], r.c, r.lf]) (by repeat first | exact slR _ | exact slN _ | apply slC | apply slD) ?_
  refine j_q (qs_load (l := [.pointer (some ⟨gg, 0, none⟩)]) 1 Tryd.underlying66 rfl rfl rfl rfl) ?_
  refine j_q (qs_nil rfl) ?_
  refine j_q (qs_field Tryd.underlying80 rfl sz39 (by decide) rfl) ?_
  refine j_q (qs_load (l := [.slice A r.L.length cap, .int .i64 size, .int .u32 0, .int .i32 mu, .int .u32 0, .slice none 0 0]) (v := .slice A r.L.length cap) 2 Tryd.underlying39 rfl rfl rfl rfl) ?_
  refine j_q (qs_lenl Tryd.underlying39 rfl) ?_
  refine j_q (qs_mc) ?_
  refine j_loop (fun m vs S' => ∃ (i : Nat) (bv : Value) (c : SH), vs = [bv, .int .i64 (i : Int)] ∧ S' = [c, [(gb, gbox gg)], [(gg, gobj (.slice A r.L.length cap) size 0 mu 0 (.slice none 0 0))], r.c, r.lf] ∧ Sx.Own 5 1 (ints (num r.rs.length ++ recsE (r.rs.take i))) bv c ∧ i ≤ r.L.length ∧ m = r.L.length - i) ⟨_, 0, _, c6, rfl, rfl, (by rw [List.nil_append, ← hn] at hoc6; rw [List.take_zero]; show Sx.Own 5 1 (ints (num r.rs.length ++ [])) _ _; rw [List.append_nil]; exact hoc6), Nat.zero_le _, rfl⟩ ?_
  rintro m vs S' hlen ⟨i, bv, c, rfl, rfl, hob, hin, rfl⟩
  have hrl := recsE_lim (lim_take hl i)
  refine j_q (qs_lss rfl rfl) ?_
  refine j_cond rfl (fun hc0 => ?_) (fun hc0 => ?_)
  · skip
    have hi : i < r.L.length := by
      simp only [bnA] at *
      omega
    obtain ⟨g0, hg0⟩ := hA (by omega)
    have hrow := h.row
    rw [hv, hg0] at hrow
    obtain ⟨t, ht⟩ : ∃ t, t = r.L.getD i ([], .slice none 0 0, []) := ⟨_, rfl⟩
    have htm : t ∈ r.L := by
      rw [ht, List.getD_eq_getElem?_getD, List.getElem?_eq_getElem hi]
      exact List.getElem_mem hi
    have hrg : r.rs.getD i [] = t.1 := by
      rw [ht, List.getD_eq_getElem?_getD, List.getD_eq_getElem?_getD]
      unfold RR.rs
      rw [List.getElem?_map, List.getElem?_eq_getElem hi]
      rfl
    have hto := h.own t htm
    obtain ⟨nr, Ar, cr, hvr, hnr⟩ := own_form hto (by decide)
    rw [ints_length, Nat.mul_one] at hnr
    have htl : t.1.length ≤ 12000 := Nat.le_trans (sizeR_get (rs := r.rs) (List.mem_map.2 ⟨t, htm, rfl⟩)) hl.2
    have htn := num_len (show t.1.length < 268435456 by omega)
    subst hnr
    have hsrc : ∀ {b : Base} {S : List SH} (k : Nat), S[k]? = some r.lf → Src b S 1 (.slice Ar t.1.length cr) t.1.length (ints t.1) := by
      intro b S k hk
      rw [← hvr]
      exact h.src k hk htm
    refine j_q (qs_ixl0 (a := ⟨g0, 0, none⟩) (n := r.L.length) (c := cap) Tryd.underlying39 sz22 (by show Value.slice A _ _ = _; rw [hg0]) rfl (by omega)) ?_
    refine j_q (qs_loadR (v := t.2.1) (a := ⟨g0, 0, none⟩) (i := i) (own_rd hrow 3 rfl) Tryd.underlying22 rfl (by show Value.pointer (some (Addr.add ⟨g0, 0, none⟩ (i : Int).toNat)) = _; rw [Int.toNat_natCast]) (by rw [List.getElem?_map, List.getElem?_eq_getElem hi, ht, List.getD_eq_getElem?_getD, List.getElem?_eq_getElem hi]; rfl)) ?_
    rw [hvr]
    refine j_q (qs_lenl Tryd.underlying22 rfl) ?_
    refine j_q (qs_conv Tryd.underlying3 Tryd.underlying64 rfl) ?_
    rw [IntWalk.u64_in _ (by omega)]
    refine j_call 0 ent44 rfl rfl rfl rfl (fun w' hw' => appendNum_con (num r.rs.length ++ recsE (r.rs.take i)) (t.1.length) _ _ w' hob (by omega) (by first | decide | (rw [List.length_append]; omega))) (fun u S2 hu => ?_)
    obtain ⟨c18, rfl, hoc18⟩ := hu
    refine j_subl (S' := [c18, [(gb, gbox gg)], [(gg, gobj (.slice A r.L.length cap) size 0 mu 0 (.slice none 0 0))], r.c, r.lf]) (by repeat first | exact slR _ | exact slN _ | apply slC | apply slD) ?_
    refine j_append 0 Tryd.underlying22 Tryd.underlying22 (.inr ⟨_, rfl⟩) sb5 zero5 rfl hoc18 rfl (hsrc 4 rfl) ints_one ⟨(by simp only [ints_length, List.length_append]; omega), (by decide)⟩ (fun v19 c19 ho19 => ?_)
    refine j_q (qs_add64 rfl rfl (by first | omega | (simp only [bnA] at *; omega))) ?_
    refine j_back rfl ?_
    refine ⟨_, by omega, i + 1, _, _, rfl, rfl, ?_, by omega, rfl⟩
    rw [recsE_take (by omega), hrg]
    unfold recE
    rw [← List.append_assoc, ← List.append_assoc, ints_append]
    exact ho19
  · skip
    have hi : i = r.L.length := by
      simp only [bnA] at *
      omega
    have hob2 : Sx.Own 5 1 (ints (bodyE r.rs)) bv c := by
      rw [hi, ← hn, List.take_length] at hob
      exact hob
    obtain ⟨nb, Ab, cb, rfl, hnb⟩ := own_form hob2 (by decide)
    rw [ints_length, Nat.mul_one] at hnb
    subst hnb
    refine j_q (qs_call ent45 rfl rfl rfl (fun w' hw' => sumB_con (bodyE r.rs) _ w' (own_br hob2 0 rfl hw') (fun h0 => by have h8 := num_pos r.rs.length; unfold bodyE at h0; rw [List.append_eq_nil_iff] at h0; rw [h0.1] at h8; simp at h8) (by omega))) ?_
    refine j_alloc zero97 (fun g22 hg22 hs22 => ?_)
    refine j_storew 0 sz97 rfl rfl (by first | (rw [ints_length]; exact sum_length _) | rfl) ints_one rfl (by first | (rw [ints_length]; exact sum_length _) | rfl) ?_
    refine j_mix [[(gb, gbox gg)]] (Le.of_sub (by repeat first | exact slR _ | exact slN _ | apply slC | apply slD)) ?_
    refine j_mq (qs_load 0 Tryd.underlying66 rfl rfl rfl rfl) ?_
    refine j_mq (qs_lenl Tryd.underlying22 rfl) ?_
    refine j_mq (qs_conv Tryd.underlying3 Tryd.underlying64 rfl) ?_
    rw [IntWalk.u64_in _ (by omega)]
    refine j_mq (qs_cuta  Tryd.underlying97 sz5 rfl rfl rfl (by first | omega | (simp only [bnA] at *; omega)) (by first | omega | (simp only [bnA] at *; omega))) ?_
    refine j_call0 ent44 rfl rfl rfl (fun w' hw' => appendNum_con [] (bodyE r.rs).length _ [] w' own_nil (by omega) (by decide)) (fun u S2 hu => ?_)
    obtain ⟨c28, rfl, ho28⟩ := hu
    rw [List.nil_append] at ho28
    refine j_mD0 (Le.of_sub (by repeat first | exact slR _ | exact slN _ | apply slC | apply slD)) ?_
    refine j_append 2 Tryd.underlying22 Tryd.underlying22 (.inr ⟨_, rfl⟩) sb5 zero5 rfl hob2 rfl (src_sl (rd_own (off := 0) (n := (ints (sum (bodyE r.rs))).length) 1 rfl (by rw [List.drop_zero, List.take_length])) (by rw [ints_length, sum_length])) ints_one ⟨(by simp only [ints_length, sum_length]; omega), (by decide)⟩ (fun v29 c29 ho29 => ?_)
    rw [← ints_append] at ho29
    obtain ⟨n29, A29, c29', rfl, hn29⟩ := own_form ho29 (by decide)
    rw [ints_length, Nat.mul_one] at hn29
    subst hn29
    refine j_mD0 (Le.of_sub (by repeat first | exact slR _ | exact slN _ | apply slC | apply slD)) ?_
    refine j_append 0 Tryd.underlying22 Tryd.underlying22 (.inr ⟨_, rfl⟩) sb5 zero5 rfl ho28 rfl (own_src1 ho29 2 rfl) ints_one ⟨(by simp only [ints_length, List.length_append, sum_length]; omega), (by decide)⟩ (fun v30 c30 ho30 => ?_)
    obtain ⟨n30, A30, c30', rfl, hn30⟩ := own_form ho30 (by decide)
    refine j_mD0 (Le.of_sub (by repeat first | exact slR _ | exact slN _ | apply slC | apply slD)) ?_
    refine j_mq (qs_nil rfl) ?_
    refine j_mq (qs_field Tryd.underlying80 rfl sz22 (by decide) rfl) ?_
    refine j_store (l := [.slice A r.L.length cap, .int .i64 size, .int .u32 0, .int .i32 mu, .int .u32 0, .slice none 0 0]) 4 sz22 rfl rfl rfl rfl (by simp) (by simp) ?_
    refine j_mR _ (.refl _) ?_
    refine j_mend ?_
    refine j_subl (S' := [c30, [(gb, gbox gg)], [(gg, gobj (.slice A r.L.length cap) size 0 mu 0 (.slice A30 n30 c30'))], r.c, r.lf]) (by repeat first | exact slR _ | exact slN _ | apply slC | apply slD) ?_
    refine j_ret_con (vs := []) (fun w' hw' => trivial) ?_
    exact ⟨rfl, _, _, rfl, by unfold grpE; rw [ints_append]; exact ho30⟩
end Go.Proofs.YtomajiicjinekaaDoor
/-! Jn5 -/
namespace Go.Proofs.YtomajiicjinekaaDoor
open Go Go.Sx
set_option maxRecDepth 100000
set_option maxHeartbeats 4000000
set_option linter.unusedVariables false
set_option linter.unusedSimpArgs false
attribute [local irreducible] J JQ QS Con W opW
theorem sig_refl (w : World) (F : SH) (h : ∀ p ∈ F, w.heap[p.1]? = some p.2) (hn : (dom F).Nodup) : Sig ⟨w, dom F⟩ [F] w :=
  ⟨rfl, rfl, rfl, Nat.le_refl _, by simpa using h, by simpa using hn, fun k hk => .inl (by simpa using hk), fun _ _ _ => rfl⟩
theorem ent48b : Sx.Enters Tryd.prog 43 := ⟨_, Tryd.func43, by kernel_rfl, by kernel_rfl⟩
abbrev nilS : Value := .slice none 0 0
theorem slow_con (gb gg : Nat) (r : RR) (size : Int) (w : World) (h : r.Ok) (hl : limR r.rs) : Con Tryd.prog 59 [.pointer (some ⟨gg, 2, none⟩), .func (.func 43) #[] #[.pointer (some ⟨gb, 0, none⟩)]] w ((gb, gbox gg) :: (gg, gobj r.v size 0 0 0 nilS) :: r.heap)
    fun u S' => u = .tuple #[] ∧ ∃ bv c, S' = [[(gg, gobj r.v size 1 0 0 bv)], [(gb, gbox gg)], r.c, r.lf, c] ∧ Sx.Own 5 1 (ints (grpE r.rs)) bv c := by
  unfold Con
  intro hown hnd
  have hgt := hown (gg, gobj r.v size 0 0 0 nilS) (List.mem_cons_of_mem _ (List.mem_cons_self ..))
  simp only at hgt
  have hs0 : Sig ⟨w, dom ((gb, gbox gg) :: (gg, gobj r.v size 0 0 0 nilS) :: r.heap)⟩ [[(gg, gobj r.v size 0 0 0 nilS)], [(gb, gbox gg)], r.heap] w := (sig_refl w _ hown hnd).perm (by simp; exact List.Perm.swap _ _ _)
  have hl1 : (w.setCell ⟨gg, 3, none⟩ (.int .i32 1)).heap[gg]? = some (gobj r.v size 0 1 0 nilS) := setCell_same hgt
  have hs1 := hs0.set (k := 0) (g := gg) (w' := w.setCell ⟨gg, 3, none⟩ (.int .i32 1)) rfl rfl rfl rfl (by unfold World.setCell; simp) hl1 (fun j hj => setCell_other hj)
  have hs1' : Sig ⟨w, dom ((gb, gbox gg) :: (gg, gobj r.v size 0 0 0 nilS) :: r.heap)⟩ [[(gg, gobj r.v size 0 1 0 nilS)], [(gb, gbox gg)], r.heap] (w.setCell ⟨gg, 3, none⟩ (.int .i32 1)) := hs1
  have hs1p : Sig ⟨w, dom ((gb, gbox gg) :: (gg, gobj r.v size 0 0 0 nilS) :: r.heap)⟩ [(gb, gbox gg) :: (gg, gobj r.v size 0 1 0 nilS) :: r.heap] (w.setCell ⟨gg, 3, none⟩ (.int .i32 1)) := hs1'.perm (by simp; exact List.Perm.swap _ _ _)
  have hc0 := made1_con gb gg r size 1 (w.setCell ⟨gg, 3, none⟩ (.int .i32 1)) h hl
  unfold Con at hc0
  have hc1 := hc0 (fun p hp => hs1p.own p (by simpa using hp)) (by simpa [dom] using hs1p.nodup)
  refine (slow_gen gg 2 43 #[.pointer (some ⟨gb, 0, none⟩)] w (fun w1 => ∃ bv c, Sx.Own 5 1 (ints (grpE r.rs)) bv c ∧ Sig ⟨w, dom ((gb, gbox gg) :: (gg, gobj r.v size 0 0 0 nilS) :: r.heap)⟩ [[(gg, gobj r.v size 0 1 0 bv)], [(gb, gbox gg)], r.c, r.lf, c] w1) ent48b (by rw [cell_of hgt]; rfl) (by rw [cell_of hgt]; rfl) (notFrozen hgt) (hc1.mono ?_)).mono ?_
  · rintro e w2 ⟨v, S', rfl, ⟨rfl, bv, c, rfl, hbv⟩, hS⟩
    have hS1 : Sig ⟨w, dom ((gb, gbox gg) :: (gg, gobj r.v size 0 0 0 nilS) :: r.heap)⟩ [[(gg, gobj r.v size 0 1 0 bv)], [(gb, gbox gg)], r.c, r.lf, c] w2 :=
      Sig.call (Fr := []) hs1p (by simp) hS (by
        classical
        refine List.perm_iff_count.2 fun x => ?_
        simp only [List.flatten_cons, List.flatten_nil, List.count_append, List.append_nil, List.count_cons, List.count_nil]
        omega)
    have hg1 := hS1.at_ (k := 0) rfl
    exact ⟨rfl, ⟨bv, c, hbv, hS1⟩, by rw [cell_of hg1]; rfl, notFrozen hg1, by rw [cell_of hg1]; rfl, notFrozen hg1⟩
  · rintro e w' ⟨rfl, w1, ⟨bv, c, hbv, hS⟩, rfl⟩
    refine ⟨_, _, rfl, ⟨rfl, bv, c, rfl, hbv⟩, ?_⟩
    have hd := hS.drew
    have hg1 := hd.at_ (k := 0) rfl
    have h2 := hd.set (k := 0) (g := gg) (w' := w1.drew.setCell ⟨gg, 2, none⟩ (.int .u32 1)) rfl rfl rfl rfl (by unfold World.setCell; simp only [Array.size_modify]; rfl) (setCell_same hg1) (fun j hj => setCell_other hj)
    have hg2 := h2.at_ (k := 0) rfl
    exact h2.set (k := 0) (g := gg) (w' := (w1.drew.setCell ⟨gg, 2, none⟩ (.int .u32 1)).setCell ⟨gg, 3, none⟩ (.int .i32 0)) rfl rfl rfl rfl (by unfold World.setCell; simp) (setCell_same hg2) (fun j hj => setCell_other hj)
theorem once_con (gb gg : Nat) (r : RR) (size : Int) (w : World) (h : r.Ok) (hl : limR r.rs) : Con Tryd.prog 42 [.pointer (some ⟨gg, 2, none⟩), .func (.func 43) #[] #[.pointer (some ⟨gb, 0, none⟩)]] w ((gb, gbox gg) :: (gg, gobj r.v size 0 0 0 nilS) :: r.heap) fun u S' => u = .tuple #[] ∧ ∃ bv c, S' = [[(gg, gobj r.v size 1 0 0 bv)], [(gb, gbox gg)], r.c, r.lf, c] ∧ Sx.Own 5 1 (ints (grpE r.rs)) bv c := by
  refine con_of_tree mix Tryd.func42 T42_ok (by kernel_rfl) ?_
  unfold T42
  refine j_q (qs_nil rfl) ?_
  refine j_q (qs_field Tryd.underlying78 rfl sz69 (by decide) rfl) ?_
  refine j_q (qs_call ent41 rfl rfl rfl (fun w' hw' => bload_con gg 2 [r.v, .int .i64 size, .int .u32 0, .int .i32 0, .int .u32 0, nilS] 80 (0, 0) 0 w' (hw'.own (gg, _) (by simp)) rfl)) ?_
  refine j_q (qs_not rfl) ?_
  refine j_cond rfl (fun hc0 => ?_) (fun hc0 => ?_)
  · skip
    refine j_call 0 ent59 rfl rfl rfl rfl (fun w' hw' => slow_con gb gg r size w' h hl) (fun u S2 hu => ?_)
    obtain ⟨rfl, bv, c, rfl, hbv⟩ := hu
    refine j_subl (S' := [[(gg, gobj r.v size 1 0 0 bv)], [(gb, gbox gg)], r.c, r.lf, c]) (by repeat first | exact slR _ | exact slN _ | apply slC | apply slD) ?_
    refine j_ret_con (vs := []) (fun w' hw' => trivial) ?_
    exact ⟨rfl, bv, c, rfl, hbv⟩
  · skip
    cases hc0
theorem made_con (gg : Nat) (r : RR) (size : Int) (w : World) (h : r.Ok) (hl : limR r.rs) : Con Tryd.prog 28 [.pointer (some ⟨gg, 0, none⟩)] w ((gg, gobj r.v size 0 0 0 nilS) :: r.heap) fun u S' => ∃ bv c, u = bv ∧ S' = [[(gg, gobj r.v size 1 0 0 bv)], r.c, r.lf, c] ∧ Sx.Own 5 1 (ints (grpE r.rs)) bv c := by
  refine con_of_tree mix Tryd.func28 T28_ok (by kernel_rfl) ?_
  unfold T28
  refine j_box (l := [.pointer (some ⟨gg, 0, none⟩)]) rfl (fun g0 hg0 hs0 => ?_)
  refine j_q (qs_ac) ?_
  refine j_q (qs_load (l := [.pointer (some ⟨gg, 0, none⟩)]) 0 Tryd.underlying66 rfl rfl rfl rfl) ?_
  refine j_q (qs_nil rfl) ?_
  refine j_q (qs_field Tryd.underlying80 rfl sz78 (by decide) rfl) ?_
  refine j_q (qs_mkfunc1 rfl) ?_
  refine j_perm (S' := [(g0, gbox gg) :: (gg, gobj r.v size 0 0 0 nilS) :: r.heap]) (by simp) ?_
  refine j_call 0 ent42 rfl rfl rfl rfl (fun w' hw' => once_con g0 gg r size w' h hl) (fun u S2 hu => ?_)
  obtain ⟨rfl, bv, c, rfl, hbv⟩ := hu
  refine j_q (qs_load (l := [.pointer (some ⟨gg, 0, none⟩)]) 1 Tryd.underlying66 rfl rfl rfl rfl) ?_
  refine j_q (qs_nil rfl) ?_
  refine j_q (qs_field Tryd.underlying80 rfl sz22 (by decide) rfl) ?_
  refine j_q (qs_load (l := [r.v, .int .i64 size, .int .u32 1, .int .i32 0, .int .u32 0, bv]) (v := bv) 0 Tryd.underlying22 rfl rfl rfl rfl) ?_
  refine j_subl (S' := [[(gg, gobj r.v size 1 0 0 bv)], r.c, r.lf, c]) (by repeat first | exact slR _ | exact slN _ | apply slC | apply slD) ?_
  refine j_ret_con (vs := [_]) (fun w' hw' => ⟨rfl, trivial⟩) ?_
  exact ⟨bv, c, rfl, rfl, hbv⟩
end Go.Proofs.YtomajiicjinekaaDoor
/-! Jn6 -/
namespace Go.Proofs.YtomajiicjinekaaDoor
open Go Go.Sx
set_option maxRecDepth 100000
set_option maxHeartbeats 4000000
set_option linter.unusedVariables false
set_option linter.unusedSimpArgs false
attribute [local irreducible] J JQ QS Con W opW
abbrev gl (rv : Value) (size d m s : Int) (bv : Value) : List Value := [rv, .int .i64 size, .int .u32 d, .int .i32 m, .int .u32 s, bv]
def RR.add (r : RR) (v : Value) (c : SH) (x : List UInt8) (xv : Value) (xc : SH) : RR := ⟨v, c, r.L ++ [(x, xv, xc)]⟩
theorem RR.add_rs (r : RR) {v : Value} {c : SH} {x : List UInt8} {xv : Value} {xc : SH} : (r.add v c x xv xc).rs = r.rs ++ [x] := by
  unfold RR.rs RR.add
  rw [List.map_append]
  rfl
theorem RR.add_lf (r : RR) {v : Value} {c : SH} {x : List UInt8} {xv : Value} {xc : SH} : (r.add v c x xv xc).lf = r.lf ++ xc := by
  unfold RR.lf RR.add
  rw [List.map_append, List.flatten_append, List.map_singleton, List.flatten_singleton]
theorem RR.Ok.add {r : RR} (h : r.Ok) {v : Value} {c : SH} {x : List UInt8} {xv : Value} {xc : SH} (hv : Sx.Own 22 1 ((r.L.map fun t => t.2.1) ++ [xv]) v c) (hx : Sx.Own 5 1 (ints x) xv xc) : (r.add v c x xv xc).Ok := by
  refine ⟨?_, fun t ht => ?_⟩
  · unfold RR.add
    rw [List.map_append]
    exact hv
  · rcases List.mem_append.1 ht with ht | ht
    · exact h.own t ht
    · rw [List.mem_singleton.1 ht]
      exact hx
theorem rr0 : RR.Ok ⟨.slice none 0 0, [], []⟩ := ⟨own_nil, fun t ht => by cases ht⟩
theorem sizeR_take {rs : List (List UInt8)} {i : Nat} (h : i < rs.length) : sizeR (rs.take (i + 1)) = sizeR (rs.take i) + (rs.getD i []).length := by
  unfold sizeR
  rw [List.take_add_one, List.getElem?_eq_getElem h, Option.toList_some, List.map_append, List.sum_append, List.getD_eq_getElem?_getD, List.getElem?_eq_getElem h]
  simp
theorem recsE_drop {rs : List (List UInt8)} {i : Nat} (h : i < rs.length) : recsE (rs.drop i) = num (rs.getD i []).length ++ (rs.getD i [] ++ recsE (rs.drop (i + 1))) := by
  rw [List.drop_eq_getElem_cons h, recsE_cons, List.getD_eq_getElem?_getD, List.getElem?_eq_getElem h]
  unfold recE
  rw [List.append_assoc]
  rfl
theorem mid_cut (a b c : List UInt8) : ((a ++ (b ++ c)).take (a.length + b.length)).drop a.length = b := by
  rw [← List.append_assoc, List.take_append_of_le_length (by rw [List.length_append]; exact Nat.le_refl _), List.take_of_length_le (by rw [List.length_append]; exact Nat.le_refl _), List.drop_left]
theorem end_cut (a b c : List UInt8) : (a ++ (b ++ c)).drop (a.length + b.length) = c := by
  rw [← List.drop_drop, List.drop_left, List.drop_left]
theorem recsE_ge (rs : List (List UInt8)) : rs.length ≤ (recsE rs).length := by
  induction rs with
  | nil => exact Nat.le_refl _
  | cons x rs ih =>
    rw [recsE_cons, List.length_append, List.length_cons]
    have := num_pos x.length
    unfold recE
    rw [List.length_append]
    omega
theorem recsE_drop_le {rs : List (List UInt8)} (h : limR rs) (i : Nat) : (recsE (rs.drop i)).length ≤ 12400 := by
  have h1 := recsE_lim h
  have h2 : recsE rs = recsE (rs.take i) ++ recsE (rs.drop i) := by
    unfold recsE
    rw [← List.flatten_append, ← List.map_append, List.take_append_drop]
  rw [h2, List.length_append] at h1
  omega
attribute [local irreducible] sum
theorem readGroup_con (rs : List (List UInt8)) (v : Value) (w : World) (h : BR w v (bodyE rs)) (hl : limR rs) : Con Tryd.prog 57 [v] w [] fun u S' => ∃ (gg : Nat) (r : RR), u = .tuple #[.pointer (some ⟨gg, 0, none⟩), .bool true] ∧ S' = [[(gg, gobj r.v ((sizeR rs : Nat) : Int) 0 0 0 nilS)], r.c, r.lf] ∧ r.Ok ∧ r.rs = rs := by
  refine con_of_tree mix Tryd.func57 T57_ok (by kernel_rfl) ?_
  unfold T57
  obtain ⟨A0, cap0, hv0, hcap0⟩ := br_form h
  subst hv0
  have hl1 := hl.1
  have hl2 := hl.2
  have hnl := num_len (show rs.length < 268435456 by omega)
  have hnp := num_pos rs.length
  have hrg := recsE_ge rs
  have hbl : (bodyE rs).length = (num rs.length).length + (recsE rs).length := by
    unfold bodyE
    exact List.length_append
  have hbl2 := bodyE_lim hl
  have hbs := br_sub h (num rs.length).length (bodyE rs).length (by omega) (Nat.le_refl _)
  rw [List.take_length] at hbs
  have hbd : (bodyE rs).drop (num rs.length).length = recsE rs := by
    unfold bodyE
    exact List.drop_left
  rw [hbd] at hbs
  have hlen0 : (bodyE rs).length - (num rs.length).length = (recsE rs).length := by omega
  rw [hlen0] at hbs
  refine j_q (qs_ac) ?_
  refine j_q (qs_ac) ?_
  refine j_q (qs_call ent54 rfl rfl rfl (fun w' hw' => takeNum_con rs.length (recsE rs) _ w' (br0 h hw') (by omega) (by rw [List.length_append]; omega))) ?_
  refine j_q (qs_ext rfl rfl) ?_
  refine j_q (qs_ext rfl rfl) ?_
  refine j_q (qs_leq rfl rfl) ?_
  rw [decide_eq_false (show ¬ ((num rs.length).length : Int) ≤ 0 by omega)]
  refine j_gt rfl (qs_mt rfl) ?_
  refine j_gt rfl (qs_mt rfl) ?_
  refine j_gt rfl (qs_lenl Tryd.underlying22 rfl) ?_
  refine j_gt rfl (qs_conv Tryd.underlying3 Tryd.underlying64 rfl) ?_
  rw [IntWalk.u64_in _ (by omega)]
  refine j_gt rfl (qs_gtr rfl rfl) ?_
  rw [decide_eq_false (show ¬ ((rs.length : Nat) : Int) > ((bodyE rs).length : Int) by omega)]
  refine j_q (qs_or rfl rfl) ?_
  refine j_cond rfl (fun hc0 => ?_) (fun hc0 => ?_)
  · skip
    simp at hc0
  · skip
    refine j_q (qs_run (v := .agg (gl nilS 0 0 0 0 nilS).toArray) (fun w => by kernel_rfl)) ?_
    refine j_box (l := gl nilS 0 0 0 0 nilS) rfl (fun g15 hg15 hs15 => ?_)
    refine j_perm (S' := [[(g15, gobj nilS 0 0 0 0 nilS)], [], []]) (by simp) ?_
    refine j_q (qs_cutl (a := (num rs.length).length) (z := (bodyE rs).length) Tryd.underlying22 sz5 rfl ⟨.i64, rfl⟩ rfl (by omega) (by omega)) ?_
    rw [hlen0]
    refine j_q (qs_mc) ?_
    refine j_loop (fun m vs S' => ∃ (i : Nat) (A : Option Addr) (cap : Nat) (r : RR), vs = [(.slice A (recsE (rs.drop i)).length cap), .int .u64 (i : Int)] ∧ S' = [[(g15, gobj r.v ((sizeR (rs.take i) : Nat) : Int) 0 0 0 nilS)], r.c, r.lf] ∧ BR w (.slice A (recsE (rs.drop i)).length cap) (recsE (rs.drop i)) ∧ (recsE (rs.drop i)).length ≤ cap ∧ r.Ok ∧ r.rs = rs.take i ∧ i ≤ rs.length ∧ m = rs.length - i) ⟨_, 0, _, _, ⟨nilS, [], []⟩, rfl, rfl, hbs, (by show (recsE rs).length ≤ _; omega), rr0, rfl, Nat.zero_le _, rfl⟩ ?_
    rintro m vs S' hlen ⟨i, A, cap, r, rfl, rfl, hbr, hcap, hro, hrs, hin, rfl⟩
    refine j_q (qs_lss rfl rfl) ?_
    refine j_cond rfl (fun hc1 => ?_) (fun hc1 => ?_)
    · skip
      have hi : i < rs.length := by
        simp only [bnA] at *
        omega
      obtain ⟨x, hx⟩ : ∃ x, x = rs.getD i [] := ⟨_, rfl⟩
      have hdr := recsE_drop hi
      rw [← hx] at hdr
      have hxl : x.length ≤ 12000 := by
        rw [hx, List.getD_eq_getElem?_getD, List.getElem?_eq_getElem hi]
        exact Nat.le_trans (sizeR_get (List.getElem_mem hi)) hl2
      have hxn := num_len (show x.length < 268435456 by omega)
      have hxp := num_pos x.length
      have hdl := recsE_drop_le hl i
      have hsz := (lim_take hl i).2
      have hdd : (recsE (rs.drop i)).length = (num x.length).length + (x.length + (recsE (rs.drop (i + 1))).length) := by rw [hdr, List.length_append, List.length_append]
      have hrl : r.L.length = i := by
        have h8 : r.rs.length = r.L.length := List.length_map _
        rw [← h8, hrs, List.length_take]
        omega
      have hbx := br_sub hbr (num x.length).length ((num x.length).length + x.length) (by omega) (by omega)
      rw [show (num x.length).length + x.length - (num x.length).length = x.length by omega] at hbx
      have hmc : ((recsE (rs.drop i)).take ((num x.length).length + x.length)).drop (num x.length).length = x := by
        rw [hdr]
        exact mid_cut _ _ _
      rw [hmc] at hbx
      have hbe := br_sub hbr ((num x.length).length + x.length) (recsE (rs.drop i)).length (by omega) (Nat.le_refl _)
      have hmd : ((recsE (rs.drop i)).take (recsE (rs.drop i)).length).drop ((num x.length).length + x.length) = recsE (rs.drop (i + 1)) := by
        rw [List.take_length, hdr]
        exact end_cut _ _ _
      rw [hmd] at hbe
      have hle2 : (recsE (rs.drop i)).length - ((num x.length).length + x.length) = (recsE (rs.drop (i + 1))).length := by omega
      rw [hle2] at hbe
      refine j_q (qs_call ent54 rfl rfl rfl (fun w' hw' => takeNum_con x.length (x ++ recsE (rs.drop (i + 1))) _ w' (by rw [← hdr]; exact br0 hbr hw') (by omega) (by rw [← hdr]; omega))) ?_
      refine j_q (qs_ext rfl rfl) ?_
      refine j_q (qs_ext rfl rfl) ?_
      refine j_q (qs_leq rfl rfl) ?_
      rw [decide_eq_false (show ¬ ((num x.length).length : Int) ≤ 0 by omega)]
      refine j_gt rfl (qs_mt rfl) ?_
      refine j_gt rfl (qs_mt rfl) ?_
      refine j_gt rfl (qs_lenl Tryd.underlying22 rfl) ?_
      refine j_gt rfl (qs_mt rfl) ?_
      refine j_gt rfl (qs_sub64 rfl rfl (by omega)) ?_
      refine j_gt rfl (qs_conv Tryd.underlying3 Tryd.underlying64 rfl) ?_
      rw [IntWalk.u64_in _ (by omega)]
      refine j_gt rfl (qs_gtr rfl rfl) ?_
      rw [decide_eq_false (show ¬ ((x.length : Nat) : Int) > ((recsE (rs.drop i)).length : Int) - ((num x.length).length : Int) by omega)]
      refine j_q (qs_or rfl rfl) ?_
      refine j_cond rfl (fun hc2 => ?_) (fun hc2 => ?_)
      · skip
        simp at hc2
      · skip
        refine j_mix [[(g15, gobj r.v ((sizeR (rs.take i) : Nat) : Int) 0 0 0 nilS)]] (Le.of_sub (by repeat first | exact slR _ | exact slN _ | apply slC | apply slD)) ?_
        refine j_mq (qs_nil rfl) ?_
        refine j_mq (qs_field Tryd.underlying80 rfl sz39 (by decide) rfl) ?_
        refine j_mq (qs_load (l := (gl r.v ((sizeR (rs.take i) : Nat) : Int) 0 0 0 nilS)) (v := r.v) 0 Tryd.underlying39 rfl rfl rfl rfl) ?_
        refine j_mq (qs_conv Tryd.underlying64 Tryd.underlying3 rfl) ?_
        rw [show IntKind.i64.wrap ((x.length : Nat) : Int) = (x.length : Int) from IntWalk.i64_in _ (by omega)]
        refine j_mq (qs_add64 rfl rfl (by first | omega | (simp only [bnA] at *; omega))) ?_
        refine j_mq (qs_cutl (a := (num x.length).length) (z := (num x.length).length + x.length) Tryd.underlying22 sz5 rfl ⟨.i64, rfl⟩ ⟨.i64, by show Value.int _ _ = _; congr 1⟩ (by omega) (by omega)) ?_
        rw [show (num x.length).length + x.length - (num x.length).length = x.length by omega]
        refine j_call0 ent18 rfl rfl rfl (fun w' hw' => cloneO_con _ x w' (br0 hbx hw') (by omega)) (fun u S2 hu => ?_)
        obtain ⟨c39, rfl, ho39⟩ := hu
        obtain ⟨n39, A39, cap39, rfl, hn39⟩ := own_form ho39 (by decide)
        refine j_mD0 (Le.of_sub (by repeat first | exact slR _ | exact slN _ | apply slC | apply slD)) ?_
        refine j_lit (vs := [.slice A39 n39 cap39]) Tryd.underlying39 sz22 zero22 rfl (by simp [oneV]) ⟨rfl, by decide⟩ (fun g40 v40 c40 hv40 hc40 ho40 => ?_)
        subst hv40 hc40
        refine j_mD0 (Le.of_sub (by repeat first | exact slR _ | exact slN _ | apply slC | apply slD)) ?_
        refine j_append 3 Tryd.underlying39 Tryd.underlying39 (.inr ⟨_, rfl⟩) sb22 zero22 rfl hro.row rfl (.inl ⟨_, _, rfl, rd_own (off := 0) (n := 1) 0 rfl rfl, rfl⟩) (by simp [oneV]) ⟨(by simp only [List.length_map]; simp; omega), (by decide)⟩ (fun v41 c41 ho41 => ?_)
        obtain ⟨n41, A41, cap41, rfl, hn41⟩ := own_form ho41 (by decide)
        refine j_mD0 (Le.of_sub (by repeat first | exact slR _ | exact slN _ | apply slC | apply slD)) ?_
        refine j_mq (qs_nil rfl) ?_
        refine j_mq (qs_field Tryd.underlying80 rfl sz39 (by decide) rfl) ?_
        refine j_store (l := (gl r.v ((sizeR (rs.take i) : Nat) : Int) 0 0 0 nilS)) 2 sz39 rfl rfl rfl rfl (by simp) (by simp) ?_
        refine j_mR _ (.refl _) ?_
        refine j_mend ?_
        refine j_q (qs_nil rfl) ?_
        refine j_q (qs_field Tryd.underlying80 rfl sz3 (by decide) rfl) ?_
        refine j_q (qs_load (l := (gl (.slice A41 n41 cap41) ((sizeR (rs.take i) : Nat) : Int) 0 0 0 nilS)) 2 Tryd.underlying3 rfl rfl rfl rfl) ?_
        refine j_q (qs_conv Tryd.underlying64 Tryd.underlying3 rfl) ?_
        rw [show IntKind.i64.wrap ((x.length : Nat) : Int) = (x.length : Int) from IntWalk.i64_in _ (by omega)]
        refine j_q (qs_add64 rfl rfl (by first | omega | (simp only [bnA] at *; omega))) ?_
        refine j_q (qs_nil rfl) ?_
        refine j_q (qs_field Tryd.underlying80 rfl sz3 (by decide) rfl) ?_
        refine j_store (l := (gl (.slice A41 n41 cap41) ((sizeR (rs.take i) : Nat) : Int) 0 0 0 nilS)) 2 sz3 rfl rfl rfl rfl (by simp) (by simp) ?_
        refine j_q (qs_conv Tryd.underlying64 Tryd.underlying3 rfl) ?_
        rw [show IntKind.i64.wrap ((x.length : Nat) : Int) = (x.length : Int) from IntWalk.i64_in _ (by omega)]
        refine j_q (qs_add64 rfl rfl (by first | omega | (simp only [bnA] at *; omega))) ?_
        refine j_q (qs_cutl (a := (num x.length).length + x.length) (z := (recsE (rs.drop i)).length) Tryd.underlying22 sz5 rfl ⟨.i64, by show Value.int _ _ = _; congr 1⟩ rfl (by omega) (by omega)) ?_
        rw [hle2]
        refine j_q (qs_add rfl rfl) ?_
        rw [show IntKind.u64.wrap ((i : Int) + 1) = ((i + 1 : Nat) : Int) from by rw [IntWalk.u64_in _ (by omega)]; rfl]
        refine j_subl (S' := [c39, [(g15, gobj (.slice A41 n41 cap41) (((sizeR (rs.take i) : Nat) : Int) + (x.length : Int)) 0 0 0 nilS)], c41, r.lf]) (by repeat first | exact slR _ | exact slN _ | apply slC | apply slD) ?_
        refine j_perm (S' := [[(g15, gobj (.slice A41 n41 cap41) (((sizeR (rs.take i) : Nat) : Int) + (x.length : Int)) 0 0 0 nilS)], c41, r.lf ++ c39]) (by
          classical
          refine List.perm_iff_count.2 fun x => ?_
          simp only [List.set, List.flatten_cons, List.flatten_nil, List.append_nil, List.nil_append, List.cons_append, List.count_append, List.count_cons, List.count_nil]
          omega) ?_
        refine j_back rfl ?_
        refine ⟨_, by omega, i + 1, _, _, r.add _ _ x _ _, rfl, ?_, hbe, by omega, hro.add ho41 ho39, ?_, by omega, rfl⟩
        · rw [sizeR_take hi, ← hx, RR.add_lf]
          rfl
        · rw [RR.add_rs, hrs, hx, List.take_add_one, List.getElem?_eq_getElem hi, List.getD_eq_getElem?_getD, List.getElem?_eq_getElem hi]
          rfl
    · skip
      have hi : i = rs.length := by
        simp only [bnA] at *
        omega
      refine j_q (qs_lenl Tryd.underlying22 rfl) ?_
      refine j_q (qs_eql rfl rfl) ?_
      have hz : (recsE (rs.drop i)).length = 0 := by
        rw [hi, List.drop_length]
        rfl
      rw [hz]
      refine j_ret_con (vs := [_, _]) (fun w' hw' => ⟨rfl, rfl, trivial⟩) ?_
      refine ⟨g15, r, rfl, ?_, hro, ?_⟩
      · rw [hi, List.take_length]
      · rw [hrs, hi, List.take_length]
end Go.Proofs.YtomajiicjinekaaDoor
/-! Jn7 -/
namespace Go.Proofs.YtomajiicjinekaaDoor
open Go Go.Sx
set_option maxRecDepth 100000
set_option maxHeartbeats 4000000
set_option linter.unusedVariables false
set_option linter.unusedSimpArgs false
attribute [local irreducible] J JQ QS Con W opW
structure GR where
  g : Nat
  r : RR
  o : List Value
def GR.heap (x : GR) : SH := (x.g, .cells (x.r.v :: x.o).toArray 80 (0, 0)) :: x.r.heap
structure GS where
  v : Value
  c : SH
  G : List GR
def GS.gl (s : GS) : SH := (s.G.map GR.heap).flatten
def GS.heap (s : GS) : SH := s.c ++ s.gl
def GS.gs (s : GS) : List (List (List UInt8)) := s.G.map fun x => x.r.rs
structure GS.Ok (s : GS) : Prop where
  row : Sx.Own 66 1 (s.G.map fun x => Value.pointer (some ⟨x.g, 0, none⟩)) s.v s.c
  rr : ∀ x ∈ s.G, x.r.Ok
def GS.add (s : GS) (v : Value) (c : SH) (x : GR) : GS := ⟨v, c, s.G ++ [x]⟩
theorem GS.add_gs (s : GS) {v : Value} {c : SH} {x : GR} : (s.add v c x).gs = s.gs ++ [x.r.rs] := by
  unfold GS.gs GS.add
  rw [List.map_append]
  rfl
theorem GS.add_gl (s : GS) {v : Value} {c : SH} {x : GR} : (s.add v c x).gl = s.gl ++ x.heap := by
  unfold GS.gl GS.add
  rw [List.map_append, List.flatten_append, List.map_singleton, List.flatten_singleton]
theorem GS.Ok.add {s : GS} (h : s.Ok) {v : Value} {c : SH} {x : GR} (hv : Sx.Own 66 1 ((s.G.map fun x => Value.pointer (some ⟨x.g, 0, none⟩)) ++ [.pointer (some ⟨x.g, 0, none⟩)]) v c) (hx : x.r.Ok) : (s.add v c x).Ok := by
  refine ⟨?_, fun t ht => ?_⟩
  · unfold GS.add
    rw [List.map_append]
    exact hv
  · rcases List.mem_append.1 ht with ht | ht
    · exact h.rr t ht
    · rw [List.mem_singleton.1 ht]
      exact hx
abbrev jl (fp : Value) (name : List UInt8) (age part : Nat) (filled : Int) (gv : Value) (size : Int) (lg : Nat) (dead : Int) : List Value := [fp, .string (bs name), .int .u64 (age : Int), .int .i64 (part : Int), .int .i64 filled, gv, .int .i64 size, .pointer (some ⟨lg, 0, none⟩), .int .u32 dead]
abbrev jobj (fp : Value) (name : List UInt8) (age part : Nat) (filled : Int) (gv : Value) (size : Int) (lg : Nat) (dead : Int) : Obj := .cells (jl fp name age part filled gv size lg dead).toArray 71 (0, 0)
def Sees (c : SH) (v : Value) (xs : List UInt8) : Prop := ∀ w, In w c → BR w v xs
def limG (gs : List (List (List UInt8))) : Prop := gs.length ≤ 100 ∧ ∀ g ∈ gs, limR g
theorem gsE_cons (g : List (List UInt8)) (gs : List (List (List UInt8))) : gsE (g :: gs) = grpE g ++ gsE gs := rfl
theorem gsE_drop {gs : List (List (List UInt8))} {i : Nat} (h : i < gs.length) : gsE (gs.drop i) = num (bodyE (gs.getD i [])).length ++ (bodyE (gs.getD i []) ++ (sum (bodyE (gs.getD i [])) ++ gsE (gs.drop (i + 1)))) := by
  rw [List.drop_eq_getElem_cons h, gsE_cons, List.getD_eq_getElem?_getD, List.getElem?_eq_getElem h]
  unfold grpE
  rw [List.append_assoc, List.append_assoc]
  rfl
theorem gsE_len {gs : List (List (List UInt8))} (h : ∀ g ∈ gs, limR g) : (gsE gs).length ≤ gs.length * 12440 := by
  induction gs with
  | nil => exact Nat.le_refl _
  | cons g gs ih =>
    have h1 := ih fun x hx => h x (List.mem_cons_of_mem _ hx)
    have h2 := grpE_lim (h g (List.mem_cons_self ..))
    rw [gsE_cons, List.length_append, List.length_cons]
    omega
theorem gsE_lim {gs : List (List (List UInt8))} (h : limG gs) : (gsE gs).length ≤ 1244000 := by
  have := gsE_len h.2
  have := h.1
  omega
theorem gsE_drop_le {gs : List (List (List UInt8))} (h : limG gs) (i : Nat) : (gsE (gs.drop i)).length ≤ 1244000 :=
  gsE_lim ⟨by rw [List.length_drop]; have := h.1; omega, fun g hg => h.2 g (List.mem_of_mem_drop hg)⟩
theorem sizeG_take {gs : List (List (List UInt8))} {i : Nat} (h : i < gs.length) : sizeG (gs.take (i + 1)) = sizeG (gs.take i) + sizeR (gs.getD i []) := by
  unfold sizeG
  rw [List.take_add_one, List.getElem?_eq_getElem h, Option.toList_some, List.map_append, List.sum_append, List.getD_eq_getElem?_getD, List.getElem?_eq_getElem h]
  simp
theorem sizeG_le {gs : List (List (List UInt8))} (h : ∀ g ∈ gs, limR g) : sizeG gs ≤ gs.length * 12000 := by
  induction gs with
  | nil => exact Nat.le_refl _
  | cons g gs ih =>
    have h1 := ih fun x hx => h x (List.mem_cons_of_mem _ hx)
    have h2 := (h g (List.mem_cons_self ..)).2
    unfold sizeG at *
    rw [List.map_cons, List.sum_cons, List.length_cons]
    omega
theorem sizeG_lim {gs : List (List (List UInt8))} (h : limG gs) (i : Nat) : sizeG (gs.take i) ≤ 1200000 := by
  have h1 := sizeG_le (gs := gs.take i) fun g hg => h.2 g (List.mem_of_mem_take hg)
  have h2 := h.1
  rw [List.length_take] at h1
  omega
theorem cut3 (a b c d : List UInt8) : ((a ++ (b ++ (c ++ d))).take (a.length + b.length + c.length)).drop (a.length + b.length) = c := by
  rw [show a ++ (b ++ (c ++ d)) = (a ++ b) ++ (c ++ d) by rw [List.append_assoc]]
  have h := mid_cut (a ++ b) c d
  rw [List.length_append] at h
  exact h
theorem cut4 (a b c d : List UInt8) : (a ++ (b ++ (c ++ d))).drop (a.length + b.length + c.length) = d := by
  rw [show a ++ (b ++ (c ++ d)) = (a ++ b ++ c) ++ d by rw [List.append_assoc, List.append_assoc]]
  rw [show a.length + b.length + c.length = (a ++ b ++ c).length by rw [List.length_append, List.length_append]]
  exact List.drop_left
theorem arr_br {b : Base} {S : List SH} {w : World} {g : Nat} {xs : List UInt8} {e : TypeId} {fz : Nat × Nat} (hw : Sig b ([(g, .cells (ints xs).toArray e fz)] :: S) w) {n : Nat} (hn : xs.length = n) : BR w (.slice (some ⟨g, 0, none⟩) n n) xs := by
  subst hn
  have hg := hw.at_ (k := 0) rfl
  refine .inr ⟨_, _, rfl, Nat.le_refl _, fun _ => lt_of_get hg, fun j u hu => ?_⟩
  rw [add_off, Nat.zero_add, cell_of hg]
  exact hu
attribute [local irreducible] sum
theorem jread_con (gj : Nat) (fp : Value) (name : List UInt8) (age part : Nat) (filled : Int) (s : GS) (sz : Int) (lg : Nat) (dead : Int) (gs : List (List (List UInt8))) (A : Option Addr) (cap : Nat) (cb : SH) (w : World) (hs : s.Ok) (hb : Sees cb (.slice A (gsE gs).length cap) (gsE gs)) (hcap : (gsE gs).length ≤ cap) (hl : limG gs) (hsz : 0 ≤ sz ∧ sz ≤ 1000000) (hgn : s.G.length ≤ 1000) : Con Tryd.prog 40 [.pointer (some ⟨gj, 0, none⟩), .slice A (gsE gs).length cap] w (cb ++ (gj, jobj fp name age part filled s.v sz lg dead) :: s.heap) fun u S' => ∃ t : GS, u = .bool true ∧ S' = [cb, [(gj, jobj fp name age part filled t.v (sz + ((sizeG gs : Nat) : Int)) lg dead)], t.c, t.gl] ∧ t.Ok ∧ t.gs = s.gs ++ gs := by
  refine con_of_tree mix Tryd.func40 T40_ok (by kernel_rfl) ?_
  unfold T40
  refine j_perm (S' := [cb, [(gj, jobj fp name age part filled s.v sz lg dead)], s.c, s.gl]) (by simp [GS.heap]) ?_
  have hl1 := hl.1
  refine j_q (qs_ac) ?_
  refine j_loop (fun m vs S' => ∃ (i : Nat) (A : Option Addr) (cap : Nat) (t : GS), vs = [(.slice A (gsE (gs.drop i)).length cap)] ∧ S' = [cb, [(gj, jobj fp name age part filled t.v (sz + ((sizeG (gs.take i) : Nat) : Int)) lg dead)], t.c, t.gl] ∧ Sees cb (.slice A (gsE (gs.drop i)).length cap) (gsE (gs.drop i)) ∧ (gsE (gs.drop i)).length ≤ cap ∧ t.Ok ∧ t.gs = s.gs ++ gs.take i ∧ i ≤ gs.length ∧ m = gs.length - i) ⟨_, 0, _, _, s, rfl, (by rw [List.take_zero, show sizeG [] = 0 from rfl, Int.natCast_zero, Int.add_zero]), hb, hcap, hs, (by rw [List.take_zero, List.append_nil]), Nat.zero_le _, rfl⟩ ?_
  rintro m vs S' hlen ⟨i, A, cap, t, rfl, rfl, hbr, hcap, hto, hts, hin, rfl⟩
  have hdl := gsE_drop_le hl i
  have hszl := sizeG_lim hl i
  have htn : t.G.length = s.G.length + i := by
    have h8 := congrArg List.length hts
    unfold GS.gs at h8
    rw [List.length_map, List.length_append, List.length_map, List.length_take] at h8
    omega
  refine j_q (qs_lenl Tryd.underlying22 rfl) ?_
  refine j_q (qs_gtr rfl rfl) ?_
  refine j_cond rfl (fun hc0 => ?_) (fun hc0 => ?_)
  · skip
    have hi : i < gs.length := by
      simp only [bnA] at *
      rcases Nat.lt_or_ge i gs.length with h | h
      · exact h
      · rw [List.drop_of_length_le h] at hc0
        simp [gsE] at hc0
    obtain ⟨g, hg⟩ : ∃ g, g = gs.getD i [] := ⟨_, rfl⟩
    have hdr := gsE_drop hi
    rw [← hg] at hdr
    have hgl : limR g := by
      rw [hg, List.getD_eq_getElem?_getD, List.getElem?_eq_getElem hi]
      exact hl.2 _ (List.getElem_mem hi)
    have hg2 := hgl.2
    have hbl := bodyE_lim hgl
    obtain ⟨n, hn⟩ : ∃ n, n = (bodyE g).length := ⟨_, rfl⟩
    rw [← hn] at hbl hdr
    have hnn := num_len (show n < 268435456 by omega)
    have hnp := num_pos n
    obtain ⟨rest, hrest⟩ : ∃ rest, rest = gsE (gs.drop (i + 1)) := ⟨_, rfl⟩
    rw [← hrest] at hdr
    have hsl : (sum (bodyE g)).length = 32 := sum_length _
    have hdd : (gsE (gs.drop i)).length = (num n).length + (n + (32 + rest.length)) := by rw [hdr, List.length_append, List.length_append, List.length_append, hsl, ← hn]
    have hsb : Sees cb (.slice (if cap = (num n).length then A else A.map (fun p : Addr => p.add ((num n).length * 1))) n (cap - (num n).length)) (bodyE g) := fun w h => by
      have h8 := br_sub (hbr w h) (num n).length ((num n).length + n) (by omega) (by omega)
      rw [show (num n).length + n - (num n).length = n by omega, hdr] at h8
      have h9 := mid_cut (num n) (bodyE g) (sum (bodyE g) ++ rest)
      rw [← hn] at h9
      rw [h9] at h8
      exact h8
    have hss : Sees cb (.slice (if cap = (num n).length + n then A else A.map (fun p : Addr => p.add (((num n).length + n) * 1))) 32 (cap - ((num n).length + n))) (sum (bodyE g)) := fun w h => by
      have h8 := br_sub (hbr w h) ((num n).length + n) ((num n).length + n + 32) (by omega) (by omega)
      rw [show (num n).length + n + 32 - ((num n).length + n) = 32 by omega, hdr] at h8
      have h9 := cut3 (num n) (bodyE g) (sum (bodyE g)) rest
      rw [← hn, hsl] at h9
      rw [h9] at h8
      exact h8
    have hse : Sees cb (.slice (if cap = (num n).length + n + 32 then A else A.map (fun p : Addr => p.add (((num n).length + n + 32) * 1))) rest.length (cap - ((num n).length + n + 32))) rest := fun w h => by
      have h8 := br_sub (hbr w h) ((num n).length + n + 32) (gsE (gs.drop i)).length (by omega) (Nat.le_refl _)
      rw [show (gsE (gs.drop i)).length - ((num n).length + n + 32) = rest.length by omega, List.take_length, hdr] at h8
      have h9 := cut4 (num n) (bodyE g) (sum (bodyE g)) rest
      rw [← hn, hsl] at h9
      rw [h9] at h8
      exact h8
    refine j_q (qs_call ent54 rfl rfl rfl (fun w' hw' => takeNum_con n (bodyE g ++ (sum (bodyE g) ++ rest)) _ w' (by rw [← hdr]; exact hbr w' (in_own hw' 0 rfl)) (by omega) (by rw [← hdr]; omega))) ?_
    refine j_q (qs_ext rfl rfl) ?_
    refine j_q (qs_ext rfl rfl) ?_
    refine j_q (qs_leq rfl rfl) ?_
    rw [decide_eq_false (show ¬ ((num n).length : Int) ≤ 0 by omega)]
    refine j_gt rfl (qs_mt rfl) ?_
    refine j_gt rfl (qs_mt rfl) ?_
    refine j_gt rfl (qs_lenl Tryd.underlying22 rfl) ?_
    refine j_gt rfl (qs_mt rfl) ?_
    refine j_gt rfl (qs_sub64 rfl rfl (by omega)) ?_
    refine j_gt rfl (qs_conv Tryd.underlying3 Tryd.underlying64 rfl) ?_
    rw [IntWalk.u64_in _ (by omega)]
    refine j_gt rfl (qs_gtr rfl rfl) ?_
    rw [decide_eq_false (show ¬ ((n : Nat) : Int) > ((gsE (gs.drop i)).length : Int) - ((num n).length : Int) by omega)]
    refine j_q (qs_or rfl rfl) ?_
    refine j_gt rfl (qs_mt rfl) ?_
    refine j_gt rfl (qs_lenl Tryd.underlying22 rfl) ?_
    refine j_gt rfl (qs_mt rfl) ?_
    refine j_gt rfl (qs_sub64 rfl rfl (by omega)) ?_
    refine j_gt rfl (qs_mt rfl) ?_
    refine j_gt rfl (qs_conv Tryd.underlying64 Tryd.underlying3 rfl) ?_
    rw [show IntKind.i64.wrap ((n : Nat) : Int) = (n : Int) from IntWalk.i64_in _ (by omega)]
    refine j_gt rfl (qs_sub64 rfl rfl (by omega)) ?_
    refine j_gt rfl (qs_lss rfl rfl) ?_
    rw [decide_eq_false (show ¬ ((gsE (gs.drop i)).length : Int) - ((num n).length : Int) - (n : Int) < 32 by omega)]
    refine j_q (qs_or rfl rfl) ?_
    refine j_cond rfl (fun hc1 => ?_) (fun hc1 => ?_)
    · skip
      simp at hc1
    · skip
      refine j_q (qs_conv Tryd.underlying64 Tryd.underlying3 rfl) ?_
      rw [show IntKind.i64.wrap ((n : Nat) : Int) = (n : Int) from IntWalk.i64_in _ (by omega)]
      refine j_q (qs_add64 rfl rfl (by first | omega | (simp only [bnA] at *; omega))) ?_
      refine j_q (qs_cutl (a := (num n).length) (z := (num n).length + n) Tryd.underlying22 sz5 rfl ⟨.i64, rfl⟩ ⟨.i64, by show Value.int _ _ = _; congr 1⟩ (by omega) (by omega)) ?_
      rw [show (num n).length + n - (num n).length = n by omega]
      refine j_q (qs_call ent45 rfl rfl rfl (fun w' hw' => sumB_con (bodyE g) _ w' (hsb w' (in_own hw' 0 rfl)) (fun h0 => by have h8 := num_pos g.length; unfold bodyE at h0; rw [List.append_eq_nil_iff] at h0; rw [h0.1] at h8; simp at h8) (by omega))) ?_
      refine j_alloc zero97 (fun g29 hg29 hs29 => ?_)
      refine j_storew 0 sz97 rfl rfl (by first | (rw [ints_length]; exact sum_length _) | rfl) ints_one rfl (by first | (rw [ints_length]; exact sum_length _) | rfl) ?_
      refine j_draw ?_
      refine jq_q (qs_cuta  Tryd.underlying97 sz5 rfl rfl rfl (by first | omega | (simp only [bnA] at *; omega)) (by first | omega | (simp only [bnA] at *; omega))) ?_
      refine jq_q (qs_conv Tryd.underlying64 Tryd.underlying3 rfl) ?_
      rw [show IntKind.i64.wrap ((n : Nat) : Int) = (n : Int) from IntWalk.i64_in _ (by omega)]
      refine jq_q (qs_add64 rfl rfl (by first | omega | (simp only [bnA] at *; omega))) ?_
      refine jq_q (qs_conv Tryd.underlying64 Tryd.underlying3 rfl) ?_
      rw [show IntKind.i64.wrap ((n : Nat) : Int) = (n : Int) from IntWalk.i64_in _ (by omega)]
      refine jq_q (qs_add64 rfl rfl (by first | omega | (simp only [bnA] at *; omega))) ?_
      refine jq_q (qs_add64 rfl rfl (by first | omega | (simp only [bnA] at *; omega))) ?_
      refine jq_q (qs_cutl (a := (num n).length + n) (z := (num n).length + n + 32) Tryd.underlying22 sz5 rfl ⟨.i64, by show Value.int _ _ = _; congr 1⟩ ⟨.i64, by show Value.int _ _ = _; congr 1⟩ (by omega) (by omega)) ?_
      rw [show (num n).length + n + 32 - ((num n).length + n) = 32 by omega]
      refine jq_q (qs_call ent55 rfl rfl rfl (fun w' hw' => equal_con (sum (bodyE g)) (sum (bodyE g)) _ _ w' (arr_br hw' hsl) (hss w' (in_own hw' 1 rfl)))) ?_
      rw [beq_self_eq_true]
      refine jq_q (qs_not rfl) ?_
      refine jq_nil ?_
      refine j_cond rfl (fun hc2 => ?_) (fun hc2 => ?_)
      · skip
        simp at hc2
      · skip
        refine j_call0 ent57 rfl rfl rfl (fun w' hw' => readGroup_con g _ w' (hsb w' (in_own hw' 1 rfl)) hgl) (fun u S2 hu => ?_)
        obtain ⟨gg, r, rfl, rfl, hro, hrs⟩ := hu
        refine j_q (qs_ext rfl rfl) ?_
        refine j_q (qs_ext rfl rfl) ?_
        refine j_q (qs_not rfl) ?_
        refine j_cond rfl (fun hc3 => ?_) (fun hc3 => ?_)
        · skip
          simp at hc3
        · skip
          refine j_q (qs_nil rfl) ?_
          refine j_q (qs_field Tryd.underlying71 rfl sz65 (by decide) rfl) ?_
          refine j_q (qs_load (l := jl fp name age part filled t.v (sz + ((sizeG (gs.take i) : Nat) : Int)) lg dead) (v := t.v) 5 Tryd.underlying65 rfl rfl rfl rfl) ?_
          refine j_lit (vs := [.pointer (some ⟨gg, 0, none⟩)]) Tryd.underlying65 sz66 zero66 rfl (by simp [oneV]) ⟨rfl, by decide⟩ (fun g49 v49 c49 hv49 hc49 ho49 => ?_)
          subst hv49 hc49
          refine j_append 7 Tryd.underlying65 Tryd.underlying65 (.inr ⟨_, rfl⟩) sb66 zero66 rfl hto.row rfl (.inl ⟨_, _, rfl, rd_own (off := 0) (n := 1) 0 rfl rfl, rfl⟩) (by simp [oneV]) ⟨(by simp only [List.length_map]; simp; omega), (by decide)⟩ (fun v50 c50 ho50 => ?_)
          obtain ⟨n50, A50, cap50, rfl, hn50⟩ := own_form ho50 (by decide)
          refine j_q (qs_nil rfl) ?_
          refine j_q (qs_field Tryd.underlying71 rfl sz65 (by decide) rfl) ?_
          refine j_store (l := jl fp name age part filled t.v (sz + ((sizeG (gs.take i) : Nat) : Int)) lg dead) 6 sz65 rfl rfl rfl rfl (by simp) (by simp) ?_
          refine j_draw ?_
          refine jq_q (qs_nil rfl) ?_
          refine jq_q (qs_field Tryd.underlying71 rfl sz3 (by decide) rfl) ?_
          refine jq_q (qs_load (l := jl fp name age part filled (.slice A50 n50 cap50) (sz + ((sizeG (gs.take i) : Nat) : Int)) lg dead) (v := .int .i64 (sz + ((sizeG (gs.take i) : Nat) : Int))) 6 Tryd.underlying3 rfl rfl rfl rfl) ?_
          refine jq_q (qs_nil rfl) ?_
          refine jq_q (qs_field Tryd.underlying80 rfl sz3 (by decide) rfl) ?_
          refine jq_q (qs_load (l := r.v :: [.int .i64 ((sizeR g : Nat) : Int), .int .u32 0, .int .i32 0, .int .u32 0, nilS]) (v := .int .i64 ((sizeR g : Nat) : Int)) 1 Tryd.underlying3 rfl rfl rfl rfl) ?_
          refine jq_q (qs_add64 rfl rfl (by first | omega | (simp only [bnA] at *; omega))) ?_
          refine jq_q (qs_nil rfl) ?_
          refine jq_q (qs_field Tryd.underlying71 rfl sz3 (by decide) rfl) ?_
          refine jq_nil ?_
          refine j_store (l := jl fp name age part filled (.slice A50 n50 cap50) (sz + ((sizeG (gs.take i) : Nat) : Int)) lg dead) 6 sz3 rfl rfl rfl rfl (by simp) (by simp) ?_
          refine j_q (qs_conv Tryd.underlying64 Tryd.underlying3 rfl) ?_
          rw [show IntKind.i64.wrap ((n : Nat) : Int) = (n : Int) from IntWalk.i64_in _ (by omega)]
          refine j_q (qs_add64 rfl rfl (by first | omega | (simp only [bnA] at *; omega))) ?_
          refine j_q (qs_add64 rfl rfl (by first | omega | (simp only [bnA] at *; omega))) ?_
          refine j_q (qs_cutl (a := (num n).length + n + 32) (z := (gsE (gs.drop i)).length) Tryd.underlying22 sz5 rfl ⟨.i64, by show Value.int _ _ = _; congr 1⟩ rfl (by omega) (by omega)) ?_
          rw [show (gsE (gs.drop i)).length - ((num n).length + n + 32) = rest.length by omega]
          refine j_subl (S' := [[(gg, .cells (r.v :: [.int .i64 ((sizeR g : Nat) : Int), .int .u32 0, .int .i32 0, .int .u32 0, nilS]).toArray 80 (0, 0))], r.c, r.lf, cb, [(gj, jobj fp name age part filled (.slice A50 n50 cap50) (sz + ((sizeG (gs.take i) : Nat) : Int) + ((sizeR g : Nat) : Int)) lg dead)], c50, t.gl]) (by repeat first | exact slR _ | exact slN _ | apply slC | apply slD) ?_
          refine j_perm (S' := [cb, [(gj, jobj fp name age part filled (.slice A50 n50 cap50) (sz + ((sizeG (gs.take i) : Nat) : Int) + ((sizeR g : Nat) : Int)) lg dead)], c50, t.gl ++ GR.heap ⟨gg, r, [.int .i64 ((sizeR g : Nat) : Int), .int .u32 0, .int .i32 0, .int .u32 0, nilS]⟩]) (by
            classical
            refine List.perm_iff_count.2 fun x => ?_
            simp only [RR.heap, GR.heap, GS.heap, List.set, List.flatten_cons, List.flatten_nil, List.append_nil, List.nil_append, List.cons_append, List.count_append, List.count_cons, List.count_nil]
            omega) ?_
          refine j_back rfl ?_
          subst hrest
          refine ⟨_, by omega, i + 1, _, _, t.add (.slice A50 n50 cap50) c50 ⟨gg, r, [.int .i64 ((sizeR g : Nat) : Int), .int .u32 0, .int .i32 0, .int .u32 0, nilS]⟩, rfl, ?_, hse, by omega, hto.add ho50 hro, ?_, by omega, rfl⟩
          · rw [sizeG_take hi, ← hg, GS.add_gl, Int.natCast_add, ← Int.add_assoc]
            rfl
          · rw [GS.add_gs, hts, List.append_assoc, List.take_add_one, List.getElem?_eq_getElem hi, hrs, hg, List.getD_eq_getElem?_getD, List.getElem?_eq_getElem hi]
            rfl
  · skip
    have hi : i = gs.length := by
      simp only [bnA] at *
      rcases Nat.lt_or_ge i gs.length with h | h
      · have h8 := gsE_drop h
        have h9 := num_pos (bodyE (gs.getD i [])).length
        rw [h8, List.length_append] at hc0
        omega
      · omega
    refine j_q (qs_ac) ?_
    refine j_ret_con (vs := [_]) (fun w' hw' => ⟨rfl, trivial⟩) ?_
    refine ⟨t, rfl, ?_, hto, ?_⟩
    · rw [hi, List.take_length]
    · rw [hts, hi, List.take_length]
end Go.Proofs.YtomajiicjinekaaDoor
/-! Jn8 -/
namespace Go.Proofs.YtomajiicjinekaaDoor
open Go Go.Sx
set_option maxRecDepth 100000
set_option maxHeartbeats 4000000
set_option linter.unusedVariables false
set_option linter.unusedSimpArgs false
attribute [local irreducible] J JQ QS Con W opW
structure JS (name : List UInt8) (age : Nat) (gs : List (List (List UInt8))) (s : AS) : Prop where
  hd : (age = 0 ∧ alook s.nm name = none) ∨ (alook s.nm name ≠ none ∧ contA s name = headE age)
  f0 : (gs = [] ∧ alook s.nm (fileN name age 0) = none) ∨ (gs ≠ [] ∧ alook s.nm (fileN name age 0) ≠ none ∧ contA s (fileN name age 0) = gsE gs)
  f1 : alook s.nm (fileN name age 1) = none
  nx : ∀ a, age < a → ∀ p, alook s.nm (fileN name a p) = none
def fillE (gs : List (List (List UInt8))) : Int := if gs = [] then -1 else ((gsE gs).length : Int)
structure JM where
  gj : Nat
  lg : Nat
  fp : Value
  name : List UInt8
  age : Nat
  fl : Int
  s : GS
  laid : RR
  dead : Int
abbrev JM.ptr (j : JM) : Value := .pointer (some ⟨j.gj, 0, none⟩)
abbrev JM.obj (j : JM) : Obj := jobj j.fp j.name j.age 0 j.fl j.s.v ((sizeG j.s.gs : Nat) : Int) j.lg j.dead
abbrev JM.lobj (j : JM) : Obj := gobj j.laid.v ((sizeR j.laid.rs : Nat) : Int) 0 0 0 nilS
def JM.heap (j : JM) : SH := (j.gj, j.obj) :: (j.lg, j.lobj) :: (j.s.heap ++ j.laid.heap)
structure JA where
  name : List UInt8
  age : Nat
  gs : List (List (List UInt8))
  down : List (List UInt8)
  dead : Bool
structure JM.Ok (j : JM) (a : JA) : Prop where
  s : j.s.Ok
  l : j.laid.Ok
  nm : j.name = a.name
  ag : j.age = a.age
  gs : j.s.gs = a.gs
  dn : j.laid.rs = a.down
  dd : j.dead = if a.dead then 1 else 0
  fl : a.dead = false → j.fl = fillE a.gs
theorem gs0 : GS.Ok ⟨nilS, [], []⟩ := ⟨own_nil, fun t ht => by cases ht⟩
theorem readE_0 {s : AS} {n : List UInt8} : readE s n = 0 ↔ alook s.nm n ≠ none := by
  unfold readE
  split
  · rename_i h
    simp [h]
  · rename_i h
    simp [h]
theorem readE_1 {s : AS} {n : List UInt8} : readE s n ≠ 0 ↔ alook s.nm n = none := by
  rw [ne_eq, readE_0, Classical.not_not]
theorem strOk_file {name : List UInt8} {age part : Nat} (h1 : name.length ≤ 1000) (h2 : age < 10000) (h3 : part < 100) : strOk (fileN name age part) := by
  have h4 := dec_len h2
  have h5 := dec_len (show part < 10000 by omega)
  show (fileN name age part).length ≤ _
  unfold fileN
  simp only [List.length_append, List.length_cons, List.length_nil]
  omega
theorem own_cap {xs : List UInt8} {A : Option Addr} {n cap : Nat} {c : SH} (h : Sx.Own 5 1 (ints xs) (.slice A n cap) c) : n ≤ cap := by
  rcases h with ⟨h, _⟩ | ⟨g, n', cap', rest, fz, h, _, _, _, h4, _⟩
  · injection h with h1 h2 h3
    omega
  · injection h with h1 h2 h3
    omega
theorem perm_jm (j : JM) : ([[(j.gj, j.obj)], [(j.lg, j.lobj)], j.s.c, j.s.gl, j.laid.heap] : List SH).flatten.Perm [j.heap].flatten := by
  classical
  refine List.perm_iff_count.2 fun x => ?_
  simp only [GS.heap, JM.heap, List.flatten_cons, List.flatten_nil, List.append_nil, List.nil_append, List.cons_append, List.count_append, List.count_cons, List.count_nil]
  omega
attribute [local irreducible] sum gsE headE fileN contA readE
theorem within_con (r : FR) (a : AF) (name : List UInt8) (age : Nat) (gs : List (List (List UInt8))) (w : World) (hin : In w r.heap) (hok : r.Ok a) (hj : JS name age gs a.now) (hl : limG gs) (hag : age < 10000) (hnl : name.length ≤ 1000) (hP : P10 w) : Con Tryd.prog 26 [r.ptr, .string (bs name)] w [] fun u S' => ∃ j : JM, u = .tuple #[j.ptr, .int .i64 0] ∧ S' = [j.heap] ∧ j.Ok ⟨name, age, gs, [], false⟩ ∧ j.fp = r.ptr := by
  refine con_of_tree mix Tryd.func26 T26_ok (by kernel_rfl) ?_
  unfold T26
  refine j_q (qs_ac) ?_
  refine j_q (qs_ac) ?_
  refine j_q (qs_run (v := .agg ([nilS, .int .i64 0, .int .u32 0, .int .i32 0, .int .u32 0, nilS]).toArray) (fun w => by kernel_rfl)) ?_
  refine j_box (l := [nilS, .int .i64 0, .int .u32 0, .int .i32 0, .int .u32 0, nilS]) rfl (fun g3 hg3 hs3 => ?_)
  refine j_q (qs_build (places := [(0, 1), (1, 1), (2, 1), (3, 1), (4, 1), (5, 1), (6, 1), (7, 1), (8, 1)]) (offs := [(0, [r.ptr]), (1, [.string (bs name)]), (7, [.pointer (some ⟨g3, 0, none⟩)])]) Tryd.underlying71 zero71 (by kernel_rfl) rfl (by rintro (_ | _ | _ | _ | j) p q hp hq <;> first | (simp at hp hq; subst hp hq; exact ⟨rfl, rfl, by simp⟩) | (simp at hp))) ?_
  refine j_box (l := jl r.ptr name 0 0 0 nilS 0 g3 0) rfl (fun g5 hg5 hs5 => ?_)
  refine j_subl (S' := [[(g5, .cells (jl r.ptr name 0 0 0 nilS 0 g3 0).toArray 71 (0, 0))], [(g3, gobj nilS 0 0 0 0 nilS)]]) (by repeat first | exact slR _ | exact slN _ | apply slC | apply slD) ?_
  refine j_call0 ent11 rfl rfl rfl (fun w' hw' => readRO_con r a name w' (in_keep0 hin hw') hok (by show name.length ≤ _; omega)) (fun u S2 hu => ?_)
  obtain ⟨v6, c6, rfl, rfl, ho6⟩ := hu
  refine j_q (qs_ext (vs := [v6, .int .i64 (readE a.now name)]) rfl rfl) ?_
  refine j_q (qs_ext (vs := [v6, .int .i64 (readE a.now name)]) rfl rfl) ?_
  refine j_q (qs_eql rfl rfl) ?_
  refine j_cond rfl (fun hc0 => ?_) (fun hc0 => ?_)
  · skip
    have hrd : readE a.now name = 0 := by simpa using hc0
    have hhd : contA a.now name = headE age := by
      rcases hj.hd with ⟨_, h⟩ | ⟨_, h⟩
      · exact absurd h (readE_0.1 hrd)
      · exact h
    rw [hhd] at ho6
    refine j_q (qs_call ent39 rfl rfl rfl (fun w' hw' => readAge_con age _ w' (own_br ho6 0 rfl hw') (by omega))) ?_
    refine j_q (qs_nil rfl) ?_
    refine j_q (qs_field Tryd.underlying71 rfl sz64 (by decide) rfl) ?_
    refine j_store (l := jl r.ptr name 0 0 0 nilS 0 g3 0) 1 sz64 rfl rfl rfl rfl (by simp) (by simp) ?_
    refine j_subl (S' := [[(g5, .cells (jl r.ptr name age 0 0 nilS 0 g3 0).toArray 71 (0, 0))], [(g3, gobj nilS 0 0 0 0 nilS)]]) (by repeat first | exact slR _ | exact slN _ | apply slC | apply slD) ?_
    refine j_q (qs_nil rfl) ?_
    refine j_q (qs_field Tryd.underlying71 rfl sz3 (by decide) rfl) ?_
    refine j_store (l := jl r.ptr name age 0 0 nilS 0 g3 0) 0 sz3 rfl rfl rfl rfl (by simp) (by simp) ?_
    refine j_subl (S' := [[(g5, jobj r.ptr name age 0 (-1) nilS 0 g3 0)], [(g3, gobj nilS 0 0 0 0 nilS)]]) (by repeat first | exact slR _ | exact slN _ | apply slC | apply slD) ?_
    refine j_perm (S' := [[(g5, jobj r.ptr name age 0 (-1) nilS 0 g3 0)], [(g3, gobj nilS 0 0 0 0 nilS)], [], []]) (by simp) ?_
    refine j_q (qs_ac) ?_
    refine j_loop (fun m vs S' => ∃ (p : Nat) (t : GS) (fl : Int), vs = [.int .i64 (p : Int)] ∧ S' = [[(g5, .cells (jl r.ptr name age 0 fl t.v ((sizeG t.gs : Nat) : Int) g3 0).toArray 71 (0, 0))], [(g3, gobj nilS 0 0 0 0 nilS)], t.c, t.gl] ∧ t.Ok ∧ ((p = 0 ∧ t = ⟨nilS, [], []⟩ ∧ fl = -1) ∨ (p = 1 ∧ t.gs = gs ∧ gs ≠ [] ∧ fl = ((gsE gs).length : Int))) ∧ m = 1 - p) ⟨_, 0, ⟨nilS, [], []⟩, -1, rfl, rfl, gs0, .inl ⟨rfl, rfl, rfl⟩, rfl⟩ ?_
    rintro m vs S' hlen ⟨p, t, fl, rfl, rfl, hto, hcase, rfl⟩
    have hp1 : p ≤ 1 := by rcases hcase with ⟨h, _⟩ | ⟨h, _⟩ <;> omega
    refine j_q (qs_call ent29 rfl rfl rfl (fun w' hw' => file_con g5 r.ptr name age p _ w' (hw'.at_ (k := 0) rfl) (hP.keep hw' (by simp)) (by omega) (by omega) hnl)) ?_
    refine j_call0 ent11 rfl rfl rfl (fun w' hw' => readRO_con r a (fileN name age p) w' (in_keep0 hin hw') hok (strOk_file hnl (by omega) (by omega))) (fun u S2 hu => ?_)
    obtain ⟨v19, c19, rfl, rfl, ho19⟩ := hu
    refine j_q (qs_ext (vs := [v19, .int .i64 (readE a.now (fileN name age p))]) rfl rfl) ?_
    refine j_q (qs_ext (vs := [v19, .int .i64 (readE a.now (fileN name age p))]) rfl rfl) ?_
    refine j_q (qs_neq rfl rfl) ?_
    refine j_cond rfl (fun hc1 => ?_) (fun hc1 => ?_)
    · skip
      have hno : alook a.now.nm (fileN name age p) = none := readE_1.1 (by simpa using hc1)
      have htg : t.gs = gs ∧ fl = fillE gs := by
        rcases hcase with ⟨h1, h2, h3⟩ | ⟨h1, h2, h3, h4⟩
        · rcases hj.f0 with ⟨h5, _⟩ | ⟨_, h5, _⟩
          · rw [h2, h3, h5]
            exact ⟨rfl, rfl⟩
          · rw [h1] at hno
            exact absurd hno h5
        · exact ⟨h2, by rw [h4, fillE, if_neg h3]⟩
      refine j_q (qs_ac) ?_
      refine j_subl (S' := [[(g5, .cells (jl r.ptr name age 0 fl t.v ((sizeG t.gs : Nat) : Int) g3 0).toArray 71 (0, 0))], [(g3, gobj nilS 0 0 0 0 nilS)], t.c, t.gl]) (by repeat first | exact slR _ | exact slN _ | apply slC | apply slD) ?_
      refine j_perm (S' := [JM.heap ⟨g5, g3, r.ptr, name, age, fl, t, ⟨nilS, [], []⟩, 0⟩]) (by
        exact perm_jm ⟨g5, g3, r.ptr, name, age, fl, t, ⟨nilS, [], []⟩, 0⟩) ?_
      refine j_ret_con (vs := [_, _]) (fun w' hw' => ⟨rfl, rfl, trivial⟩) ?_
      exact ⟨⟨g5, g3, r.ptr, name, age, fl, t, ⟨nilS, [], []⟩, 0⟩, rfl, rfl, ⟨hto, rr0, rfl, rfl, htg.1, rfl, rfl, fun _ => htg.2⟩, rfl⟩
    · skip
      have hyes : alook a.now.nm (fileN name age p) ≠ none := readE_0.1 (by simpa using hc1)
      obtain ⟨rfl, rfl, rfl⟩ : p = 0 ∧ t = ⟨nilS, [], []⟩ ∧ fl = -1 := by
        rcases hcase with h | ⟨h1, _⟩
        · exact h
        · rw [h1] at hyes
          exact absurd hj.f1 hyes
      obtain ⟨hgn, _, hcon⟩ : gs ≠ [] ∧ alook a.now.nm (fileN name age 0) ≠ none ∧ contA a.now (fileN name age 0) = gsE gs := by
        rcases hj.f0 with ⟨_, h⟩ | h
        · exact absurd h hyes
        · exact h
      rw [hcon] at ho19
      obtain ⟨n19, A19, cap19, rfl, hn19⟩ := own_form ho19 (by decide)
      rw [ints_length, Nat.mul_one] at hn19
      subst hn19
      have hcp : (gsE gs).length ≤ cap19 := own_cap ho19
      refine j_q (qs_lenl Tryd.underlying22 rfl) ?_
      refine j_q (qs_nil rfl) ?_
      refine j_q (qs_field Tryd.underlying71 rfl sz3 (by decide) rfl) ?_
      refine j_store (l := jl r.ptr name age 0 (-1) nilS 0 g3 0) 1 sz3 rfl rfl rfl rfl (by simp) (by simp) ?_
      refine j_q (qs_nil rfl) ?_
      refine j_q (qs_field Tryd.underlying71 rfl sz3 (by decide) rfl) ?_
      refine j_store (l := jl r.ptr name age 0 (-1) nilS 0 g3 0) 1 sz3 rfl rfl rfl rfl (by simp) (by simp) ?_
      refine j_subl (S' := [c19, [(g5, .cells (jl r.ptr name age 0 ((gsE gs).length : Int) nilS 0 g3 0).toArray 71 (0, 0))], [(g3, gobj nilS 0 0 0 0 nilS)]]) (by repeat first | exact slR _ | exact slN _ | apply slC | apply slD) ?_
      refine j_perm (S' := [c19 ++ (g5, .cells (jl r.ptr name age 0 ((gsE gs).length : Int) nilS 0 g3 0).toArray 71 (0, 0)) :: GS.heap ⟨nilS, [], []⟩, [(g3, gobj nilS 0 0 0 0 nilS)]]) (by
        classical
        refine List.perm_iff_count.2 fun x => ?_
        simp only [RR.heap, GR.heap, GS.heap, GS.gl, List.map_nil, JM.heap, List.set, List.flatten_cons, List.flatten_nil, List.append_nil, List.nil_append, List.cons_append, List.count_append, List.count_cons, List.count_nil]
        omega) ?_
      refine j_call 0 ent40 rfl rfl rfl rfl (fun w' hw' => jread_con g5 r.ptr name age 0 ((gsE gs).length : Int) ⟨nilS, [], []⟩ 0 g3 0 gs A19 cap19 c19 w' gs0 (fun w h => own_brI ho19 h) hcp hl (by decide) (by decide)) (fun u S2 hu => ?_)
      obtain ⟨t2, rfl, rfl, hto2, hts2⟩ := hu
      refine j_q (qs_not rfl) ?_
      refine j_cond rfl (fun hc2 => ?_) (fun hc2 => ?_)
      · skip
        simp at hc2
      · skip
        refine j_q (qs_add64 rfl rfl (by decide)) ?_
        refine j_subl (S' := [[(g5, .cells (jl r.ptr name age 0 ((gsE gs).length : Int) t2.v (0 + ((sizeG gs : Nat) : Int)) g3 0).toArray 71 (0, 0))], t2.c, t2.gl, [(g3, gobj nilS 0 0 0 0 nilS)]]) (by repeat first | exact slR _ | exact slN _ | apply slC | apply slD) ?_
        refine j_perm (S' := [[(g5, .cells (jl r.ptr name age 0 ((gsE gs).length : Int) t2.v (0 + ((sizeG gs : Nat) : Int)) g3 0).toArray 71 (0, 0))], [(g3, gobj nilS 0 0 0 0 nilS)], t2.c, t2.gl]) (by
          classical
          refine List.perm_iff_count.2 fun x => ?_
          simp only [RR.heap, GR.heap, GS.heap, JM.heap, List.set, List.flatten_cons, List.flatten_nil, List.append_nil, List.nil_append, List.cons_append, List.count_append, List.count_cons, List.count_nil]
          omega) ?_
        refine j_back rfl ?_
        have hts3 : t2.gs = gs := hts2
        refine ⟨_, by omega, 1, t2, _, rfl, ?_, hto2, .inr ⟨rfl, hts3, hgn, rfl⟩, rfl⟩
        rw [hts3, Int.zero_add]
  · skip
    have hrd : readE a.now name ≠ 0 := by simpa using hc0
    have hag : age = 0 := by
      rcases hj.hd with ⟨h, _⟩ | ⟨h, _⟩
      · exact h
      · exact absurd (readE_1.1 hrd) h
    subst hag
    refine j_subl (S' := [[(g5, .cells (jl r.ptr name 0 0 0 nilS 0 g3 0).toArray 71 (0, 0))], [(g3, gobj nilS 0 0 0 0 nilS)]]) (by repeat first | exact slR _ | exact slN _ | apply slC | apply slD) ?_
    refine j_q (qs_nil rfl) ?_
    refine j_q (qs_field Tryd.underlying71 rfl sz3 (by decide) rfl) ?_
    refine j_store (l := jl r.ptr name 0 0 0 nilS 0 g3 0) 0 sz3 rfl rfl rfl rfl (by simp) (by simp) ?_
    refine j_subl (S' := [[(g5, jobj r.ptr name 0 0 (-1) nilS 0 g3 0)], [(g3, gobj nilS 0 0 0 0 nilS)]]) (by repeat first | exact slR _ | exact slN _ | apply slC | apply slD) ?_
    refine j_perm (S' := [[(g5, jobj r.ptr name 0 0 (-1) nilS 0 g3 0)], [(g3, gobj nilS 0 0 0 0 nilS)], [], []]) (by simp) ?_
    refine j_q (qs_ac) ?_
    refine j_loop (fun m vs S' => ∃ (p : Nat) (t : GS) (fl : Int), vs = [.int .i64 (p : Int)] ∧ S' = [[(g5, .cells (jl r.ptr name 0 0 fl t.v ((sizeG t.gs : Nat) : Int) g3 0).toArray 71 (0, 0))], [(g3, gobj nilS 0 0 0 0 nilS)], t.c, t.gl] ∧ t.Ok ∧ ((p = 0 ∧ t = ⟨nilS, [], []⟩ ∧ fl = -1) ∨ (p = 1 ∧ t.gs = gs ∧ gs ≠ [] ∧ fl = ((gsE gs).length : Int))) ∧ m = 1 - p) ⟨_, 0, ⟨nilS, [], []⟩, -1, rfl, rfl, gs0, .inl ⟨rfl, rfl, rfl⟩, rfl⟩ ?_
    rintro m vs S' hlen ⟨p, t, fl, rfl, rfl, hto, hcase, rfl⟩
    have hp1 : p ≤ 1 := by rcases hcase with ⟨h, _⟩ | ⟨h, _⟩ <;> omega
    refine j_q (qs_call ent29 rfl rfl rfl (fun w' hw' => file_con g5 r.ptr name 0 p _ w' (hw'.at_ (k := 0) rfl) (hP.keep hw' (by simp)) (by omega) (by omega) hnl)) ?_
    refine j_call0 ent11 rfl rfl rfl (fun w' hw' => readRO_con r a (fileN name 0 p) w' (in_keep0 hin hw') hok (strOk_file hnl (by omega) (by omega))) (fun u S2 hu => ?_)
    obtain ⟨v19, c19, rfl, rfl, ho19⟩ := hu
    refine j_q (qs_ext (vs := [v19, .int .i64 (readE a.now (fileN name 0 p))]) rfl rfl) ?_
    refine j_q (qs_ext (vs := [v19, .int .i64 (readE a.now (fileN name 0 p))]) rfl rfl) ?_
    refine j_q (qs_neq rfl rfl) ?_
    refine j_cond rfl (fun hc3 => ?_) (fun hc3 => ?_)
    · skip
      have hno : alook a.now.nm (fileN name 0 p) = none := readE_1.1 (by simpa using hc3)
      have htg : t.gs = gs ∧ fl = fillE gs := by
        rcases hcase with ⟨h1, h2, h3⟩ | ⟨h1, h2, h3, h4⟩
        · rcases hj.f0 with ⟨h5, _⟩ | ⟨_, h5, _⟩
          · rw [h2, h3, h5]
            exact ⟨rfl, rfl⟩
          · rw [h1] at hno
            exact absurd hno h5
        · exact ⟨h2, by rw [h4, fillE, if_neg h3]⟩
      refine j_q (qs_ac) ?_
      refine j_subl (S' := [[(g5, .cells (jl r.ptr name 0 0 fl t.v ((sizeG t.gs : Nat) : Int) g3 0).toArray 71 (0, 0))], [(g3, gobj nilS 0 0 0 0 nilS)], t.c, t.gl]) (by repeat first | exact slR _ | exact slN _ | apply slC | apply slD) ?_
      refine j_perm (S' := [JM.heap ⟨g5, g3, r.ptr, name, 0, fl, t, ⟨nilS, [], []⟩, 0⟩]) (by
        exact perm_jm ⟨g5, g3, r.ptr, name, 0, fl, t, ⟨nilS, [], []⟩, 0⟩) ?_
      refine j_ret_con (vs := [_, _]) (fun w' hw' => ⟨rfl, rfl, trivial⟩) ?_
      exact ⟨⟨g5, g3, r.ptr, name, 0, fl, t, ⟨nilS, [], []⟩, 0⟩, rfl, rfl, ⟨hto, rr0, rfl, rfl, htg.1, rfl, rfl, fun _ => htg.2⟩, rfl⟩
    · skip
      have hyes : alook a.now.nm (fileN name 0 p) ≠ none := readE_0.1 (by simpa using hc3)
      obtain ⟨rfl, rfl, rfl⟩ : p = 0 ∧ t = ⟨nilS, [], []⟩ ∧ fl = -1 := by
        rcases hcase with h | ⟨h1, _⟩
        · exact h
        · rw [h1] at hyes
          exact absurd hj.f1 hyes
      obtain ⟨hgn, _, hcon⟩ : gs ≠ [] ∧ alook a.now.nm (fileN name 0 0) ≠ none ∧ contA a.now (fileN name 0 0) = gsE gs := by
        rcases hj.f0 with ⟨_, h⟩ | h
        · exact absurd h hyes
        · exact h
      rw [hcon] at ho19
      obtain ⟨n19, A19, cap19, rfl, hn19⟩ := own_form ho19 (by decide)
      rw [ints_length, Nat.mul_one] at hn19
      subst hn19
      have hcp : (gsE gs).length ≤ cap19 := own_cap ho19
      refine j_q (qs_lenl Tryd.underlying22 rfl) ?_
      refine j_q (qs_nil rfl) ?_
      refine j_q (qs_field Tryd.underlying71 rfl sz3 (by decide) rfl) ?_
      refine j_store (l := jl r.ptr name 0 0 (-1) nilS 0 g3 0) 1 sz3 rfl rfl rfl rfl (by simp) (by simp) ?_
      refine j_q (qs_nil rfl) ?_
      refine j_q (qs_field Tryd.underlying71 rfl sz3 (by decide) rfl) ?_
      refine j_store (l := jl r.ptr name 0 0 (-1) nilS 0 g3 0) 1 sz3 rfl rfl rfl rfl (by simp) (by simp) ?_
      refine j_subl (S' := [c19, [(g5, .cells (jl r.ptr name 0 0 ((gsE gs).length : Int) nilS 0 g3 0).toArray 71 (0, 0))], [(g3, gobj nilS 0 0 0 0 nilS)]]) (by repeat first | exact slR _ | exact slN _ | apply slC | apply slD) ?_
      refine j_perm (S' := [c19 ++ (g5, .cells (jl r.ptr name 0 0 ((gsE gs).length : Int) nilS 0 g3 0).toArray 71 (0, 0)) :: GS.heap ⟨nilS, [], []⟩, [(g3, gobj nilS 0 0 0 0 nilS)]]) (by
        classical
        refine List.perm_iff_count.2 fun x => ?_
        simp only [RR.heap, GR.heap, GS.heap, GS.gl, List.map_nil, JM.heap, List.set, List.flatten_cons, List.flatten_nil, List.append_nil, List.nil_append, List.cons_append, List.count_append, List.count_cons, List.count_nil]
        omega) ?_
      refine j_call 0 ent40 rfl rfl rfl rfl (fun w' hw' => jread_con g5 r.ptr name 0 0 ((gsE gs).length : Int) ⟨nilS, [], []⟩ 0 g3 0 gs A19 cap19 c19 w' gs0 (fun w h => own_brI ho19 h) hcp hl (by decide) (by decide)) (fun u S2 hu => ?_)
      obtain ⟨t2, rfl, rfl, hto2, hts2⟩ := hu
      refine j_q (qs_not rfl) ?_
      refine j_cond rfl (fun hc4 => ?_) (fun hc4 => ?_)
      · skip
        simp at hc4
      · skip
        refine j_q (qs_add64 rfl rfl (by decide)) ?_
        refine j_subl (S' := [[(g5, .cells (jl r.ptr name 0 0 ((gsE gs).length : Int) t2.v (0 + ((sizeG gs : Nat) : Int)) g3 0).toArray 71 (0, 0))], t2.c, t2.gl, [(g3, gobj nilS 0 0 0 0 nilS)]]) (by repeat first | exact slR _ | exact slN _ | apply slC | apply slD) ?_
        refine j_perm (S' := [[(g5, .cells (jl r.ptr name 0 0 ((gsE gs).length : Int) t2.v (0 + ((sizeG gs : Nat) : Int)) g3 0).toArray 71 (0, 0))], [(g3, gobj nilS 0 0 0 0 nilS)], t2.c, t2.gl]) (by
          classical
          refine List.perm_iff_count.2 fun x => ?_
          simp only [RR.heap, GR.heap, GS.heap, JM.heap, List.set, List.flatten_cons, List.flatten_nil, List.append_nil, List.nil_append, List.cons_append, List.count_append, List.count_cons, List.count_nil]
          omega) ?_
        refine j_back rfl ?_
        have hts3 : t2.gs = gs := hts2
        refine ⟨_, by omega, 1, t2, _, rfl, ?_, hto2, .inr ⟨rfl, hts3, hgn, rfl⟩, rfl⟩
        rw [hts3, Int.zero_add]
end Go.Proofs.YtomajiicjinekaaDoor
/-! Jn9 -/
namespace Go.Proofs.YtomajiicjinekaaDoor
open Go Go.Sx
set_option maxRecDepth 100000
set_option maxHeartbeats 4000000
set_option linter.unusedVariables false
set_option linter.unusedSimpArgs false
attribute [local irreducible] J JQ QS Con W opW
abbrev JM.jl (j : JM) : List Value := Go.Proofs.YtomajiicjinekaaDoor.jl j.fp j.name j.age 0 j.fl j.s.v ((sizeG j.s.gs : Nat) : Int) j.lg j.dead
abbrev JM.ll (j : JM) : List Value := gl j.laid.v ((sizeR j.laid.rs : Nat) : Int) 0 0 0 nilS
def mayJ (a : JA) : Int := if a.dead then 26 else 0
def addJ (a : JA) (x : List UInt8) : JA := if a.dead then a else { a with down := a.down ++ [x] }
theorem sizeR_snoc (rs : List (List UInt8)) (x : List UInt8) : sizeR (rs ++ [x]) = sizeR rs + x.length := by
  unfold sizeR
  rw [List.map_append, List.sum_append]
  simp
theorem perm_j5 (j : JM) : j.heap.Perm ([[(j.gj, j.obj)], [(j.lg, j.lobj)], j.s.heap, j.laid.c, j.laid.lf] : List SH).flatten := by
  classical
  refine List.perm_iff_count.2 fun x => ?_
  simp only [RR.heap, JM.heap, List.flatten_cons, List.flatten_nil, List.append_nil, List.nil_append, List.cons_append, List.count_append, List.count_cons, List.count_nil]
  all_goals omega
theorem jadd_perm (j : JM) {v : Value} {c : SH} {xs : List UInt8} {xv : Value} {xc : SH} : ([xc, [(j.gj, j.obj)], [(j.lg, gobj v (((sizeR j.laid.rs : Nat) : Int) + (xs.length : Int)) 0 0 0 nilS)], j.s.heap, c, j.laid.lf] : List SH).flatten.Perm [JM.heap ⟨j.gj, j.lg, j.fp, j.name, j.age, j.fl, j.s, j.laid.add v c xs xv xc, j.dead⟩].flatten := by
  have e : JM.lobj ⟨j.gj, j.lg, j.fp, j.name, j.age, j.fl, j.s, j.laid.add v c xs xv xc, j.dead⟩ = gobj v (((sizeR j.laid.rs : Nat) : Int) + (xs.length : Int)) 0 0 0 nilS := by
    unfold JM.lobj
    simp only
    rw [RR.add_rs, sizeR_snoc, Int.natCast_add]
    rfl
  have e2 : RR.heap (j.laid.add v c xs xv xc) = c ++ (j.laid.lf ++ xc) := by
    unfold RR.heap
    rw [RR.add_lf]
    rfl
  classical
  refine List.perm_iff_count.2 fun x => ?_
  have e3 : JM.obj ⟨j.gj, j.lg, j.fp, j.name, j.age, j.fl, j.s, j.laid.add v c xs xv xc, j.dead⟩ = j.obj := rfl
  unfold JM.heap
  rw [e, e3]
  simp only
  rw [e2]
  simp only [List.flatten_cons, List.flatten_nil, List.append_nil, List.nil_append, List.cons_append, List.count_append, List.count_cons, List.count_nil]
  omega
attribute [local irreducible] sum gsE headE fileN contA readE
theorem b32_con (w : World) : Con Tryd.prog 66 [.bool true] w [] fun v _ => v = .int .u32 1 := by
  refine con_of_tree mix Tryd.func66 T66_ok (by kernel_rfl) ?_
  unfold T66
  refine j_q (qs_ac) ?_
  refine j_cond rfl (fun hc0 => ?_) (fun hc0 => ?_)
  · skip
    refine j_q (qs_ac) ?_
    refine j_ret_con (vs := [_]) (fun w' hw' => ⟨rfl, trivial⟩) ?_
    rfl
  · skip
    simp at hc0
theorem bstore_con (g i : Nat) (l : List Value) (e : TypeId) (n : Int) (w : World) (hi : l[i]? = some (.int .u32 n)) : Con Tryd.prog 49 [.pointer (some ⟨g, i, none⟩), .bool true] w [(g, .cells l.toArray e (0, 0))] fun v S' => v = .tuple #[] ∧ S' = [[(g, .cells (l.set i (.int .u32 1)).toArray e (0, 0))]] := by
  refine con_of_tree mix Tryd.func49 T49_ok (by kernel_rfl) ?_
  unfold T49
  refine j_mix [] (Le.of_sub (List.nil_sublist _)) ?_
  refine j_mq (qs_nil rfl) ?_
  refine j_mq (qs_field Tryd.underlying69 rfl sz67 (by decide) rfl) ?_
  refine j_q (qs_call ent66 rfl rfl rfl (fun w' hw' => b32_con w')) ?_
  refine j_mD0 (Le.of_sub (by repeat first | exact slR _ | exact slN _ | apply slC | apply slD)) ?_
  refine j_extset (u := .int .u32 1) 0 rfl rfl rfl rfl (fun w' hw' => run_call_store Tryd.func65 (by kernel_rfl) (by kernel_rfl) (by kernel_rfl) (by kernel_rfl) (k := .u32) (y := 1) (by rw [cell_of hw']; exact hi) (notFrozen hw')) ?_
  refine j_mR _ (.refl _) ?_
  refine j_mend ?_
  refine j_ret_con (vs := []) (fun w' hw' => trivial) ?_
  exact ⟨rfl, rfl⟩
theorem jmay_con (j : JM) (a : JA) (w : World) (hok : j.Ok a) (hc : w.heap[j.gj]? = some j.obj) : Con Tryd.prog 27 [j.ptr] w [] fun v _ => v = .int .i64 (mayJ a) := by
  refine con_of_tree mix Tryd.func27 T27_ok (by kernel_rfl) ?_
  unfold T27
  refine j_q (qs_ac) ?_
  refine j_q (qs_pnil Tryd.underlying29 rfl) ?_
  refine j_cond rfl (fun hc0 => ?_) (fun hc0 => ?_)
  · skip
    simp at hc0
  · skip
    refine j_q (qs_nil rfl) ?_
    refine j_q (qs_field Tryd.underlying71 rfl sz69 (by decide) rfl) ?_
    refine j_q (qs_call ent41 rfl rfl rfl (fun w' hw' => bload_con j.gj 8 j.jl 71 (0, 0) j.dead w' ((hw'.frame j.gj (lt_of_get hc) (by simp)).trans hc) rfl)) ?_
    refine j_cond rfl (fun hc1 => ?_) (fun hc1 => ?_)
    · skip
      have hd : a.dead = true := by
        cases hx : a.dead
        · rw [hok.dd, hx] at hc1
          simp at hc1
        · rfl
      refine j_q (qs_ac) ?_
      refine j_ret_con (vs := [_]) (fun w' hw' => ⟨rfl, trivial⟩) ?_
      rw [mayJ, hd]
      rfl
    · skip
      have hd : a.dead = false := by
        cases hx : a.dead
        · rfl
        · rw [hok.dd, hx] at hc1
          simp at hc1
      refine j_q (qs_ac) ?_
      refine j_ret_con (vs := [_]) (fun w' hw' => ⟨rfl, trivial⟩) ?_
      rw [mayJ, hd]
      rfl
theorem jadd_con (j : JM) (a : JA) (bv : Value) (xs : List UInt8) (w : World) (hok : j.Ok a) (hbr : BR w bv xs) (hbd : ∀ (a : Addr) (m c : Nat), bv = .slice (some a) m c → 0 < m → a.block ∉ dom j.heap) (hsz : sizeR a.down + xs.length ≤ 24000) (hdn : a.down.length ≤ 1000) : Con Tryd.prog 9 [j.ptr, bv] w j.heap fun u S' => u = .int .i64 (mayJ a) ∧ ∃ j' : JM, S' = [j'.heap] ∧ j'.Ok (addJ a xs) ∧ j'.gj = j.gj ∧ j'.fp = j.fp := by
  refine con_of_tree mix Tryd.func9 T9_ok (by kernel_rfl) ?_
  unfold T9
  obtain ⟨Ab, capb, rfl, hcapb⟩ := br_form hbr
  obtain ⟨A, cap, hv, hA⟩ := hok.l.form
  have hlr : j.laid.L.length = a.down.length := by
    rw [← hok.dn]
    exact (List.length_map _).symm
  rw [← hok.dn] at hsz
  refine j_perm (S' := [[(j.gj, j.obj)], [(j.lg, j.lobj)], j.s.heap, j.laid.c, j.laid.lf]) (by simpa using perm_j5 j) ?_
  refine j_q (qs_ac) ?_
  refine j_q (qs_call ent27 rfl rfl rfl (fun w' hw' => jmay_con j a w' hok (hw'.at_ (k := 0) rfl))) ?_
  refine j_q (qs_neq rfl rfl) ?_
  refine j_cond rfl (fun hc0 => ?_) (fun hc0 => ?_)
  · skip
    have hd : a.dead = true := by
      cases hx : a.dead
      · unfold mayJ at hc0
        rw [hx] at hc0
        simp at hc0
      · rfl
    refine j_perm (S' := [j.heap]) (by simpa using (perm_j5 j).symm) ?_
    refine j_ret_con (vs := [_]) (fun w' hw' => ⟨rfl, trivial⟩) ?_
    exact ⟨rfl, j, rfl, by rw [addJ, hd, if_pos rfl]; exact hok, rfl, rfl⟩
  · skip
    have hd : a.dead = false := by
      cases hx : a.dead
      · rfl
      · unfold mayJ at hc0
        rw [hx] at hc0
        simp at hc0
    refine j_q (qs_lenl Tryd.underlying22 rfl) ?_
    refine j_q (qs_nil rfl) ?_
    refine j_q (qs_field Tryd.underlying71 rfl sz66 (by decide) rfl) ?_
    refine j_q (qs_load (l := j.jl) (v := .pointer (some ⟨j.lg, 0, none⟩)) 0 Tryd.underlying66 rfl rfl rfl rfl) ?_
    refine j_q (qs_nil rfl) ?_
    refine j_q (qs_field Tryd.underlying80 rfl sz3 (by decide) rfl) ?_
    refine j_q (qs_load (l := j.ll) (v := .int .i64 ((sizeR j.laid.rs : Nat) : Int)) 1 Tryd.underlying3 rfl rfl rfl rfl) ?_
    refine j_q (qs_sub64 rfl rfl (by first | omega | (simp only [bnA] at *; omega))) ?_
    refine j_q (qs_gtr rfl rfl) ?_
    rw [decide_eq_false (show ¬ (xs.length : Int) > 524288 - ((sizeR j.laid.rs : Nat) : Int) by omega)]
    refine j_gt rfl (qs_mt rfl) ?_
    refine j_gt rfl (qs_nil rfl) ?_
    refine j_gt rfl (qs_field Tryd.underlying71 rfl sz66 (by decide) rfl) ?_
    refine j_gt rfl (qs_load (l := j.jl) (v := .pointer (some ⟨j.lg, 0, none⟩)) 0 Tryd.underlying66 rfl rfl rfl rfl) ?_
    refine j_gt rfl (qs_nil rfl) ?_
    refine j_gt rfl (qs_field Tryd.underlying80 rfl sz39 (by decide) rfl) ?_
    refine j_gt rfl (qs_load (l := j.ll) (v := j.laid.v) 1 Tryd.underlying39 rfl rfl rfl rfl) ?_
    rw [hv]
    refine j_gt rfl (qs_lenl Tryd.underlying39 rfl) ?_
    refine j_gt rfl (qs_geq rfl rfl) ?_
    rw [decide_eq_false (show ¬ ((j.laid.L.length : Nat) : Int) ≥ 4096 by omega)]
    refine j_q (qs_or rfl rfl) ?_
    refine j_cond rfl (fun hc1 => ?_) (fun hc1 => ?_)
    · skip
      simp at hc1
    · skip
      refine j_mix [[(j.gj, j.obj)], [(j.lg, j.lobj)]] (Le.of_sub (by repeat first | exact slR _ | exact slN _ | apply slC | apply slD)) ?_
      refine j_mq (qs_nil rfl) ?_
      refine j_mq (qs_field Tryd.underlying71 rfl sz66 (by decide) rfl) ?_
      refine j_mq (qs_load (l := j.jl) (v := .pointer (some ⟨j.lg, 0, none⟩)) 0 Tryd.underlying66 rfl rfl rfl rfl) ?_
      refine j_mq (qs_nil rfl) ?_
      refine j_mq (qs_field Tryd.underlying71 rfl sz66 (by decide) rfl) ?_
      refine j_mq (qs_load (l := j.jl) (v := .pointer (some ⟨j.lg, 0, none⟩)) 0 Tryd.underlying66 rfl rfl rfl rfl) ?_
      refine j_mq (qs_nil rfl) ?_
      refine j_mq (qs_field Tryd.underlying80 rfl sz39 (by decide) rfl) ?_
      refine j_mq (qs_load (l := j.ll) (v := j.laid.v) 1 Tryd.underlying39 rfl rfl rfl rfl) ?_
      refine j_call0 ent18 rfl rfl rfl (fun w' hw' => cloneO_con _ xs w' (br_keep hbr hbd hw') (by omega)) (fun u S2 hu => ?_)
      obtain ⟨c32, rfl, ho32⟩ := hu
      obtain ⟨n32, A32, cap32, rfl, hn32⟩ := own_form ho32 (by decide)
      refine j_mD0 (Le.of_sub (by repeat first | exact slR _ | exact slN _ | apply slC | apply slD)) ?_
      refine j_lit (vs := [.slice A32 n32 cap32]) Tryd.underlying39 sz22 zero22 rfl (by simp [oneV]) ⟨rfl, by decide⟩ (fun g33 v33 c33 hv33 hc33 ho33 => ?_)
      subst hv33 hc33
      refine j_mD0 (Le.of_sub (by repeat first | exact slR _ | exact slN _ | apply slC | apply slD)) ?_
      refine j_append 5 Tryd.underlying39 Tryd.underlying39 (.inr ⟨_, rfl⟩) sb22 zero22 rfl hok.l.row rfl (.inl ⟨_, _, rfl, rd_own (off := 0) (n := 1) 0 rfl rfl, rfl⟩) (by simp [oneV]) ⟨(by simp only [List.length_map]; simp; omega), (by decide)⟩ (fun v34 c34 ho34 => ?_)
      obtain ⟨n34, A34, cap34, rfl, hn34⟩ := own_form ho34 (by decide)
      refine j_mD0 (Le.of_sub (by repeat first | exact slR _ | exact slN _ | apply slC | apply slD)) ?_
      refine j_mq (qs_nil rfl) ?_
      refine j_mq (qs_field Tryd.underlying80 rfl sz39 (by decide) rfl) ?_
      refine j_store (l := j.ll) 3 sz39 rfl rfl rfl rfl (by simp) (by simp) ?_
      refine j_mR _ (.refl _) ?_
      refine j_mend ?_
      refine j_q (qs_nil rfl) ?_
      refine j_q (qs_field Tryd.underlying71 rfl sz66 (by decide) rfl) ?_
      refine j_q (qs_load (l := j.jl) (v := .pointer (some ⟨j.lg, 0, none⟩)) 2 Tryd.underlying66 rfl rfl rfl rfl) ?_
      refine j_q (qs_nil rfl) ?_
      refine j_q (qs_field Tryd.underlying80 rfl sz3 (by decide) rfl) ?_
      refine j_q (qs_load (l := (gl (.slice A34 n34 cap34) ((sizeR j.laid.rs : Nat) : Int) 0 0 0 nilS)) (v := .int .i64 ((sizeR j.laid.rs : Nat) : Int)) 3 Tryd.underlying3 rfl rfl rfl rfl) ?_
      refine j_q (qs_lenl Tryd.underlying22 rfl) ?_
      refine j_q (qs_add64 rfl rfl (by first | omega | (simp only [bnA] at *; omega))) ?_
      refine j_q (qs_nil rfl) ?_
      refine j_q (qs_field Tryd.underlying80 rfl sz3 (by decide) rfl) ?_
      refine j_store (l := (gl (.slice A34 n34 cap34) ((sizeR j.laid.rs : Nat) : Int) 0 0 0 nilS)) 3 sz3 rfl rfl rfl rfl (by simp) (by simp) ?_
      refine j_q (qs_ac) ?_
      refine j_subl (S' := [c32, [(j.gj, j.obj)], [(j.lg, gobj (.slice A34 n34 cap34) (((sizeR j.laid.rs : Nat) : Int) + (xs.length : Int)) 0 0 0 nilS)], j.s.heap, c34, j.laid.lf]) (by repeat first | exact slR _ | exact slN _ | apply slC | apply slD) ?_
      refine j_perm (S' := [JM.heap ⟨j.gj, j.lg, j.fp, j.name, j.age, j.fl, j.s, j.laid.add (.slice A34 n34 cap34) c34 xs (.slice A32 n32 cap32) c32, j.dead⟩]) (jadd_perm j) ?_
      refine j_ret_con (vs := [_]) (fun w' hw' => ⟨rfl, trivial⟩) ?_
      exact ⟨by rw [mayJ, hd]; rfl, ⟨j.gj, j.lg, j.fp, j.name, j.age, j.fl, j.s, j.laid.add (.slice A34 n34 cap34) c34 xs (.slice A32 n32 cap32) c32, j.dead⟩, rfl, by rw [addJ, hd, if_neg (by simp)]; exact ⟨hok.s, hok.l.add ho34 ho32, hok.nm, hok.ag, hok.gs, by rw [RR.add_rs, hok.dn], by rw [hok.dd, hd], fun _ => hok.fl hd⟩, rfl, rfl⟩
end Go.Proofs.YtomajiicjinekaaDoor
