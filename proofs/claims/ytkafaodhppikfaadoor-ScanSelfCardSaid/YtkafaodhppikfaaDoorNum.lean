/- Small numbers in decimal: what strconv.AppendInt and the document's Dec answer. -/
import Derived.Test.YtkafaodhppikfaaDoorTa
import Derived.Test.YtkafaodhppikfaaDoorScan7
namespace Go.Proofs.YtkafaodhppikfaaDoor
open Go Go.Sx
set_option maxRecDepth 100000
set_option maxHeartbeats 4000000
set_option linter.unusedVariables false
set_option linter.unusedSimpArgs false
attribute [local irreducible] J JQ QS Con W opW
theorem ent25 : Sx.Enters Tryd.prog 25 := ⟨_, Tryd.func25, by kernel_rfl, by kernel_rfl⟩
theorem ent38 : Sx.Enters Tryd.prog 38 := ⟨_, Tryd.func38, by kernel_rfl, by kernel_rfl⟩
theorem ent50 : Sx.Enters Tryd.prog 50 := ⟨_, Tryd.func50, by kernel_rfl, by kernel_rfl⟩
theorem ent51 : Sx.Enters Tryd.prog 51 := ⟨_, Tryd.func51, by kernel_rfl, by kernel_rfl⟩
theorem ent52 : Sx.Enters Tryd.prog 52 := ⟨_, Tryd.func52, by kernel_rfl, by kernel_rfl⟩
theorem ent53 : Sx.Enters Tryd.prog 53 := ⟨_, Tryd.func53, by kernel_rfl, by kernel_rfl⟩
theorem ent59 : Sx.Enters Tryd.prog 59 := ⟨_, Tryd.func59, by kernel_rfl, by kernel_rfl⟩
theorem ent60 : Sx.Enters Tryd.prog 60 := ⟨_, Tryd.func60, by kernel_rfl, by kernel_rfl⟩
theorem ent61 : Sx.Enters Tryd.prog 61 := ⟨_, Tryd.func61, by kernel_rfl, by kernel_rfl⟩
theorem sz12 : (Tryd.prog.info? 12).map (·.size) = some 1 := by kernel_rfl
theorem zero95 : zeroL Tryd.prog 95 = some (ints (List.replicate 24 0)) := by kernel_rfl

/-- a number's decimal digits -/
def dec (n : Nat) : List UInt8 := if n < 10 then [UInt8.ofNat (48 + n)] else dec (n / 10) ++ [UInt8.ofNat (48 + n % 10)]
theorem dec_small {n : Nat} (h : n < 10) : dec n = [UInt8.ofNat (48 + n)] := by rw [dec, if_pos h]
theorem dec_big {n : Nat} (h : 10 ≤ n) : dec n = dec (n / 10) ++ [UInt8.ofNat (48 + n % 10)] := by rw [dec, if_neg (by omega)]
theorem dec2 {n : Nat} (h : 10 ≤ n) (h2 : n < 100) : dec n = [UInt8.ofNat (48 + n / 10), UInt8.ofNat (48 + n % 10)] := by
  rw [dec_big h, dec_small (by omega)]
  rfl
theorem dec3 {n : Nat} (h : 100 ≤ n) (h2 : n < 1000) : dec n = [UInt8.ofNat (48 + n / 100), UInt8.ofNat (48 + n / 10 % 10), UInt8.ofNat (48 + n % 10)] := by
  rw [dec_big (by omega), dec2 (by omega) (by omega), Nat.div_div_eq_div_mul]
  rfl
theorem dec4 {n : Nat} (h : 1000 ≤ n) (h2 : n < 10000) : dec n = [UInt8.ofNat (48 + n / 1000), UInt8.ofNat (48 + n / 100 % 10), UInt8.ofNat (48 + n / 10 % 10), UInt8.ofNat (48 + n % 10)] := by
  rw [dec_big (by omega), dec3 (by omega) (by omega), Nat.div_div_eq_div_mul, Nat.div_div_eq_div_mul]
  rfl
theorem dec_len {n : Nat} (h : n < 10000) : (dec n).length ≤ 4 := by
  by_cases h1 : n < 10
  · rw [dec_small h1]; simp
  · by_cases h2 : n < 100
    · rw [dec2 (by omega) h2]; simp
    · by_cases h3 : n < 1000
      · rw [dec3 (by omega) h3]; simp
      · rw [dec4 (by omega) h]; simp
def SM : List UInt8 := [48, 48, 48, 49, 48, 50, 48, 51, 48, 52, 48, 53, 48, 54, 48, 55, 48, 56, 48, 57, 49, 48, 49, 49, 49, 50, 49, 51, 49, 52, 49, 53, 49, 54, 49, 55, 49, 56, 49, 57, 50, 48, 50, 49, 50, 50, 50, 51, 50, 52, 50, 53, 50, 54, 50, 55, 50, 56, 50, 57, 51, 48, 51, 49, 51, 50, 51, 51, 51, 52, 51, 53, 51, 54, 51, 55, 51, 56, 51, 57, 52, 48, 52, 49, 52, 50, 52, 51, 52, 52, 52, 53, 52, 54, 52, 55, 52, 56, 52, 57, 53, 48, 53, 49, 53, 50, 53, 51, 53, 52, 53, 53, 53, 54, 53, 55, 53, 56, 53, 57, 54, 48, 54, 49, 54, 50, 54, 51, 54, 52, 54, 53, 54, 54, 54, 55, 54, 56, 54, 57, 55, 48, 55, 49, 55, 50, 55, 51, 55, 52, 55, 53, 55, 54, 55, 55, 55, 56, 55, 57, 56, 48, 56, 49, 56, 50, 56, 51, 56, 52, 56, 53, 56, 54, 56, 55, 56, 56, 56, 57, 57, 48, 57, 49, 57, 50, 57, 51, 57, 52, 57, 53, 57, 54, 57, 55, 57, 56, 57, 57]
def SD : List UInt8 := [48, 49, 50, 51, 52, 53, 54, 55, 56, 57, 97, 98, 99, 100, 101, 102, 103, 104, 105, 106, 107, 108, 109, 110, 111, 112, 113, 114, 115, 116, 117, 118, 119, 120, 121, 122]
theorem sm_len : SM.length = 200 := by decide +kernel
theorem sm0 {n : Nat} (h : n < 100) : SM.getD (n * 2) 0 = UInt8.ofNat (48 + n / 10) := by
  have : ∀ k : Fin 100, SM.getD (k.val * 2) 0 = UInt8.ofNat (48 + k.val / 10) := by decide +kernel
  exact this ⟨n, h⟩
theorem sm1 {n : Nat} (h : n < 100) : SM.getD (n * 2 + 1) 0 = UInt8.ofNat (48 + n % 10) := by
  have : ∀ k : Fin 100, SM.getD (k.val * 2 + 1) 0 = UInt8.ofNat (48 + k.val % 10) := by decide +kernel
  exact this ⟨n, h⟩
theorem sm2 {n : Nat} (h : n < 100) (h2 : 10 ≤ n) : (SM.take (n * 2 + 2)).drop (n * 2) = dec n := by
  rw [dec2 h2 h]
  have : ∀ k : Fin 100, (SM.take (k.val * 2 + 2)).drop (k.val * 2) = [UInt8.ofNat (48 + k.val / 10), UInt8.ofNat (48 + k.val % 10)] := by decide +kernel
  exact this ⟨n, h⟩
theorem sd1 {n : Nat} (h : n < 10) : (SD.take (n + 1)).drop n = dec n := by
  rw [dec_small h]
  have : ∀ k : Fin 10, (SD.take (k.val + 1)).drop k.val = [UInt8.ofNat (48 + k.val)] := by decide +kernel
  exact this ⟨n, h⟩
/-- how many bits -/
def bl (n : Nat) : Nat := if n = 0 then 0 else n.log2 + 1
def LT : List UInt8 := (List.range 256).map fun i => UInt8.ofNat (bl i)
theorem lt_get {n : Nat} (h : n < 256) : (LT.getD n 0).toNat = bl n := by
  have : ∀ k : Fin 256, (LT.getD k.val 0).toNat = bl k.val := by decide +kernel
  exact this ⟨n, h⟩
theorem lt_len : LT.length = 256 := by decide +kernel
theorem bl_up {n : Nat} (h : 256 ≤ n) (h2 : n < 65536) : bl n = 8 + bl (n / 256) := by
  unfold bl
  rw [if_neg (by omega), if_neg (by omega)]
  have e : n / 256 = n >>> 8 := by rw [Nat.shiftRight_eq_div_pow]
  have hb1 := Nat.log2_self_le (n := n / 256) (by omega)
  have hb2 := Nat.lt_log2_self (n := n / 256)
  have h1 : 2 ^ ((n / 256).log2 + 8) ≤ n := by
    rw [Nat.pow_add]; omega
  have h3 : n < 2 ^ ((n / 256).log2 + 9) := by
    rw [show (n / 256).log2 + 9 = (n / 256).log2 + 1 + 8 by omega, Nat.pow_add]; omega
  have h4 : (n / 256).log2 + 8 ≤ n.log2 := (Nat.le_log2 (by omega)).2 h1
  have h5 : n.log2 < (n / 256).log2 + 9 := (Nat.log2_lt (by omega)).2 h3
  omega
theorem bl_spec {n : Nat} (h : 0 < n) : 2 ^ (bl n - 1) ≤ n ∧ n < 2 ^ bl n := by
  unfold bl
  rw [if_neg (by omega)]
  exact ⟨by simpa using Nat.log2_self_le (n := n) (by omega), Nat.lt_log2_self⟩
/-- a hundred to ten thousand: bits and the number of digits -/
theorem nd_eq {n : Nat} (h1 : 100 ≤ n) (h2 : n < 10000) : bl n ≤ 14 ∧ bl n * 78913 / 262144 ≤ 4 ∧ 2 ≤ bl n * 78913 / 262144 ∧ (bl n * 78913 / 262144 : Nat) + (if 10 ^ (bl n * 78913 / 262144) ≤ n then 1 else 0) = (if n < 1000 then 3 else 4) := by
  obtain ⟨a, c⟩ := bl_spec (n := n) (by omega)
  generalize bl n = L at *
  have hL : 7 ≤ L := by
    rcases Nat.lt_or_ge L 7 with h | h
    · have : 2 ^ L ≤ 2 ^ 6 := Nat.pow_le_pow_right (by decide) (by omega)
      omega
    · exact h
  have hL2 : L ≤ 14 := by
    rcases Nat.lt_or_ge 14 L with h | h
    · have : 2 ^ 14 ≤ 2 ^ (L - 1) := Nat.pow_le_pow_right (by decide) (by omega)
      omega
    · exact h
  rcases (by omega : L = 7 ∨ L = 8 ∨ L = 9 ∨ L = 10 ∨ L = 11 ∨ L = 12 ∨ L = 13 ∨ L = 14) with rfl | rfl | rfl | rfl | rfl | rfl | rfl | rfl <;>
    (simp only [show (7 - 1 : Nat) = 6 from rfl, show (8 - 1 : Nat) = 7 from rfl, show (9 - 1 : Nat) = 8 from rfl, show (10 - 1 : Nat) = 9 from rfl, show (11 - 1 : Nat) = 10 from rfl, show (12 - 1 : Nat) = 11 from rfl, show (13 - 1 : Nat) = 12 from rfl, show (14 - 1 : Nat) = 13 from rfl] at a c
     refine ⟨by omega, by omega, by omega, ?_⟩
     split <;> split <;> omega)
def p10 : List Int := (List.range 20).map fun i => (10 : Int) ^ i
/-- the powers of ten are where the program has them -/
def P10 (w : World) : Prop := 0 < w.heap.size ∧ Cells w ⟨0, 0, none⟩ (ks .u64 p10)
theorem P10.keep {w w' : World} {D : List Nat} {S : List SH} (h : P10 w) (hs : Sig ⟨w, D⟩ S w') (hD : 0 ∉ D) : P10 w' := ⟨Nat.lt_of_lt_of_le h.1 hs.size, cells_stay h.2 hs hD⟩
theorem p10_get {i : Nat} (h : i < 20) : p10.getD i 0 = ((10 ^ i : Nat) : Int) := by
  have : ∀ k : Fin 20, p10.getD k.val 0 = ((10 ^ k.val : Nat) : Int) := by decide +kernel
  exact this ⟨i, h⟩
theorem wr32 {n : Nat} (h : n < 4294967296) : IntKind.u32.wrap (n : Int) = (n : Int) := by rw [IntKind.wrap_u32]; omega
theorem q32 (n d : Nat) (h : n < 4294967296) : IntKind.u32.wrap ((n : Int).tdiv (d : Int)) = ((n / d : Nat) : Int) := by
  rw [Int.tdiv_eq_ediv_of_nonneg (by omega), ← Int.natCast_ediv, wr32 (Nat.lt_of_le_of_lt (Nat.div_le_self _ _) h)]
theorem by8_nat {n : Nat} (h : n < 256) : by8 (n : Int) = UInt8.ofNat n := by
  have : ∀ k : Fin 256, by8 (k.val : Int) = UInt8.ofNat k.val := by decide +kernel
  exact this ⟨n, h⟩
attribute [local irreducible] isName isPath spA spB spE cp sortS rise dg PT ofDig Fnd RunOk Win isDig standsB rew over rwB rwN rwE rwOk SM SD LT bl p10
/-- internal.strconv.small -/
theorem small_con (n : Nat) (w : World) (hn : n < 100) : Con Tryd.prog 50 [.int .i64 (n : Int)] w [] fun v _ => v = .string (bs (dec n)) := by
  refine con_of_tree mix Tryd.func50 T50_ok (by kernel_rfl) ?_
  unfold T50
  refine j_q (qs_ac) ?_
  refine j_q (qs_lss rfl rfl) ?_
  refine j_cond rfl (fun hc0 => ?_) (fun hc0 => ?_)
  · skip
    have h9 : n < 10 := by
      simp only [Bool.and_eq_true, Bool.or_eq_true, Bool.and_eq_false_iff, Bool.or_eq_false_iff, Bool.not_eq_true', Bool.not_eq_false', decide_eq_true_eq, decide_eq_false_iff_not, beq_iff_eq, beq_eq_false_iff_ne, bne_iff_ne, bne_eq_false_iff_eq, ne_eq, Int.toNat_natCast] at *
      omega
    refine j_q (qs_add64 rfl rfl (by first | omega | (simp only [Bool.and_eq_true, Bool.or_eq_true, Bool.and_eq_false_iff, Bool.or_eq_false_iff, Bool.not_eq_true', Bool.not_eq_false', decide_eq_true_eq, decide_eq_false_iff_not, beq_iff_eq, beq_eq_false_iff_ne, bne_iff_ne, bne_eq_false_iff_eq, ne_eq, Int.toNat_natCast] at *; omega))) ?_
    refine j_q (qs_cuts (l := SD) (a := n) (z := n + 1) Tryd.underlying9 (by kernel_rfl) ⟨.i64, rfl⟩ ⟨.i64, rfl⟩ (by omega) (by rw [show SD.length = 36 by decide +kernel]; omega)) ?_
    rw [sd1 h9]
    refine j_ret_con (vs := [_]) (fun w' hw' => ⟨rfl, trivial⟩) ?_
    rfl
  · skip
    have h9 : 10 ≤ n := by
      simp only [Bool.and_eq_true, Bool.or_eq_true, Bool.and_eq_false_iff, Bool.or_eq_false_iff, Bool.not_eq_true', Bool.not_eq_false', decide_eq_true_eq, decide_eq_false_iff_not, beq_iff_eq, beq_eq_false_iff_ne, bne_iff_ne, bne_eq_false_iff_eq, ne_eq, Int.toNat_natCast] at *
      omega
    refine j_q (qs_mul64 rfl rfl (by first | omega | (simp only [Bool.and_eq_true, Bool.or_eq_true, Bool.and_eq_false_iff, Bool.or_eq_false_iff, Bool.not_eq_true', Bool.not_eq_false', decide_eq_true_eq, decide_eq_false_iff_not, beq_iff_eq, beq_eq_false_iff_ne, bne_iff_ne, bne_eq_false_iff_eq, ne_eq, Int.toNat_natCast] at *; omega))) ?_
    refine j_q (qs_mul64 rfl rfl (by first | omega | (simp only [Bool.and_eq_true, Bool.or_eq_true, Bool.and_eq_false_iff, Bool.or_eq_false_iff, Bool.not_eq_true', Bool.not_eq_false', decide_eq_true_eq, decide_eq_false_iff_not, beq_iff_eq, beq_eq_false_iff_ne, bne_iff_ne, bne_eq_false_iff_eq, ne_eq, Int.toNat_natCast] at *; omega))) ?_
    refine j_q (qs_add64 rfl rfl (by first | omega | (simp only [Bool.and_eq_true, Bool.or_eq_true, Bool.and_eq_false_iff, Bool.or_eq_false_iff, Bool.not_eq_true', Bool.not_eq_false', decide_eq_true_eq, decide_eq_false_iff_not, beq_iff_eq, beq_eq_false_iff_ne, bne_iff_ne, bne_eq_false_iff_eq, ne_eq, Int.toNat_natCast] at *; omega))) ?_
    refine j_q (qs_cuts (l := SM) (a := n * 2) (z := n * 2 + 2) Tryd.underlying9 (by kernel_rfl) ⟨.i64, by show Value.int _ _ = _; congr 1⟩ ⟨.i64, by show Value.int _ _ = _; congr 1⟩ (by omega) (by rw [sm_len]; omega)) ?_
    rw [sm2 hn h9]
    refine j_ret_con (vs := [_]) (fun w' hw' => ⟨rfl, trivial⟩) ?_
    rfl
/-- internal.strconv.log10Pow2 -/
theorem log10_con (n : Nat) (w : World) (hn : n ≤ 64) : Con Tryd.prog 59 [.int .i64 (n : Int)] w [] fun v _ => v = .int .i64 ((n * 78913 / 262144 : Nat) : Int) := by
  refine con_of_tree mix Tryd.func59 T59_ok (by kernel_rfl) ?_
  unfold T59
  refine j_q (qs_ac) ?_
  refine j_q (qs_mul64 rfl rfl (by first | omega | (simp only [Bool.and_eq_true, Bool.or_eq_true, Bool.and_eq_false_iff, Bool.or_eq_false_iff, Bool.not_eq_true', Bool.not_eq_false', decide_eq_true_eq, decide_eq_false_iff_not, beq_iff_eq, beq_eq_false_iff_ne, bne_iff_ne, bne_eq_false_iff_eq, ne_eq, Int.toNat_natCast] at *; omega))) ?_
  refine j_q (qs_shr rfl rfl (by first | omega | (simp only [Bool.and_eq_true, Bool.or_eq_true, Bool.and_eq_false_iff, Bool.or_eq_false_iff, Bool.not_eq_true', Bool.not_eq_false', decide_eq_true_eq, decide_eq_false_iff_not, beq_iff_eq, beq_eq_false_iff_ne, bne_iff_ne, bne_eq_false_iff_eq, ne_eq, Int.toNat_natCast] at *; omega))) ?_
  refine j_ret_con (vs := [_]) (fun w' hw' => ⟨rfl, trivial⟩) ?_
  show Value.int _ _ = _
  congr 1
  show Int.fdiv ((n : Int) * 78913) (2 ^ 18) = _
  rw [Int.fdiv_eq_ediv_of_nonneg _ (by decide)]
  omega
/-- internal.strconv.bool2[int] -/
theorem bool2_con (x : Bool) (w : World) : Con Tryd.prog 61 [.bool x] w [] fun v _ => v = .int .i64 (if x then 1 else 0) := by
  refine con_of_tree mix Tryd.func61 T61_ok (by kernel_rfl) ?_
  unfold T61
  refine j_q (qs_ac) ?_
  refine j_cond rfl (fun hc0 => ?_) (fun hc0 => ?_)
  · skip
    refine j_q (qs_ac) ?_
    refine j_ret_con (vs := [_]) (fun w' hw' => ⟨rfl, trivial⟩) ?_
    show Value.int _ _ = _
    rw [if_pos hc0]
  · skip
    refine j_q (qs_ac) ?_
    refine j_ret_con (vs := [_]) (fun w' hw' => ⟨rfl, trivial⟩) ?_
    show Value.int _ _ = _
    rw [if_neg (by rw [hc0]; decide)]
/-- math.bits.Len64 -/
theorem len64_con (n : Nat) (w : World) (hn : n < 10000) : Con Tryd.prog 60 [.int .u64 (n : Int)] w [] fun v _ => v = .int .i64 (bl n : Nat) := by
  refine con_of_tree mix Tryd.func60 T60_ok (by kernel_rfl) ?_
  unfold T60
  refine j_q (qs_ac) ?_
  refine j_q (qs_geq rfl rfl) ?_
  refine j_cond rfl (fun hc0 => ?_) (fun hc0 => ?_)
  · skip
    simp only [Bool.and_eq_true, Bool.or_eq_true, Bool.and_eq_false_iff, Bool.or_eq_false_iff, Bool.not_eq_true', Bool.not_eq_false', decide_eq_true_eq, decide_eq_false_iff_not, beq_iff_eq, beq_eq_false_iff_ne, bne_iff_ne, bne_eq_false_iff_eq, ne_eq, Int.toNat_natCast] at *
    omega
  · skip
    refine j_q (qs_geq rfl rfl) ?_
    refine j_cond rfl (fun hc4 => ?_) (fun hc4 => ?_)
    · skip
      simp only [Bool.and_eq_true, Bool.or_eq_true, Bool.and_eq_false_iff, Bool.or_eq_false_iff, Bool.not_eq_true', Bool.not_eq_false', decide_eq_true_eq, decide_eq_false_iff_not, beq_iff_eq, beq_eq_false_iff_ne, bne_iff_ne, bne_eq_false_iff_eq, ne_eq, Int.toNat_natCast] at *
      omega
    · skip
      refine j_q (qs_geq rfl rfl) ?_
      refine j_cond rfl (fun hc6 => ?_) (fun hc6 => ?_)
      · skip
        have h9 : 256 ≤ n := by
          simp only [Bool.and_eq_true, Bool.or_eq_true, Bool.and_eq_false_iff, Bool.or_eq_false_iff, Bool.not_eq_true', Bool.not_eq_false', decide_eq_true_eq, decide_eq_false_iff_not, beq_iff_eq, beq_eq_false_iff_ne, bne_iff_ne, bne_eq_false_iff_eq, ne_eq, Int.toNat_natCast] at *
          omega
        have e9 : (by8 ((n / 256 : Nat) : Int)).toNat = n / 256 := by
          rw [by8_nat (by omega), UInt8.toNat_ofNat']
          omega
        have h8 : bl (n / 256) ≤ 20 := by
          by_cases h0 : (n / 256) = 0
          · rw [h0]; decide +kernel
          · have := bl_spec (n := (n / 256)) (by omega)
            rcases Nat.lt_or_ge 20 (bl ((n / 256))) with h | h
            · have : 2 ^ 20 ≤ 2 ^ (bl ((n / 256)) - 1) := Nat.pow_le_pow_right (by decide) (by omega)
              omega
            · exact h
        refine j_q (qs_shr rfl rfl (by decide)) ?_
        rw [show Int.fdiv (n : Int) (2 ^ min (8 : Int).toNat IntKind.u64.bits) = ((n / 256 : Nat) : Int) from by
          show Int.fdiv (n : Int) 256 = _
          rw [Int.fdiv_eq_ediv_of_nonneg _ (by decide)]
          rfl]
        refine j_q (qs_add64 rfl rfl (by first | omega | (simp only [Bool.and_eq_true, Bool.or_eq_true, Bool.and_eq_false_iff, Bool.or_eq_false_iff, Bool.not_eq_true', Bool.not_eq_false', decide_eq_true_eq, decide_eq_false_iff_not, beq_iff_eq, beq_eq_false_iff_ne, bne_iff_ne, bne_eq_false_iff_eq, ne_eq, Int.toNat_natCast] at *; omega))) ?_
        refine j_q (qs_conv8 Tryd.underlying65 Tryd.underlying5 rfl) ?_
        refine j_q (qs_idx (l := LT) Tryd.underlying9 (by kernel_rfl) rfl (by rw [lt_len]; have := UInt8.toNat_lt (by8 ((n / 256 : Nat) : Int)); omega)) ?_
        rw [Int.toNat_natCast, e9, lt_get (by omega)]
        refine j_q (qs_conv Tryd.underlying5 Tryd.underlying3 rfl) ?_
        rw [IntWalk.i64_in _ (by omega)]
        refine j_q (qs_add64 rfl rfl (by first | omega | (simp only [Bool.and_eq_true, Bool.or_eq_true, Bool.and_eq_false_iff, Bool.or_eq_false_iff, Bool.not_eq_true', Bool.not_eq_false', decide_eq_true_eq, decide_eq_false_iff_not, beq_iff_eq, beq_eq_false_iff_ne, bne_iff_ne, bne_eq_false_iff_eq, ne_eq, Int.toNat_natCast] at *; omega))) ?_
        refine j_ret_con (vs := [_]) (fun w' hw' => ⟨rfl, trivial⟩) ?_
        show Value.int _ _ = _
        congr 1
        rw [bl_up h9 (by omega)]
        omega
      · skip
        have h9 : n < 256 := by
          simp only [Bool.and_eq_true, Bool.or_eq_true, Bool.and_eq_false_iff, Bool.or_eq_false_iff, Bool.not_eq_true', Bool.not_eq_false', decide_eq_true_eq, decide_eq_false_iff_not, beq_iff_eq, beq_eq_false_iff_ne, bne_iff_ne, bne_eq_false_iff_eq, ne_eq, Int.toNat_natCast] at *
          omega
        have e9 : (by8 (n : Int)).toNat = n := by
          rw [by8_nat h9, UInt8.toNat_ofNat']
          omega
        have h8 : bl (n) ≤ 20 := by
          by_cases h0 : (n) = 0
          · rw [h0]; decide +kernel
          · have := bl_spec (n := (n)) (by omega)
            rcases Nat.lt_or_ge 20 (bl ((n))) with h | h
            · have : 2 ^ 20 ≤ 2 ^ (bl ((n)) - 1) := Nat.pow_le_pow_right (by decide) (by omega)
              omega
            · exact h
        refine j_q (qs_conv8 Tryd.underlying65 Tryd.underlying5 rfl) ?_
        refine j_q (qs_idx (l := LT) Tryd.underlying9 (by kernel_rfl) rfl (by rw [lt_len]; have := UInt8.toNat_lt (by8 (n : Int)); omega)) ?_
        rw [Int.toNat_natCast, e9, lt_get (by omega)]
        refine j_q (qs_conv Tryd.underlying5 Tryd.underlying3 rfl) ?_
        rw [IntWalk.i64_in _ (by omega)]
        refine j_q (qs_add64 rfl rfl (by first | omega | (simp only [Bool.and_eq_true, Bool.or_eq_true, Bool.and_eq_false_iff, Bool.or_eq_false_iff, Bool.not_eq_true', Bool.not_eq_false', decide_eq_true_eq, decide_eq_false_iff_not, beq_iff_eq, beq_eq_false_iff_ne, bne_iff_ne, bne_eq_false_iff_eq, ne_eq, Int.toNat_natCast] at *; omega))) ?_
        refine j_ret_con (vs := [_]) (fun w' hw' => ⟨rfl, trivial⟩) ?_
        show Value.int _ _ = _
        congr 1
        omega
/-- internal.strconv.numDigits -/
theorem numDigits_con (n : Nat) (w : World) (h1 : 100 ≤ n) (h2 : n < 10000) (hP : P10 w) : Con Tryd.prog 51 [.int .u64 (n : Int)] w [] fun v _ => v = .int .i64 ((if n < 1000 then 3 else 4 : Nat) : Int) := by
  refine con_of_tree mix Tryd.func51 T51_ok (by kernel_rfl) ?_
  unfold T51
  obtain ⟨b1, b2, b3, b4⟩ := nd_eq h1 h2
  refine j_q (qs_ac) ?_
  refine j_q (qs_call ent60 rfl rfl rfl (fun w' hw' => len64_con n w' h2)) ?_
  refine j_q (qs_call ent59 rfl rfl rfl (fun w' hw' => log10_con (bl n) w' (by omega))) ?_
  refine j_q (qs_ix0 Tryd.underlying102 sz12 rfl rfl (by omega)) ?_
  rw [Int.toNat_natCast]
  refine j_q (qs_loadrk (a := ⟨0, 0, none⟩) (l := p10) (i := bl n * 78913 / 262144) (rd_cells hP.2 (by simp)) Tryd.underlying12 (by rw [add_off, Nat.zero_add]; rfl) (by rw [show p10.length = 20 by decide +kernel]; omega)) ?_
  rw [p10_get (by omega)]
  refine j_q (qs_geq rfl rfl) ?_
  refine j_q (qs_call ent61 rfl rfl rfl (fun w' hw' => bool2_con _ w')) ?_
  refine j_q (qs_add64 rfl rfl (by split <;> omega)) ?_
  refine j_ret_con (vs := [_]) (fun w' hw' => ⟨rfl, trivial⟩) ?_
  show Value.int _ _ = _
  congr 1
  rw [← b4]
  by_cases hx : 10 ^ (bl n * 78913 / 262144) ≤ n
  · rw [if_pos hx, if_pos (by rw [decide_eq_true_eq]; exact Int.ofNat_le.2 hx)]
    rfl
  · rw [if_neg hx, if_neg (by rw [decide_eq_true_eq]; intro h; exact hx (Int.ofNat_le.1 h))]
    rfl
/-- internal.strconv.formatBase10 -/
theorem fmt3_con (n g : Nat) (w : World) (h1 : 100 ≤ n) (h2 : n < 1000) : Con Tryd.prog 52 [.slice (some ⟨g, 0, none⟩) 3 24, .int .u64 (n : Int)] w [(g, .cells (ints (List.replicate 24 0)).toArray 95 (0, 0))] fun v S' => v = .tuple #[] ∧ S' = [[(g, .cells (ints (dec n ++ List.replicate 21 0)).toArray 95 (0, 0))]] := by
  refine con_of_tree mix Tryd.func52 T52_ok (by kernel_rfl) ?_
  unfold T52
  refine j_q (qs_lenl Tryd.underlying22 rfl) ?_
  refine j_loop (fun m vs S' => vs = [.int .u64 (n : Int), .int .i64 3] ∧ S' = [[(g, .cells (ints (List.replicate 24 0)).toArray 95 (0, 0))]] ∧ m = 0) ⟨_, rfl, rfl, rfl⟩ ?_
  rintro m vs S' hlen ⟨rfl, rfl, rfl⟩
  refine j_q (qs_geq rfl rfl) ?_
  refine j_cond rfl (fun hc0 => ?_) (fun hc0 => ?_)
  · skip
    simp at hc0
  · skip
    refine j_q (qs_conv Tryd.underlying12 Tryd.underlying59 rfl) ?_
    rw [show IntKind.u32.wrap (n : Int) = (n : Int) from wr32 (by omega)]
    refine j_q (qs_geq rfl rfl) ?_
    refine j_cond rfl (fun hc1 => ?_) (fun hc1 => ?_)
    · skip
      simp at hc1
    · skip
      refine j_q (qs_geq rfl rfl) ?_
      refine j_cond rfl (fun hc5 => ?_) (fun hc5 => ?_)
      · skip
        refine j_q (qs_rem64 rfl rfl (by omega) (by decide)) ?_
        rw [show ((n : Nat) : Int) % 100 = ((n % 100 : Nat) : Int) from rfl]
        refine j_q (qs_mul rfl rfl) ?_
        rw [show IntKind.u32.wrap (((n % 100 : Nat) : Int) * 2) = ((n % 100 * 2 : Nat) : Int) from wr32 (n := n % 100 * 2) (by omega)]
        refine j_q (qs_quo rfl rfl (by decide)) ?_
        rw [show IntKind.u32.wrap (((n : Nat) : Int).tdiv 100) = ((n / 100 : Nat) : Int) from q32 (n) 100 (by omega)]
        refine j_mix [] (Le.of_sub (List.nil_sublist _)) ?_
        refine j_mq (qs_sub64 rfl rfl (by first | omega | (simp only [Bool.and_eq_true, Bool.or_eq_true, Bool.and_eq_false_iff, Bool.or_eq_false_iff, Bool.not_eq_true', Bool.not_eq_false', decide_eq_true_eq, decide_eq_false_iff_not, beq_iff_eq, beq_eq_false_iff_ne, bne_iff_ne, bne_eq_false_iff_eq, ne_eq, Int.toNat_natCast] at *; omega))) ?_
        refine j_mq (qs_sub64 rfl rfl (by first | omega | (simp only [Bool.and_eq_true, Bool.or_eq_true, Bool.and_eq_false_iff, Bool.or_eq_false_iff, Bool.not_eq_true', Bool.not_eq_false', decide_eq_true_eq, decide_eq_false_iff_not, beq_iff_eq, beq_eq_false_iff_ne, bne_iff_ne, bne_eq_false_iff_eq, ne_eq, Int.toNat_natCast] at *; omega))) ?_
        refine j_mq (qs_add rfl rfl) ?_
        rw [show IntKind.u32.wrap ((((n % 100) * 2 : Nat) : Int) + 1) = (((n % 100) * 2 + 1 : Nat) : Int) from wr32 (n := (n % 100) * 2 + 1) (by omega)]
        refine j_mq (qs_idx (l := SM) Tryd.underlying9 (by kernel_rfl) rfl (by rw [sm_len]; omega)) ?_
        rw [Int.toNat_natCast, sm1 (show (n % 100) < 100 by omega)]
        refine j_mq (qs_idx (l := SM) Tryd.underlying9 (by kernel_rfl) rfl (by rw [sm_len]; omega)) ?_
        rw [Int.toNat_natCast, sm0 (show (n % 100) < 100 by omega)]
        first
          | refine j_mq (qs_ixg Tryd.underlying22 sz5 rfl rfl ⟨(by first | omega | (simp only [Bool.and_eq_true, Bool.or_eq_true, Bool.and_eq_false_iff, Bool.or_eq_false_iff, Bool.not_eq_true', Bool.not_eq_false', decide_eq_true_eq, decide_eq_false_iff_not, beq_iff_eq, beq_eq_false_iff_ne, bne_iff_ne, bne_eq_false_iff_eq, ne_eq, Int.toNat_natCast] at *; omega)), (by first | omega | (simp only [Bool.and_eq_true, Bool.or_eq_true, Bool.and_eq_false_iff, Bool.or_eq_false_iff, Bool.not_eq_true', Bool.not_eq_false', decide_eq_true_eq, decide_eq_false_iff_not, beq_iff_eq, beq_eq_false_iff_ne, bne_iff_ne, bne_eq_false_iff_eq, ne_eq, Int.toNat_natCast] at *; omega))⟩) ?_
          | refine j_mq (qs_ixl0 Tryd.underlying22 sz5 rfl rfl ⟨(by first | omega | (simp only [Bool.and_eq_true, Bool.or_eq_true, Bool.and_eq_false_iff, Bool.or_eq_false_iff, Bool.not_eq_true', Bool.not_eq_false', decide_eq_true_eq, decide_eq_false_iff_not, beq_iff_eq, beq_eq_false_iff_ne, bne_iff_ne, bne_eq_false_iff_eq, ne_eq, Int.toNat_natCast] at *; omega)), (by first | omega | (simp only [Bool.and_eq_true, Bool.or_eq_true, Bool.and_eq_false_iff, Bool.or_eq_false_iff, Bool.not_eq_true', Bool.not_eq_false', decide_eq_true_eq, decide_eq_false_iff_not, beq_iff_eq, beq_eq_false_iff_ne, bne_iff_ne, bne_eq_false_iff_eq, ne_eq, Int.toNat_natCast] at *; omega))⟩) ?_
        refine j_storei 0 sz5 rfl rfl rfl (by simp) ?_
        refine j_mD0 (Le.of_sub (by repeat first | exact List.Sublist.refl _ | exact List.nil_sublist _ | apply List.Sublist.cons_cons | apply List.Sublist.cons)) ?_
        first
          | refine j_mq (qs_ixg Tryd.underlying22 sz5 rfl rfl ⟨(by first | omega | (simp only [Bool.and_eq_true, Bool.or_eq_true, Bool.and_eq_false_iff, Bool.or_eq_false_iff, Bool.not_eq_true', Bool.not_eq_false', decide_eq_true_eq, decide_eq_false_iff_not, beq_iff_eq, beq_eq_false_iff_ne, bne_iff_ne, bne_eq_false_iff_eq, ne_eq, Int.toNat_natCast] at *; omega)), (by first | omega | (simp only [Bool.and_eq_true, Bool.or_eq_true, Bool.and_eq_false_iff, Bool.or_eq_false_iff, Bool.not_eq_true', Bool.not_eq_false', decide_eq_true_eq, decide_eq_false_iff_not, beq_iff_eq, beq_eq_false_iff_ne, bne_iff_ne, bne_eq_false_iff_eq, ne_eq, Int.toNat_natCast] at *; omega))⟩) ?_
          | refine j_mq (qs_ixl0 Tryd.underlying22 sz5 rfl rfl ⟨(by first | omega | (simp only [Bool.and_eq_true, Bool.or_eq_true, Bool.and_eq_false_iff, Bool.or_eq_false_iff, Bool.not_eq_true', Bool.not_eq_false', decide_eq_true_eq, decide_eq_false_iff_not, beq_iff_eq, beq_eq_false_iff_ne, bne_iff_ne, bne_eq_false_iff_eq, ne_eq, Int.toNat_natCast] at *; omega)), (by first | omega | (simp only [Bool.and_eq_true, Bool.or_eq_true, Bool.and_eq_false_iff, Bool.or_eq_false_iff, Bool.not_eq_true', Bool.not_eq_false', decide_eq_true_eq, decide_eq_false_iff_not, beq_iff_eq, beq_eq_false_iff_ne, bne_iff_ne, bne_eq_false_iff_eq, ne_eq, Int.toNat_natCast] at *; omega))⟩) ?_
        refine j_storei 0 sz5 rfl rfl rfl (by simp) ?_
        refine j_mD0 (Le.of_sub (by repeat first | exact List.Sublist.refl _ | exact List.nil_sublist _ | apply List.Sublist.cons_cons | apply List.Sublist.cons)) ?_
        refine j_mend ?_
        refine j_q (qs_sub64 rfl rfl (by first | omega | (simp only [Bool.and_eq_true, Bool.or_eq_true, Bool.and_eq_false_iff, Bool.or_eq_false_iff, Bool.not_eq_true', Bool.not_eq_false', decide_eq_true_eq, decide_eq_false_iff_not, beq_iff_eq, beq_eq_false_iff_ne, bne_iff_ne, bne_eq_false_iff_eq, ne_eq, Int.toNat_natCast] at *; omega))) ?_
        refine j_q (qs_gtr rfl rfl) ?_
        refine j_cond rfl (fun hc6 => ?_) (fun hc6 => ?_)
        · skip
          refine j_q (qs_add rfl rfl) ?_
          rw [show IntKind.u32.wrap (48 + ((n / 100 : Nat) : Int)) = ((48 + n / 100 : Nat) : Int) from wr32 (n := 48 + n / 100) (by omega)]
          refine j_q (qs_conv8 Tryd.underlying59 Tryd.underlying5 rfl) ?_
          rw [by8_nat (by omega)]
          first
            | refine j_q (qs_ixg Tryd.underlying22 sz5 rfl rfl ⟨(by first | omega | (simp only [Bool.and_eq_true, Bool.or_eq_true, Bool.and_eq_false_iff, Bool.or_eq_false_iff, Bool.not_eq_true', Bool.not_eq_false', decide_eq_true_eq, decide_eq_false_iff_not, beq_iff_eq, beq_eq_false_iff_ne, bne_iff_ne, bne_eq_false_iff_eq, ne_eq, Int.toNat_natCast] at *; omega)), (by first | omega | (simp only [Bool.and_eq_true, Bool.or_eq_true, Bool.and_eq_false_iff, Bool.or_eq_false_iff, Bool.not_eq_true', Bool.not_eq_false', decide_eq_true_eq, decide_eq_false_iff_not, beq_iff_eq, beq_eq_false_iff_ne, bne_iff_ne, bne_eq_false_iff_eq, ne_eq, Int.toNat_natCast] at *; omega))⟩) ?_
            | refine j_q (qs_ixl0 Tryd.underlying22 sz5 rfl rfl ⟨(by first | omega | (simp only [Bool.and_eq_true, Bool.or_eq_true, Bool.and_eq_false_iff, Bool.or_eq_false_iff, Bool.not_eq_true', Bool.not_eq_false', decide_eq_true_eq, decide_eq_false_iff_not, beq_iff_eq, beq_eq_false_iff_ne, bne_iff_ne, bne_eq_false_iff_eq, ne_eq, Int.toNat_natCast] at *; omega)), (by first | omega | (simp only [Bool.and_eq_true, Bool.or_eq_true, Bool.and_eq_false_iff, Bool.or_eq_false_iff, Bool.not_eq_true', Bool.not_eq_false', decide_eq_true_eq, decide_eq_false_iff_not, beq_iff_eq, beq_eq_false_iff_ne, bne_iff_ne, bne_eq_false_iff_eq, ne_eq, Int.toNat_natCast] at *; omega))⟩) ?_
          refine j_storei 0 sz5 rfl rfl rfl (by simp) ?_
          refine j_ret_con (vs := []) (fun w' hw' => trivial) ?_
          refine ⟨rfl, ?_⟩
          rw [dec3 h1 h2, show n / 10 % 10 = n % 100 / 10 by omega, show n % 10 = n % 100 % 10 by omega]
          rfl
        · skip
          simp at hc6
      · skip
        simp at hc5
/-- internal.strconv.formatBase10 -/
theorem fmt4_con (n g : Nat) (w : World) (h1 : 1000 ≤ n) (h2 : n < 10000) : Con Tryd.prog 52 [.slice (some ⟨g, 0, none⟩) 4 24, .int .u64 (n : Int)] w [(g, .cells (ints (List.replicate 24 0)).toArray 95 (0, 0))] fun v S' => v = .tuple #[] ∧ S' = [[(g, .cells (ints (dec n ++ List.replicate 20 0)).toArray 95 (0, 0))]] := by
  refine con_of_tree mix Tryd.func52 T52_ok (by kernel_rfl) ?_
  unfold T52
  refine j_q (qs_lenl Tryd.underlying22 rfl) ?_
  refine j_loop (fun m vs S' => vs = [.int .u64 (n : Int), .int .i64 4] ∧ S' = [[(g, .cells (ints (List.replicate 24 0)).toArray 95 (0, 0))]] ∧ m = 0) ⟨_, rfl, rfl, rfl⟩ ?_
  rintro m vs S' hlen ⟨rfl, rfl, rfl⟩
  refine j_q (qs_geq rfl rfl) ?_
  refine j_cond rfl (fun hc0 => ?_) (fun hc0 => ?_)
  · skip
    simp at hc0
  · skip
    refine j_q (qs_conv Tryd.underlying12 Tryd.underlying59 rfl) ?_
    rw [show IntKind.u32.wrap (n : Int) = (n : Int) from wr32 (by omega)]
    refine j_q (qs_geq rfl rfl) ?_
    refine j_cond rfl (fun hc1 => ?_) (fun hc1 => ?_)
    · skip
      refine j_q (qs_rem64 rfl rfl (by omega) (by decide)) ?_
      rw [show ((n : Nat) : Int) % 10000 = ((n % 10000 : Nat) : Int) from rfl]
      refine j_q (qs_quo rfl rfl (by decide)) ?_
      rw [show IntKind.u32.wrap (((n : Nat) : Int).tdiv 10000) = ((n / 10000 : Nat) : Int) from q32 (n) 10000 (by omega)]
      refine j_q (qs_quo rfl rfl (by decide)) ?_
      rw [show IntKind.u32.wrap (((n % 10000 : Nat) : Int).tdiv 100) = ((n % 10000 / 100 : Nat) : Int) from q32 (n % 10000) 100 (by omega)]
      refine j_q (qs_mul rfl rfl) ?_
      rw [show IntKind.u32.wrap (((n % 10000 / 100 : Nat) : Int) * 2) = ((n % 10000 / 100 * 2 : Nat) : Int) from wr32 (n := n % 10000 / 100 * 2) (by omega)]
      refine j_q (qs_rem64 rfl rfl (by omega) (by decide)) ?_
      rw [show ((n % 10000 : Nat) : Int) % 100 = ((n % 10000 % 100 : Nat) : Int) from rfl]
      refine j_q (qs_mul rfl rfl) ?_
      rw [show IntKind.u32.wrap (((n % 10000 % 100 : Nat) : Int) * 2) = ((n % 10000 % 100 * 2 : Nat) : Int) from wr32 (n := n % 10000 % 100 * 2) (by omega)]
      refine j_mix [] (Le.of_sub (List.nil_sublist _)) ?_
      refine j_mq (qs_sub64 rfl rfl (by first | omega | (simp only [Bool.and_eq_true, Bool.or_eq_true, Bool.and_eq_false_iff, Bool.or_eq_false_iff, Bool.not_eq_true', Bool.not_eq_false', decide_eq_true_eq, decide_eq_false_iff_not, beq_iff_eq, beq_eq_false_iff_ne, bne_iff_ne, bne_eq_false_iff_eq, ne_eq, Int.toNat_natCast] at *; omega))) ?_
      refine j_mq (qs_sub64 rfl rfl (by first | omega | (simp only [Bool.and_eq_true, Bool.or_eq_true, Bool.and_eq_false_iff, Bool.or_eq_false_iff, Bool.not_eq_true', Bool.not_eq_false', decide_eq_true_eq, decide_eq_false_iff_not, beq_iff_eq, beq_eq_false_iff_ne, bne_iff_ne, bne_eq_false_iff_eq, ne_eq, Int.toNat_natCast] at *; omega))) ?_
      refine j_mq (qs_add rfl rfl) ?_
      rw [show IntKind.u32.wrap ((((n % 10000 % 100) * 2 : Nat) : Int) + 1) = (((n % 10000 % 100) * 2 + 1 : Nat) : Int) from wr32 (n := (n % 10000 % 100) * 2 + 1) (by omega)]
      refine j_mq (qs_idx (l := SM) Tryd.underlying9 (by kernel_rfl) rfl (by rw [sm_len]; omega)) ?_
      rw [Int.toNat_natCast, sm1 (show (n % 10000 % 100) < 100 by omega)]
      refine j_mq (qs_idx (l := SM) Tryd.underlying9 (by kernel_rfl) rfl (by rw [sm_len]; omega)) ?_
      rw [Int.toNat_natCast, sm0 (show (n % 10000 % 100) < 100 by omega)]
      first
        | refine j_mq (qs_ixg Tryd.underlying22 sz5 rfl rfl ⟨(by first | omega | (simp only [Bool.and_eq_true, Bool.or_eq_true, Bool.and_eq_false_iff, Bool.or_eq_false_iff, Bool.not_eq_true', Bool.not_eq_false', decide_eq_true_eq, decide_eq_false_iff_not, beq_iff_eq, beq_eq_false_iff_ne, bne_iff_ne, bne_eq_false_iff_eq, ne_eq, Int.toNat_natCast] at *; omega)), (by first | omega | (simp only [Bool.and_eq_true, Bool.or_eq_true, Bool.and_eq_false_iff, Bool.or_eq_false_iff, Bool.not_eq_true', Bool.not_eq_false', decide_eq_true_eq, decide_eq_false_iff_not, beq_iff_eq, beq_eq_false_iff_ne, bne_iff_ne, bne_eq_false_iff_eq, ne_eq, Int.toNat_natCast] at *; omega))⟩) ?_
        | refine j_mq (qs_ixl0 Tryd.underlying22 sz5 rfl rfl ⟨(by first | omega | (simp only [Bool.and_eq_true, Bool.or_eq_true, Bool.and_eq_false_iff, Bool.or_eq_false_iff, Bool.not_eq_true', Bool.not_eq_false', decide_eq_true_eq, decide_eq_false_iff_not, beq_iff_eq, beq_eq_false_iff_ne, bne_iff_ne, bne_eq_false_iff_eq, ne_eq, Int.toNat_natCast] at *; omega)), (by first | omega | (simp only [Bool.and_eq_true, Bool.or_eq_true, Bool.and_eq_false_iff, Bool.or_eq_false_iff, Bool.not_eq_true', Bool.not_eq_false', decide_eq_true_eq, decide_eq_false_iff_not, beq_iff_eq, beq_eq_false_iff_ne, bne_iff_ne, bne_eq_false_iff_eq, ne_eq, Int.toNat_natCast] at *; omega))⟩) ?_
      refine j_storei 0 sz5 rfl rfl rfl (by simp) ?_
      refine j_mD0 (Le.of_sub (by repeat first | exact List.Sublist.refl _ | exact List.nil_sublist _ | apply List.Sublist.cons_cons | apply List.Sublist.cons)) ?_
      first
        | refine j_mq (qs_ixg Tryd.underlying22 sz5 rfl rfl ⟨(by first | omega | (simp only [Bool.and_eq_true, Bool.or_eq_true, Bool.and_eq_false_iff, Bool.or_eq_false_iff, Bool.not_eq_true', Bool.not_eq_false', decide_eq_true_eq, decide_eq_false_iff_not, beq_iff_eq, beq_eq_false_iff_ne, bne_iff_ne, bne_eq_false_iff_eq, ne_eq, Int.toNat_natCast] at *; omega)), (by first | omega | (simp only [Bool.and_eq_true, Bool.or_eq_true, Bool.and_eq_false_iff, Bool.or_eq_false_iff, Bool.not_eq_true', Bool.not_eq_false', decide_eq_true_eq, decide_eq_false_iff_not, beq_iff_eq, beq_eq_false_iff_ne, bne_iff_ne, bne_eq_false_iff_eq, ne_eq, Int.toNat_natCast] at *; omega))⟩) ?_
        | refine j_mq (qs_ixl0 Tryd.underlying22 sz5 rfl rfl ⟨(by first | omega | (simp only [Bool.and_eq_true, Bool.or_eq_true, Bool.and_eq_false_iff, Bool.or_eq_false_iff, Bool.not_eq_true', Bool.not_eq_false', decide_eq_true_eq, decide_eq_false_iff_not, beq_iff_eq, beq_eq_false_iff_ne, bne_iff_ne, bne_eq_false_iff_eq, ne_eq, Int.toNat_natCast] at *; omega)), (by first | omega | (simp only [Bool.and_eq_true, Bool.or_eq_true, Bool.and_eq_false_iff, Bool.or_eq_false_iff, Bool.not_eq_true', Bool.not_eq_false', decide_eq_true_eq, decide_eq_false_iff_not, beq_iff_eq, beq_eq_false_iff_ne, bne_iff_ne, bne_eq_false_iff_eq, ne_eq, Int.toNat_natCast] at *; omega))⟩) ?_
      refine j_storei 0 sz5 rfl rfl rfl (by simp) ?_
      refine j_mD0 (Le.of_sub (by repeat first | exact List.Sublist.refl _ | exact List.nil_sublist _ | apply List.Sublist.cons_cons | apply List.Sublist.cons)) ?_
      refine j_mend ?_
      refine j_mix [] (Le.of_sub (List.nil_sublist _)) ?_
      refine j_mq (qs_sub64 rfl rfl (by first | omega | (simp only [Bool.and_eq_true, Bool.or_eq_true, Bool.and_eq_false_iff, Bool.or_eq_false_iff, Bool.not_eq_true', Bool.not_eq_false', decide_eq_true_eq, decide_eq_false_iff_not, beq_iff_eq, beq_eq_false_iff_ne, bne_iff_ne, bne_eq_false_iff_eq, ne_eq, Int.toNat_natCast] at *; omega))) ?_
      refine j_mq (qs_sub64 rfl rfl (by first | omega | (simp only [Bool.and_eq_true, Bool.or_eq_true, Bool.and_eq_false_iff, Bool.or_eq_false_iff, Bool.not_eq_true', Bool.not_eq_false', decide_eq_true_eq, decide_eq_false_iff_not, beq_iff_eq, beq_eq_false_iff_ne, bne_iff_ne, bne_eq_false_iff_eq, ne_eq, Int.toNat_natCast] at *; omega))) ?_
      refine j_mq (qs_add rfl rfl) ?_
      rw [show IntKind.u32.wrap ((((n % 10000 / 100) * 2 : Nat) : Int) + 1) = (((n % 10000 / 100) * 2 + 1 : Nat) : Int) from wr32 (n := (n % 10000 / 100) * 2 + 1) (by omega)]
      refine j_mq (qs_idx (l := SM) Tryd.underlying9 (by kernel_rfl) rfl (by rw [sm_len]; omega)) ?_
      rw [Int.toNat_natCast, sm1 (show (n % 10000 / 100) < 100 by omega)]
      refine j_mq (qs_idx (l := SM) Tryd.underlying9 (by kernel_rfl) rfl (by rw [sm_len]; omega)) ?_
      rw [Int.toNat_natCast, sm0 (show (n % 10000 / 100) < 100 by omega)]
      first
        | refine j_mq (qs_ixg Tryd.underlying22 sz5 rfl rfl ⟨(by first | omega | (simp only [Bool.and_eq_true, Bool.or_eq_true, Bool.and_eq_false_iff, Bool.or_eq_false_iff, Bool.not_eq_true', Bool.not_eq_false', decide_eq_true_eq, decide_eq_false_iff_not, beq_iff_eq, beq_eq_false_iff_ne, bne_iff_ne, bne_eq_false_iff_eq, ne_eq, Int.toNat_natCast] at *; omega)), (by first | omega | (simp only [Bool.and_eq_true, Bool.or_eq_true, Bool.and_eq_false_iff, Bool.or_eq_false_iff, Bool.not_eq_true', Bool.not_eq_false', decide_eq_true_eq, decide_eq_false_iff_not, beq_iff_eq, beq_eq_false_iff_ne, bne_iff_ne, bne_eq_false_iff_eq, ne_eq, Int.toNat_natCast] at *; omega))⟩) ?_
        | refine j_mq (qs_ixl0 Tryd.underlying22 sz5 rfl rfl ⟨(by first | omega | (simp only [Bool.and_eq_true, Bool.or_eq_true, Bool.and_eq_false_iff, Bool.or_eq_false_iff, Bool.not_eq_true', Bool.not_eq_false', decide_eq_true_eq, decide_eq_false_iff_not, beq_iff_eq, beq_eq_false_iff_ne, bne_iff_ne, bne_eq_false_iff_eq, ne_eq, Int.toNat_natCast] at *; omega)), (by first | omega | (simp only [Bool.and_eq_true, Bool.or_eq_true, Bool.and_eq_false_iff, Bool.or_eq_false_iff, Bool.not_eq_true', Bool.not_eq_false', decide_eq_true_eq, decide_eq_false_iff_not, beq_iff_eq, beq_eq_false_iff_ne, bne_iff_ne, bne_eq_false_iff_eq, ne_eq, Int.toNat_natCast] at *; omega))⟩) ?_
      refine j_storei 0 sz5 rfl rfl rfl (by simp) ?_
      refine j_mD0 (Le.of_sub (by repeat first | exact List.Sublist.refl _ | exact List.nil_sublist _ | apply List.Sublist.cons_cons | apply List.Sublist.cons)) ?_
      first
        | refine j_mq (qs_ixg Tryd.underlying22 sz5 rfl rfl ⟨(by first | omega | (simp only [Bool.and_eq_true, Bool.or_eq_true, Bool.and_eq_false_iff, Bool.or_eq_false_iff, Bool.not_eq_true', Bool.not_eq_false', decide_eq_true_eq, decide_eq_false_iff_not, beq_iff_eq, beq_eq_false_iff_ne, bne_iff_ne, bne_eq_false_iff_eq, ne_eq, Int.toNat_natCast] at *; omega)), (by first | omega | (simp only [Bool.and_eq_true, Bool.or_eq_true, Bool.and_eq_false_iff, Bool.or_eq_false_iff, Bool.not_eq_true', Bool.not_eq_false', decide_eq_true_eq, decide_eq_false_iff_not, beq_iff_eq, beq_eq_false_iff_ne, bne_iff_ne, bne_eq_false_iff_eq, ne_eq, Int.toNat_natCast] at *; omega))⟩) ?_
        | refine j_mq (qs_ixl0 Tryd.underlying22 sz5 rfl rfl ⟨(by first | omega | (simp only [Bool.and_eq_true, Bool.or_eq_true, Bool.and_eq_false_iff, Bool.or_eq_false_iff, Bool.not_eq_true', Bool.not_eq_false', decide_eq_true_eq, decide_eq_false_iff_not, beq_iff_eq, beq_eq_false_iff_ne, bne_iff_ne, bne_eq_false_iff_eq, ne_eq, Int.toNat_natCast] at *; omega)), (by first | omega | (simp only [Bool.and_eq_true, Bool.or_eq_true, Bool.and_eq_false_iff, Bool.or_eq_false_iff, Bool.not_eq_true', Bool.not_eq_false', decide_eq_true_eq, decide_eq_false_iff_not, beq_iff_eq, beq_eq_false_iff_ne, bne_iff_ne, bne_eq_false_iff_eq, ne_eq, Int.toNat_natCast] at *; omega))⟩) ?_
      refine j_storei 0 sz5 rfl rfl rfl (by simp) ?_
      refine j_mD0 (Le.of_sub (by repeat first | exact List.Sublist.refl _ | exact List.nil_sublist _ | apply List.Sublist.cons_cons | apply List.Sublist.cons)) ?_
      refine j_mend ?_
      refine j_q (qs_sub64 rfl rfl (by first | omega | (simp only [Bool.and_eq_true, Bool.or_eq_true, Bool.and_eq_false_iff, Bool.or_eq_false_iff, Bool.not_eq_true', Bool.not_eq_false', decide_eq_true_eq, decide_eq_false_iff_not, beq_iff_eq, beq_eq_false_iff_ne, bne_iff_ne, bne_eq_false_iff_eq, ne_eq, Int.toNat_natCast] at *; omega))) ?_
      refine j_q (qs_geq rfl rfl) ?_
      refine j_cond rfl (fun hc2 => ?_) (fun hc2 => ?_)
      · skip
        simp at hc2
      · skip
        refine j_q (qs_gtr rfl rfl) ?_
        refine j_cond rfl (fun hc4 => ?_) (fun hc4 => ?_)
        · skip
          simp at hc4
        · skip
          refine j_ret_con (vs := []) (fun w' hw' => trivial) ?_
          refine ⟨rfl, ?_⟩
          rw [dec4 h1 h2, show n / 1000 = n % 10000 / 100 / 10 by omega, show n / 100 % 10 = n % 10000 / 100 % 10 by omega, show n / 10 % 10 = n % 10000 % 100 / 10 by omega, show n % 10 = n % 10000 % 100 % 10 by omega]
          rfl
    · skip
      simp at hc1
theorem fmt_con (d n g : Nat) (w : World) (hd : d = if n < 1000 then 3 else 4) (h1 : 100 ≤ n) (h2 : n < 10000) : Con Tryd.prog 52 [.slice (some ⟨g, 0, none⟩) d 24, .int .u64 (n : Int)] w [(g, .cells (ints (List.replicate 24 0)).toArray 95 (0, 0))] fun v S' => v = .tuple #[] ∧ (dec n).length = d ∧ S' = [[(g, .cells (ints (dec n ++ List.replicate (24 - d) 0)).toArray 95 (0, 0))]] := by
  subst hd
  by_cases h : n < 1000
  · rw [if_pos h]
    exact (fmt3_con n g w h1 h).mono fun u S' hu => ⟨hu.1, by rw [dec3 h1 h]; rfl, hu.2⟩
  · rw [if_neg h]
    exact (fmt4_con n g w (by omega) h2).mono fun u S' hu => ⟨hu.1, by rw [dec4 (by omega) h2]; rfl, hu.2⟩
/-- internal.strconv.AppendUint -/
theorem auint_con (o : List UInt8) (n : Nat) (ov : Value) (c : SH) (ho : Sx.Own 5 1 (ints o) ov c) (w : World) (hP : P10 w) (h0 : 0 ∉ dom c) (hn : n < 10000) (hl : o.length ≤ 1000000) : Con Tryd.prog 38 [ov, .int .u64 (n : Int), .int .i64 10] w c fun u S' => ∃ c', S' = [c'] ∧ Sx.Own 5 1 (ints (o ++ dec n)) u c' := by
  refine con_of_tree mix Tryd.func38 T38_ok (by kernel_rfl) ?_
  unfold T38
  have hdl := dec_len hn
  refine j_q (qs_ac) ?_
  refine j_q (qs_eql rfl rfl) ?_
  refine j_cond rfl (fun hc0 => ?_) (fun hc0 => ?_)
  · skip
    refine j_q (qs_lss rfl rfl) ?_
    refine j_cond rfl (fun hc1 => ?_) (fun hc1 => ?_)
    · skip
      have h9 : n < 100 := by
        simp only [Bool.and_eq_true, Bool.or_eq_true, Bool.and_eq_false_iff, Bool.or_eq_false_iff, Bool.not_eq_true', Bool.not_eq_false', decide_eq_true_eq, decide_eq_false_iff_not, beq_iff_eq, beq_eq_false_iff_ne, bne_iff_ne, bne_eq_false_iff_eq, ne_eq, Int.toNat_natCast] at *
        omega
      refine j_q (qs_conv Tryd.underlying12 Tryd.underlying3 rfl) ?_
      rw [IntWalk.i64_in _ (by omega)]
      refine j_q (qs_call ent50 rfl rfl rfl (fun w' hw' => small_con n w' h9)) ?_
      refine j_append 0 Tryd.underlying22 Tryd.underlying9 (.inl rfl) sb5 zero5 rfl ho rfl (.inr (.inr ⟨_, rfl, rfl, rfl, rfl⟩)) ints_one ⟨(by simp only [ints_length]; omega), (by decide)⟩ (fun v5 c5 ho5 => ?_)
      rw [← ints_append] at ho5
      refine j_ret_con (vs := [_]) (fun w' hw' => ⟨rfl, trivial⟩) ?_
      exact ⟨_, rfl, ho5⟩
    · skip
      have h9 : 100 ≤ n := by
        simp only [Bool.and_eq_true, Bool.or_eq_true, Bool.and_eq_false_iff, Bool.or_eq_false_iff, Bool.not_eq_true', Bool.not_eq_false', decide_eq_true_eq, decide_eq_false_iff_not, beq_iff_eq, beq_eq_false_iff_ne, bne_iff_ne, bne_eq_false_iff_eq, ne_eq, Int.toNat_natCast] at *
        omega
      refine j_alloc zero95 (fun g6 hg6 hs6 => ?_)
      refine j_q (qs_call ent51 rfl rfl rfl (fun w' hw' => numDigits_con n w' h9 hn (hP.keep hw' h0))) ?_
      obtain ⟨d, hd⟩ : ∃ d, d = (if n < 1000 then 3 else 4) := ⟨_, rfl⟩
      rw [← hd]
      have hd2 : 3 ≤ d ∧ d ≤ 4 := by
        rw [hd]
        split <;> omega
      refine j_q (qs_cuta (a := 0) (z := d) Tryd.underlying95 sz5 rfl rfl ⟨.i64, rfl⟩ (by omega) (by omega)) ?_
      rw [if_neg (show ¬ 24 = 0 by omega)]
      simp only [Nat.zero_mul, Nat.add_zero, Nat.sub_zero]
      refine j_call 0 ent52 rfl rfl rfl rfl (fun w' hw' => fmt_con d n g6 w' hd h9 hn) (fun u S2 hu => ?_)
      obtain ⟨rfl, hdd, rfl⟩ := hu
      refine j_subl (S' := [[(g6, .cells (ints (dec n ++ List.replicate (24 - d) 0)).toArray 95 (0, 0))], c]) (by repeat first | exact List.Sublist.refl _ | exact List.nil_sublist _ | apply List.Sublist.cons_cons | apply List.Sublist.cons) ?_
      refine j_q (qs_cuta (a := 0) (z := d) Tryd.underlying95 sz5 rfl rfl ⟨.i64, rfl⟩ (by omega) (by omega)) ?_
      rw [if_neg (show ¬ 24 = 0 by omega)]
      simp only [Nat.zero_mul, Nat.add_zero, Nat.sub_zero]
      refine j_append 1 Tryd.underlying22 Tryd.underlying22 (.inr ⟨_, rfl⟩) sb5 zero5 rfl ho rfl (.inl ⟨_, _, rfl, rd_own (off := 0) (n := d) (vs := ints (dec n)) 0 rfl (by rw [List.drop_zero, ints_append, List.take_append_of_le_length (by rw [ints_length]; omega), List.take_of_length_le (by rw [ints_length]; omega)]), by rw [ints_length]; omega⟩) ints_one ⟨(by simp only [ints_length]; omega), (by decide)⟩ (fun v11 c11 ho11 => ?_)
      rw [← ints_append] at ho11
      refine j_subl (S' := [c11]) (by repeat first | exact List.Sublist.refl _ | exact List.nil_sublist _ | apply List.Sublist.cons_cons | apply List.Sublist.cons) ?_
      refine j_ret_con (vs := [_]) (fun w' hw' => ⟨rfl, trivial⟩) ?_
      exact ⟨_, rfl, ho11⟩
  · skip
    simp at hc0
/-- internal.strconv.AppendInt -/
theorem aint0_con (o : List UInt8) (n : Nat) (ov : Value) (c : SH) (ho : Sx.Own 5 1 (ints o) ov c) (w : World) (hP : P10 w) (h0 : 0 ∉ dom c) (hn : n < 10000) (hl : o.length ≤ 1000000) : Con Tryd.prog 25 [ov, .int .i64 (n : Int), .int .i64 10] w c fun u S' => ∃ c', S' = [c'] ∧ Sx.Own 5 1 (ints (o ++ dec n)) u c' := by
  refine con_of_tree mix Tryd.func25 T25_ok (by kernel_rfl) ?_
  unfold T25
  refine j_q (qs_ac) ?_
  refine j_q (qs_conv Tryd.underlying3 Tryd.underlying12 rfl) ?_
  rw [show IntKind.u64.wrap (n : Int) = (n : Int) by rw [IntKind.wrap_u64]; omega]
  refine j_q (qs_lss rfl rfl) ?_
  refine j_cond rfl (fun hc0 => ?_) (fun hc0 => ?_)
  · skip
    simp only [Bool.and_eq_true, Bool.or_eq_true, Bool.and_eq_false_iff, Bool.or_eq_false_iff, Bool.not_eq_true', Bool.not_eq_false', decide_eq_true_eq, decide_eq_false_iff_not, beq_iff_eq, beq_eq_false_iff_ne, bne_iff_ne, bne_eq_false_iff_eq, ne_eq, Int.toNat_natCast] at *
    omega
  · skip
    refine j_call 0 ent38 rfl rfl rfl rfl (fun w' hw' => auint_con o n ov c ho w' (hP.keep hw' h0) h0 hn hl) (fun u S2 hu => ?_)
    obtain ⟨c7, rfl, ho7⟩ := hu
    refine j_subl (S' := [c7]) (by repeat first | exact List.Sublist.refl _ | exact List.nil_sublist _ | apply List.Sublist.cons_cons | apply List.Sublist.cons) ?_
    refine j_ret_con (vs := [_]) (fun w' hw' => ⟨rfl, trivial⟩) ?_
    exact ⟨_, rfl, ho7⟩
/-- strconv.AppendInt -/
theorem aint_con (o : List UInt8) (n : Nat) (ov : Value) (c : SH) (ho : Sx.Own 5 1 (ints o) ov c) (w : World) (hP : P10 w) (h0 : 0 ∉ dom c) (hn : n < 10000) (hl : o.length ≤ 1000000) : Con Tryd.prog 15 [ov, .int .i64 (n : Int), .int .i64 10] w c fun u S' => ∃ c', S' = [c'] ∧ Sx.Own 5 1 (ints (o ++ dec n)) u c' := by
  refine con_of_tree mix Tryd.func15 T15_ok (by kernel_rfl) ?_
  unfold T15
  refine j_q (qs_ac) ?_
  refine j_call 0 ent25 rfl rfl rfl rfl (fun w' hw' => aint0_con o n ov c ho w' (hP.keep hw' h0) h0 hn hl) (fun u S2 hu => ?_)
  obtain ⟨c1, rfl, ho1⟩ := hu
  refine j_subl (S' := [c1]) (by repeat first | exact List.Sublist.refl _ | exact List.nil_sublist _ | apply List.Sublist.cons_cons | apply List.Sublist.cons) ?_
  refine j_ret_con (vs := [_]) (fun w' hw' => ⟨rfl, trivial⟩) ?_
  exact ⟨_, rfl, ho1⟩
/-- pantry.pantryref1.Dec -/
theorem dec_con (n : Nat) (w : World) (hn : n < 10000) : Con Tryd.prog 20 [.int .i64 (n : Int)] w [] fun v _ => v = .string (bs (dec n)) := by
  refine con_of_tree mix Tryd.func20 T20_ok (by kernel_rfl) ?_
  unfold T20
  have hdl := dec_len hn
  refine j_q (qs_ac) ?_
  refine j_q (qs_ac) ?_
  refine j_loop (fun m vs S' => ∃ (k : Nat) (s : List UInt8), vs = [.int .i64 (k : Int), .string (bs s)] ∧ S' = [[]] ∧ dec k ++ s = dec n ∧ k ≤ n ∧ m = k) ⟨_, n, [], rfl, rfl, List.append_nil _, Nat.le_refl _, rfl⟩ ?_
  rintro m vs S' hlen ⟨k, s, rfl, rfl, hs, hk, hm⟩
  have hsl := congrArg List.length hs
  rw [List.length_append] at hsl
  refine j_q (qs_rem64 rfl rfl (by omega) (by decide)) ?_
  rw [show ((k : Nat) : Int) % 10 = ((k % 10 : Nat) : Int) from rfl]
  refine j_q (qs_add64 rfl rfl (by first | omega | (simp only [Bool.and_eq_true, Bool.or_eq_true, Bool.and_eq_false_iff, Bool.or_eq_false_iff, Bool.not_eq_true', Bool.not_eq_false', decide_eq_true_eq, decide_eq_false_iff_not, beq_iff_eq, beq_eq_false_iff_ne, bne_iff_ne, bne_eq_false_iff_eq, ne_eq, Int.toNat_natCast] at *; omega))) ?_
  refine j_q (qs_conv8 Tryd.underlying3 Tryd.underlying5 rfl) ?_
  rw [show (48 + ((k % 10 : Nat) : Int)) = ((48 + k % 10 : Nat) : Int) by omega, by8_nat (by omega)]
  refine j_lit (vs := [.int .u8 _]) Tryd.underlying22 sz5 zero5 rfl (by simp [oneV]) ⟨rfl, by decide⟩ (fun g5 v5 c5 hv5 hc5 ho5 => ?_)
  subst hv5 hc5
  refine j_q (qs_stro (l := [UInt8.ofNat (48 + k % 10)]) 0 Tryd.underlying22 Tryd.underlying5 Tryd.underlying9 ho5 rfl) ?_
  refine j_q (qs_sadd rfl rfl (by simp only [List.length_singleton]; omega)) ?_
  refine j_q (qs_quo64 rfl rfl (by first | omega | (simp only [Bool.and_eq_true, Bool.or_eq_true, Bool.and_eq_false_iff, Bool.or_eq_false_iff, Bool.not_eq_true', Bool.not_eq_false', decide_eq_true_eq, decide_eq_false_iff_not, beq_iff_eq, beq_eq_false_iff_ne, bne_iff_ne, bne_eq_false_iff_eq, ne_eq, Int.toNat_natCast] at *; omega)) (by first | omega | (simp only [Bool.and_eq_true, Bool.or_eq_true, Bool.and_eq_false_iff, Bool.or_eq_false_iff, Bool.not_eq_true', Bool.not_eq_false', decide_eq_true_eq, decide_eq_false_iff_not, beq_iff_eq, beq_eq_false_iff_ne, bne_iff_ne, bne_eq_false_iff_eq, ne_eq, Int.toNat_natCast] at *; omega)) (by first | omega | (simp only [Bool.and_eq_true, Bool.or_eq_true, Bool.and_eq_false_iff, Bool.or_eq_false_iff, Bool.not_eq_true', Bool.not_eq_false', decide_eq_true_eq, decide_eq_false_iff_not, beq_iff_eq, beq_eq_false_iff_ne, bne_iff_ne, bne_eq_false_iff_eq, ne_eq, Int.toNat_natCast] at *; omega))) ?_
  rw [show ((k : Nat) : Int) / 10 = ((k / 10 : Nat) : Int) from rfl]
  refine j_subl (S' := [[]]) (by repeat first | exact List.Sublist.refl _ | exact List.nil_sublist _ | apply List.Sublist.cons_cons | apply List.Sublist.cons) ?_
  refine j_q (qs_eql rfl rfl) ?_
  refine j_cond rfl (fun hc0 => ?_) (fun hc0 => ?_)
  · skip
    have h9 : k < 10 := by
      simp only [Bool.and_eq_true, Bool.or_eq_true, Bool.and_eq_false_iff, Bool.or_eq_false_iff, Bool.not_eq_true', Bool.not_eq_false', decide_eq_true_eq, decide_eq_false_iff_not, beq_iff_eq, beq_eq_false_iff_ne, bne_iff_ne, bne_eq_false_iff_eq, ne_eq, Int.toNat_natCast] at *
      omega
    refine j_ret_con (vs := [_]) (fun w' hw' => ⟨rfl, trivial⟩) ?_
    show Value.string _ = _
    rw [← hs, dec_small h9, Nat.mod_eq_of_lt h9]
  · skip
    have h9 : 10 ≤ k := by
      simp only [Bool.and_eq_true, Bool.or_eq_true, Bool.and_eq_false_iff, Bool.or_eq_false_iff, Bool.not_eq_true', Bool.not_eq_false', decide_eq_true_eq, decide_eq_false_iff_not, beq_iff_eq, beq_eq_false_iff_ne, bne_iff_ne, bne_eq_false_iff_eq, ne_eq, Int.toNat_natCast] at *
      omega
    refine j_back rfl ?_
    exact ⟨k / 10, by omega, k / 10, _, rfl, rfl, by rw [← hs, dec_big h9, List.append_assoc], by omega, rfl⟩
end Go.Proofs.YtkafaodhppikfaaDoor
