/- Digits to the base thirty-two, as both codes reckon them. -/
import Derived.Test.YtfeabbeebkkhaaaGreatSx8
namespace Go.Sx
open Go
set_option linter.unusedVariables false
set_option linter.unusedSimpArgs false

/-- bytes as a number, the first one the least -/
def numL : List UInt8 → Nat
  | [] => 0
  | c :: l => c.toNat + 256 * numL l
theorem num_lt (l : List UInt8) : numL l < 2 ^ (8 * l.length) := by
  induction l with
  | nil => simp [numL]
  | cons c l ih =>
    have hc := c.toNat_lt
    have : 2 ^ (8 * (c :: l).length) = 256 * 2 ^ (8 * l.length) := by
      rw [List.length_cons, show 8 * (l.length + 1) = 8 + 8 * l.length by omega, Nat.pow_add]
    rw [this, numL]
    omega
theorem num_split (l : List UInt8) (i : Nat) : numL l = numL (l.take i) + 2 ^ (8 * i) * numL (l.drop i) := by
  induction i generalizing l with
  | zero => simp [numL]
  | succ i ih =>
    cases l with
    | nil => simp [numL]
    | cons c l =>
      simp only [List.take_succ_cons, List.drop_succ_cons, numL]
      have hp : 2 ^ (8 * (i + 1)) = 256 * 2 ^ (8 * i) := by rw [show 8 * (i + 1) = 8 + 8 * i by omega, Nat.pow_add]
      rw [hp, Nat.mul_assoc]
      have := ih l
      omega
theorem num_take_succ (l : List UInt8) (i : Nat) (h : i < l.length) : numL (l.take (i + 1)) = numL (l.take i) + (l.getD i 0).toNat * 2 ^ (8 * i) := by
  induction i generalizing l with
  | zero =>
    cases l with
    | nil => simp at h
    | cons c l => simp [numL]
  | succ i ih =>
    cases l with
    | nil => simp at h
    | cons c l =>
      simp only [List.take_succ_cons, numL]
      have hp : 2 ^ (8 * (i + 1)) = 256 * 2 ^ (8 * i) := by rw [show 8 * (i + 1) = 8 + 8 * i by omega, Nat.pow_add]
      have h1 := ih l (by simpa using h)
      have h2 : (c :: l).getD (i + 1) 0 = l.getD i 0 := by simp
      rw [h1, h2, hp, Nat.mul_left_comm]
      omega
/-- the digit i -/
def dg (n i : Nat) : Nat := n / 2 ^ (5 * i) % 32
theorem dg_lt (n i : Nat) : dg n i < 32 := Nat.mod_lt _ (by decide)
theorem dg_take (l : List UInt8) (a i : Nat) (h : 5 * i + 5 ≤ 8 * a ∨ l.length ≤ a) : dg (numL l) i = numL (l.take a) / 2 ^ (5 * i) % 32 := by
  rcases h with h | h
  · unfold dg
    rw [num_split l a]
    obtain ⟨d, hd⟩ := Nat.exists_eq_add_of_le h
    have : 2 ^ (8 * a) * numL (l.drop a) = 2 ^ (5 * i) * (32 * (2 ^ d * numL (l.drop a))) := by
      rw [hd, Nat.pow_add, Nat.pow_add]
      simp only [Nat.mul_assoc]
    rw [this, Nat.add_mul_div_left _ _ (Nat.two_pow_pos _), Nat.add_mul_mod_self_left]
  · rw [List.take_of_length_le h]
    rfl
def DIG : List UInt8 := [48, 49, 50, 51, 52, 53, 54, 55, 56, 57, 97, 98, 99, 100, 102, 103, 104, 105, 106, 107, 108, 109, 110, 112, 113, 114, 115, 118, 119, 120, 121, 122]
/-- the last i digits -/
def digs (n : Nat) : Nat → List UInt8
  | 0 => []
  | i + 1 => DIG.getD (dg n i) 0 :: digs n i
theorem digs_length (n i : Nat) : (digs n i).length = i := by
  induction i with
  | zero => rfl
  | succ i ih => simp [digs, ih]
def lenD (n : Nat) : Nat := (8 * n + 4) / 5
def text32 (l : List UInt8) : List UInt8 := digs (numL l) (lenD l.length)
theorem text32_length (l : List UInt8) : (text32 l).length = lenD l.length := digs_length _ _

/-! the program's buffer of digits -/
theorem or32 (m c h : Nat) (hm : m < 2 ^ h) (hc : c < 256) (hh : h ≤ 7) : oo (m : Int) (shl32 (cv (c : Int)) (h : Int)) = ((m + c * 2 ^ h : Nat) : Int) := by
  have h1 : 2 ^ h ≤ 128 := Nat.pow_le_pow_right (by decide) hh
  have h2 : c * 2 ^ h ≤ 255 * 128 := Nat.mul_le_mul (by omega) h1
  have hcv : cv (c : Int) = (c : Int) := IntWalk.u32_in _ (by omega)
  have hmin : min ((h : Int).toNat) IntKind.u32.bits = h := by
    show min _ 32 = _
    omega
  have hs : shl32 (cv (c : Int)) (h : Int) = ((c * 2 ^ h : Nat) : Int) := by
    unfold shl32
    rw [hcv, hmin]
    have e : (c : Int) * 2 ^ h = ((c * 2 ^ h : Nat) : Int) := by rw [Int.natCast_mul, Int.natCast_pow]; rfl
    rw [e]
    exact IntWalk.u32_in _ (by omega)
  rw [hs]
  unfold oo bw
  simp only []
  have e1 : (BitVec.ofInt IntKind.u32.bits (m : Int) ||| BitVec.ofInt IntKind.u32.bits ((c * 2 ^ h : Nat) : Int)).toNat = m + c * 2 ^ h := by
    rw [BitVec.toNat_or, BitVec.ofInt_natCast, BitVec.ofInt_natCast, BitVec.toNat_ofNat, BitVec.toNat_ofNat]
    have hb : IntKind.u32.bits = 32 := rfl
    rw [hb, Nat.mod_eq_of_lt (by omega), Nat.mod_eq_of_lt (by omega), Nat.or_comm, Nat.mul_comm c, ← Nat.two_pow_add_eq_or_of_lt hm, Nat.add_comm]
  rw [e1]
  exact IntWalk.u32_in _ (by omega)
theorem and32 (m : Nat) (hm : m < 4294967296) : an (m : Int) 31 = ((m % 32 : Nat) : Int) := by
  unfold an bw
  simp only []
  have e1 : (BitVec.ofInt IntKind.u32.bits (m : Int) &&& BitVec.ofInt IntKind.u32.bits 31).toNat = m % 32 := by
    have : (31 : Int) = ((31 : Nat) : Int) := rfl
    rw [this, BitVec.toNat_and, BitVec.ofInt_natCast, BitVec.ofInt_natCast, BitVec.toNat_ofNat, BitVec.toNat_ofNat]
    have hb : IntKind.u32.bits = 32 := rfl
    rw [hb, Nat.mod_eq_of_lt (by omega)]
    exact Nat.and_two_pow_sub_one_eq_mod m 5
  rw [e1]
  exact IntWalk.u32_in _ (by omega)
theorem shr5 (m : Nat) : shr32 (m : Int) 5 = ((m / 32 : Nat) : Int) := by
  show Int.fdiv (m : Int) 32 = _
  rw [Int.fdiv_eq_ediv_of_nonneg _ (by omega)]
  rfl
/-- what the buffer holds, and how many digits of two -/
structure Buf (b : List UInt8) (i a h bits : Nat) : Prop where
  a_le : a ≤ b.length
  h_eq : h = 8 * a - 5 * i
  ahead : a < b.length → 5 * i ≤ 8 * a
  h_le : h ≤ 7
  bits_eq : bits = numL (b.take a) / 2 ^ (5 * i)
theorem Buf.start (b : List UInt8) : Buf b 0 0 0 0 := ⟨Nat.zero_le _, rfl, fun _ => Nat.le_refl _, by decide, by simp [numL]⟩
theorem Buf.lt {b : List UInt8} {i a h bits : Nat} (B : Buf b i a h bits) : bits < 2 ^ h := by
  have h1 := num_lt (b.take a)
  rw [List.length_take, Nat.min_eq_left B.a_le] at h1
  rw [B.bits_eq, B.h_eq]
  rcases Nat.le_total (5 * i) (8 * a) with h2 | h2
  · rw [Nat.div_lt_iff_lt_mul (Nat.two_pow_pos _), ← Nat.pow_add, Nat.sub_add_cancel h2]
    exact h1
  · have : numL (b.take a) < 2 ^ (5 * i) := Nat.lt_of_lt_of_le h1 (Nat.pow_le_pow_right (by decide) h2)
    rw [Nat.div_eq_of_lt this]
    exact Nat.two_pow_pos _
/-- a byte taken in -/
theorem Buf.fill {b : List UInt8} {i a h bits : Nat} (B : Buf b i a h bits) (ha : a < b.length) (hh : h < 5) : bits + (b.getD a 0).toNat * 2 ^ h = numL (b.take (a + 1)) / 2 ^ (5 * i) := by
  have h1 := B.ahead ha
  rw [num_take_succ b a ha, B.bits_eq, B.h_eq]
  have : (b.getD a 0).toNat * 2 ^ (8 * a) = 2 ^ (5 * i) * ((b.getD a 0).toNat * 2 ^ (8 * a - 5 * i)) := by
    rw [Nat.mul_left_comm, ← Nat.pow_add, Nat.add_sub_cancel' h1]
  rw [this, Nat.add_mul_div_left _ _ (Nat.two_pow_pos _)]
/-- the digit, and what is left: behind a byte taken in -/
theorem Buf.next1 {b : List UInt8} {i a h bits : Nat} (B : Buf b i a h bits) (ha : a < b.length) (hh : h < 5) : (bits + (b.getD a 0).toNat * 2 ^ h) % 32 = dg (numL b) i ∧ Buf b (i + 1) (a + 1) (h + 8 - 5) ((bits + (b.getD a 0).toNat * 2 ^ h) / 32) := by
  have h1 := B.ahead ha
  have h2 := B.h_eq
  rw [B.fill ha hh]
  refine ⟨(dg_take b (a + 1) i (.inl (by omega))).symm, by omega, by omega, fun _ => by omega, by omega, ?_⟩
  rw [Nat.div_div_eq_div_mul, show 5 * (i + 1) = 5 * i + 5 by omega, Nat.pow_add]
/-- without one -/
theorem Buf.next0 {b : List UInt8} {i a h bits : Nat} (B : Buf b i a h bits) (hn : ¬ (h < 5 ∧ a < b.length)) : bits % 32 = dg (numL b) i ∧ Buf b (i + 1) a (max h 5 - 5) (bits / 32) := by
  have h2 := B.h_eq
  have h3 := B.a_le
  have h4 := B.h_le
  rw [B.bits_eq]
  refine ⟨(dg_take b a i (by omega)).symm, B.a_le, by omega, fun _ => by have := B.ahead (by omega); omega, by omega, ?_⟩
  rw [Nat.div_div_eq_div_mul, show 5 * (i + 1) = 5 * i + 5 by omega, Nat.pow_add]
theorem digs_put {n N i : Nat} (h : i < n) : (List.replicate (n - i) (0 : UInt8) ++ digs N i).set (n - 1 - i) (DIG.getD (dg N i) 0) = List.replicate (n - (i + 1)) 0 ++ digs N (i + 1) := by
  have h1 : n - i = (n - (i + 1)) + 1 := by omega
  rw [h1, List.replicate_succ', List.append_assoc, List.set_append_right _ _ (by simp; omega)]
  simp only [List.length_replicate, show n - 1 - i - (n - (i + 1)) = 0 by omega, List.cons_append, List.nil_append, List.set_cons_zero, digs]

/-! the document's digits of two -/
theorem bit_at (l : List UInt8) (k : Nat) (h : k / 8 < l.length) : numL l / 2 ^ k % 2 = (l.getD (k / 8) 0).toNat / 2 ^ (k % 8) % 2 := by
  have hs := num_split l (k / 8)
  have hlt := num_lt (l.take (k / 8))
  rw [List.length_take, Nat.min_eq_left (by omega)] at hlt
  have hk : 2 ^ k = 2 ^ (8 * (k / 8)) * 2 ^ (k % 8) := by rw [← Nat.pow_add]; congr 1; omega
  rw [hk, ← Nat.div_div_eq_div_mul, hs, Nat.add_mul_div_left _ _ (Nat.two_pow_pos _), Nat.div_eq_of_lt hlt, Nat.zero_add]
  have hd : l.drop (k / 8) = l.getD (k / 8) 0 :: l.drop (k / 8 + 1) := by
    rw [List.drop_eq_getElem_cons h, List.getD_eq_getElem?_getD, List.getElem?_eq_getElem h]
    rfl
  rw [hd, numL]
  have hr : k % 8 < 8 := Nat.mod_lt _ (by decide)
  have h256 : (256 : Nat) * numL (l.drop (k / 8 + 1)) = 2 ^ (k % 8) * (2 * (2 ^ (7 - k % 8) * numL (l.drop (k / 8 + 1)))) := by
    have : (256 : Nat) = 2 ^ (k % 8) * (2 * 2 ^ (7 - k % 8)) := by
      rw [← Nat.pow_succ', ← Nat.pow_add, show k % 8 + (7 - k % 8).succ = 8 by omega]
    rw [this]
    simp only [Nat.mul_assoc]
  rw [h256, Nat.add_mul_div_left _ _ (Nat.two_pow_pos _), Nat.add_mul_mod_self_left]
theorem bit_past (l : List UInt8) (k : Nat) (h : l.length ≤ k / 8) : numL l / 2 ^ k % 2 = 0 := by
  have hlt := num_lt l
  rw [Nat.div_eq_of_lt (Nat.lt_of_lt_of_le hlt (Nat.pow_le_pow_right (by decide) (by omega)))]
theorem bit_step (N i t : Nat) (h : t < 5) : 2 * (N / 2 ^ (5 * i + (5 - t)) % 2 ^ t) + N / 2 ^ (5 * i + (4 - t)) % 2 = N / 2 ^ (5 * i + (5 - (t + 1))) % 2 ^ (t + 1) := by
  have e1 : 5 * i + (5 - t) = (5 * i + (4 - t)) + 1 := by omega
  have e2 : 5 * i + (5 - (t + 1)) = 5 * i + (4 - t) := by omega
  rw [e1, e2, Nat.pow_succ 2 (5 * i + (4 - t)), ← Nat.div_div_eq_div_mul, Nat.pow_succ' , Nat.mod_mul]
  omega
theorem and1 (c : UInt8) (k : Nat) (hk : k < 8) : bw .and .i64 (IntKind.i64.wrap ((c.toNat : Int).fdiv (2 ^ k))) 1 = ((c.toNat / 2 ^ k % 2 : Nat) : Int) := by
  have : ∀ (x : Fin 256) (k : Fin 8), bw .and .i64 (IntKind.i64.wrap ((x.val : Int).fdiv (2 ^ k.val))) 1 = ((x.val / 2 ^ k.val % 2 : Nat) : Int) := by decide +kernel
  exact this ⟨c.toNat, c.toNat_lt⟩ ⟨k, hk⟩
/-! arguments under a test -/
theorem args0 {env : Env} : (#[] : Array Operand).toList.map (ev env) = [] := by simp
theorem args1 {env : Env} {x0 : Operand} {u0 : Value} (h0 : ev env x0 = u0) : (#[x0] : Array Operand).toList.map (ev env) = [u0] := by simp [h0]
theorem args2 {env : Env} {x0 x1 : Operand} {u0 u1 : Value} (h0 : ev env x0 = u0) (h1 : ev env x1 = u1) : (#[x0, x1] : Array Operand).toList.map (ev env) = [u0, u1] := by simp [h0, h1]
theorem args3 {env : Env} {x0 x1 x2 : Operand} {u0 u1 u2 : Value} (h0 : ev env x0 = u0) (h1 : ev env x1 = u1) (h2 : ev env x2 = u2) : (#[x0, x1, x2] : Array Operand).toList.map (ev env) = [u0, u1, u2] := by simp [h0, h1, h2]
theorem args4 {env : Env} {x0 x1 x2 x3 : Operand} {u0 u1 u2 u3 : Value} (h0 : ev env x0 = u0) (h1 : ev env x1 = u1) (h2 : ev env x2 = u2) (h3 : ev env x3 = u3) : (#[x0, x1, x2, x3] : Array Operand).toList.map (ev env) = [u0, u1, u2, u3] := by simp [h0, h1, h2, h3]
theorem args5 {env : Env} {x0 x1 x2 x3 x4 : Operand} {u0 u1 u2 u3 u4 : Value} (h0 : ev env x0 = u0) (h1 : ev env x1 = u1) (h2 : ev env x2 = u2) (h3 : ev env x3 = u3) (h4 : ev env x4 = u4) : (#[x0, x1, x2, x3, x4] : Array Operand).toList.map (ev env) = [u0, u1, u2, u3, u4] := by simp [h0, h1, h2, h3, h4]
theorem args6 {env : Env} {x0 x1 x2 x3 x4 x5 : Operand} {u0 u1 u2 u3 u4 u5 : Value} (h0 : ev env x0 = u0) (h1 : ev env x1 = u1) (h2 : ev env x2 = u2) (h3 : ev env x3 = u3) (h4 : ev env x4 = u4) (h5 : ev env x5 = u5) : (#[x0, x1, x2, x3, x4, x5] : Array Operand).toList.map (ev env) = [u0, u1, u2, u3, u4, u5] := by simp [h0, h1, h2, h3, h4, h5]
end Go.Sx
