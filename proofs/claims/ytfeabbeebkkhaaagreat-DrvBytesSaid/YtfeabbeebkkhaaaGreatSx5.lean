/- Rules for single operations. -/
import Derived.Test.YtfeabbeebkkhaaaGreatSx4
import Derived.IntWalk
import Derived.Laws.Sem
import Derived.Laws.Strings
import Derived.Laws.Entries
namespace Go.Sx
open Go
set_option linter.unusedVariables false
set_option linter.unusedSimpArgs false
variable {P : Program} {R : Ending → World → Prop} {env : Env} {b : Base} {S : List SH} {B : JB} {T : Tree} {v : Value} {ty : TypeId}

theorem qs_move {x : Operand} (h : ev env x = v) : QS P (O (.move x) ty) env b S v := qs_run fun w => by subst h; rfl
theorem qs_assign {x : Operand} (h : ev env x = v) : QS P (O (.assign x) ty) env b S v := qs_run fun w => by subst h; rfl
theorem qs_mc : QS P (O (.move (.const v)) ty) env b S v := qs_move rfl
theorem qs_ac : QS P (O (.assign (.const v)) ty) env b S v := qs_assign rfl
theorem qs_mt {i : Nat} (h : env[i]? = some v) : QS P (O (.move (.tmp i)) ty) env b S v := qs_move (by simp [ev, h])
theorem qs_at {i : Nat} (h : env[i]? = some v) : QS P (O (.assign (.tmp i)) ty) env b S v := qs_assign (by simp [ev, h])
theorem qs_pick {c x y : Operand} {b0 : Bool} {u v : Value} (hc : ev env c = .bool b0) (hx : ev env x = u) (hy : ev env y = v) : QS P (O (.pick c x y) ty) env b S (if b0 then u else v) := qs_run fun w => by
  simp only [O, execOp, hc, hx, hy, asBool, Sem.run_bind, Sem.run_pure, Result.andThen_ok]
/-- 'x || y' out of a test and what stands under it -/
theorem qs_or {c x : Operand} {b0 b1 : Bool} (hc : ev env c = .bool b0) (hx : ev env x = gd b0 false (.bool b1)) : QS P (O (.pick c (.const (.bool true)) x) ty) env b S (.bool (b0 || b1)) := by
  have := qs_pick (P := P) (b := b) (S := S) (ty := ty) (y := x) (x := .const (.bool true)) hc rfl hx
  cases b0 <;> simpa [gd, ev] using this
theorem qs_and {c x : Operand} {b0 b1 : Bool} (hc : ev env c = .bool b0) (hx : ev env x = gd b0 true (.bool b1)) : QS P (O (.pick c x (.const (.bool false))) ty) env b S (.bool (b0 && b1)) := by
  have := qs_pick (P := P) (b := b) (S := S) (ty := ty) (x := x) (y := .const (.bool false)) hc hx rfl
  cases b0 <;> simpa [gd, ev] using this

/-! whole numbers -/
theorem run_int {op : BinOp} {t t' : TypeId} {x y : Operand} {k : IntKind} {m n : Int} (hx : ev env x = .int k m) (hy : ev env y = .int k n) (hop : op ≠ .shl ∧ op ≠ .shr) (w : World) :
    (execOp (ev env) (O (.binOp op t x y t') ty)).run P w = ((match op with
      | .add | .sub | .mul => Op.intArith op k m n
      | .quo | .rem => Op.intDiv op k m n
      | .and | .or | .xor | .andNot => Op.intBits op k m n
      | _ => Op.intCmp op m n : Sem Value).run P w).andThen fun v w => .ok (.value v) w := by
  have hg : (eqGuard op t x y (.int k m) (.int k n)) = pure () := by
    unfold eqGuard
    split <;> rfl
  simp only [O, execOp, hx, hy, hg, Sem.run_bind, Sem.run_pure, Result.andThen_ok]
  obtain ⟨h1, h2⟩ := hop
  cases op <;> first | exact absurd rfl h1 | exact absurd rfl h2 | simp [binOp, Sem.run_bind, Sem.run_pure]
section
variable {t t' : TypeId} {x y : Operand} {k : IntKind} {m n : Int}
theorem qs_add (hx : ev env x = .int k m) (hy : ev env y = .int k n) : QS P (O (.binOp .add t x y t') ty) env b S (.int k (k.wrap (m + n))) := qs_run fun w => by rw [run_int hx hy (by simp) w]; rfl
theorem qs_sub (hx : ev env x = .int k m) (hy : ev env y = .int k n) : QS P (O (.binOp .sub t x y t') ty) env b S (.int k (k.wrap (m - n))) := qs_run fun w => by rw [run_int hx hy (by simp) w]; rfl
theorem qs_mul (hx : ev env x = .int k m) (hy : ev env y = .int k n) : QS P (O (.binOp .mul t x y t') ty) env b S (.int k (k.wrap (m * n))) := qs_run fun w => by rw [run_int hx hy (by simp) w]; rfl
theorem qs_quo (hx : ev env x = .int k m) (hy : ev env y = .int k n) (h0 : n ≠ 0) : QS P (O (.binOp .quo t x y t') ty) env b S (.int k (k.wrap (m.tdiv n))) := qs_run fun w => by rw [run_int hx hy (by simp) w]; simp only [Op.intDiv, if_neg h0]; rfl
theorem qs_rem (hx : ev env x = .int k m) (hy : ev env y = .int k n) (h0 : n ≠ 0) : QS P (O (.binOp .rem t x y t') ty) env b S (.int k (m.tmod n)) := qs_run fun w => by rw [run_int hx hy (by simp) w]; simp only [Op.intDiv, if_neg h0]; rfl
theorem qs_eql (hx : ev env x = .int k m) (hy : ev env y = .int k n) : QS P (O (.binOp .eql t x y t') ty) env b S (.bool (m == n)) := qs_run fun w => by rw [run_int hx hy (by simp) w]; rfl
theorem qs_neq (hx : ev env x = .int k m) (hy : ev env y = .int k n) : QS P (O (.binOp .neq t x y t') ty) env b S (.bool (m != n)) := qs_run fun w => by rw [run_int hx hy (by simp) w]; rfl
theorem qs_lss (hx : ev env x = .int k m) (hy : ev env y = .int k n) : QS P (O (.binOp .lss t x y t') ty) env b S (.bool (m < n)) := qs_run fun w => by rw [run_int hx hy (by simp) w]; rfl
theorem qs_leq (hx : ev env x = .int k m) (hy : ev env y = .int k n) : QS P (O (.binOp .leq t x y t') ty) env b S (.bool (m ≤ n)) := qs_run fun w => by rw [run_int hx hy (by simp) w]; rfl
theorem qs_gtr (hx : ev env x = .int k m) (hy : ev env y = .int k n) : QS P (O (.binOp .gtr t x y t') ty) env b S (.bool (m > n)) := qs_run fun w => by rw [run_int hx hy (by simp) w]; rfl
theorem qs_geq (hx : ev env x = .int k m) (hy : ev env y = .int k n) : QS P (O (.binOp .geq t x y t') ty) env b S (.bool (m ≥ n)) := qs_run fun w => by rw [run_int hx hy (by simp) w]; rfl
/-- bits, as the model reckons them -/
def bw (op : BinOp) (k : IntKind) (m n : Int) : Int :=
  k.wrap (match op with | .and => BitVec.ofInt k.bits m &&& BitVec.ofInt k.bits n | .or => BitVec.ofInt k.bits m ||| BitVec.ofInt k.bits n | .xor => BitVec.ofInt k.bits m ^^^ BitVec.ofInt k.bits n | _ => BitVec.ofInt k.bits m &&& ~~~BitVec.ofInt k.bits n).toNat
theorem qs_and_ (hx : ev env x = .int k m) (hy : ev env y = .int k n) : QS P (O (.binOp .and t x y t') ty) env b S (.int k (bw .and k m n)) := qs_run fun w => by rw [run_int hx hy (by simp) w]; rfl
theorem qs_or_ (hx : ev env x = .int k m) (hy : ev env y = .int k n) : QS P (O (.binOp .or t x y t') ty) env b S (.int k (bw .or k m n)) := qs_run fun w => by rw [run_int hx hy (by simp) w]; rfl
theorem qs_xor_ (hx : ev env x = .int k m) (hy : ev env y = .int k n) : QS P (O (.binOp .xor t x y t') ty) env b S (.int k (bw .xor k m n)) := qs_run fun w => by rw [run_int hx hy (by simp) w]; rfl
theorem qs_andnot_ (hx : ev env x = .int k m) (hy : ev env y = .int k n) : QS P (O (.binOp .andNot t x y t') ty) env b S (.int k (bw .andNot k m n)) := qs_run fun w => by rw [run_int hx hy (by simp) w]; rfl
theorem qs_shl {k' : IntKind} (hx : ev env x = .int k m) (hy : ev env y = .int k' n) (h0 : 0 ≤ n) : QS P (O (.binOp .shl t x y t') ty) env b S (.int k (k.wrap (m * 2 ^ min n.toNat k.bits))) := qs_run fun w => by
  have h1 : ¬ n < 0 := by omega
  simp only [O, execOp, hx, hy, eqGuard, binOp, Op.shift, if_neg h1, Sem.run_bind, Sem.run_pure, Result.andThen_ok]
  rfl
theorem qs_shr {k' : IntKind} (hx : ev env x = .int k m) (hy : ev env y = .int k' n) (h0 : 0 ≤ n) : QS P (O (.binOp .shr t x y t') ty) env b S (.int k (m.fdiv (2 ^ min n.toNat k.bits))) := qs_run fun w => by
  have h1 : ¬ n < 0 := by omega
  simp only [O, execOp, hx, hy, eqGuard, binOp, Op.shift, if_neg h1, Sem.run_bind, Sem.run_pure, Result.andThen_ok]
  rfl
/-! an int's sums within bounds -/
theorem qs_add64 (hx : ev env x = .int .i64 m) (hy : ev env y = .int .i64 n) (h : -9223372036854775808 ≤ m + n ∧ m + n ≤ 9223372036854775807) : QS P (O (.binOp .add t x y t') ty) env b S (.int .i64 (m + n)) := by
  have := qs_add (P := P) (b := b) (S := S) (t := t) (t' := t') (ty := ty) hx hy
  rwa [IntWalk.i64_in _ h] at this
theorem qs_sub64 (hx : ev env x = .int .i64 m) (hy : ev env y = .int .i64 n) (h : -9223372036854775808 ≤ m - n ∧ m - n ≤ 9223372036854775807) : QS P (O (.binOp .sub t x y t') ty) env b S (.int .i64 (m - n)) := by
  have := qs_sub (P := P) (b := b) (S := S) (t := t) (t' := t') (ty := ty) hx hy
  rwa [IntWalk.i64_in _ h] at this
theorem qs_mul64 (hx : ev env x = .int .i64 m) (hy : ev env y = .int .i64 n) (h : -9223372036854775808 ≤ m * n ∧ m * n ≤ 9223372036854775807) : QS P (O (.binOp .mul t x y t') ty) env b S (.int .i64 (m * n)) := by
  have := qs_mul (P := P) (b := b) (S := S) (t := t) (t' := t') (ty := ty) hx hy
  rwa [IntWalk.i64_in _ h] at this
theorem qs_quo64 (hx : ev env x = .int .i64 m) (hy : ev env y = .int .i64 n) (h0 : 0 ≤ m) (h1 : 0 < n) (hm : m ≤ 9223372036854775807) : QS P (O (.binOp .quo t x y t') ty) env b S (.int .i64 (m / n)) := by
  have := qs_quo (P := P) (b := b) (S := S) (t := t) (t' := t') (ty := ty) hx hy (by omega)
  rw [Int.tdiv_eq_ediv_of_nonneg h0] at this
  have hb : 0 ≤ m / n := Int.ediv_nonneg h0 (by omega)
  have hc : m / n ≤ m := Int.ediv_le_self n h0
  rwa [IntWalk.i64_in _ ⟨by omega, by omega⟩] at this
theorem qs_rem64 (hx : ev env x = .int k m) (hy : ev env y = .int k n) (h0 : 0 ≤ m) (h1 : n ≠ 0) : QS P (O (.binOp .rem t x y t') ty) env b S (.int k (m % n)) := by
  have := qs_rem (P := P) (b := b) (S := S) (t := t) (t' := t') (ty := ty) hx hy h1
  rwa [Int.tmod_eq_emod_of_nonneg h0] at this
/-! one operand -/
theorem qs_not {b0 : Bool} (hx : ev env x = .bool b0) : QS P (O (.unOp .not t x) ty) env b S (.bool (!b0)) := qs_run fun w => by simp only [O, execOp, hx, Op.unary, Sem.run_bind, Sem.run_pure, Result.andThen_ok]
theorem qs_neg (hx : ev env x = .int k m) : QS P (O (.unOp .neg t x) ty) env b S (.int k (k.wrap (0 - m))) := qs_run fun w => by simp only [O, execOp, hx, Op.unary, Op.intArith, Sem.run_bind, Sem.run_pure, Result.andThen_ok]
theorem qs_inv (hx : ev env x = .int k m) : QS P (O (.unOp .xor t x) ty) env b S (.int k (bw .xor k (if k.signed then -1 else k.max) m)) := qs_run fun w => by simp only [O, execOp, hx, Op.unary, Op.intBits, Sem.run_bind, Sem.run_pure, Result.andThen_ok]; rfl
/-! conversions -/
theorem run_underlying_ok {d : TypeDesc} (h : P.underlying t = some d) (w : World) : (underlying t).run P w = .ok d w := by simp only [underlying, program, Sem.run_bind, Sem.run, Result.andThen_ok, h]; rfl
theorem qs_conv {d : TypeDesc} {k' : IntKind} (hs : P.underlying t = some d) (hd : P.underlying t' = some (.int k')) (hx : ev env x = .int k m) : QS P (O (.convert t t' x) ty) env b S (.int k' (k'.wrap m)) := qs_run fun w => by
  simp only [O, execOp, hx, convert, Sem.run_bind, run_underlying_ok hs, run_underlying_ok hd, Result.andThen_ok]
  rfl
theorem qs_convs {d : TypeDesc} {s : ByteArray} (hs : P.underlying t = some d) (hd : P.underlying t' = some .string) (hx : ev env x = .string s) : QS P (O (.convert t t' x) ty) env b S (.string s) := qs_run fun w => by
  simp only [O, execOp, hx, convert, Sem.run_bind, run_underlying_ok hs, run_underlying_ok hd, Result.andThen_ok]
  rfl
end

/-! ### strings -/
/-- a string by its bytes -/
def bs (l : List UInt8) : ByteArray := ⟨l.toArray⟩
theorem bs_toList (l : List UInt8) : (bs l).toList = l := by rw [ByteArray.toList_eq]; rfl
theorem bs_data (l : List UInt8) : (bs l).data.toList = l := rfl
theorem bs_size (l : List UInt8) : (bs l).size = l.length := rfl
theorem bs_of (s : ByteArray) : s = bs s.data.toList := by cases s; rfl
theorem bs_append (l m : List UInt8) : bs l ++ bs m = bs (l ++ m) := by
  have := bs_of (bs l ++ bs m)
  rw [this]
  congr 1
theorem bs_extract (l : List UInt8) (a z : Nat) : (bs l).extract a z = bs ((l.take z).drop a) := by
  have := bs_of ((bs l).extract a z)
  rw [this]
  congr 1
  rw [ByteArray.data_extract, bs]
  simp [List.drop_take]
theorem bs_get (l : List UInt8) (i : Nat) : (bs l)[i]? = l[i]? := by
  by_cases h : i < l.length
  · rw [getElem?_pos (bs l) i h, List.getElem?_eq_getElem h]
    rfl
  · rw [getElem?_neg (bs l) i h, List.getElem?_eq_none (by omega)]
theorem bs_inj {l m : List UInt8} (h : bs l = bs m) : l = m := by
  have := congrArg (fun s => s.data.toList) h
  simpa [bs] using this
section
variable {t t' : TypeId} {x y : Operand} {l l' : List UInt8}
theorem run_str {op : BinOp} {s u : ByteArray} (hx : ev env x = .string s) (hy : ev env y = .string u) (w : World) :
    (execOp (ev env) (O (.binOp op t x y t') ty)).run P w = ((Op.stringOp op s u).run P w).andThen fun v w => .ok (.value v) w := by
  have hg : (eqGuard op t x y (.string s) (.string u)) = pure () := by
    unfold eqGuard
    split <;> rfl
  simp only [O, execOp, hx, hy, hg, Sem.run_bind, Sem.run_pure, Result.andThen_ok]
  cases op <;> simp [binOp, Sem.run_bind, Sem.run_pure]
theorem qs_seql (hx : ev env x = .string (bs l)) (hy : ev env y = .string (bs l')) : QS P (O (.binOp .eql t x y t') ty) env b S (.bool (l == l')) := qs_run fun w => by rw [run_str hx hy w]; simp only [Op.stringOp, bs_toList]; rfl
theorem qs_sneq (hx : ev env x = .string (bs l)) (hy : ev env y = .string (bs l')) : QS P (O (.binOp .neq t x y t') ty) env b S (.bool (!(l == l'))) := qs_run fun w => by rw [run_str hx hy w]; simp only [Op.stringOp, bs_toList]; rfl
theorem qs_slss (hx : ev env x = .string (bs l)) (hy : ev env y = .string (bs l')) : QS P (O (.binOp .lss t x y t') ty) env b S (.bool (Op.bytesLess l l')) := qs_run fun w => by rw [run_str hx hy w]; simp only [Op.stringOp, bs_toList]; rfl
theorem qs_sleq (hx : ev env x = .string (bs l)) (hy : ev env y = .string (bs l')) : QS P (O (.binOp .leq t x y t') ty) env b S (.bool (Op.bytesLess l l' || l == l')) := qs_run fun w => by rw [run_str hx hy w]; simp only [Op.stringOp, bs_toList]; rfl
theorem qs_sgtr (hx : ev env x = .string (bs l)) (hy : ev env y = .string (bs l')) : QS P (O (.binOp .gtr t x y t') ty) env b S (.bool (!(Op.bytesLess l l' || l == l'))) := qs_run fun w => by rw [run_str hx hy w]; simp only [Op.stringOp, bs_toList]; rfl
theorem qs_sadd (hx : ev env x = .string (bs l)) (hy : ev env y = .string (bs l')) (h : l.length + l'.length ≤ 9223372036854775807) : QS P (O (.binOp .add t x y t') ty) env b S (.string (bs (l ++ l'))) := qs_run fun w => by
  rw [run_str hx hy w]
  have h1 : ¬ ((((bs l).size + (bs l').size : Nat) : Int) > IntKind.i64.max) := by
    have : IntKind.i64.max = 9223372036854775807 := rfl
    rw [this, bs_size, bs_size]; omega
  simp only [Op.stringOp, if_neg h1, Sem.run_pure, Result.andThen_ok, bs_append]
theorem run_b1 {bi : Builtin} {t : TypeId} (w : World) : (execOp (ev env) (O (.call ⟨.builtin bi, #[x], #[t]⟩) ty)).run P w = (builtin bi #[t] ty #[match x with | .const _ => true | _ => false] #[ev env x]).run P w := by
  simp [O, execOp, resolve, invoke, Sem.run_bind, Sem.run_pure, Result.andThen_ok]
  cases x <;> rfl
theorem qs_lens (ht : P.underlying t = some .string) (hx : ev env x = .string (bs l)) : QS P (O (.call ⟨.builtin .len, #[x], #[t]⟩) ty) env b S (.int .i64 l.length) := qs_run fun w => by
  rw [run_b1 w, hx]
  simp only [builtin, Builtin.len_, Sem.run_bind, run_underlying_ok ht, Result.andThen_ok, List.getElem?_toArray, List.getElem?_cons_zero]
  rfl
theorem qs_lenl {e : TypeId} {A : Option Addr} {n c : Nat} (ht : P.underlying t = some (.slice e)) (hx : ev env x = .slice A n c) : QS P (O (.call ⟨.builtin .len, #[x], #[t]⟩) ty) env b S (.int .i64 n) := qs_run fun w => by
  rw [run_b1 w, hx]
  simp only [builtin, Builtin.len_, Sem.run_bind, run_underlying_ok ht, Result.andThen_ok, List.getElem?_toArray, List.getElem?_cons_zero]
  rfl
theorem qs_lena {e : TypeId} {n : Nat} (ht : P.underlying t = some (.array n e)) : QS P (O (.call ⟨.builtin .len, #[x], #[t]⟩) ty) env b S (.int .i64 n) := qs_run fun w => by
  rw [run_b1 w]
  simp only [builtin, Builtin.len_, Sem.run_bind, run_underlying_ok ht, Result.andThen_ok, List.getElem?_toArray, List.getElem?_cons_zero]
  rfl
/-- s[i] -/
theorem qs_idxs {k : IntKind} {m : Int} {c : UInt8} (ht : P.underlying t = some .string) (hx : ev env x = .string (bs l)) (hy : ev env y = .int k m) (h0 : 0 ≤ m) (h : l[m.toNat]? = some c) : QS P (O (.index t x y) ty) env b S (.int .u8 (c.toNat : Int)) := qs_run fun w => by
  simp only [O, execOp, hx, hy, Instr.index, asIntOf, Sem.run_bind, Sem.run_pure, Result.andThen_ok, run_underlying_ok ht, if_pos h0, bs_get, h]
theorem qs_idx {k : IntKind} {m : Int} (ht : P.underlying t = some .string) (hx : ev env x = .string (bs l)) (hy : ev env y = .int k m) (h : 0 ≤ m ∧ m < l.length) : QS P (O (.index t x y) ty) env b S (.int .u8 ((l.getD m.toNat 0).toNat : Int)) :=
  qs_idxs ht hx hy h.1 (by
    have : m.toNat < l.length := by omega
    simp [this])

theorem run_bound {k : IntKind} {n y : Nat} {code : BoundsCode} (h : n ≤ y) (w : World) : (Instr.sliceBound (.int k (n : Int)) y code).run P w = .ok n w := by
  have hb : (0 : Int) ≤ (n : Int) ∧ (n : Int) ≤ (y : Int) := by omega
  simp only [Instr.sliceBound, asIntOf, Sem.run_bind, Sem.run_pure, Result.andThen_ok, if_pos hb, Int.toNat_natCast]
/-- an optional bound -/
def bd (env : Env) (o : Option Operand) (n d : Nat) : Prop := match o with | some x => ∃ k, ev env x = .int k (n : Int) | none => n = d
theorem run_bounds {isS : Bool} {len cap : Nat} {lo hi : Option Operand} {a z : Nat} (hlo : bd env lo a 0) (hhi : bd env hi z len) (h1 : a ≤ z) (h2 : z ≤ cap) (w : World) :
    (Instr.sliceBounds isS len cap (lo.map (ev env)) (hi.map (ev env)) none).run P w = .ok (a, z, cap) w := by
  unfold bd at hlo hhi
  cases lo with
  | none =>
    simp only at hlo
    subst hlo
    cases hi with
    | none =>
      simp only at hhi
      subst hhi
      simp [Instr.sliceBounds, Sem.run_bind, Sem.run_pure]
    | some h =>
      obtain ⟨k, hk⟩ := hhi
      simp [Instr.sliceBounds, hk, run_bound h2, Sem.run_bind, Sem.run_pure]
  | some l =>
    obtain ⟨k0, hk0⟩ := hlo
    cases hi with
    | none =>
      simp only at hhi
      subst hhi
      simp [Instr.sliceBounds, hk0, run_bound h1, Sem.run_bind, Sem.run_pure]
    | some h =>
      obtain ⟨k, hk⟩ := hhi
      simp [Instr.sliceBounds, hk, hk0, run_bound h2, run_bound h1, Sem.run_bind, Sem.run_pure]
/-- s[lo:hi] of a string -/
theorem qs_cuts {lo hi : Option Operand} {a z : Nat} (ht : P.underlying t = some .string) (hx : ev env x = .string (bs l)) (hlo : bd env lo a 0) (hhi : bd env hi z l.length) (h1 : a ≤ z) (h2 : z ≤ l.length) :
    QS P (O (.slice t x lo hi none) ty) env b S (.string (bs ((l.take z).drop a))) := qs_run fun w => by
  simp only [O, execOp, hx, Instr.sliceAt, Instr.slice, Option.map_none, Option.isSome_none, Bool.false_eq_true, if_false, Sem.run_bind, Sem.run_pure, Result.andThen_ok, run_underlying_ok ht, bs_size]
  rw [run_bounds hlo hhi h1 h2]
  simp only [Result.andThen_ok, Sem.run_pure, bs_extract]
/-- s[lo:hi] of a slice -/
theorem qs_cutl {e : TypeId} {lo hi : Option Operand} {a z n c sz : Nat} {A : Option Addr} (ht : P.underlying t = some (.slice e)) (hz : (P.info? e).map (·.size) = some sz) (hx : ev env x = .slice A n c) (hlo : bd env lo a 0) (hhi : bd env hi z n) (h1 : a ≤ z) (h2 : z ≤ c) :
    QS P (O (.slice t x lo hi none) ty) env b S (.slice (if c = a then A else A.map (·.add (a * sz))) (z - a) (c - a)) := qs_run fun w => by
  have hz' : ∀ w, (sizeOf e).run P w = .ok sz w := fun w => by
    obtain ⟨i, hi, rfl⟩ := Option.map_eq_some_iff.1 hz
    simp only [sizeOf, typeInfo, program, Sem.run_bind, Sem.run, Result.andThen_ok, hi]
    rfl
  simp only [O, execOp, hx, Instr.sliceAt, Instr.slice, Option.map_none, Sem.run_bind, Sem.run_pure, Result.andThen_ok, run_underlying_ok ht]
  rw [run_bounds hlo hhi h1 h2]
  simp only [Result.andThen_ok, Sem.run_pure, hz', Sem.run_bind]
end

/-! ### cells -/
theorem run_sizeOf_ok {t : TypeId} {n : Nat} (h : (P.info? t).map (·.size) = some n) (w : World) : (sizeOf t).run P w = .ok n w := by
  obtain ⟨i, hi, rfl⟩ := Option.map_eq_some_iff.1 h
  simp only [sizeOf, typeInfo, program, Sem.run_bind, Sem.run, Result.andThen_ok, hi]
  rfl
def flat : TypeDesc → Bool
  | .struct _ | .array _ _ => false
  | _ => true
theorem run_load_ok {a : Addr} {w : World} (h : w.cell? a = some v) : (load a).run P w = .ok v w := by
  simp only [load, Sem.run, h]
theorem run_loadVar_flat {t : TypeId} {d : TypeDesc} (hu : P.underlying t = some d) (hd : flat d = true) {a : Addr} {w : World} (h : w.cell? a = some v) : (loadVar t a).run P w = .ok v w := by
  have : (isAgg t).run P w = .ok false w := by
    simp only [isAgg, Sem.run_bind, run_underlying_ok hu, Result.andThen_ok]
    cases d <;> first | rfl | cases hd
  simp only [loadVar, Sem.run_bind, this, Result.andThen_ok, Bool.false_eq_true, if_false, run_load_ok h]
theorem cell_of {w : World} {g i : Nat} {l : List Value} {e : TypeId} {fz : Nat × Nat} (h : w.heap[g]? = some (.cells l.toArray e fz)) : w.cell? ⟨g, i, none⟩ = l[i]? := by
  simp [World.cell?, h]
theorem Sig.at_ {b : Base} {w : World} (hw : Sig b S w) {k g : Nat} {o : Obj} (hk : S[k]? = some [(g, o)]) : w.heap[g]? = some o := hw.own (g, o) (mem_flatten_of hk (by simp))

/-- a load out of a block that is owned -/
theorem qs_load {t : TypeId} {d : TypeDesc} {x : Operand} {g i : Nat} {l : List Value} {e : TypeId} {fz : Nat × Nat} (k : Nat) (hu : P.underlying t = some d) (hd : flat d = true) (hx : ev env x = .pointer (some ⟨g, i, none⟩))
    (hk : S[k]? = some [(g, .cells l.toArray e fz)]) (hi : l[i]? = some v) : QS P (O (.load t x) ty) env b S v := qs_val fun w hw => by
  have h := cell_of (i := i) (hw.at_ hk)
  rw [hi] at h
  simp only [O, execOp, hx, Instr.loadAt, Instr.sureAddr, Sem.run_bind, Sem.run_pure, Result.andThen_ok, run_loadVar_flat hu hd h]
/-- a load out of what was there from the first, and is not written -/
theorem Sig.ro {b : Base} {w : World} (hw : Sig b S w) {a : Addr} (h : b.w0.cell? a = some v) (hD : a.block ∉ b.D) : w.cell? a = some v := by
  have hlt : a.block < b.w0.heap.size := by
    unfold World.cell? at h
    split at h
    · rename_i h1; exact lt_of_get h1
    · cases h
  unfold World.cell? at *
  rw [hw.frame _ hlt hD]
  exact h
theorem qs_loadr {t : TypeId} {d : TypeDesc} {x : Operand} {a : Addr} (hu : P.underlying t = some d) (hd : flat d = true) (hx : ev env x = .pointer (some a)) (h : b.w0.cell? a = some v) (hD : a.block ∉ b.D) :
    QS P (O (.load t x) ty) env b S v := qs_val fun w hw => by
  simp only [O, execOp, hx, Instr.loadAt, Instr.sureAddr, Sem.run_bind, Sem.run_pure, Result.andThen_ok, run_loadVar_flat hu hd (hw.ro h hD)]

theorem run_loadCellsFrom {w : World} {a : Addr} : ∀ (n i : Nat) (acc : Array Value) (l : List Value), l.length = n → (∀ j, j < n → w.cell? (a.add (i + j)) = l[j]?) → (loadCellsFrom a i n acc).run P w = .ok (acc ++ l.toArray) w
  | 0, i, acc, l, hl, _ => by
    have : l = [] := List.eq_nil_of_length_eq_zero hl
    subst this
    simp [loadCellsFrom, Sem.run_pure]
  | n + 1, i, acc, l, hl, h => by
    match l, hl with
    | v :: l, hl =>
      have h0 := h 0 (by omega)
      simp only [Nat.add_zero, List.getElem?_cons_zero] at h0
      have ih := run_loadCellsFrom n (i + 1) (acc.push v) l (by simpa using hl) (fun j hj => by
        have := h (j + 1) (by omega)
        rw [show i + (j + 1) = i + 1 + j by omega] at this
        simpa using this)
      simp only [loadCellsFrom, Sem.run_bind, run_load_ok h0, Result.andThen_ok, ih]
      simp
theorem run_loadCells {w : World} {a : Addr} {n : Nat} {l : List Value} (hl : l.length = n) (h : ∀ j, j < n → w.cell? (a.add j) = l[j]?) : (loadCells a n).run P w = .ok l.toArray w := by
  have := run_loadCellsFrom (P := P) (w := w) (a := a) n 0 #[] l hl (by simpa using h)
  simpa [loadCells] using this
theorem add_off (g off j : Nat) : (⟨g, off, none⟩ : Addr).add j = ⟨g, off + j, none⟩ := by
  unfold Addr.add
  split
  · rename_i h; subst h; simp
  · rfl
theorem run_loadVar_agg {t : TypeId} {d : TypeDesc} {n : Nat} (hu : P.underlying t = some d) (hd : flat d = false) (hz : (P.info? t).map (·.size) = some n) {g off : Nat} {w : World} {l : List Value} (hl : l.length = n)
    (h : ∀ j, j < n → w.cell? ⟨g, off + j, none⟩ = l[j]?) : (loadVar t ⟨g, off, none⟩).run P w = .ok (.agg l.toArray) w := by
  have : (isAgg t).run P w = .ok true w := by
    simp only [isAgg, Sem.run_bind, run_underlying_ok hu, Result.andThen_ok]
    cases d <;> first | rfl | cases hd
  have h2 := run_loadCells (P := P) (w := w) (a := ⟨g, off, none⟩) hl (fun j hj => by rw [add_off]; exact h j hj)
  simp only [loadVar, Sem.run_bind, this, Result.andThen_ok, if_true, run_sizeOf_ok hz, h2, Sem.run_pure]
/-- a load of a struct or an array -/
theorem qs_loada {t : TypeId} {d : TypeDesc} {x : Operand} {g i n : Nat} {l : List Value} {e : TypeId} {fz : Nat × Nat} (k : Nat) (hu : P.underlying t = some d) (hd : flat d = false) (hz : (P.info? t).map (·.size) = some n) (hx : ev env x = .pointer (some ⟨g, i, none⟩))
    (hk : S[k]? = some [(g, .cells l.toArray e fz)]) (hi : i + n ≤ l.length) : QS P (O (.load t x) ty) env b S (.agg ((l.drop i).take n).toArray) := qs_val fun w hw => by
  have h := fun j => cell_of (i := j) (hw.at_ hk)
  have := run_loadVar_agg (P := P) (w := w) (g := g) (off := i) (l := (l.drop i).take n) hu hd hz (by simp; omega) (fun j hj => by
    rw [h (i + j), List.getElem?_take_of_lt hj, List.getElem?_drop])
  simp only [O, execOp, hx, Instr.loadAt, Instr.sureAddr, Sem.run_bind, Sem.run_pure, Result.andThen_ok, this]
theorem qs_loadw {t : TypeId} {d : TypeDesc} {x : Operand} {g n : Nat} {l : List Value} {e : TypeId} {fz : Nat × Nat} (k : Nat) (hu : P.underlying t = some d) (hd : flat d = false) (hz : (P.info? t).map (·.size) = some n) (hx : ev env x = .pointer (some ⟨g, 0, none⟩))
    (hk : S[k]? = some [(g, .cells l.toArray e fz)]) (hi : l.length = n) : QS P (O (.load t x) ty) env b S (.agg l.toArray) := by
  have := qs_loada (P := P) (b := b) (ty := ty) k hu hd hz hx hk (by omega)
  rwa [List.drop_zero, List.take_of_length_le (by omega)] at this

/-! ### stores -/
def oneV : Value → Bool
  | .agg _ | .tuple _ => false
  | _ => true
theorem cells_of_one {v : Value} (h : oneV v = true) : v.cells = #[v] := by cases v <;> first | rfl | cases h
theorem run_store_ok {w : World} {g i : Nat} {l : List Value} {e : TypeId} {fz : Nat × Nat} (h : w.heap[g]? = some (.cells l.toArray e fz)) (hi : i < l.length) (hf : ¬ (fz.1 ≤ i ∧ i < fz.2)) (hv : oneV v = true) :
    (store ⟨g, i, none⟩ v).run P w = .ok () (w.setCell ⟨g, i, none⟩ v) := by
  have hc := cell_of (i := i) h
  rw [List.getElem?_eq_getElem hi] at hc
  have hfr : w.frozen? ⟨g, i, none⟩ = false := by
    unfold World.frozen?
    simp only [h]
    simpa using hf
  have hv' : v.oneCell' = true := by cases v <;> first | rfl | cases hv
  rw [run_store P w _ v _ hv']
  simp only [hc, hfr, Bool.false_eq_true, if_false]
theorem heap_setCell {w : World} {g i : Nat} {l : List Value} {e : TypeId} {fz : Nat × Nat} (h : w.heap[g]? = some (.cells l.toArray e fz)) (v : Value) :
    (w.setCell ⟨g, i, none⟩ v).heap[g]? = some (.cells (l.set i v).toArray e fz) ∧ (∀ j, j ≠ g → (w.setCell ⟨g, i, none⟩ v).heap[j]? = w.heap[j]?) ∧ (w.setCell ⟨g, i, none⟩ v).heap.size = w.heap.size := by
  refine ⟨?_, fun j hj => ?_, ?_⟩
  · simp [World.setCell, Array.getElem?_modify, h]
  · simp only [World.setCell, Array.getElem?_modify]
    rw [if_neg (fun e => hj e.symm)]
  · simp [World.setCell]
theorem run_storeCells_ok {g : Nat} {e : TypeId} {fz : Nat × Nat} : ∀ (vs : List Value) (off i : Nat) (l : List Value) (w : World), w.heap[g]? = some (.cells l.toArray e fz) → off + i + vs.length ≤ l.length → (∀ j, off + i ≤ j → j < off + i + vs.length → ¬ (fz.1 ≤ j ∧ j < fz.2)) → (∀ v ∈ vs, oneV v = true) →
    ∃ w', (storeCells ⟨g, off, none⟩ vs i).run P w = .ok () w' ∧ w'.os = w.os ∧ w'.tape = w.tape ∧ w'.output = w.output ∧ w'.heap.size = w.heap.size ∧ w'.heap[g]? = some (.cells (l.take (off + i) ++ vs ++ l.drop (off + i + vs.length)).toArray e fz) ∧ ∀ j, j ≠ g → w'.heap[j]? = w.heap[j]?
  | [], off, i, l, w, h, hl, _, _ => ⟨w, rfl, rfl, rfl, rfl, rfl, by simpa using h, fun _ _ => rfl⟩
  | v :: vs, off, i, l, w, h, hl, hf, hv => by
    simp only [List.length_cons] at hl hf
    have h1 := run_store_ok (P := P) h (i := off + i) (by omega) (hf (off + i) (by omega) (by omega)) (hv v (by simp))
    obtain ⟨g1, g2, g3⟩ := heap_setCell (i := off + i) h v
    obtain ⟨w', e1, e2, e3, e4, e5, e6, e7⟩ := run_storeCells_ok vs off (i + 1) (l.set (off + i) v) _ g1 (by simp; omega) (fun j h1 h2 => hf j (by omega) (by omega)) (fun u hu => hv u (by simp [hu]))
    refine ⟨w', ?_, e2.trans rfl, e3.trans rfl, e4.trans rfl, e5.trans g3, ?_, fun j hj => (e7 j hj).trans (g2 j hj)⟩
    · simp only [storeCells, add_off, Sem.run_bind, h1, Result.andThen_ok, e1]
    · rw [e6]
      have hlt : off + i < l.length := by omega
      have : (l.set (off + i) v).take (off + (i + 1)) ++ vs ++ (l.set (off + i) v).drop (off + (i + 1) + vs.length) = l.take (off + i) ++ v :: vs ++ l.drop (off + i + (vs.length + 1)) := by
        rw [show off + (i + 1) = off + i + 1 by omega, List.take_succ_eq_append_getElem (by simpa using hlt), List.take_set_of_le (Nat.le_refl _), List.getElem_set_self, List.drop_set_of_lt (by omega)]
        simp [show off + i + 1 + vs.length = off + i + (vs.length + 1) by omega]
      rw [this]
      rfl
/-- the store of a value of one cell -/
theorem j_store {t : TypeId} {x y : Operand} {g i : Nat} {l : List Value} {e : TypeId} {fz : Nat × Nat} (k : Nat) (hz : (P.info? t).map (·.size) = some 1) (hx : ev env x = .pointer (some ⟨g, i, none⟩)) (hy : ev env y = v) (hv : oneV v = true)
    (hk : S[k]? = some [(g, .cells l.toArray e fz)]) (hi : i < l.length) (hf : ¬ (fz.1 ≤ i ∧ i < fz.2)) (h : J P R T (undef :: env) (S.set k [(g, .cells (l.set i v).toArray e fz)]) b B) : J P R (.op (O (.store t x y) ty) T) env S b B := fun w hw => by
  have hg := hw.at_ hk
  have h1 := run_store_ok (P := P) hg hi hf hv
  obtain ⟨g1, g2, g3⟩ := heap_setCell (i := i) hg v
  have hc : v.cells = #[v] := cells_of_one hv
  have hrun : (execOp (ev env) (O (.store t x y) ty)).run P w = .ok .skip (w.setCell ⟨g, i, none⟩ v) := by
    simp only [O, execOp, hx, hy, Instr.storeAt, Instr.sureAddr, storeVar, hc, Sem.run_bind, Sem.run_pure, Result.andThen_ok, run_sizeOf_ok hz, List.size_toArray, List.length_cons, List.length_nil, Nat.zero_add, ne_eq, not_true_eq_false, if_false, storeCells, add_off, Nat.add_zero, h1]
  show opW _ _ _ _ _ _
  unfold opW
  rw [hrun]
  exact h _ (hw.set hk rfl rfl rfl g3 g1 g2)
/-- the store of a struct or an array -/
theorem j_storea {t : TypeId} {x y : Operand} {g i n : Nat} {l vs : List Value} {e : TypeId} {fz : Nat × Nat} (k : Nat) (hz : (P.info? t).map (·.size) = some n) (hx : ev env x = .pointer (some ⟨g, i, none⟩)) (hy : ev env y = .agg vs.toArray) (hn : vs.length = n) (hv : ∀ v ∈ vs, oneV v = true)
    (hk : S[k]? = some [(g, .cells l.toArray e fz)]) (hi : i + n ≤ l.length) (hf : ∀ j, i ≤ j → j < i + n → ¬ (fz.1 ≤ j ∧ j < fz.2)) (h : J P R T (undef :: env) (S.set k [(g, .cells (l.take i ++ vs ++ l.drop (i + n)).toArray e fz)]) b B) : J P R (.op (O (.store t x y) ty) T) env S b B := fun w hw => by
  have hg := hw.at_ hk
  subst hn
  obtain ⟨w', e1, e2, e3, e4, e5, e6, e7⟩ := run_storeCells_ok (P := P) vs i 0 l w hg (by omega) (fun j h1 h2 => hf j (by omega) (by omega)) hv
  have hrun : (execOp (ev env) (O (.store t x y) ty)).run P w = .ok .skip w' := by
    simp only [O, execOp, hx, hy, Instr.storeAt, Instr.sureAddr, storeVar, Value.cells, Sem.run_bind, Sem.run_pure, Result.andThen_ok, run_sizeOf_ok hz, List.size_toArray, ne_eq, not_true_eq_false, if_false, e1]
  show opW _ _ _ _ _ _
  unfold opW
  rw [hrun]
  exact h _ (hw.set hk e2 e3 e4 e5 (by simpa using e6) e7)
theorem j_storew {t : TypeId} {x y : Operand} {g n : Nat} {l vs : List Value} {e : TypeId} (k : Nat) (hz : (P.info? t).map (·.size) = some n) (hx : ev env x = .pointer (some ⟨g, 0, none⟩)) (hy : ev env y = .agg vs.toArray) (hn : vs.length = n) (hv : ∀ v ∈ vs, oneV v = true)
    (hk : S[k]? = some [(g, .cells l.toArray e (0, 0))]) (hi : l.length = n) (h : J P R T (undef :: env) (S.set k [(g, .cells vs.toArray e (0, 0))]) b B) : J P R (.op (O (.store t x y) ty) T) env S b B := by
  refine j_storea k hz hx hy hn hv hk (by omega) (fun j _ _ h => by omega) ?_
  have : l.take 0 ++ vs ++ l.drop (0 + n) = vs := by simp [← hi]
  rw [this]
  exact h

/-! ### new blocks -/
/-- a type's zero, as cells -/
def zeroL (P : Program) (t : TypeId) : Option (List Value) := ((P.info? t).bind (·.zero)).map (·.cells.toList)
theorem run_zero_ok {t : TypeId} {l : List Value} (h : zeroL P t = some l) : ∃ z : Value, z.cells = l.toArray ∧ ∀ w, (zeroValue t).run P w = .ok z w := by
  unfold zeroL at h
  cases hi : P.info? t with
  | none => simp [hi] at h
  | some i =>
    cases hz : i.zero with
    | none => simp [hi, hz] at h
    | some z =>
      simp [hi, hz] at h
      subst h
      refine ⟨z, by simp, fun w => ?_⟩
      simp only [zeroValue, typeInfo, program, Sem.run_bind, Sem.run, Result.andThen_ok, hi, hz]
      simp only [Sem.run_bind, Sem.run_pure, Result.andThen_ok, hz]
theorem j_alloc {t : TypeId} {l : List Value} (hz : zeroL P t = some l) (h : ∀ g, b.w0.heap.size ≤ g → g ∉ dom S.flatten → J P R T (.pointer (some ⟨g, 0, none⟩) :: env) ([(g, .cells l.toArray t (0, 0))] :: S) b B) : J P R (.op (O (.alloc t) ty) T) env S b B := fun w hw => by
  obtain ⟨z, hz, hrun⟩ := run_zero_ok hz
  have e : (execOp (ev env) (O (.alloc t) ty)).run P w = .ok (.value (.pointer (some ⟨w.heap.size, 0, none⟩))) { w with heap := w.heap.push (.cells l.toArray t (0, 0)) } := by
    simp only [O, execOp, Instr.alloc, Sem.run_bind, hrun, Result.andThen_ok, newVar, newRow, newObj, hz, Sem.run, Sem.run_pure]
  show opW _ _ _ _ _ _
  unfold opW
  rw [e]
  obtain ⟨h1, h2, h3⟩ := hw.new (o := .cells l.toArray t (0, 0)) (w' := { w with heap := w.heap.push (.cells l.toArray t (0, 0)) }) rfl rfl rfl rfl
  exact h _ h3 h2 _ h1
theorem j_box {t : TypeId} {x : Operand} {l : List Value} (hx : (ev env x).cells = l.toArray) (h : ∀ g, b.w0.heap.size ≤ g → g ∉ dom S.flatten → J P R T (.pointer (some ⟨g, 0, none⟩) :: env) ([(g, .cells l.toArray t (0, 0))] :: S) b B) : J P R (.op (O (.box t x) ty) T) env S b B := fun w hw => by
  have e : (execOp (ev env) (O (.box t x) ty)).run P w = .ok (.value (.pointer (some ⟨w.heap.size, 0, none⟩))) { w with heap := w.heap.push (.cells l.toArray t (0, 0)) } := by
    simp only [O, execOp, Instr.box, Sem.run_bind, Result.andThen_ok, newVar, newRow, newObj, hx, Sem.run, Sem.run_pure]
  show opW _ _ _ _ _ _
  unfold opW
  rw [e]
  obtain ⟨h1, h2, h3⟩ := hw.new (o := .cells l.toArray t (0, 0)) (w' := { w with heap := w.heap.push (.cells l.toArray t (0, 0)) }) rfl rfl rfl rfl
  exact h _ h3 h2 _ h1

/-! ### addresses -/
theorem qs_nil {x : Operand} {a : Addr} (hx : ev env x = .pointer (some a)) : QS P (O (.nilCheck x) ty) env b S (.pointer (some a)) := qs_run fun w => by
  simp only [O, execOp, hx, Sem.run_pure]
theorem qs_ixa {t e : TypeId} {x y : Operand} {n sz g off : Nat} {k : IntKind} {m : Int} (ht : P.underlying t = some (.array n e)) (hz : (P.info? e).map (·.size) = some sz) (hx : ev env x = .pointer (some ⟨g, off, none⟩)) (hy : ev env y = .int k m) (h0 : 0 ≤ m) (h1 : m < n) :
    QS P (O (.indexAddr t x y) ty) env b S (.pointer (some ⟨g, off + m.toNat * sz, none⟩)) := qs_run fun w => by
  simp only [O, execOp, hx, hy, Instr.indexAt, asIntOf, Instr.sureAddr, Sem.run_bind, Sem.run_pure, Result.andThen_ok, run_underlying_ok ht, run_sizeOf_ok hz]
  rw [if_pos ⟨h0, h1⟩]
  simp only [Sem.run_bind, Sem.run_pure, Result.andThen_ok, run_sizeOf_ok hz, add_off]
theorem qs_ixl {t e : TypeId} {x y : Operand} {n c sz : Nat} {a : Addr} {k : IntKind} {m : Int} (ht : P.underlying t = some (.slice e)) (hz : (P.info? e).map (·.size) = some sz) (hx : ev env x = .slice (some a) n c) (hy : ev env y = .int k m) (h0 : 0 ≤ m) (h1 : m < n) :
    QS P (O (.indexAddr t x y) ty) env b S (.pointer (some (a.add (m.toNat * sz)))) := qs_run fun w => by
  simp only [O, execOp, hx, hy, Instr.indexAt, asIntOf, Instr.sureAddr, Sem.run_bind, Sem.run_pure, Result.andThen_ok, run_underlying_ok ht, run_sizeOf_ok hz]
  rw [if_pos ⟨h0, h1⟩]
  simp only [Sem.run_bind, Sem.run_pure, Result.andThen_ok, run_sizeOf_ok hz]
theorem qs_ext {x : Operand} {i : Nat} {vs : List Value} (hx : ev env x = .tuple vs.toArray) (hi : vs[i]? = some v) : QS P (O (.extract x i) ty) env b S v := qs_run fun w => by
  have : vs.toArray[i]? = some v := by simpa using hi
  simp only [O, execOp, hx, Instr.extract, this, Sem.run_bind, Sem.run_pure, Result.andThen_ok]
end Go.Sx
