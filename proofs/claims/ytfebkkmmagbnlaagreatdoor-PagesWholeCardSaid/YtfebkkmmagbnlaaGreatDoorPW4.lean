/- Part 4. -/
import Derived.Test.YtfebkkmmagbnlaaGreatDoorProg
import Derived.Test.YtfebkkmmagbnlaaGreatDoorPW3
import Derived.ProofKit
import Derived.Carry
import Derived.Laws.Externs
import Derived.Lib.Builder
import Derived.Lib.UnsafeStr
import Derived.Sort.Grow
import Derived.Sort.EncStr
import Derived.Maps.Keyed
import Derived.WideKeyArr
import Derived.Sort.KeysCollected
import Derived.ChangeSlices
import Derived.SizedLaws
import Derived.SliceStrings
import Derived.Laws.LoneSync
import Derived.LaidEql
/-! Fd4 -/
namespace Go.Proofs.YtfebkkmmagbnlaaGreatDoor
open Go Go.Sx
set_option maxRecDepth 100000
theorem sz59 : (Tryz.prog.info? 59).map (·.size) = some 1 := by kernel_rfl
theorem sz61 : (Tryz.prog.info? 61).map (·.size) = some 1 := by kernel_rfl
theorem sz107 : (Tryz.prog.info? 107).map (·.size) = some 1 := by kernel_rfl
theorem sz112 : (Tryz.prog.info? 112).map (·.size) = some 1 := by kernel_rfl
theorem sz114 : (Tryz.prog.info? 114).map (·.size) = some 2 := by kernel_rfl
theorem sz153 : (Tryz.prog.info? 153).map (·.size) = some 1 := by kernel_rfl
theorem zero5 : zeroL Tryz.prog 5 = some ([.int .u8 0]) := by kernel_rfl
theorem zero9 : zeroL Tryz.prog 9 = some ([.string (bs [])]) := by kernel_rfl
theorem zero63 : zeroL Tryz.prog 63 = some ([.int .i64 0, .pointer none, .pointer none, .slice none 0 0, .bool false, .int .i64 0]) := by kernel_rfl
theorem zero109 : zeroL Tryz.prog 109 = some ([.map none, .int .i64 0]) := by kernel_rfl
theorem zero114 : zeroL Tryz.prog 114 = some ([.slice none 0 0, .int .i32 0]) := by kernel_rfl
theorem zero153 : zeroL Tryz.prog 153 = some ([.nilFunc]) := by kernel_rfl
end Go.Proofs.YtfebkkmmagbnlaaGreatDoor
/-! Fd -/

/-! Fe -/

/-! Fc -/

/-! SxR -/
namespace Go.Sx
open Go Go.ChangeShapes Go.WideShapes Go.ChangeAt Go.RowKit
set_option linter.unusedVariables false
theorem trodAll_stays {H : Type} {enc : TypeId × Value → H} {P : Program} (hl : laidOutB P = true) {W W' : World} (hb : Below W.heap.size W W') : ∀ {ts : List TypeId} {vs : List Value} {ds : List (DataW H)} {ps : List MemPlace},
  (∀ t ∈ ts, P.readableRec t = true ∧ t < P.types.size) → DataW.TrodAll enc P W 0 (fun _ => true) true ts vs ds ps → (∀ x ∈ ps, x.block < W.heap.size) → DataW.TrodAll enc P W' 0 (fun b => decide (b < W.heap.size)) true ts vs ds ps
 | [], vs, ds, ps, _, h, _ => by
  obtain ⟨rfl, rfl, rfl⟩ := trodAll_nil h
  rfl
 | t :: ts, vs, ds, ps, ht, h, hlt => by
  obtain ⟨v, vs1, d, ds1, a, b, rfl, rfl, rfl, h1, h2⟩ := trodAll_cons h
  have h0 := ht t (by simp)
  exact ⟨a, b, Below.trod hl h0.1 h0.2 h1 hb (fun x hx => hlt x (List.mem_append_left _ hx)), trodAll_stays hl hb (fun t h => ht t (by simp [h])) h2 (fun x hx => hlt x (List.mem_append_right _ hx)), rfl⟩
theorem post_law {H : Type} {enc : TypeId × Value → H} {P : Program} {f : Func} {s : ChangeSpec} {apart fresh handsOn : Bool} {W W' : World} {args : Array Value} {ds : List (DataW H)} {before : List MemPlace} {tb : TypeId}
  (hW : DataW.Whole enc P f.params.toList s.vars apart W args.toList ds [] before) (hv : s.vars = []) (hs : s.fn H (ds ++ []) = { results := [.lit (.bool true)], args := ds }) (hl : laidOutB P = true)
  (hp : ∀ t ∈ f.params.toList, P.readableRec t = true ∧ t < P.types.size) (hr : f.resultTypes = #[tb]) (hb : P.underlying tb = some .bool) (hB : Below W.heap.size W W') : s.post enc P f apart fresh handsOn false W args (.bool true) W' := by
 have hlt := hW.lt
 obtain ⟨p, q, hA, hV, rfl, hfz, hnd⟩ := id hW
 have hq : q = [] := by
  rw [hv] at hV
  exact (trodVars_none hV).2
 subst hq
 have hres : ∀ (b : Nat) (sp : Nat → Bool) (hd : Bool), DataW.TrodAll enc P W' b sp hd f.resultTypes.toList ((Value.bool true).resultList f.resultTypes.size) (s.fn H (ds ++ [])).results [] := fun b sp hd => by
  rw [hs, hr]
  exact trodAll_mk1 (shut_bool hb true)
 have hargs : DataW.TrodAll enc P W' 0 (fun b => decide (b < W.heap.size)) true f.params.toList args.toList (s.fn H (ds ++ [])).args p := by
  rw [hs]
  exact trodAll_stays hl hB hp hA (fun x hx => hlt x (List.mem_append_left _ hx))
 refine ⟨ds, [], p ++ [], [], p, [], hW, hres _ _ _, hargs, ?_, World.keptBut_mono (fun x hx => ⟨hx, ?_⟩) (hB.frame (· ∈ p ++ [])), fun h => absurd h (by decide)⟩
 ·rw [hs, hv]
  rfl
 ·rw [List.mem_append] at hx
  exact Or.inr hx
theorem below_of_sig {w w' : World} {S : List SH} (h : Sig ⟨w, dom []⟩ S w') : Below w.heap.size w w' := ⟨h.os, h.tape, h.output, h.size, fun k hk => h.frame k hk (by simp)⟩
end Go.Sx
/-! Sx8 -/
namespace Go.Sx
open Go
set_option linter.unusedVariables false
set_option linter.unusedSimpArgs false
abbrev cv (z : Int) : Int := IntKind.u32.wrap z
abbrev shl32 (z n : Int) : Int := IntKind.u32.wrap (z * 2 ^ min n.toNat IntKind.u32.bits)
abbrev shr32 (z n : Int) : Int := z.fdiv (2 ^ min n.toNat IntKind.u32.bits)
abbrev xo (a c : Int) : Int := bw .xor .u32 a c
abbrev an (a c : Int) : Int := bw .and .u32 a c
abbrev oo (a c : Int) : Int := bw .or .u32 a c
abbrev inv32 (a : Int) : Int := bw .xor .u32 (if IntKind.u32.signed then -1 else IntKind.u32.max) a
def rotr (x n : Int) : Int := oo (shl32 x (32 - n)) (shr32 x n)
abbrev gb (p : List UInt8) (i : Nat) : Int := ((p.getD i 0).toNat : Int)
def word (p : List UInt8) (i : Nat) : Int := oo (oo (oo (shl32 (cv (gb p (4 * i))) 24) (shl32 (cv (gb p (4 * i + 1))) 16)) (shl32 (cv (gb p (4 * i + 2))) 8)) (cv (gb p (4 * i + 3)))
def sig0 (x : Int) : Int := xo (xo (rotr x 7) (rotr x 18)) (shr32 x 3)
def sig1 (x : Int) : Int := xo (xo (rotr x 17) (rotr x 19)) (shr32 x 10)
def wnext (w : List Int) (n : Nat) : Int := cv (cv (cv (w.getD (n - 16) 0 + sig0 (w.getD (n - 15) 0)) + w.getD (n - 7) 0) + sig1 (w.getD (n - 2) 0))
def sched (p : List UInt8) : Nat → List Int
 | 0 => []
 | n + 1 => sched p n ++ [if n < 16 then word p n else wnext (sched p n) n]
theorem sched_word {p : List UInt8} {w : List Int} {i : Nat} (h : w.take i = sched p i) (hi : i < 16) (hl : i < w.length) : (w.set i (word p i)).take (i + 1) = sched p (i + 1) := by
 rw [take_set_succ hl, h, sched, if_pos hi]
theorem sched_next {p : List UInt8} {w : List Int} {i : Nat} (h : w.take i = sched p i) (hi : 16 ≤ i) (hl : i < w.length) : (w.set i (wnext w i)).take (i + 1) = sched p (i + 1) := by
 rw [take_set_succ hl, h, sched, if_neg (by omega)]
 have hw : wnext (sched p i) i = wnext w i := by
  unfold wnext
  rw [← h, list_getD_take (by omega), list_getD_take (by omega), list_getD_take (by omega), list_getD_take (by omega)]
 rw [hw]
def t1of (k w : Int) (v : List Int) : Int := cv (cv (cv (cv (v.getD 7 0 + xo (xo (rotr (v.getD 4 0) 6) (rotr (v.getD 4 0) 11)) (rotr (v.getD 4 0) 25)) + xo (an (v.getD 4 0) (v.getD 5 0)) (an (inv32 (v.getD 4 0)) (v.getD 6 0))) + k) + w)
def t2of (v : List Int) : Int := cv (xo (xo (rotr (v.getD 0 0) 2) (rotr (v.getD 0 0) 13)) (rotr (v.getD 0 0) 22) + xo (xo (an (v.getD 0 0) (v.getD 1 0)) (an (v.getD 0 0) (v.getD 2 0))) (an (v.getD 1 0) (v.getD 2 0)))
def rnd (k w : Int) (v : List Int) : List Int := [cv (t1of k w v + t2of v), v.getD 0 0, v.getD 1 0, v.getD 2 0, cv (v.getD 3 0 + t1of k w v), v.getD 4 0, v.getD 5 0, v.getD 6 0]
def rounds (kk ws v : List Int) : Nat → List Int
 | 0 => v
 | n + 1 => rnd (kk.getD n 0) (ws.getD n 0) (rounds kk ws v n)
theorem rounds_length {kk ws v : List Int} (h : v.length = 8) (n : Nat) : (rounds kk ws v n).length = 8 := by
 cases n with
 | zero => exact h
 | succ n => rfl
def adds (s v : List Int) : Nat → List Int
 | 0 => s
 | n + 1 => (adds s v n).set n (cv ((adds s v n).getD n 0 + v.getD n 0))
theorem adds_length (s v : List Int) (n : Nat) : (adds s v n).length = s.length := by
 induction n with
 | zero => rfl
 | succ n ih => simp [adds, ih]
def kk64 : List Int := [1116352408, 1899447441, 3049323471, 3921009573, 961987163, 1508970993, 2453635748, 2870763221, 3624381080, 310598401, 607225278, 1426881987, 1925078388, 2162078206, 2614888103, 3248222580, 3835390401, 4022224774, 264347078, 604807628, 770255983, 1249150122, 1555081692, 1996064986, 2554220882, 2821834349, 2952996808, 3210313671, 3336571891, 3584528711, 113926993, 338241895, 666307205, 773529912, 1294757372, 1396182291, 1695183700, 1986661051, 2177026350, 2456956037, 2730485921, 2820302411, 3259730800, 3345764771, 3516065817, 3600352804, 4094571909, 275423344, 430227734, 506948616, 659060556, 883997877, 958139571, 1322822218, 1537002063, 1747873779, 1955562222, 2024104815, 2227730452, 2361852424, 2428436474, 2756734187, 3204031479, 3329325298]
def init8 : List Int := [1779033703, 3144134277, 1013904242, 2773480762, 1359893119, 2600822924, 528734635, 1541459225]
def block (p : List UInt8) (s : List Int) : List Int := adds s (rounds kk64 (sched p 64) s 64) 8
theorem block_length {p : List UInt8} {s : List Int} (h : s.length = 8) : (block p s).length = 8 := by rw [block, adds_length, h]
def blocks : Nat → List UInt8 → List Int → List Int
 | 0, _, s => s
 | n + 1, p, s => blocks n (p.drop 64) (block p s)
theorem blocks_length {n : Nat} {p : List UInt8} {s : List Int} (h : s.length = 8) : (blocks n p s).length = 8 := by
 induction n generalizing p s with
 | zero => exact h
 | succ n ih => exact ih (block_length h)
theorem blocks_succ (n : Nat) (p : List UInt8) (s : List Int) : blocks (n + 1) p s = block (p.drop (64 * n)) (blocks n p s) := by
 induction n generalizing p s with
 | zero => simp [blocks]
 | succ n ih =>
  rw [blocks, ih, blocks, List.drop_drop]
  congr 2
  omega
theorem blocks_add (n m : Nat) (p : List UInt8) (s : List Int) : blocks (n + m) p s = blocks m (p.drop (64 * n)) (blocks n p s) := by
 induction n generalizing p s with
 | zero => simp [blocks]
 | succ n ih =>
  rw [show n + 1 + m = (n + m) + 1 by omega, blocks, ih, blocks, List.drop_drop]
  congr 2
  omega
theorem word_congr {p q : List UInt8} {i : Nat} (h : ∀ j, j < 64 → p.getD j 0 = q.getD j 0) (hi : i < 16) : word p i = word q i := by
 unfold word gb
 rw [h _ (by omega), h _ (by omega), h _ (by omega), h _ (by omega)]
theorem sched_congr {p q : List UInt8} (h : ∀ j, j < 64 → p.getD j 0 = q.getD j 0) (n : Nat) : sched p n = sched q n := by
 induction n with
 | zero => rfl
 | succ n ih =>
  simp only [sched, ih]
  split
  ·rename_i hn; rw [word_congr h hn]
  ·rfl
theorem block_congr {p q : List UInt8} (h : ∀ j, j < 64 → p.getD j 0 = q.getD j 0) (s : List Int) : block p s = block q s := by
 unfold block
 rw [sched_congr h]
theorem blocks_congr {n : Nat} {p q : List UInt8} (h : ∀ j, j < 64 * n → p.getD j 0 = q.getD j 0) (s : List Int) : blocks n p s = blocks n q s := by
 induction n generalizing p q s with
 | zero => rfl
 | succ n ih =>
  rw [blocks, blocks, block_congr (fun j hj => h j (by omega)), ih]
  intro j hj
  simp only [List.getD_eq_getElem?_getD, List.getElem?_drop]
  simpa only [List.getD_eq_getElem?_getD] using h (64 + j) (by omega)
def zc (n : Nat) : Nat := (119 - n % 64) % 64
def len8 (x : Int) : Nat → List UInt8
 | 0 => []
 | i + 1 => len8 x i ++ [by8 (x.fdiv (2 ^ (56 - 8 * i)))]
theorem len8_length (x : Int) (i : Nat) : (len8 x i).length = i := by
 induction i with
 | zero => rfl
 | succ i ih => simp [len8, ih]
def pad (n : Nat) (x : Int) : List UInt8 := [128] ++ List.replicate (zc n) 0 ++ len8 x 8
def outs (s : List Int) : Nat → List UInt8
 | 0 => []
 | i + 1 => outs s i ++ [by8 ((s.getD (i / 4) 0).fdiv (2 ^ (24 - 8 * (i % 4))))]
theorem outs_length (s : List Int) (i : Nat) : (outs s i).length = i := by
 induction i with
 | zero => rfl
 | succ i ih => simp [outs, ih]
def bits8 (n : Nat) : Int := IntKind.u64.wrap (IntKind.u64.wrap (n : Int) * 8)
def ended (s : List Int) (rest : List UInt8) (x : Int) : List UInt8 := outs (blocks ((rest.length + zc rest.length + 9) / 64) (rest ++ pad rest.length x) s) 32
def sum (p : List UInt8) : List UInt8 := ended init8 p (bits8 p.length)
theorem sum_length (p : List UInt8) : (sum p).length = 32 := outs_length _ _
theorem sum_split (p : List UInt8) : ended (blocks (p.length / 64) p init8) (p.drop (64 * (p.length / 64))) (bits8 p.length) = sum p := by
 have hr : (p.drop (64 * (p.length / 64))).length = p.length % 64 := by rw [List.length_drop]; omega
 have hz : zc (p.length % 64) = zc p.length := by unfold zc; omega
 have hp : pad (p.length % 64) (bits8 p.length) = pad p.length (bits8 p.length) := by unfold pad; rw [hz]
 unfold sum ended
 rw [hr, hz, hp]
 congr 1
 have hn : (p.length + zc p.length + 9) / 64 = p.length / 64 + (p.length % 64 + zc p.length + 9) / 64 := by omega
 rw [hn, blocks_add]
 have hd : (p ++ pad p.length (bits8 p.length)).drop (64 * (p.length / 64)) = p.drop (64 * (p.length / 64)) ++ pad p.length (bits8 p.length) := by
  rw [List.drop_append_of_le_length (by omega)]
 rw [hd]
 congr 1
 refine blocks_congr (fun j hj => ?_) _
 rw [List.getD_eq_getElem?_getD, List.getD_eq_getElem?_getD, List.getElem?_append_left (by omega)]
theorem zc_back {n j : Nat} (hj : j ≤ zc n) (h : (n + 1 + j) % 64 ≠ 56) : j < zc n := by unfold zc at *; omega
theorem zc_end {n j : Nat} (hj : j ≤ zc n) (h : (n + 1 + j) % 64 = 56) : j = zc n := by unfold zc at *; omega
theorem zc_lt (n : Nat) : zc n < 64 := by unfold zc; omega
end Go.Sx
/-! Sx9 -/
namespace Go.Sx
open Go
set_option linter.unusedVariables false
set_option linter.unusedSimpArgs false
def numL : List UInt8 → Nat
 | [] => 0
 | c :: l => c.toNat + 256 * numL l
theorem num_lt (l : List UInt8) : numL l < 2 ^ (8 * l.length) := by
 induction l with
 | nil => simp [numL]
 | cons c l ih =>
  have hc := c.toNat_lt
  have : 2 ^ (8 * (c :: l).length) = 256 * 2 ^ (8 * l.length) := by
   rw [List.length_cons, show 8 * (l.length + 1) = 8 + 8 * l.length by omega, Nat.pow_add]
  rw [this, numL]
  omega
theorem num_take_succ (l : List UInt8) (i : Nat) (h : i < l.length) : numL (l.take (i + 1)) = numL (l.take i) + (l.getD i 0).toNat * 2 ^ (8 * i) := by
 induction i generalizing l with
 | zero =>
  cases l with
  | nil => simp at h
  | cons c l => simp [numL]
 | succ i ih =>
  cases l with
  | nil => simp at h
  | cons c l =>
   simp only [List.take_succ_cons, numL]
   have hp : 2 ^ (8 * (i + 1)) = 256 * 2 ^ (8 * i) := by rw [show 8 * (i + 1) = 8 + 8 * i by omega, Nat.pow_add]
   have h1 := ih l (by simpa using h)
   have h2 : (c :: l).getD (i + 1) 0 = l.getD i 0 := by simp
   rw [h1, h2, hp, Nat.mul_left_comm]
   omega
structure Buf (b : List UInt8) (i a h bits : Nat) : Prop where
 a_le : a ≤ b.length
 h_eq : h = 8 * a - 5 * i
 ahead : a < b.length → 5 * i ≤ 8 * a
 h_le : h ≤ 7
 bits_eq : bits = numL (b.take a) / 2 ^ (5 * i)
theorem Buf.lt {b : List UInt8} {i a h bits : Nat} (B : Buf b i a h bits) : bits < 2 ^ h := by
 have h1 := num_lt (b.take a)
 rw [List.length_take, Nat.min_eq_left B.a_le] at h1
 rw [B.bits_eq, B.h_eq]
 rcases Nat.le_total (5 * i) (8 * a) with h2 | h2
 ·rw [Nat.div_lt_iff_lt_mul (Nat.two_pow_pos _), ← Nat.pow_add, Nat.sub_add_cancel h2]
  exact h1
 ·have : numL (b.take a) < 2 ^ (5 * i) := Nat.lt_of_lt_of_le h1 (Nat.pow_le_pow_right (by decide) h2)
  rw [Nat.div_eq_of_lt this]
  exact Nat.two_pow_pos _
theorem Buf.fill {b : List UInt8} {i a h bits : Nat} (B : Buf b i a h bits) (ha : a < b.length) (hh : h < 5) : bits + (b.getD a 0).toNat * 2 ^ h = numL (b.take (a + 1)) / 2 ^ (5 * i) := by
 have h1 := B.ahead ha
 rw [num_take_succ b a ha, B.bits_eq, B.h_eq]
 have : (b.getD a 0).toNat * 2 ^ (8 * a) = 2 ^ (5 * i) * ((b.getD a 0).toNat * 2 ^ (8 * a - 5 * i)) := by
  rw [Nat.mul_left_comm, ← Nat.pow_add, Nat.add_sub_cancel' h1]
 rw [this, Nat.add_mul_div_left _ _ (Nat.two_pow_pos _)]
theorem args1 {env : Env} {x0 : Operand} {u0 : Value} (h0 : ev env x0 = u0) : (#[x0] : Array Operand).toList.map (ev env) = [u0] := by simp [h0]
theorem args2 {env : Env} {x0 x1 : Operand} {u0 u1 : Value} (h0 : ev env x0 = u0) (h1 : ev env x1 = u1) : (#[x0, x1] : Array Operand).toList.map (ev env) = [u0, u1] := by simp [h0, h1]
end Go.Sx
/-! Sx10 -/
namespace Go.Sx
open Go
set_option linter.unusedVariables false
variable {P : Program} {env : Env} {b : Base} {S : List SH} {v : Value} {o : Oper}
end Go.Sx
/-! Sx12 -/
namespace Go.Sx
open Go
set_option linter.unusedVariables false
set_option linter.unusedSimpArgs false
variable {P : Program} {R : Ending → World → Prop} {env : Env} {b : Base} {S : List SH} {B : JB} {T : Tree} {v : Value} {ty : TypeId}
theorem qs_field {s : TypeId} {x : Operand} {i sz : Nat} {fs : Array Field} {f : Field} {g off : Nat} (hs : P.underlying s = some (.struct fs)) (hf : fs[i]? = some f) (hz : (P.info? f.type).map (·.size) = some sz) (hsz : sz ≠ 0) (hx : ev env x = .pointer (some ⟨g, off, none⟩)) :
  QS P (O (.fieldAddr s x i) ty) env b S (.pointer (some ⟨g, off + f.offset, none⟩)) := qs_run fun w => by
 simp only [O, execOp, hx, Instr.fieldAt, Instr.sureAddr, Sem.run_bind, Sem.run_pure, Result.andThen_ok, run_underlying_ok hs, hf, fieldPlace, run_sizeOf_ok hz, if_neg hsz, add_off]
theorem qs_pnil {t e t' : TypeId} {x : Operand} {A : Option Addr} (ht : P.underlying t = some (.pointer e)) (hx : ev env x = .pointer A) : QS P (O (.binOp .eql t x (.const (.pointer none)) t') ty) env b S (.bool A.isNone) := qs_run fun w => by
 refine run_eq (r := A.isNone) (.inl rfl) hx rfl (by unfold eqGuard; rfl) (fun _ _ h => by cases h) (fun _ _ h => by cases h) (fun _ _ _ h => by cases h) (fun _ h => by cases h) fun d => ?_
 simp only [Op.equalIn, Sem.run_bind, run_underlying_ok ht, Result.andThen_ok, ev]
 cases A <;> rfl
theorem qs_pnnil {t e t' : TypeId} {x : Operand} {A : Option Addr} (ht : P.underlying t = some (.pointer e)) (hx : ev env x = .pointer A) : QS P (O (.binOp .neq t x (.const (.pointer none)) t') ty) env b S (.bool A.isSome) := qs_run fun w => by
 have := run_eq (P := P) (ty := ty) (t := t) (t' := t') (r := A.isNone) (w := w) (.inr rfl) hx (y := .const (.pointer none)) rfl (by unfold eqGuard; rfl) (fun _ _ h => by cases h) (fun _ _ h => by cases h) (fun _ _ _ h => by cases h) (fun _ h => by cases h) fun d => by
  simp only [Op.equalIn, Sem.run_bind, run_underlying_ok ht, Result.andThen_ok, ev]
  cases A <;> rfl
 rw [this]
 cases A <;> rfl
theorem Sig.shape {w : World} (hw : Sig b S w) {k g : Nat} {l : List Value} {e : TypeId} {fz : Nat × Nat} (hk : S[k]? = some [(g, .cells l.toArray e fz)]) : w.shape? g = some (e, l.length) := by
 simp [World.shape?, hw.at_ hk]
end Go.Sx
/-! Sx11 -/
namespace Go.Sx
open Go Go.Sort Go.Proofs
set_option linter.unusedVariables false
def strs (ss : List (List UInt8)) : List Value := ss.map fun l => .string (bs l)
end Go.Sx
/-! Sx13 -/
namespace Go.Sx
open Go
set_option linter.unusedVariables false
set_option linter.unusedSimpArgs false
variable {P : Program} {R : Ending → World → Prop} {env : Env} {b : Base} {S : List SH} {B : JB} {T : Tree} {v : Value} {ty : TypeId}
theorem own_addr {e : TypeId} {xs : List Value} {A : Option Addr} {n cap : Nat} {c : SH} (ho : Own e 1 xs (.slice A n cap) c) (h : 0 < xs.length) : ∃ g, A = some ⟨g, 0, none⟩ := by
 obtain ⟨g, n', cap', hv⟩ := own_some ho (by rintro rfl; simp at h)
 injection hv with hA
 exact ⟨g, hA⟩
theorem own_cap {e : TypeId} {sz : Nat} {xs : List Value} {A : Option Addr} {n cap : Nat} {c : SH} (ho : Own e sz xs (.slice A n cap) c) : n ≤ cap := by
 rcases ho with ⟨hv, rfl, rfl⟩ | ⟨g, n', cap', rest, fz, hv, rfl, h3, h4, h5, h6⟩
 ·injection hv with hA hn hc; omega
 ·injection hv with hA hn hc; omega
theorem j_subl {S' : List SH} (h : S'.Sublist S) (hj : J P R T env S' b B) : J P R T env S b B := j_sub (sub_flatten h) hj
end Go.Sx
/-! Sx14 -/
namespace Go.Sx
open Go Go.MapKept Go.WideMaps Go.Maps
set_option linter.unusedVariables false
set_option linter.unusedSimpArgs false
set_option linter.unusedSectionVars false
variable {P : Program} {R : Ending → World → Prop} {env : Env} {b : Base} {S : List SH} {B : JB} {T : Tree} {v : Value} {ty : TypeId}
theorem getObj_map {w : World} {r : Nat} {es : Array MapEntry} {clock : Nat} (hb : w.heap[r]? = some (.map es clock)) : (getObj r).run P w = .ok (.map es clock) w := by
 simp [getObj, Sem.run, hb]
theorem setObj_map {w : World} {r : Nat} {es : Array MapEntry} {clock : Nat} (o : Obj) (hb : w.heap[r]? = some (.map es clock)) : (setObj r o).run P w = .ok () { w with heap := w.heap.setIfInBounds r o } := by
 simp [setObj, Sem.run, hb]
theorem nodup_inj {α : Type} {l : List α} (h : l.Nodup) {i j : Nat} {a : α} (hi : l[i]? = some a) (hj : l[j]? = some a) : i = j := by
 obtain ⟨hi1, hi2⟩ := List.getElem?_eq_some_iff.1 hi
 obtain ⟨hj1, hj2⟩ := List.getElem?_eq_some_iff.1 hj
 rcases Nat.lt_trichotomy i j with h1 | h1 | h1
 ·exact absurd (hi2.trans hj2.symm) (List.pairwise_iff_getElem.1 h i j hi1 hj1 h1)
 ·exact h1
 ·exact absurd (hj2.trans hi2.symm) (List.pairwise_iff_getElem.1 h j i hj1 hi1 h1)
structure KeyE (P : Program) (kt : TypeId) {κ : Type} (enc : κ → Value) (ok : κ → Prop) : Prop where
 keyed : Keyed P kt
 inj : ∀ a b, enc a = enc b → a = b
 lit : ∀ k, ok k → ∃ l, keyOf P kt (enc k) = some l
structure MapOk {κ : Type} (enc : κ → Value) (ok : κ → Prop) (es : Array MapEntry) (clock : Nat) (m : List (κ × Value)) : Prop where
 ents : es.toList.map (fun e => (e.key, e.val)) = m.map (fun p => (enc p.1, p.2))
 stamped : Stamped es clock
 keys : ∀ p ∈ m, ok p.1
section
variable {κ : Type} [DecidableEq κ] {enc : κ → Value} {ok : κ → Prop} {es : Array MapEntry} {clock : Nat} {m : List (κ × Value)} {kt : TypeId}
def mlook (m : List (κ × Value)) (k : κ) : Option Value := (m.find? (fun p => decide (p.1 = k))).map (·.2)
def mput (m : List (κ × Value)) (k : κ) (v : Value) : List (κ × Value) := m.map fun p => if p.1 = k then (p.1, v) else p
def mset (m : List (κ × Value)) (k : κ) (v : Value) : List (κ × Value) := if (mlook m k).isSome then mput m k v else m ++ [(k, v)]
theorem mlook_mem : ∀ {m : List (κ × Value)} {k : κ} {v : Value}, (m.map Prod.fst).Nodup → (k, v) ∈ m → mlook m k = some v
 | p :: m, k, v, hn, h => by
  rw [List.map_cons, List.nodup_cons] at hn
  rcases List.mem_cons.1 h with rfl | h
  ·simp [mlook]
  ·have hne : p.1 ≠ k := fun e => hn.1 (by rw [e]; exact List.mem_map_of_mem (f := Prod.fst) h)
   have := mlook_mem hn.2 h
   unfold mlook at this ⊢
   rw [List.find?_cons_of_neg (by simpa using hne)]
   exact this
theorem mlook_none {m : List (κ × Value)} {k : κ} : mlook m k = none ↔ ∀ p ∈ m, p.1 ≠ k := by
 unfold mlook
 rw [Option.map_eq_none_iff, List.find?_eq_none]
 simp
theorem MapOk.get (h : MapOk enc ok es clock m) (j : Nat) : (es[j]?).map (fun e => (e.key, e.val)) = (m[j]?).map (fun p => (enc p.1, p.2)) := by
 have := congrArg (fun l => l[j]?) h.ents
 simpa using this
theorem MapOk.nodup (h : MapOk enc ok es clock m) : (m.map Prod.fst).Nodup := by
 have h1 := h.stamped.2.2
 have h2 : es.toList.map (·.key) = m.map (fun p => enc p.1) := by
  have := congrArg (List.map Prod.fst) h.ents
  simpa [List.map_map, Function.comp_def] using this
 rw [h2] at h1
 unfold List.Nodup at h1 ⊢
 rw [List.pairwise_map] at h1 ⊢
 exact h1.imp fun hne e => hne (by rw [e])
theorem MapOk.size (h : MapOk enc ok es clock m) : es.size = m.length := by
 have := congrArg List.length h.ents
 simpa using this
theorem mapOk_nil : MapOk enc ok #[] 0 ([] : List (κ × Value)) := ⟨rfl, ⟨by simp, by simp, by simp⟩, by simp⟩
theorem find_cases (KE : KeyE P kt enc ok) (h : MapOk enc ok es clock m) {k : κ} (hk : ok k) (w : World) :
  ((Instr.findKey kt (enc k) es.toList).run P w = .ok none w ∧ mlook m k = none) ∨
  ∃ j e, (Instr.findKey kt (enc k) es.toList).run P w = .ok (some (j, e.val)) w ∧ es[j]? = some e ∧ e.key = enc k ∧ m[j]? = some (k, e.val) ∧ mlook m k = some e.val := by
 obtain ⟨lx, hlx⟩ := KE.lit k hk
 have hes : ∀ e ∈ es.toList, ∃ l, keyOf P kt e.key = some l := fun e he => by
  have : (e.key, e.val) ∈ m.map (fun p => (enc p.1, p.2)) := by rw [← h.ents]; exact List.mem_map_of_mem (f := fun e : MapEntry => (e.key, e.val)) he
  obtain ⟨p, hp, e1⟩ := List.mem_map.1 this
  injection e1 with e1 e2
  obtain ⟨l, hl⟩ := KE.lit p.1 (h.keys p hp)
  exact ⟨l, by rw [← e1]; exact hl⟩
 rcases KE.keyed.find w hlx es.toList hes with ⟨h1, h2⟩ | ⟨j, e, h1, h2, h3⟩
 ·refine .inl ⟨h1, mlook_none.2 fun p hp e => ?_⟩
  have : (enc p.1, p.2) ∈ es.toList.map (fun e => (e.key, e.val)) := by rw [h.ents]; exact List.mem_map_of_mem (f := fun p : κ × Value => (enc p.1, p.2)) hp
  obtain ⟨x, hx, e1⟩ := List.mem_map.1 this
  injection e1 with e1 e2
  exact h2 x hx (by rw [e1, e])
 ·have h2' : es[j]? = some e := by simpa using h2
  have hg := h.get j
  rw [h2', Option.map_some] at hg
  obtain ⟨p, hp, e1⟩ := Option.map_eq_some_iff.1 hg.symm
  injection e1 with e1 e2
  have hpk : p.1 = k := KE.inj _ _ (by rw [e1, h3])
  have hp' : p = (k, e.val) := by rw [← hpk, ← e2]
  rw [hp'] at hp
  exact .inr ⟨j, e, h1, h2', h3, hp, mlook_mem h.nodup (List.mem_of_getElem? hp)⟩
theorem mput_keys (m : List (κ × Value)) (k : κ) (v : Value) : (mput m k v).map Prod.fst = m.map Prod.fst := by
 simp only [mput, List.map_map]
 refine List.map_congr_left fun p _ => ?_
 simp only [Function.comp]
 split <;> rfl
theorem MapOk.modify (h : MapOk enc ok es clock m) {k : κ} {j : Nat} {e : MapEntry} (hj : es[j]? = some e) (hkey : e.key = enc k) (hm : m[j]? = some (k, e.val)) (v : Value) (f : MapEntry → MapEntry) (hf : f e = { e with val := v }) : MapOk enc ok (es.modify j f) clock (mput m k v) := by
 have hjlt := (Array.getElem?_eq_some_iff.1 hj).1
 have hl : (es.modify j f).toList = es.toList.set j { e with val := v } := by
  apply List.ext_getElem?
  intro i
  simp only [Array.getElem?_toList, Array.getElem?_modify, List.getElem?_set]
  by_cases hij : j = i
  ·subst hij
   rw [if_pos rfl, if_pos rfl, hj, if_pos (by simpa using hjlt), Option.map_some, hf]
  ·rw [if_neg hij, if_neg hij]
 have hkeys : (es.modify j f).toList.map (·.key) = es.toList.map (·.key) := by
  rw [hl, List.map_set]
  have hj' : (es.toList.map (·.key))[j]? = some e.key := by simp [hj]
  obtain ⟨h1, h2⟩ := List.getElem?_eq_some_iff.1 hj'
  have := List.set_getElem_self h1
  rwa [h2] at this
 have hborn : (es.modify j f).toList.map (·.born) = es.toList.map (·.born) := by
  rw [hl, List.map_set]
  have hj' : (es.toList.map (·.born))[j]? = some e.born := by simp [hj]
  obtain ⟨h1, h2⟩ := List.getElem?_eq_some_iff.1 hj'
  have := List.set_getElem_self h1
  rwa [h2] at this
 refine ⟨?_, ⟨fun x hx => ?_, by rw [hborn]; exact h.stamped.2.1, by rw [hkeys]; exact h.stamped.2.2⟩, fun p hp => ?_⟩
 ·rw [hl, List.map_set, h.ents]
  apply List.ext_getElem?
  intro i
  simp only [List.getElem?_set, mput, List.map_map, List.getElem?_map, List.length_map]
  by_cases hij : j = i
  ·subst hij
   rw [if_pos rfl, hm, if_pos (List.getElem?_eq_some_iff.1 hm).1]
   simp [hkey]
  ·rw [if_neg hij]
   cases hi : m[i]? with
   | none => rfl
   | some p =>
    simp only [Option.map_some, Function.comp]
    rw [if_neg]
    intro e1
    have hn := h.nodup
    exact hij (nodup_inj hn (i := j) (j := i) (a := k) (by simp [hm]) (by simp [hi, e1]))
 ·have : x.born ∈ (es.modify j f).toList.map (·.born) := List.mem_map_of_mem (f := (·.born)) hx
  rw [hborn] at this
  obtain ⟨y, hy, e1⟩ := List.mem_map.1 this
  rw [← e1]
  exact h.stamped.1 y hy
 ·have : p.1 ∈ (mput m k v).map Prod.fst := List.mem_map_of_mem (f := Prod.fst) hp
  rw [mput_keys] at this
  obtain ⟨q, hq, e1⟩ := List.mem_map.1 this
  rw [← e1]
  exact h.keys q hq
theorem MapOk.push (h : MapOk enc ok es clock m) (hinj : ∀ a b, enc a = enc b → a = b) {k : κ} (hk : ok k) (hno : mlook m k = none) (v : Value) : MapOk enc ok (es.push ⟨enc k, v, clock⟩) (clock + 1) (m ++ [(k, v)]) := by
 have hno := mlook_none.1 hno
 refine ⟨by simp [h.ents], ⟨fun x hx => ?_, ?_, ?_⟩, fun p hp => ?_⟩
 ·simp only [Array.toList_push, List.mem_append, List.mem_singleton] at hx
  rcases hx with hx | rfl
  ·have := h.stamped.1 x hx; omega
  ·simp
 ·simp only [Array.toList_push, List.map_append, List.map_cons, List.map_nil]
  rw [List.nodup_append]
  refine ⟨h.stamped.2.1, by simp, fun a ha c hc => ?_⟩
  obtain ⟨y, hy, rfl⟩ := List.mem_map.1 ha
  rw [List.mem_singleton] at hc
  subst hc
  have := h.stamped.1 y hy
  omega
 ·simp only [Array.toList_push, List.map_append, List.map_cons, List.map_nil]
  rw [List.nodup_append]
  refine ⟨h.stamped.2.2, by simp, fun a ha c hc => ?_⟩
  obtain ⟨y, hy, rfl⟩ := List.mem_map.1 ha
  rw [List.mem_singleton] at hc
  subst hc
  intro e1
  have : (y.key, y.val) ∈ m.map (fun p => (enc p.1, p.2)) := by rw [← h.ents]; exact List.mem_map_of_mem (f := fun e : MapEntry => (e.key, e.val)) hy
  obtain ⟨p, hp, e2⟩ := List.mem_map.1 this
  injection e2 with e2 e3
  exact hno p hp (hinj _ _ (by rw [e2, e1]))
 ·rcases List.mem_append.1 hp with hp | hp
  ·exact h.keys p hp
  ·rw [List.mem_singleton] at hp
   rw [hp]
   exact hk
theorem Sig.map_at {w : World} (hw : Sig b S w) {k g : Nat} (hk : S[k]? = some [(g, .map es clock)]) : w.heap[g]? = some (.map es clock) := hw.at_ hk
theorem run_zeroV {t : TypeId} {z : Value} (h : (P.info? t).bind (·.zero) = some z) (w : World) : (zeroValue t).run P w = .ok z w := by
 cases hi : P.info? t with
 | none => simp [hi] at h
 | some i =>
  rw [hi] at h
  simp only [Option.bind_some] at h
  simp only [zeroValue, typeInfo, program, Sem.run_bind, Sem.run, Result.andThen_ok, hi, h]
  simp only [Sem.run_pure, Result.andThen_ok, h]
theorem j_mkmap {t : TypeId} (h : ∀ g, b.w0.heap.size ≤ g → J P R T (.map (some g) :: env) ([(g, .map #[] 0)] :: S) b B) : J P R (.op (O (.makeMap t none) ty) T) env S b B := fun w hw => by
 have hrun : (execOp (ev env) (O (.makeMap t none) ty)).run P w = .ok (.value (.map (some w.heap.size))) { w with heap := w.heap.push (.map #[] 0) } := by
  simp only [O, execOp, Option.map_none, Instr.makeMap, Sem.run_bind, Sem.run_pure, Result.andThen_ok, newObj, Sem.run]
 show opW _ _ _ _ _ _
 unfold opW
 rw [hrun]
 obtain ⟨h1, h2, h3⟩ := hw.new (o := .map #[] 0) (w' := { w with heap := w.heap.push (.map #[] 0) }) rfl rfl rfl rfl
 exact h _ h3 _ h1
theorem run_lookup_ok (KE : KeyE P kt enc ok) {t vt : TypeId} {g : Nat} {k : κ} {z : Value} (ht : P.underlying t = some (.map kt vt)) (hz : (P.info? vt).bind (·.zero) = some z) (hm : MapOk enc ok es clock m) (hk : ok k) {w : World} (hg : w.heap[g]? = some (.map es clock)) (c : Bool) :
  (Instr.lookup t (.map (some g)) (enc k) c).run P w = .ok (if c then .tuple #[(mlook m k).getD z, .bool (mlook m k).isSome] else (mlook m k).getD z) w := by
 obtain ⟨l, hl⟩ := KE.lit k hk
 have hck := fun em => KE.keyed.check w em hl
 rcases find_cases KE hm hk w with ⟨h1, h2⟩ | ⟨j, e, h1, _, _, _, h2⟩
 ·simp only [Instr.lookup, Sem.run_bind, run_underlying_ok ht, Result.andThen_ok, getObj_map hg, Sem.run_pure, hck, h1, run_zeroV hz, h2]
  cases c <;> rfl
 ·simp only [Instr.lookup, Sem.run_bind, run_underlying_ok ht, Result.andThen_ok, getObj_map hg, Sem.run_pure, hck, h1, h2]
  cases c <;> rfl
theorem qs_lookup (KE : KeyE P kt enc ok) {t vt : TypeId} {x y : Operand} {g : Nat} {key : κ} {z : Value} (k : Nat) (ht : P.underlying t = some (.map kt vt)) (hz : (P.info? vt).bind (·.zero) = some z) (hx : ev env x = .map (some g)) (hy : ev env y = enc key) (hk : S[k]? = some [(g, .map es clock)]) (hm : MapOk enc ok es clock m) (hok : ok key) :
  QS P (O (.lookup t x y false) ty) env b S ((mlook m key).getD z) := qs_val fun w hw => by
 simp only [O, execOp, hx, hy, Sem.run_bind, run_lookup_ok KE ht hz hm hok (hw.map_at hk) false, Result.andThen_ok, Sem.run_pure]
 rfl
theorem sig_setmap {w : World} (hw : Sig b S w) {k g : Nat} (hk : S[k]? = some [(g, .map es clock)]) (o : Obj) : Sig b (S.set k [(g, o)]) { w with heap := w.heap.setIfInBounds g o } := by
 have hg := hw.map_at hk
 have hlt := lt_of_get hg
 exact hw.set hk rfl rfl rfl (by simp) (by simp [hlt]) fun j hj => by simp [Ne.symm hj]
theorem j_mapset (KE : KeyE P kt enc ok) {t vt : TypeId} {x y z : Operand} {g : Nat} {key : κ} {val : Value} (k : Nat) (ht : P.underlying t = some (.map kt vt)) (hx : ev env x = .map (some g)) (hy : ev env y = enc key) (hv : ev env z = val) (hk : S[k]? = some [(g, .map es clock)]) (hm : MapOk enc ok es clock m) (hok : ok key)
  (h : ∀ es' clock', MapOk enc ok es' clock' (mset m key val) → J P R T (undef :: env) (S.set k [(g, .map es' clock')]) b B) : J P R (.op (O (.mapUpdate t x y z) ty) T) env S b B := fun w hw => by
 have hg := hw.map_at hk
 obtain ⟨l, hl⟩ := KE.lit key hok
 have hck := fun em => KE.keyed.check w em hl
 show opW _ _ _ _ _ _
 unfold opW
 rcases find_cases KE hm hok w with ⟨h1, h2⟩ | ⟨j, e, h1, h3, h4, h5, h2⟩
 ·have hrun : (execOp (ev env) (O (.mapUpdate t x y z) ty)).run P w = .ok .skip { w with heap := w.heap.setIfInBounds g (.map (es.push ⟨enc key, val, clock⟩) (clock + 1)) } := by
   simp only [O, execOp, hx, hy, hv, Instr.mapUpdate, Sem.run_bind, run_underlying_ok ht, Result.andThen_ok, getObj_map hg, hck, h1, setObj_map _ hg, Sem.run_pure]
  rw [hrun]
  refine h _ _ ?_ _ (sig_setmap hw hk _)
  unfold mset
  rw [h2]
  exact hm.push KE.inj hok h2 val
 ·have hst : (Instr.keyThatStays (((es[j]?).map (·.key)).getD (enc key)) (enc key)).run P w = .ok (enc key) w := by
   rw [h3, Option.map_some, Option.getD_some, h4]
   exact KE.keyed.stays w hl
  have hrun : (execOp (ev env) (O (.mapUpdate t x y z) ty)).run P w = .ok .skip { w with heap := w.heap.setIfInBounds g (.map (es.modify j fun e => { e with key := enc key, val := val }) clock) } := by
   simp only [O, execOp, hx, hy, hv, Instr.mapUpdate, Sem.run_bind, run_underlying_ok ht, Result.andThen_ok, getObj_map hg, hck, h1, hst, setObj_map _ hg, Sem.run_pure]
  rw [hrun]
  refine h _ _ ?_ _ (sig_setmap hw hk _)
  unfold mset
  rw [h2]
  exact hm.modify h3 h4 h5 val _ (by rw [← h4])
end
theorem str_key {kt : TypeId} (hk : P.underlying kt = some .string) : KeyE P kt (fun l : List UInt8 => Value.string (bs l)) (fun l => l.length ≤ 9223372036854775807) :=
 ⟨string_keyed hk, fun a b h => by injection h with h; exact bs_inj h, fun l hl => ⟨.string l, by
  have : (bs l).size ≤ maxLen := hl
  simp [keyOf, hk, mapKey, this, bs_data]⟩⟩
end Go.Sx
/-! Sx15 -/
namespace Go.Sx
open Go Go.MapKept Go.WideMaps Go.Maps
set_option linter.unusedVariables false
set_option linter.unusedSimpArgs false
variable {P : Program} {R : Ending → World → Prop} {env : Env} {b : Base} {S : List SH} {B : JB} {T : Tree} {v : Value} {ty : TypeId}
theorem qs_loadwR {t : TypeId} {d : TypeDesc} {x : Operand} {g off n : Nat} {vs : List Value} (hr : Rd b S ⟨g, off, none⟩ vs) (hu : P.underlying t = some d) (hd : flat d = false) (hz : (P.info? t).map (·.size) = some n) (hx : ev env x = .pointer (some ⟨g, off, none⟩)) (hl : vs.length = n) : QS P (O (.load t x) ty) env b S (.agg vs.toArray) := qs_val fun w hw => by
 have h := run_loadVar_agg hu hd hz (g := g) (off := off) (w := w) hl (fun j hj => by
  obtain ⟨u, hu⟩ : ∃ u, vs[j]? = some u := ⟨vs[j]'(by omega), List.getElem?_eq_getElem (by omega)⟩
  have := hr w hw j u hu
  rw [add_off] at this
  rw [this, hu])
 simp only [O, execOp, hx, Instr.loadAt, Instr.sureAddr, Sem.run_bind, Sem.run_pure, Result.andThen_ok, h]
def putAt (l : List Value) (off : Nat) (vs : List Value) : List Value := l.take off ++ vs ++ l.drop (off + vs.length)
theorem putAt_length {l vs : List Value} {off : Nat} (h : off + vs.length ≤ l.length) : (putAt l off vs).length = l.length := by
 simp only [putAt, List.length_append, List.length_take, List.length_drop]; omega
theorem fold_put : ∀ (vs : List Value) (i off : Nat) (l : List Value), off + i + vs.length ≤ l.length →
  (vs.zipIdx i).foldl (fun cs (p : Value × Nat) => Array.setIfInBounds cs (off + p.2) p.1) l.toArray = (putAt l (off + i) vs).toArray
 | [], i, off, l, _ => by simp [putAt]
 | v :: vs, i, off, l, h => by
  simp only [List.length_cons] at h
  rw [List.zipIdx_cons, List.foldl_cons]
  have e1 : Array.setIfInBounds l.toArray (off + i) v = (l.set (off + i) v).toArray := by apply Array.ext'; simp
  simp only [e1]
  rw [fold_put vs (i + 1) off (l.set (off + i) v) (by simp; omega)]
  congr 1
  unfold putAt
  rw [show off + (i + 1) = off + i + 1 by omega, take_set_succ (by omega), List.drop_set_of_lt (by omega)]
  simp only [List.length_cons, List.append_assoc, List.singleton_append]
  congr 3
  omega
theorem fill_put {place : Nat → Option (Nat × Nat)} : ∀ (parts : List (Nat × Value)) (offs : List (Nat × List Value)) (l : List Value), offs.length = parts.length → (∀ (j : Nat) (p : Nat × Value) (q : Nat × List Value), parts[j]? = some p → offs[j]? = some q → place p.1 = some (q.1, q.2.length) ∧ p.2.cells = q.2.toArray ∧ q.1 + q.2.length ≤ l.length) →
  Instr.fill place l.toArray parts = some (offs.foldl (fun l q => putAt l q.1 q.2) l).toArray
 | [], [], l, _, _ => by simp [Instr.fill]
 | p :: parts, q :: offs, l, hl, h => by
  obtain ⟨h1, h2, h3⟩ := h 0 p q rfl rfl
  obtain ⟨i, v⟩ := p
  simp only at h1 h2
  unfold Instr.fill
  simp only [h1, h2, List.size_toArray, ne_eq, not_true_eq_false, decide_false, Bool.false_or]
  rw [if_neg (by simp; omega)]
  have e1 : (q.2.toArray.zipIdx.foldl (fun cs x => match x with | (c, j) => Array.setIfInBounds cs (q.1 + j) c) l.toArray) = (putAt l q.1 q.2).toArray := by
   have := fold_put q.2 0 q.1 l (by simpa using h3)
   rw [Nat.add_zero] at this
   rw [← this, ← Array.foldl_toList, Array.toList_zipIdx]
  rw [e1]
  have hl2 := putAt_length h3
  refine fill_put parts offs (putAt l q.1 q.2) (by simpa using hl) fun j p' q' hp hq => ?_
  rw [hl2]
  exact h (j + 1) p' q' hp hq
 | [], _ :: _, _, hl, _ => by simp at hl
 | _ :: _, [], _, hl, _ => by simp at hl
theorem qs_build {t : TypeId} {fs : Array Field} {parts : Array (Nat × Operand)} {places : List (Nat × Nat)} {offs : List (Nat × List Value)} {z : List Value} (ht : P.underlying t = some (.struct fs)) (h0 : zeroL P t = some z) (hpl : fs.toList.mapM (fun f => (P.info? f.type).map fun i => (f.offset, i.size)) = some places)
  (hlen : offs.length = parts.toList.length) (h : ∀ (j : Nat) (p : Nat × Operand) (q : Nat × List Value), parts.toList[j]? = some p → offs[j]? = some q → places[p.1]? = some (q.1, q.2.length) ∧ (ev env p.2).cells = q.2.toArray ∧ q.1 + q.2.length ≤ z.length) :
  QS P (O (.build t parts) ty) env b S (.agg (offs.foldl (fun l q => putAt l q.1 q.2) z).toArray) := qs_run fun w => by
 obtain ⟨zv, hzv, hrunz⟩ := run_zero_ok h0
 have hm : ∀ (l : List Field) (pl : List (Nat × Nat)), l.mapM (fun f => (P.info? f.type).map fun i => (f.offset, i.size)) = some pl → (l.mapM (fun f => do pure (f.offset, ← sizeOf f.type) : Field → Sem (Nat × Nat))).run P w = .ok pl w := by
  intro l
  induction l with
  | nil => intro pl h; simp at h; subst h; rfl
  | cons f l ih =>
   intro pl h
   rw [List.mapM_cons] at h ⊢
   simp only [bind, Option.bind_eq_some_iff, pure, Option.some.injEq] at h
   obtain ⟨a, ha, l', hl', rfl⟩ := h
   obtain ⟨i, hi, rfl⟩ := Option.map_eq_some_iff.1 ha
   have hs : (sizeOf f.type).run P w = .ok i.size w := run_sizeOf_ok (by rw [hi]; rfl) w
   simp only [Sem.run_bind, hs, Result.andThen_ok, Sem.run_pure, ih l' hl']
 have hfill := fill_put (place := (places.toArray[·]?)) (parts.toList.map fun p => (p.1, ev env p.2)) offs z (by simpa using hlen) fun j p q hp hq => by
  rw [List.getElem?_map] at hp
  obtain ⟨p', hp', rfl⟩ := Option.map_eq_some_iff.1 hp
  obtain ⟨h1, h2, h3⟩ := h j p' q hp' hq
  exact ⟨by simpa using h1, h2, h3⟩
 have hmA : (fs.mapM (fun f => do pure (f.offset, ← sizeOf f.type) : Field → Sem (Nat × Nat))).run P w = .ok places.toArray w := by
  have e : fs.mapM (fun f => do pure (f.offset, ← sizeOf f.type) : Field → Sem (Nat × Nat)) = List.toArray <$> fs.toList.mapM (fun f => do pure (f.offset, ← sizeOf f.type) : Field → Sem (Nat × Nat)) := by rw [← List.mapM_toArray, Array.toArray_toList]
  rw [e, map_eq_pure_bind, Sem.run_bind, hm _ _ hpl]
  rfl
 have hparts : (parts.map fun x => match x with | (i, x) => (i, ev env x)).toList = parts.toList.map fun p => (p.1, ev env p.2) := by simp
 simp only [O, execOp, Instr.build, Sem.run_bind, hrunz, Result.andThen_ok, run_underlying_ok ht, hmA, hzv, hparts, hfill, Sem.run_pure]
theorem Con.mono {f : FuncId} {args : List Value} {w : World} {Fp : SH} {post post' : Value → List SH → Prop} (h : Con P f args w Fp post) (hp : ∀ v S', post v S' → post' v S') : Con P f args w Fp post' := fun h1 h2 => by
 refine (h h1 h2).mono ?_
 rintro e w' ⟨v, S', rfl, h3, hS⟩
 exact ⟨v, S', rfl, hp _ _ h3, hS⟩
end Go.Sx
/-! Sx16 -/
namespace Go.Sx
open Go Go.ChangeShapes Go.WideShapes Go.ChangeAt Go.RowKit
set_option linter.unusedVariables false
variable {P : Program} {R : Ending → World → Prop} {env : Env} {b : Base} {S : List SH} {B : JB} {T : Tree} {v : Value} {ty : TypeId}
def RSl (w : World) (v : Value) (vs : List Value) : Prop :=
 (v = .slice none 0 0 ∧ vs = []) ∨ ∃ g off cap, v = .slice (some ⟨g, off, none⟩) vs.length cap ∧ g < w.heap.size ∧ vs.length ≤ cap ∧ Cells w ⟨g, off, none⟩ vs
theorem rsl_form {w : World} {v : Value} {vs : List Value} (h : RSl w v vs) : ∃ A cap, v = .slice A vs.length cap ∧ vs.length ≤ cap := by
 rcases h with ⟨rfl, rfl⟩ | ⟨g, off, cap, rfl, _, h, _⟩
 ·exact ⟨none, 0, rfl, Nat.le_refl _⟩
 ·exact ⟨_, cap, rfl, h⟩
theorem rsl_addr {w : World} {A : Option Addr} {n cap : Nat} {vs : List Value} (h : RSl w (.slice A n cap) vs) (h0 : 0 < vs.length) : ∃ g off, A = some ⟨g, off, none⟩ ∧ g < w.heap.size ∧ Cells w ⟨g, off, none⟩ vs := by
 rcases h with ⟨_, rfl⟩ | ⟨g, off, cap', hv, h1, _, h2⟩
 ·simp at h0
 ·injection hv with hA
  exact ⟨g, off, hA, h1, h2⟩
theorem cells_stay {w w' : World} {a : Addr} {vs : List Value} {D : List Nat} (h : Cells w a vs) (hs : Sig ⟨w, D⟩ S w') (hD : a.block ∉ D) : Cells w' a vs := rd_w (rd_cells (b := ⟨w, D⟩) h hD) hs
theorem rsl_stay {w w' : World} {v : Value} {vs : List Value} {D : List Nat} (h : RSl w v vs) (hs : Sig ⟨w, D⟩ S w') (hD : ∀ a n c, v = .slice (some a) n c → a.block ∉ D) : RSl w' v vs := by
 rcases h with h | ⟨g, off, cap, rfl, h1, h2, h3⟩
 ·exact .inl h
 ·exact .inr ⟨g, off, cap, rfl, Nat.lt_of_lt_of_le h1 hs.size, h2, cells_stay h3 hs (hD _ _ _ rfl)⟩
theorem rsl_keep {w w' : World} {v : Value} {vs : List Value} (h : RSl w v vs) (hs : Sig ⟨w, dom []⟩ S w') : RSl w' v vs := rsl_stay h hs fun _ _ _ _ => by simp
theorem rsl_own {w : World} {e : TypeId} {xs : List Value} {v : Value} {c : SH} (ho : Own e 1 xs v c) (k : Nat) (hk : S[k]? = some c) (hw : Sig b S w) : RSl w v xs := by
 rcases ho with ⟨rfl, h, rfl⟩ | ⟨g, n, cap, rest, fz, rfl, rfl, h1, h2, h3, h4⟩
 ·exact .inl ⟨rfl, h⟩
 ·rw [Nat.mul_one] at h1
  subst h1
  exact .inr ⟨g, 0, cap, rfl, lt_of_get (hw.at_ hk), h3, rd_w (rd_own (n := xs.length) k hk (by simp)) hw⟩
theorem ints_take (l : List UInt8) (n : Nat) : (ints l).take n = ints (l.take n) := by simp [ints]
theorem ints_drop (l : List UInt8) (n : Nat) : (ints l).drop n = ints (l.drop n) := by simp [ints]
end Go.Sx
/-! Sx17 -/
namespace Go.Sx
open Go Go.MapKept Go.WideMaps Go.Maps
set_option linter.unusedVariables false
set_option linter.unusedSimpArgs false
set_option linter.unusedSectionVars false
variable {P : Program} {R : Ending → World → Prop} {env : Env} {b : Base} {S : List SH} {B : JB} {T : Tree} {v : Value} {ty : TypeId}
def RdO (b : Base) (S : List SH) (g : Nat) (o : Obj) : Prop := ∀ w, Sig b S w → w.heap[g]? = some o
theorem rdo_mem {g : Nat} {o : Obj} {c : SH} (k : Nat) (hk : S[k]? = some c) (h : (g, o) ∈ c) : RdO b S g o := fun w hw => hw.own _ (mem_flatten_of hk h)
theorem rdo_base {g : Nat} {o : Obj} (h : b.w0.heap[g]? = some o) (hD : g ∉ b.D) : RdO b S g o := fun w hw => (hw.frame g (lt_of_get h) hD).trans h
theorem rd_rdo {g off n : Nat} {l vs : List Value} {e : TypeId} {fz : Nat × Nat} (hr : RdO b S g (.cells l.toArray e fz)) (h : (l.drop off).take n = vs) : Rd b S ⟨g, off, none⟩ vs := fun w hw j u hu => by
 subst h
 rw [add_off, cell_of (hr w hw)]
 rw [List.getElem?_take] at hu
 split at hu
 ·rwa [List.getElem?_drop] at hu
 ·cases hu
theorem qs_loadO {t : TypeId} {d : TypeDesc} {x : Operand} {g i : Nat} {l : List Value} {e : TypeId} {fz : Nat × Nat} {u : Value} (hr : RdO b S g (.cells l.toArray e fz)) (hu : P.underlying t = some d) (hd : flat d = true) (hx : ev env x = .pointer (some ⟨g, i, none⟩)) (hi : l[i]? = some u) :
  QS P (O (.load t x) ty) env b S u := by
 refine qs_loadR (vs := l) (a := ⟨g, 0, none⟩) (i := i) (rd_rdo (n := l.length) hr (by simp)) hu hd (by rw [add_off, Nat.zero_add]; exact hx) hi
section
variable {κ : Type} [DecidableEq κ] {enc : κ → Value} {ok : κ → Prop} {es : Array MapEntry} {clock : Nat} {m : List (κ × Value)} {kt : TypeId}
theorem qs_lookupR (KE : KeyE P kt enc ok) {t vt : TypeId} {x y : Operand} {g : Nat} {key : κ} {z : Value} (hr : RdO b S g (.map es clock)) (ht : P.underlying t = some (.map kt vt)) (hz : (P.info? vt).bind (·.zero) = some z) (hx : ev env x = .map (some g)) (hy : ev env y = enc key) (hm : MapOk enc ok es clock m) (hok : ok key) :
  QS P (O (.lookup t x y false) ty) env b S ((mlook m key).getD z) := qs_val fun w hw => by
 simp only [O, execOp, hx, hy, Sem.run_bind, run_lookup_ok KE ht hz hm hok (hr w hw) false, Result.andThen_ok, Sem.run_pure]
 rfl
theorem qs_maplen {t kt vt : TypeId} {x : Operand} {g : Nat} (hr : RdO b S g (.map es clock)) (ht : P.underlying t = some (.map kt vt)) (hx : ev env x = .map (some g)) (hm : MapOk enc ok es clock m) : QS P (O (.call ⟨.builtin .len, #[x], #[t]⟩) ty) env b S (.int .i64 (m.length : Nat)) := qs_val fun w hw => by
 have hs := hm.size
 simp [O, execOp, resolve, invoke, builtin, Builtin.len_, Sem.run_bind, Sem.run_pure, Result.andThen_ok, hx, run_underlying_ok ht, getObj_map (hr w hw), goInt, hs]
def mdel {α : Type} (m : List (κ × α)) (k : κ) : List (κ × α) := m.filter fun p => decide (p.1 ≠ k)
theorem mdel_none {m : List (κ × Value)} {k : κ} (h : mlook m k = none) : mdel m k = m := by
 unfold mdel
 rw [List.filter_eq_self]
 intro p hp
 simpa using mlook_none.1 h p hp
theorem MapOk.erase (h : MapOk enc ok es clock m) {k : κ} {j : Nat} {v : Value} (hm : m[j]? = some (k, v)) : MapOk enc ok (es.eraseIdxIfInBounds j) clock (mdel m k) := by
 have hjlt : j < m.length := (List.getElem?_eq_some_iff.1 hm).1
 have hje : j < es.size := by rw [h.size]; exact hjlt
 have hl : (es.eraseIdxIfInBounds j).toList = es.toList.eraseIdx j := by
  unfold Array.eraseIdxIfInBounds
  rw [dif_pos hje, Array.toList_eraseIdx]
 have hd : mdel m k = m.eraseIdx j := by
  unfold mdel
  have := Go.ChangeMaps.filter_eq_eraseIdx (fun p : κ × Value => decide (p.1 = k)) m j (k, v) hm (by simp) ?_
  ·rw [← this]
   refine List.filter_congr fun p _ => ?_
   by_cases hp : p.1 = k <;> simp [hp]
  ·have hn := h.nodup
   rw [List.Nodup, List.pairwise_map] at hn
   exact hn.imp fun hne hpq => hne (by
    simp only [decide_eq_true_eq] at hpq
    rw [hpq.1, hpq.2])
 refine ⟨?_, ?_, fun p hp => h.keys p (by rw [hd] at hp; exact List.eraseIdx_subset hp)⟩
 ·rw [hl, hd, Go.ChangeMaps.map_eraseIdx, Go.ChangeMaps.map_eraseIdx, h.ents]
 ·exact stamped_erase h.stamped j
theorem j_mapdel (KE : KeyE P kt enc ok) {t t' vt : TypeId} {x y : Operand} {g : Nat} {key : κ} (k : Nat) (ht : P.underlying t = some (.map kt vt)) (hx : ev env x = .map (some g)) (hy : ev env y = enc key) (hk : S[k]? = some [(g, .map es clock)]) (hm : MapOk enc ok es clock m) (hok : ok key)
  (h : ∀ es', MapOk enc ok es' clock (mdel m key) → J P R T (.tuple #[] :: env) (S.set k [(g, .map es' clock)]) b B) : J P R (.op (O (.call ⟨.builtin .delete, #[x, y], #[t, t']⟩) ty) T) env S b B := fun w hw => by
 have hg := hw.map_at hk
 obtain ⟨l, hl⟩ := KE.lit key hok
 have hck := fun em => KE.keyed.check w em hl
 show opW _ _ _ _ _ _
 unfold opW
 rcases find_cases KE hm hok w with ⟨h1, h2⟩ | ⟨j, e, h1, h3, h4, h5, h2⟩
 ·have hrun : (execOp (ev env) (O (.call ⟨.builtin .delete, #[x, y], #[t, t']⟩) ty)).run P w = .ok (.value (.tuple #[])) { w with heap := w.heap.setIfInBounds g (.map es clock) } := by
   simp [O, execOp, resolve, invoke, builtin, Builtin.delete_, Sem.run_bind, Sem.run_pure, Result.andThen_ok, hx, hy, run_underlying_ok ht, getObj_map hg, hck, h1, setObj_map _ hg]
  rw [hrun]
  exact h es (by rw [mdel_none h2]; exact hm) _ (sig_setmap hw hk _)
 ·have hrun : (execOp (ev env) (O (.call ⟨.builtin .delete, #[x, y], #[t, t']⟩) ty)).run P w = .ok (.value (.tuple #[])) { w with heap := w.heap.setIfInBounds g (.map (es.eraseIdxIfInBounds j) clock) } := by
   simp [O, execOp, resolve, invoke, builtin, Builtin.delete_, Sem.run_bind, Sem.run_pure, Result.andThen_ok, hx, hy, run_underlying_ok ht, getObj_map hg, hck, h1, setObj_map _ hg]
  rw [hrun]
  exact h _ (hm.erase h5) _ (sig_setmap hw hk _)
end
theorem j_litw {t e : TypeId} {x : Operand} {vs z : List Value} {sz : Nat} (ht : P.underlying t = some (.slice e)) (hz : (P.info? e).map (·.size) = some sz) (h0 : zeroL P e = some z) (hzl : z.length = sz) (hx : ev env x = .agg vs.toArray) (hl : vs.length = sz ∧ 0 < sz ∧ sz ≤ 1000)
  (h : ∀ g, b.w0.heap.size ≤ g → Own e sz vs (.slice (some ⟨g, 0, none⟩) 1 1) [(g, .cells vs.toArray e (0, 0))] → J P R T (.slice (some ⟨g, 0, none⟩) 1 1 :: env) ([(g, .cells vs.toArray e (0, 0))] :: S) b B) : J P R (.op (O (.buildSlice t 1 #[(0, x)]) ty) T) env S b B := fun w hw => by
 obtain ⟨zv, hzv, hrunz⟩ := run_zero_ok h0
 obtain ⟨hl, hs0, hs1⟩ := hl
 have hrun : (execOp (ev env) (O (.buildSlice t 1 #[(0, x)]) ty)).run P w = .ok (.value (.slice (some ⟨w.heap.size, 0, none⟩) 1 1)) (w.alloc (.cells vs.toArray e)) := by
  have hgt : ¬ (1 * sz > 2 ^ 24) := by omega
  have hne : ¬ (1 * sz = 0) := by omega
  have hf : ∀ zs : Array Value, zs.size = 1 * sz → Instr.fill (fun i => some (i * sz, sz)) zs [(0, Value.agg vs.toArray)] = some vs.toArray := by
   intro zs hzs
   have := fill_put (place := fun i => some (i * sz, sz)) [(0, Value.agg vs.toArray)] [(0, vs)] zs.toList rfl fun j p q hp hq => by
    cases j with
    | zero =>
     simp only [List.getElem?_cons_zero, Option.some.injEq] at hp hq
     subst hp hq
     refine ⟨by rw [hl, Nat.zero_mul], rfl, by show 0 + vs.length ≤ zs.size; rw [hzs, hl]; omega⟩
    | succ j => simp at hp
   simp only [Array.toArray_toList] at this
   rw [this]
   congr 2
   simp only [List.foldl_cons, List.foldl_nil]
   unfold putAt
   rw [List.take_zero, List.nil_append, Nat.zero_add, List.drop_of_length_le (by rw [Array.length_toList, hzs, hl]; omega), List.append_nil]
  have hp : (#[(0, x)].map fun p : Nat × Operand => (p.1, ev env p.2)).toList = [(0, Value.agg vs.toArray)] := by simp [hx]
  simp only [O, execOp, Instr.buildSlice, Sem.run_bind, run_underlying_ok ht, Result.andThen_ok, run_sizeOf_ok hz, if_neg hgt, if_neg hne, hrunz, Sem.run_pure]
  rw [hp, hf _ (by simp)]
  rfl
 show opW _ _ _ _ _ _
 unfold opW
 rw [hrun]
 obtain ⟨h1, h2, h3⟩ := hw.new (o := .cells vs.toArray e) (w' := w.alloc (.cells vs.toArray e)) rfl rfl rfl rfl
 exact h w.heap.size h3 (.inr ⟨w.heap.size, 1, 1, [], (0, 0), rfl, by simp, by omega, by simp; omega, Nat.le_refl _, fun _ _ h => by omega⟩) _ h1
theorem qs_mkfunc {f : FuncId} {xs ys : Array Operand} : QS P (O (.makeFunc (.func f) xs ys) ty) env b S (.func (.func f) (xs.map (ev env)) (ys.map (ev env))) := qs_run fun w => by
 simp only [O, execOp, Instr.makeFunc, Sem.run_bind, Sem.run_pure, Result.andThen_ok]
theorem qs_mkfunc1 {f : FuncId} {x : Operand} {v : Value} (hx : ev env x = v) : QS P (O (.makeFunc (.func f) #[] #[x]) ty) env b S (.func (.func f) #[] #[v]) := by
 have := qs_mkfunc (P := P) (env := env) (b := b) (S := S) (ty := ty) (f := f) (xs := #[]) (ys := #[x])
 simpa [hx] using this
theorem qs_callf {o : Oper} {v : Value} {f : FuncId} {xs : Array Operand} {tys : Array TypeId} {g : Operand} {args : List Value} {first cap : Array Value} (h : Enters P f) (ho : o.op = .call ⟨.value g, xs, tys⟩) (hg : ev env g = .func (.func f) first cap) (ha : first.toList ++ xs.toList.map (ev env) ++ cap.toList = args)
  (hc : ∀ w, Sig b S w → Con P f args w [] fun u _ => u = v) : QS P o env b S v := fun w hw => by
 unfold qAt
 rw [run_call h g ho hg w]
 have e : (first ++ xs.map (ev env) ++ cap : Array Value) = args.toArray := by
  rw [← ha]; apply Array.ext'; simp
 rw [e]
 refine ⟨rfl, (hc w hw (by simp) (by simp)).mono ?_⟩
 rintro e w' ⟨u, S', rfl, rfl, hS⟩
 refine ⟨rfl, ?_⟩
 have := Sig.call (Fp := []) (Fr := S.flatten) (S2 := S'.flatten :: S) hw (by simp) hS (by simp)
 exact this.sub (by simp)
end Go.Sx
/-! Sx18 -/
namespace Go.Sx
open Go Go.ChangeShapes Go.WideShapes Go.ChangeAt Go.RowKit
set_option linter.unusedVariables false
def RSlN (n : Nat) (w : World) (v : Value) (vs : List Value) (len : Nat) : Prop :=
 vs.length = len * n ∧ ((v = .slice none 0 0 ∧ len = 0) ∨ ∃ g off cap, v = .slice (some ⟨g, off, none⟩) len cap ∧ g < w.heap.size ∧ len ≤ cap ∧ Cells w ⟨g, off, none⟩ vs)
theorem rsln_form {n : Nat} {w : World} {v : Value} {vs : List Value} {len : Nat} (h : RSlN n w v vs len) : ∃ A cap g off, v = .slice A len cap ∧ len ≤ cap ∧ (0 < len → A = some ⟨g, off, none⟩ ∧ g < w.heap.size ∧ Cells w ⟨g, off, none⟩ vs) := by
 rcases h with ⟨_, ⟨rfl, rfl⟩ | ⟨g, off, cap, rfl, h1, h2, h3⟩⟩
 ·exact ⟨none, 0, 0, 0, rfl, Nat.le_refl _, fun h => by omega⟩
 ·exact ⟨_, cap, g, off, rfl, h2, fun _ => ⟨rfl, h1, h3⟩⟩
theorem rsln_keep {n : Nat} {w w' : World} {v : Value} {vs : List Value} {len : Nat} (h : RSlN n w v vs len) {S : List SH} (hs : Sig ⟨w, dom []⟩ S w') : RSlN n w' v vs len := by
 obtain ⟨h0, h | ⟨g, off, cap, rfl, h1, h2, h3⟩⟩ := h
 ·exact ⟨h0, .inl h⟩
 ·exact ⟨h0, .inr ⟨g, off, cap, rfl, Nat.lt_of_lt_of_le h1 hs.size, h2, cells_stay h3 hs (by simp)⟩⟩
section
variable {α : Type}
theorem flat_len {encA : α → List Value} {n : Nat} (hl : ∀ a, (encA a).length = n) (rs : List α) : (rs.map encA).flatten.length = rs.length * n := by
 induction rs with
 | nil => simp
 | cons a rs ih => simp only [List.map_cons, List.flatten_cons, List.length_append, hl, ih, List.length_cons, Nat.add_mul, Nat.one_mul]; omega
theorem flat_get {encA : α → List Value} {n : Nat} (hl : ∀ a, (encA a).length = n) : ∀ (rs : List α) (i k : Nat), k < n → (rs.map encA).flatten[i * n + k]? = (rs[i]?).bind fun a => (encA a)[k]?
 | [], i, k, hk => by simp
 | a :: rs, 0, k, hk => by
  rw [List.map_cons, List.flatten_cons, Nat.zero_mul, Nat.zero_add, List.getElem?_append_left (by rw [hl]; exact hk)]
  rfl
 | a :: rs, i + 1, k, hk => by
  have ih := flat_get hl rs i k hk
  rw [List.map_cons, List.flatten_cons, List.getElem?_append_right (by rw [hl, Nat.add_mul, Nat.one_mul]; omega), hl, show (i + 1) * n + k - n = i * n + k by rw [Nat.add_mul, Nat.one_mul]; omega, ih]
  rfl
theorem list_of {Q : Nat → α → Prop} : ∀ (len : Nat), (∀ i, i < len → ∃ a, Q i a) → ∃ rs : List α, rs.length = len ∧ ∀ i a, rs[i]? = some a → Q i a
 | 0, _ => ⟨[], rfl, fun i a h => by simp at h⟩
 | len + 1, h => by
  obtain ⟨rs, h1, h2⟩ := list_of len fun i hi => h i (by omega)
  obtain ⟨a, ha⟩ := h len (by omega)
  refine ⟨rs ++ [a], by simp [h1], fun i b hb => ?_⟩
  rcases Nat.lt_or_ge i rs.length with hi | hi
  ·rw [List.getElem?_append_left hi] at hb
   exact h2 i b hb
  ·rw [List.getElem?_append_right hi] at hb
   have : i - rs.length = 0 := by
    have := (List.getElem?_eq_some_iff.1 hb).1
    simp at this
    omega
   rw [this] at hb
   simp at hb
   subst hb
   obtain rfl : i = len := by omega
   exact ha
theorem open_sln {H : Type} {enc : TypeId × Value → H} {P : Program} {w : World} {r : Reach} {base b0 : Nat} {sp : Nat → Bool} {held : Bool} {t e : TypeId} {v : Value} {x : DataW H × List MemPlace} {n : Nat} (encA : α → List Value) (ok : α → Prop) (hl : ∀ a, (encA a).length = n) (hn : 0 < n) (ht : P.underlying t = some (.slice e)) (hc : P.cellsOf e = n) (hv : Value.okWide P w r base t v)
  (hE : ∀ fuel cs y, DataW.trod enc P w b0 sp held fuel e cs = some y → (y.1.weights P e).all (· ≤ reachBytes) = true → ∃ a, ok a ∧ cs = encA a) (h : ∃ fuel, DataW.trod enc P w b0 sp held fuel t v.cells.toList = some x) (hw : (x.1.weights P t).all (· ≤ reachBytes) = true) :
  ∃ rs : List α, RSlN n w v (rs.map encA).flatten rs.length ∧ (∀ a ∈ rs, ok a) ∧ rs.length * P.bytesOf e ≤ reachBytes := by
 obtain ⟨a0, len, cap, rfl⟩ := okWide_slice ht hv
 obtain ⟨fuel, hf⟩ := h
 have hcells : (Value.slice a0 len cap).cells.toList = [Value.slice a0 len cap] := rfl
 rcases DataW.trod_slice ht hf with ⟨hcs, _⟩ | ⟨a, len', cap', elems, rest, m, rfl, hcs, hx, hb, hlc, hm, hel, hall, _, _⟩
 ·rw [hcells] at hcs
  injection hcs with hcs
  rw [hcs]
  exact ⟨[], ⟨by simp, .inl ⟨rfl, rfl⟩⟩, (fun a ha => by cases ha), by simp⟩
 ·rw [hcells] at hcs
  injection hcs with hcs
  injection hcs with h1 h2 h3
  subst h1 h2 h3
  simp only [Value.okWide, ht, Cell.okWide, Cell.ok] at hv
  obtain ⟨_, _, _, hspot, row, cells, hshape, _⟩ := hv
  obtain ⟨g, off, spot⟩ := a
  simp only at hspot hshape
  subst hspot
  have hg : g < w.heap.size := by
   unfold World.shape? at hshape
   split at hshape
   ·rename_i hh; exact (Array.getElem?_eq_some_iff.1 hh).1
   ·cases hshape
  rw [hx] at hw
  unfold DataW.weights at hw
  simp only [ht, List.all_cons, Bool.and_eq_true, decide_eq_true_eq, List.all_append] at hw
  obtain ⟨hw1, hw2, _⟩ := hw
  have hwe : ∀ (l : List (DataW H)), (DataW.weightsAll P e l).all (· ≤ reachBytes) = true → ∀ d ∈ l, (d.weights P e).all (· ≤ reachBytes) = true := by
   intro l
   induction l with
   | nil => intro _ d hd; cases hd
   | cons d l ih =>
    intro hh d' hd'
    unfold DataW.weightsAll at hh
    rw [List.all_append, Bool.and_eq_true] at hh
    rcases List.mem_cons.1 hd' with rfl | hd'
    ·exact hh.1
    ·exact ih hh.2 d' hd'
  obtain ⟨rs, hr1, hr2⟩ := list_of (Q := fun i (a : α) => ok a ∧ w.cells? b0 ((⟨g, off, none⟩ : Addr).add (i * n)) n = some (encA a)) len fun i hi => by
   have h4 := hall i hi
   obtain ⟨y, hy⟩ : ∃ y, elems[i]? = some y := ⟨_, List.getElem?_eq_getElem (by omega)⟩
   rw [hy, hc] at h4
   obtain ⟨cs, h5, h6⟩ := Option.bind_eq_some_iff.1 h4
   obtain ⟨a, ha1, ha2⟩ := hE _ _ _ h6 (hwe _ hw2 y.1 (List.mem_map.2 ⟨y, List.mem_of_getElem? hy, rfl⟩))
   exact ⟨a, ha1, by rw [h5, ha2]⟩
  refine ⟨rs, ⟨flat_len hl rs, .inr ⟨g, off, cap, by rw [hr1], hg, by rw [hr1]; exact hlc, fun j u hu => ?_⟩⟩, fun a ha => ?_, ?_⟩
  ·have hj : j = j / n * n + j % n := by have := Nat.div_add_mod j n; rw [Nat.mul_comm]; omega
   have hk : j % n < n := Nat.mod_lt _ hn
   rw [hj, flat_get hl rs _ _ hk] at hu
   obtain ⟨a, ha, hu⟩ := Option.bind_eq_some_iff.1 hu
   obtain ⟨_, hcs⟩ := hr2 _ _ ha
   obtain ⟨_, _, h7⟩ := World.cells?_some hcs
   have h8 := h7 (j % n) hk
   rw [hu] at h8
   rw [hj]
   rw [add_off] at h8 ⊢
   rw [add_off] at h8
   rw [← h8]
   congr 2
   omega
  ·obtain ⟨i, hi⟩ := List.mem_iff_getElem?.1 ha
   exact (hr2 i a hi).1
  ·rw [hr1]
   refine Nat.le_trans (Nat.mul_le_mul_right _ ?_) hw1
   simp only [List.length_map]
   omega
end
end Go.Sx
/-! Sx19 -/
namespace Go.Sx
open Go Go.MapKept Go.WideMaps Go.Maps
set_option linter.unusedVariables false
set_option linter.unusedSimpArgs false
set_option linter.unusedSectionVars false
variable {P : Program} {R : Ending → World → Prop} {env : Env} {b : Base} {S : List SH} {B : JB} {T : Tree} {v : Value} {ty : TypeId}
theorem qs_ixn {t e : TypeId} {x y : Operand} {n c sz g off i : Nat} {k : IntKind} (ht : P.underlying t = some (.slice e)) (hz : (P.info? e).map (·.size) = some sz) (hx : ev env x = .slice (some ⟨g, off, none⟩) n c) (hy : ev env y = .int k (i : Int)) (h : i < n) :
  QS P (O (.indexAddr t x y) ty) env b S (.pointer (some ⟨g, off + i * sz, none⟩)) := by
 have := qs_ixl (P := P) (env := env) (b := b) (S := S) (ty := ty) (x := x) (y := y) ht hz hx hy (by omega) (by omega)
 rw [add_off, Int.toNat_natCast] at this
 exact this
theorem qs_loadrecw {α : Type} {encA : α → List Value} {n : Nat} {rs : List α} {d : α} {t : TypeId} {dd : TypeDesc} {x : Operand} {g off i : Nat} (hl : ∀ a, (encA a).length = n) (hr : Rd b S ⟨g, off, none⟩ (rs.map encA).flatten) (hi : i < rs.length) (hu : P.underlying t = some dd) (hd : flat dd = false) (hz : (P.info? t).map (·.size) = some n)
  (hx : ev env x = .pointer (some ⟨g, off + i * n, none⟩)) : QS P (O (.load t x) ty) env b S (.agg (encA (rs.getD i d)).toArray) := by
 refine qs_loadwR (g := g) (off := off + i * n) (n := n) (vs := encA (rs.getD i d)) (fun w hw j u hj => ?_) hu hd hz hx (hl _)
 have hk : j < n := by
  have := (List.getElem?_eq_some_iff.1 hj).1
  rwa [hl] at this
 have h := hr w hw (i * n + j) u (by
  rw [flat_get hl rs i j hk, List.getElem?_eq_getElem hi]
  rw [List.getD_eq_getElem?_getD, List.getElem?_eq_getElem hi] at hj
  exact hj)
 rw [add_off] at h ⊢
 rw [Nat.add_assoc]
 exact h
theorem qs_mkfuncv {f : FuncId} {ys : Array Operand} {vs : List Value} (h : ys.toList.map (ev env) = vs) : QS P (O (.makeFunc (.func f) #[] ys) ty) env b S (.func (.func f) #[] vs.toArray) := by
 have := qs_mkfunc (P := P) (env := env) (b := b) (S := S) (ty := ty) (f := f) (xs := #[]) (ys := ys)
 have e : ys.map (ev env) = vs.toArray := by rw [← h]; apply Array.ext'; simp
 rw [e] at this
 simpa using this
theorem j_callf {o : Oper} {f : FuncId} {xs : Array Operand} {tys : Array TypeId} {g : Operand} {args : List Value} {first cap : Array Value} {post : Value → List SH → Prop} (k : Nat) {c : SH} (h : Enters P f) (ho : o.op = .call ⟨.value g, xs, tys⟩) (hg : ev env g = .func (.func f) first cap) (ha : first.toList ++ xs.toList.map (ev env) ++ cap.toList = args)
  (hk : S[k]? = some c) (hc : ∀ w, Sig b S w → Con P f args w c post) (hn : ∀ u S', post u S' → J P R T (u :: env) (S' ++ S.set k []) b B) : J P R (.op o T) env S b B := fun w hw => by
 show opW _ _ _ _ _ _
 unfold opW
 rw [run_call h g ho hg w]
 have e : (first ++ xs.map (ev env) ++ cap : Array Value) = args.toArray := by
  rw [← ha]; apply Array.ext'; simp
 rw [e]
 obtain ⟨r, h1, h2⟩ := flatten_set hk []
 have hnd : (dom c).Nodup := by
  have := (h1.map Prod.fst).nodup_iff.1 hw.nodup
  rw [List.map_append, List.nodup_append] at this
  exact this.1
 refine (hc w hw (fun p hp => hw.own p (mem_flatten_of hk hp)) hnd).mono ?_
 rintro e w' ⟨u, S', rfl, hp, hS⟩
 refine hn u S' hp w' (Sig.call (Fr := r) hw h1 hS ?_)
 rw [List.flatten_append]
 exact (by simpa using h2 : (S.set k []).flatten.Perm r).append_left _
theorem qs_extw {f : FuncId} {fn : Func} {e : Array Value → Sem Value} {xs : Array Operand} {tys : Array TypeId} {g : Operand} {args : List Value} {o : Oper} (ho : o.op = .call ⟨.value g, xs, tys⟩) (hg : ev env g = .func (.func f) #[] #[]) (ha : xs.toList.map (ev env) = args) (hr : ∀ w, Sig b S w → (callFunc f args.toArray).run P w = .ok (.value v) w) : QS P o env b S v := qs_val fun w hw => by
 have e1 : (#[] ++ xs.map (ev env) ++ #[] : Array Value) = args.toArray := by
  rw [← ha]; apply Array.ext'; simp
 simp only [execOp, ho, resolve, hg, Deferred.ofValue, invoke, Sem.run_bind, Sem.run_pure, Result.andThen_ok, e1, hr w hw]
theorem setCell_same {w : World} {g i : Nat} {l : List Value} {e : TypeId} {fz : Nat × Nat} {u : Value} (h : w.heap[g]? = some (.cells l.toArray e fz)) : (w.setCell ⟨g, i, none⟩ u).heap[g]? = some (.cells (l.set i u).toArray e fz) := by
 unfold World.setCell
 simp [Array.getElem?_modify, h]
theorem setCell_other {w : World} {g i j : Nat} {u : Value} (h : j ≠ g) : (w.setCell ⟨g, i, none⟩ u).heap[j]? = w.heap[j]? := by
 unfold World.setCell
 simp only [Array.getElem?_modify, if_neg (fun e => h (Eq.symm e))]
theorem j_extset {f : FuncId} {xs : Array Operand} {tys : Array TypeId} {g : Operand} {args : List Value} {o : Oper} {gb i : Nat} {l : List Value} {e : TypeId} {fz : Nat × Nat} {u : Value} (k : Nat) (ho : o.op = .call ⟨.value g, xs, tys⟩) (hg : ev env g = .func (.func f) #[] #[]) (ha : xs.toList.map (ev env) = args)
  (hk : S[k]? = some [(gb, .cells l.toArray e fz)]) (hr : ∀ w, w.heap[gb]? = some (.cells l.toArray e fz) → (callFunc f args.toArray).run P w = .ok (.value v) (w.setCell ⟨gb, i, none⟩ u))
  (h : J P R T (v :: env) (S.set k [(gb, .cells (l.set i u).toArray e fz)]) b B) : J P R (.op o T) env S b B := fun w hw => by
 have hgb := hw.at_ hk
 show opW _ _ _ _ _ _
 unfold opW
 have e1 : (#[] ++ xs.map (ev env) ++ #[] : Array Value) = args.toArray := by
  rw [← ha]; apply Array.ext'; simp
 have hrun : (execOp (ev env) o).run P w = .ok (.value v) (w.setCell ⟨gb, i, none⟩ u) := by
  simp only [execOp, ho, resolve, hg, Deferred.ofValue, invoke, Sem.run_bind, Sem.run_pure, Result.andThen_ok, e1, hr w hgb]
 rw [hrun]
 exact h _ (hw.set hk (o' := .cells (l.set i u).toArray e fz) rfl rfl rfl (by unfold World.setCell; simp) (setCell_same hgb) (fun j hj => setCell_other hj))
end Go.Sx
/-! Sx20 -/
namespace Go.Sx
open Go Go.MapKept Go.WideMaps Go.Maps
set_option linter.unusedVariables false
set_option linter.unusedSimpArgs false
set_option linter.unusedSectionVars false
variable {P : Program} {R : Ending → World → Prop} {env : Env} {b : Base} {S : List SH} {B : JB} {T : Tree} {v : Value} {ty : TypeId}
theorem j_appendK {t t' e : TypeId} {x y : Operand} {sz by_ m n cap : Nat} {A : Option Addr} {xs news : List Value} {d : TypeDesc} (k : Nat) (ht : P.underlying t = some (.slice e)) (ht' : P.underlying t' = some d) (hd : d = .string ∨ ∃ e', d = .slice e') (hi : (P.info? e).map (fun i => (i.size, i.bytes)) = some (sz, by_)) {z : List Value} (hz : zeroL P e = some z) (hzl : z.length = sz)
  (hx : ev env x = .slice A n cap) (hxl : xs.length = n * sz) (hA : (A = none ∧ cap = 0) ∨ ∃ g, A = some ⟨g, 0, none⟩ ∧ Rd b S ⟨g, 0, none⟩ xs) (hncap : n ≤ cap) (hy : Src b S sz (ev env y) m news) (h1 : ∀ u ∈ news, oneV u = true) (hb : (xs.length + news.length) * (by_ + 1) ≤ 140737488355328 ∧ 0 < sz)
  (hgrow : cap < n + m → ∀ g' cap' rest, n + m ≤ cap' → ((xs ++ news) ++ rest).length = cap' * sz → J P R T (.slice (some ⟨g', 0, none⟩) (n + m) cap' :: env) ([(g', .cells ((xs ++ news) ++ rest).toArray e (0, 0))] :: S) b B)
  (hzero : m = 0 → J P R T (.slice A n cap :: env) S b B)
  (hfit : n + m ≤ cap → m ≠ 0 → ∃ g rest fz, A = some ⟨g, 0, none⟩ ∧ S[k]? = some [(g, .cells (xs ++ rest).toArray e fz)] ∧ (xs ++ rest).length = cap * sz ∧ (∀ j, j < (xs ++ rest).length → ¬ (fz.1 ≤ j ∧ j < fz.2)) ∧ J P R T (.slice (some ⟨g, 0, none⟩) (n + m) cap :: env) (S.set k [(g, .cells ((xs ++ news) ++ rest.drop news.length).toArray e fz)]) b B) :
  J P R (.op (O (.call ⟨.builtin .append, #[x, y], #[t, t']⟩) ty) T) env S b B := fun w hw => by
 rcases hd with rfl | ⟨e', rfl⟩
 all_goals (
  obtain ⟨i, hi', hsb⟩ := Option.map_eq_some_iff.1 hi
  obtain ⟨rfl, rfl⟩ : i.size = sz ∧ i.bytes = by_ := by simpa using hsb
  obtain ⟨zv, hzv, hrunz⟩ := run_zero_ok hz
  obtain ⟨hb, hsz⟩ := hb
  have hml := src_len hy
  have hsize : ∀ w, (sizeOf e).run P w = .ok i.size w := run_sizeOf_ok (by rw [hi']; rfl)
  have hinfo : ∀ w, (typeInfo e).run P w = .ok i w := fun w => by simp only [typeInfo, program, Sem.run_bind, Sem.run, Result.andThen_ok, hi']; simp only [Sem.run_pure]
  have hgo : ∀ v' w' S', J P R T (v' :: env) S' b B → Sig b S' w' → (Builtin.append_ #[t, t'] ty #[ev env x, ev env y]).run P w = .ok v' w' → opW P (O (.call ⟨.builtin .append, #[x, y], #[t, t']⟩) ty) env w R fun v w' => W P R T (v :: env) w' (B.map (lift b)) := fun v' w' S' hJ hs hr => by
   unfold opW
   have e1 : (execOp (ev env) (O (.call ⟨.builtin .append, #[x, y], #[t, t']⟩) ty)).run P w = .ok (.value v') w' := by
    simp [O, execOp, resolve, invoke, builtin, Sem.run_bind, Sem.run_pure, Result.andThen_ok, hr]
   rw [e1]
   exact hJ w' hs
  show opW _ _ _ _ _ _
  have hmle : m ≤ news.length := by rw [hml]; exact Nat.le_mul_of_pos_right _ hsz
  have hsum : xs.length + news.length ≤ 140737488355328 := Nat.le_trans (Nat.le_mul_of_pos_right _ (by omega)) hb
  have hfirst : ∀ w, Sig b S w → (Builtin.firstCells i.size n (.slice A n cap)).run P w = .ok xs.toArray w := fun w hw => by
   rcases hA with ⟨rfl, rfl⟩ | ⟨g, rfl, hr⟩
   ·obtain rfl : n = 0 := by omega
    rw [Nat.zero_mul] at hxl
    rw [List.eq_nil_of_length_eq_zero hxl]
    simp only [Builtin.firstCells, Sem.run_pure]
   ·exact run_firstCells_some w i.size n _ n cap xs hxl (hr w hw)
  have hnle : n ≤ xs.length := by rw [hxl]; exact Nat.le_mul_of_pos_right _ hsz
  by_cases hroom : n + m ≤ cap
  ·by_cases hm : m = 0
   ·subst hm
    have hn : news = [] := List.eq_nil_of_length_eq_zero (by simpa using hml)
    subst hn
    refine hgo (.slice A n cap) w S (hzero rfl) hw ?_
    rw [hx]
    rcases hA with ⟨rfl, rfl⟩ | ⟨g, rfl, hr⟩
    ·obtain rfl : n = 0 := by omega
     simp only [Builtin.append_, List.getElem?_toArray, List.getElem?_cons_zero, List.getElem?_cons_succ, Sem.run_bind, run_underlying_ok ht, run_underlying_ok ht', Result.andThen_ok, hsize, Sem.run_pure]
     simp only [Bool.false_eq_true, if_false, run_lenOf hy, Result.andThen_ok, Nat.add_zero, Nat.le_refl, if_true, Bool.not_false, run_firsts (P := P) hy hw, Sem.run_bind, Sem.run_pure]
    ·simp only [Builtin.append_, List.getElem?_toArray, List.getElem?_cons_zero, List.getElem?_cons_succ, Sem.run_bind, run_underlying_ok ht, run_underlying_ok ht', Result.andThen_ok, hsize, Sem.run_pure]
     simp only [Bool.false_eq_true, if_false, run_lenOf hy, Result.andThen_ok, if_pos hncap, if_pos hroom, Nat.add_zero, Bool.not_false, if_true, run_firsts (P := P) hy hw, add_off, Nat.zero_add, Sem.run_bind]
     rfl
   ·obtain ⟨g, rest, fz, rfl, hk, hcl, hfz, hJ⟩ := hfit hroom hm
    have hgb := hw.at_ hk
    have hfit' : n * i.size + 0 + news.length ≤ (xs ++ rest).length := by
     rw [hcl, hml, Nat.add_zero, ← Nat.add_mul]
     exact Nat.mul_le_mul_right _ hroom
    obtain ⟨w', e1, e2, e3, e4, e5, e6, e7⟩ := run_storeCells_ok (P := P) news (n * i.size) 0 (xs ++ rest) w hgb hfit' (fun j _ hj => hfz j (by omega)) h1
    have hE : (xs ++ rest).take (n * i.size + 0) ++ news ++ (xs ++ rest).drop (n * i.size + 0 + news.length) = (xs ++ news) ++ rest.drop news.length := by
     rw [Nat.add_zero, ← hxl, List.take_left', List.drop_append, List.drop_of_length_le (by omega)]
     ·simp
     ·rfl
    rw [hE] at e6
    refine hgo (.slice (some ⟨g, 0, none⟩) (n + m) cap) w' _ hJ (hw.set hk e2 e3 e4 e5 e6 e7) ?_
    rw [hx]
    simp only [Builtin.append_, List.getElem?_toArray, List.getElem?_cons_zero, List.getElem?_cons_succ, Sem.run_bind, run_underlying_ok ht, run_underlying_ok ht', Result.andThen_ok, hsize, Sem.run_pure]
    simp only [Bool.false_eq_true, if_false, run_lenOf hy, Result.andThen_ok, if_pos hroom, Bool.not_false, if_true, run_firsts (P := P) hy hw, add_off, Nat.zero_add, Sem.run_bind]
    have e1' : (storeCells ⟨g, n * i.size, none⟩ news.toArray.toList).run P w = .ok () w' := e1
    rw [e1']
    rfl
  ·have hc : cap < n + m := by omega
   have h48 : ¬ (Builtin.nextslicecap (n + m) cap * i.bytes > 2 ^ 48) := by
    have := growslice_fits (need := n + m) (old := cap) (bytes := i.bytes) hc (by
     refine Nat.le_trans (Nat.mul_le_mul_right _ (by omega : n + m ≤ xs.length + news.length)) (Nat.le_trans (Nat.mul_le_mul_left _ (Nat.le_succ _)) hb))
    omega
   have h63 : ¬ ((((n + m : Nat) : Int) > IntKind.i64.max) ∧ (False ∨ i.bytes = 0)) := by
    have : IntKind.i64.max = 9223372036854775807 := rfl
    rw [this]; omega
   have hge := grownCap_ge w (n + m) cap e
   refine hgo (.slice (some ⟨w.heap.size, 0, none⟩) (n + m) (grownCap w (n + m) cap e)) (w.drew.alloc (.cells ((xs ++ news) ++ (Builtin.zeroCells zv.cells (grownCap w (n + m) cap e - (n + m))).toList).toArray e)) _ (hgrow hc w.heap.size (grownCap w (n + m) cap e) (Builtin.zeroCells zv.cells (grownCap w (n + m) cap e - (n + m))).toList hge ?_) ?_ ?_
   ·rw [List.length_append, List.length_append, hxl, hml, Array.length_toList, size_zeroCells, hzv, List.size_toArray, hzl, ← Nat.add_mul, ← Nat.add_mul]
    congr 1
    omega
   ·exact (Sig.new (w' := w.drew.alloc (.cells ((xs ++ news) ++ (Builtin.zeroCells zv.cells (grownCap w (n + m) cap e - (n + m))).toList).toArray e)) hw rfl rfl rfl rfl).1
   ·have f1 := hfirst w.drew hw.drew
    have f2 := run_firsts (P := P) hy (w := w.drew) hw.drew
    rw [hx]
    have hroom : ¬ (n + m ≤ cap) := by omega
    have e1 : ∀ (b : Bool) (w : World), (if b = true then (mark Mark.noRoom : Sem PUnit) else pure ()).run P w = .ok ⟨⟩ w := fun b w => by cases b <;> rfl
    have e2 : ∀ (n : Nat) (w : World), (askRoom n).run P w = .ok () w := fun n w => by unfold askRoom; split <;> rfl
    simp only [Builtin.append_, List.getElem?_toArray, List.getElem?_cons_zero, List.getElem?_cons_succ, Sem.run_bind, run_underlying_ok ht, run_underlying_ok ht', Result.andThen_ok, hsize, Sem.run_pure, run_lenOf hy, hinfo]
    simp only [Bool.false_eq_true, if_false, run_lenOf hy, Result.andThen_ok, if_neg hroom, hinfo, Sem.run_bind, Bool.not_false, if_true, if_neg h48, if_neg h63]
    simp only [choose, Sem.run, Question.forced, Bool.false_eq_true, if_false, Result.andThen_ok, Sem.run_bind, e2]
    show ((Builtin.firstCells i.size n (Value.slice A n cap)).run P w.drew).andThen _ = _
    rw [f1]
    simp only [Result.andThen_ok, Sem.run_bind, f2, hrunz, newRow, Sem.run_pure]
    simp only [newObj, Sem.run, Result.andThen_ok]
    simp only [grownCap, Question.cut, Array.toList_append, List.append_assoc]
    congr 1
    simp only [World.alloc, World.drew]
    congr 2
    congr 1
    apply Array.ext'
    simp)
theorem run_ptr_eq {t e : TypeId} {n : Nat} {w : World} {A : Option Addr} {a : Addr} (ht : P.underlying t = some (.pointer e)) (hz : (P.info? e).map (·.size) = some n) (hn : n ≠ 0) (hA : ∀ a', A = some a' → ∃ l ty, w.heap[a'.block]? = some (.cells l ty (0, 0))) (ha : ∃ l ty, w.heap[a.block]? = some (.cells l ty (0, 0))) (d : Nat) :
  (Op.equalIn (d + 1) t (.pointer A) (.pointer (some a))).run P w = .ok (decide (A = some a)) w := by
 cases A with
 | none => simp only [Op.equalIn, Sem.run_bind, run_underlying_ok ht, Result.andThen_ok, Sem.run_pure]; rfl
 | some a' =>
  simp only [Op.equalIn, Sem.run_bind, run_underlying_ok ht, Result.andThen_ok, run_sizeOf_ok hz w]
  rw [if_pos hn]
  by_cases h : a' = a
  ·subst h
   rw [run_sameAddr_same]
   simp
  ·obtain ⟨l, ty, h1⟩ := hA a' rfl
   obtain ⟨l2, ty2, h2⟩ := ha
   rw [run_sameAddr_other w h h1 h2]
   congr 1
   simp [h]
theorem qs_pne {t e t' : TypeId} {x y : Operand} {n : Nat} {A : Option Addr} {a : Addr} (ht : P.underlying t = some (.pointer e)) (hz : (P.info? e).map (·.size) = some n) (hn : n ≠ 0) (hx : ev env x = .pointer A) (hy : ev env y = .pointer (some a)) (hA : ∀ a', A = some a' → ∃ l ty, RdO b S a'.block (.cells l ty (0, 0))) (ha : ∃ l ty, RdO b S a.block (.cells l ty (0, 0))) :
  QS P (O (.binOp .neq t x y t') ty) env b S (.bool (!decide (A = some a))) := qs_val fun w hw => by
 refine run_eq (r := decide (A = some a)) (.inr rfl) hx hy (by unfold eqGuard; rfl) (fun _ _ h => by cases h) (fun _ _ h => by cases h) (fun _ _ _ h => by cases h) (fun _ h => by cases h) fun d => ?_
 refine run_ptr_eq ht hz hn (fun a' h => ?_) ?_ d
 ·obtain ⟨l, ty, h1⟩ := hA a' h
  exact ⟨l, ty, h1 w hw⟩
 ·obtain ⟨l, ty, h1⟩ := ha
  exact ⟨l, ty, h1 w hw⟩
theorem qs_cut3 {t e : TypeId} {x h mx : Operand} {z m n c sz : Nat} {k1 k2 : IntKind} {A : Option Addr} (ht : P.underlying t = some (.slice e)) (hz : (P.info? e).map (·.size) = some sz) (hx : ev env x = .slice A n c) (hh : ev env h = .int k1 (z : Int)) (hm : ev env mx = .int k2 (m : Int)) (h1 : z ≤ m) (h2 : m ≤ c) :
  QS P (O (.slice t x none (some h) (some mx)) ty) env b S (.slice (if m = 0 then A else A.map (·.add (0 * sz))) z m) := qs_run fun w => by
 have hz' : ∀ w, (sizeOf e).run P w = .ok sz w := run_sizeOf_ok hz
 have hb : ∀ w, (Instr.sliceBounds true n c none (some (.int k1 (z : Int))) (some (.int k2 (m : Int)))).run P w = .ok (0, z, m) w := fun w => by
  simp [Instr.sliceBounds, run_bound h2, run_bound h1, Sem.run_bind, Sem.run_pure]
 simp only [O, execOp, hx, Instr.sliceAt, Instr.slice, Option.map_none, Option.map_some, hh, hm, Sem.run_bind, Sem.run_pure, Result.andThen_ok, run_underlying_ok ht]
 rw [hb]
 simp only [Result.andThen_ok, Sem.run_pure, hz', Sem.run_bind, Nat.sub_zero]
theorem j_convsl {t e : TypeId} {x : Operand} {g n c : Nat} {l : List Value} {e0 : TypeId} (k : Nat) (ht : P.underlying t = some (.slice e)) (he : P.underlying e = some (.int .u8)) (hk : S[k]? = some [(g, .cells l.toArray e0 (0, 0))]) (hx : ev env x = .slice (some ⟨g, 0, none⟩) n c)
  (h : J P R T (.slice (some ⟨g, 0, none⟩) n c :: env) (S.set k [(g, .cells l.toArray e0 (l.length, l.length + 1))]) b B) : J P R (.op (O (.convert t t x) ty) T) env S b B := fun w hw => by
 have hg := hw.at_ hk
 show opW _ _ _ _ _ _
 unfold opW
 have hsh : (shape g).run P w = .ok (some (e0, l.length)) w := by
  simp [shape, Sem.run, World.shape?, hg]
 have hrun : (execOp (ev env) (O (.convert t t x) ty)).run P w = .ok (.value (.slice (some ⟨g, 0, none⟩) n c)) (w.freeze ⟨g, l.length, none⟩ 1) := by
  simp only [O, execOp, hx, convert, Sem.run_bind, run_underlying_ok ht, run_underlying_ok he, Result.andThen_ok, beq_self_eq_true, markStringish, hsh]
  rfl
 rw [hrun]
 refine h _ (hw.set hk (o' := .cells l.toArray e0 (l.length, l.length + 1)) ?_ ?_ ?_ ?_ ?_ (fun j hj => ?_))
 ·simp [World.freeze]
 ·simp [World.freeze]
 ·simp [World.freeze]
 ·simp [World.freeze]
 ·simp [World.freeze, Array.getElem?_modify, hg]
 ·simp [World.freeze, Array.getElem?_modify, Ne.symm hj]
end Go.Sx
/-! Fs1 -/
namespace Go.Proofs.YtfebkkmmagbnlaaGreatDoor
theorem U3 : type_of% @Tryz.underlying3 := @Tryz.underlying3
theorem U4 : type_of% @Tryz.underlying4 := @Tryz.underlying4
theorem U5 : type_of% @Tryz.underlying5 := @Tryz.underlying5
theorem U9 : type_of% @Tryz.underlying9 := @Tryz.underlying9
theorem U12 : type_of% @Tryz.underlying12 := @Tryz.underlying12
theorem U23 : type_of% @Tryz.underlying23 := @Tryz.underlying23
theorem U27 : type_of% @Tryz.underlying27 := @Tryz.underlying27
theorem U33 : type_of% @Tryz.underlying33 := @Tryz.underlying33
theorem U45 : type_of% @Tryz.underlying45 := @Tryz.underlying45
theorem U48 : type_of% @Tryz.underlying48 := @Tryz.underlying48
theorem U49 : type_of% @Tryz.underlying49 := @Tryz.underlying49
theorem U51 : type_of% @Tryz.underlying51 := @Tryz.underlying51
theorem U55 : type_of% @Tryz.underlying55 := @Tryz.underlying55
theorem U59 : type_of% @Tryz.underlying59 := @Tryz.underlying59
theorem U61 : type_of% @Tryz.underlying61 := @Tryz.underlying61
theorem U63 : type_of% @Tryz.underlying63 := @Tryz.underlying63
theorem U64 : type_of% @Tryz.underlying64 := @Tryz.underlying64
theorem U65 : type_of% @Tryz.underlying65 := @Tryz.underlying65
theorem U67 : type_of% @Tryz.underlying67 := @Tryz.underlying67
theorem U68 : type_of% @Tryz.underlying68 := @Tryz.underlying68
theorem U69 : type_of% @Tryz.underlying69 := @Tryz.underlying69
theorem U74 : type_of% @Tryz.underlying74 := @Tryz.underlying74
theorem U75 : type_of% @Tryz.underlying75 := @Tryz.underlying75
theorem U76 : type_of% @Tryz.underlying76 := @Tryz.underlying76
theorem U78 : type_of% @Tryz.underlying78 := @Tryz.underlying78
theorem U88 : type_of% @Tryz.underlying88 := @Tryz.underlying88
theorem U90 : type_of% @Tryz.underlying90 := @Tryz.underlying90
theorem U92 : type_of% @Tryz.underlying92 := @Tryz.underlying92
theorem U105 : type_of% @Tryz.underlying105 := @Tryz.underlying105
theorem U107 : type_of% @Tryz.underlying107 := @Tryz.underlying107
theorem U109 : type_of% @Tryz.underlying109 := @Tryz.underlying109
theorem U110 : type_of% @Tryz.underlying110 := @Tryz.underlying110
theorem U112 : type_of% @Tryz.underlying112 := @Tryz.underlying112
theorem U114 : type_of% @Tryz.underlying114 := @Tryz.underlying114
theorem U121 : type_of% @Tryz.underlying121 := @Tryz.underlying121
theorem U123 : type_of% @Tryz.underlying123 := @Tryz.underlying123
theorem U125 : type_of% @Tryz.underlying125 := @Tryz.underlying125
theorem U131 : type_of% @Tryz.underlying131 := @Tryz.underlying131
theorem U133 : type_of% @Tryz.underlying133 := @Tryz.underlying133
theorem U134 : type_of% @Tryz.underlying134 := @Tryz.underlying134
theorem U136 : type_of% @Tryz.underlying136 := @Tryz.underlying136
theorem U142 : type_of% @Tryz.underlying142 := @Tryz.underlying142
theorem U153 : type_of% @Tryz.underlying153 := @Tryz.underlying153
theorem U154 : type_of% @Tryz.underlying154 := @Tryz.underlying154
theorem U158 : type_of% @Tryz.underlying158 := @Tryz.underlying158
theorem U164 : type_of% @Tryz.underlying164 := @Tryz.underlying164
theorem U165 : type_of% @Tryz.underlying165 := @Tryz.underlying165
theorem U176 : type_of% @Tryz.underlying176 := @Tryz.underlying176
theorem U180 : type_of% @Tryz.underlying180 := @Tryz.underlying180
theorem U192 : type_of% @Tryz.underlying192 := @Tryz.underlying192
theorem U196 : type_of% @Tryz.underlying196 := @Tryz.underlying196
theorem U222 : type_of% @Tryz.underlying222 := @Tryz.underlying222
theorem U225 : type_of% @Tryz.underlying225 := @Tryz.underlying225
end Go.Proofs.YtfebkkmmagbnlaaGreatDoor
namespace Go.Proofs.YtfebkkmmagbnlaaGreatDoor
open Go Go.Sx
set_option maxRecDepth 100000
set_option maxHeartbeats 4000000
set_option linter.unusedVariables false
set_option linter.unusedSimpArgs false
attribute [local irreducible] J JQ QS Con W opW
open Go.MapKept Go.WideMaps Go.Maps
abbrev strEnc : List UInt8 → Value := fun l => .string (bs l)
abbrev strOk : List UInt8 → Prop := fun l => l.length ≤ 9223372036854775807
theorem strKey : KeyE Tryz.prog 9 strEnc strOk := str_key U9
theorem zv63 : (Tryz.prog.info? 110).bind (·.zero) = some (.pointer none) := by kernel_rfl
section
variable {κ α β : Type} [DecidableEq κ]
def alook (m : List (κ × α)) (k : κ) : Option α := (m.find? (fun p => decide (p.1 = k))).map (·.2)
def aset (m : List (κ × α)) (k : κ) (v : α) : List (κ × α) := if (alook m k).isSome then m.map (fun p => if p.1 = k then (p.1, v) else p) else m ++ [(k, v)]
theorem mlook_map (f : α → Value) (m : List (κ × α)) (k : κ) : mlook (m.map fun p => (p.1, f p.2)) k = (alook m k).map f := by
 unfold mlook alook
 rw [List.find?_map, Option.map_map, Option.map_map]
 rfl
theorem mset_map (f : α → Value) (m : List (κ × α)) (k : κ) (v : α) : mset (m.map fun p => (p.1, f p.2)) k (f v) = (aset m k v).map fun p => (p.1, f p.2) := by
 unfold mset aset mput
 rw [mlook_map]
 cases h : alook m k with
 | none => simp
 | some a =>
  simp only [Option.map_some, Option.isSome_some, if_true, List.map_map]
  refine List.map_congr_left fun p _ => ?_
  simp only [Function.comp]
  split <;> rfl
theorem mdel_map (f : α → β) (m : List (κ × α)) (k : κ) : mdel (m.map fun p => (p.1, f p.2)) k = (mdel m k).map fun p => (p.1, f p.2) := by
 unfold mdel
 rw [List.filter_map]
 rfl
theorem alook_split {m : List (κ × α)} {k : κ} {v : α} (h : alook m k = some v) : ∃ a b, m = a ++ (k, v) :: b ∧ ∀ q ∈ a, q.1 ≠ k := by
 unfold alook at h
 obtain ⟨p, hp, rfl⟩ := Option.map_eq_some_iff.1 h
 obtain ⟨h1, a, b, rfl, h2⟩ := List.find?_eq_some_iff_append.1 hp
 simp only [decide_eq_true_eq] at h1
 subst h1
 exact ⟨a, b, rfl, fun q hq => by simpa using h2 q hq⟩
theorem alook_none {m : List (κ × α)} {k : κ} : alook m k = none ↔ ∀ p ∈ m, p.1 ≠ k := by
 unfold alook
 rw [Option.map_eq_none_iff, List.find?_eq_none]
 simp
theorem alook_append_hit {a b : List (κ × α)} {k : κ} {v : α} (h : ∀ q ∈ a, q.1 ≠ k) : alook (a ++ (k, v) :: b) k = some v := by
 unfold alook
 rw [List.find?_append, List.find?_eq_none.2 (by simpa using h)]
 simp
theorem alook_app {a b : List (κ × α)} {k : κ} (h : (alook a k).isSome = true) : alook (a ++ b) k = alook a k := by
 obtain ⟨v, hv⟩ := Option.isSome_iff_exists.1 h
 obtain ⟨a1, a2, rfl, ha⟩ := alook_split hv
 rw [hv, List.append_assoc, List.cons_append, alook_append_hit ha]
theorem alook_mem {m : List (κ × α)} {k : κ} {v : α} (h : alook m k = some v) : (k, v) ∈ m := by
 obtain ⟨a, b, rfl, _⟩ := alook_split h
 simp
theorem alook_of_mem : ∀ {m : List (κ × α)} {k : κ} {v : α}, (m.map Prod.fst).Nodup → (k, v) ∈ m → alook m k = some v
 | p :: m, k, v, hn, h => by
  rw [List.map_cons, List.nodup_cons] at hn
  rcases List.mem_cons.1 h with rfl | h
  ·simp [alook]
  ·have hne : p.1 ≠ k := fun e => hn.1 (by rw [e]; exact List.mem_map_of_mem (f := Prod.fst) h)
   have := alook_of_mem hn.2 h
   unfold alook at this ⊢
   rw [List.find?_cons_of_neg (by simpa using hne)]
   exact this
theorem alook_mdel (m : List (κ × α)) (k k' : κ) : alook (mdel m k) k' = if k = k' then none else alook m k' := by
 unfold alook mdel
 induction m with
 | nil => simp
 | cons p m ih =>
  rw [List.filter_cons]
  by_cases hp : p.1 = k
  ·rw [if_neg (by simpa using hp), ih]
   by_cases hk : k = k'
   ·rw [if_pos hk, if_pos hk]
   ·rw [if_neg hk, if_neg hk, List.find?_cons_of_neg (by rw [hp]; simpa using hk)]
  ·rw [if_pos (by simpa using hp)]
   by_cases hpk : p.1 = k'
   ·rw [List.find?_cons_of_pos (by simpa using hpk), List.find?_cons_of_pos (by simpa using hpk), if_neg (fun e => hp (by rw [hpk, e]))]
   ·rw [List.find?_cons_of_neg (by simpa using hpk), ih, List.find?_cons_of_neg (by simpa using hpk)]
end
theorem aset_same {κ α : Type} [DecidableEq κ] {m : List (κ × α)} {k : κ} {v : α} (hn : (m.map Prod.fst).Nodup) (h : alook m k = some v) : aset m k v = m := by
 unfold aset
 rw [h, Option.isSome_some, if_pos rfl]
 conv => rhs; rw [← List.map_id m]
 refine List.map_congr_left fun p hp => ?_
 split
 ·rename_i e
  have h2 := alook_of_mem hn hp
  rw [e, h] at h2
  injection h2 with h2
  rw [h2]
  rfl
 ·rfl
theorem aset_fresh {κ α : Type} [DecidableEq κ] {m : List (κ × α)} {k : κ} {v : α} (h : alook m k = none) : aset m k v = m ++ [(k, v)] := by
 unfold aset
 rw [h]
 rfl
def In (w : World) (c : SH) : Prop := ∀ q ∈ c, w.heap[q.1]? = some q.2
theorem in_own {b : Base} {S : List SH} {w : World} {c : SH} (hw : Sig b S w) (k : Nat) (hk : S[k]? = some c) : In w c := fun q hq => hw.own q (mem_flatten_of hk hq)
theorem in_keep {w w' : World} {c : SH} {S : List SH} (h : In w c) (hs : Sig ⟨w, dom []⟩ S w') : In w' c := fun q hq => (hs.frame q.1 (lt_of_get (h q hq)) (by simp)).trans (h q hq)
theorem notFrozen {w : World} {g i : Nat} {l : List Value} {e : TypeId} (h : w.heap[g]? = some (.cells l.toArray e (0, 0))) : w.frozen? ⟨g, i, none⟩ = false := by
 unfold World.frozen?
 simp [h]
def fptr (p : Nat × Nat) : Value := .pointer (some ⟨p.1, 0, none⟩)
theorem getD_fptr {o : Option (Nat × Nat)} : (o.map fptr).getD (.pointer none) = .pointer (o.map fun p => ⟨p.1, 0, none⟩) := by cases o <;> rfl
structure FL where
 g : Nat
 id : Nat
 v : Value
 xs : List UInt8
 k : Int
abbrev flcells (f : FL) : List Value := [f.v, .int .i32 f.k]
def FL.h (f : FL) : Nat × Obj := (f.g, .cells (flcells f).toArray 114 (0, 0))
structure SM where
 gs : Nat
 gm : Nat
 es : Array MapEntry
 ck : Nat
 ml : List (List UInt8 × (Nat × Nat))
 fs : List FL
 used : Int
abbrev smcells (s : SM) : List Value := [.map (some s.gm), .int .i64 s.used]
abbrev SM.sobj (s : SM) : Obj := .cells (smcells s).toArray 109 (0, 0)
def SM.heap (s : SM) : SH := [(s.gs, s.sobj)] ++ [(s.gm, .map s.es s.ck)] ++ s.fs.map FL.h
abbrev SM.ptr (s : SM) : Value := .pointer (some ⟨s.gs, 0, none⟩)
def cnt (ml : List (List UInt8 × (Nat × Nat))) (id : Nat) : Nat := (ml.filter fun q => decide (q.2.2 = id)).length
def tot (fs : List FL) : Nat := (fs.map fun f => f.xs.length).sum
theorem tot_split (a b : List FL) (f : FL) : tot (a ++ f :: b) = tot (a ++ b) + f.xs.length := by
 unfold tot
 simp only [List.map_append, List.map_cons, List.sum_append, List.sum_cons]
 omega
structure Raw (s : SM) : Prop where
 map : MapOk strEnc strOk s.es s.ck (s.ml.map fun q => (q.1, fptr q.2))
 nd : (s.ml.map Prod.fst).Nodup
 ids : (s.fs.map FL.id).Nodup
 gnd : (s.fs.map FL.g).Nodup
 has : ∀ q ∈ s.ml, ∃ f ∈ s.fs, f.g = q.2.1 ∧ f.id = q.2.2
 form : ∀ f ∈ s.fs, ∃ A cap, f.v = .slice A f.xs.length cap ∧ f.xs.length ≤ 1000000000
 le : ∀ f ∈ s.fs, (cnt s.ml f.id : Int) ≤ f.k ∧ f.k ≤ 1000000
 us : (tot s.fs : Int) ≤ s.used + 2000000000 ∧ s.used ≤ 1000000000000000
def bump (fs : List FL) (id : Nat) (d : Int) : List FL := fs.map fun f => if f.id = id then { f with k := f.k + d } else f
def getF (fs : List FL) (id : Nat) : Option FL := fs.find? fun f => decide (f.id = id)
def letsM (s : SM) (n : List UInt8) : SM :=
 match alook s.ml n with
 | none => s
 | some p => match getF s.fs p.2 with
  | none => s
  | some f => if f.k = 1 then { s with ml := mdel s.ml n, fs := s.fs.filter fun x => decide (x.id ≠ p.2), used := s.used - (f.xs.length : Int) } else { s with ml := mdel s.ml n, fs := bump s.fs p.2 (-1) }
def rest (a b : List FL) : SH := a.map FL.h ++ b.map FL.h
theorem SM.open_ {s : SM} {a b : List FL} {f : FL} (h : s.fs = a ++ f :: b) : s.heap.Perm ([[(s.gs, s.sobj)], [(s.gm, .map s.es s.ck)], [f.h], rest a b] : List SH).flatten := by
 classical
 refine List.perm_iff_count.2 fun x => ?_
 simp only [SM.heap, rest, h, List.map_append, List.map_cons, List.flatten_cons, List.flatten_nil, List.append_nil, List.nil_append, List.cons_append, List.count_append, List.count_cons, List.count_nil] <;> omega
theorem tot_bump (fs : List FL) (id : Nat) (d : Int) : tot (bump fs id d) = tot fs := by
 unfold tot bump
 rw [List.map_map]
 congr 1
 exact List.map_congr_left fun x _ => by simp only [Function.comp]; split <;> rfl
theorem off_ids {a b : List FL} {f : FL} (h : ((a ++ f :: b).map FL.id).Nodup) : (∀ x ∈ a, x.id ≠ f.id) ∧ ∀ x ∈ b, x.id ≠ f.id := by
 rw [List.map_append, List.map_cons, List.nodup_append, List.nodup_cons] at h
 exact ⟨fun x hx e => h.2.2 x.id (List.mem_map.2 ⟨x, hx, rfl⟩) f.id (by simp) e, fun x hx e => h.2.1.1 (by rw [← e]; exact List.mem_map.2 ⟨x, hx, rfl⟩)⟩
theorem bump_off {fs : List FL} {id : Nat} {d : Int} (h : ∀ x ∈ fs, x.id ≠ id) : bump fs id d = fs := by
 unfold bump
 conv => rhs; rw [← List.map_id fs]
 exact List.map_congr_left fun x hx => by rw [if_neg (h x hx)]; rfl
theorem bump_split {a b : List FL} {f : FL} {d : Int} (h : ((a ++ f :: b).map FL.id).Nodup) : bump (a ++ f :: b) f.id d = a ++ { f with k := f.k + d } :: b := by
 obtain ⟨h1, h2⟩ := off_ids h
 have e : bump (a ++ f :: b) f.id d = bump a f.id d ++ (if f.id = f.id then { f with k := f.k + d } else f) :: bump b f.id d := by simp [bump]
 rw [e, bump_off h1, bump_off h2, if_pos rfl]
theorem filter_split {a b : List FL} {f : FL} (h : ((a ++ f :: b).map FL.id).Nodup) : (a ++ f :: b).filter (fun x => decide (x.id ≠ f.id)) = a ++ b := by
 obtain ⟨h1, h2⟩ := off_ids h
 rw [List.filter_append, List.filter_cons_of_neg (by simp), List.filter_eq_self.2 (fun x hx => by simpa using h1 x hx), List.filter_eq_self.2 (fun x hx => by simpa using h2 x hx)]
theorem getF_split {a b : List FL} {f : FL} (h : ((a ++ f :: b).map FL.id).Nodup) : getF (a ++ f :: b) f.id = some f := by
 unfold getF
 rw [List.find?_append, List.find?_eq_none.2 (fun x hx => by simpa using (off_ids h).1 x hx), Option.none_or, List.find?_cons_of_pos (by simp)]
theorem cnt_pos {ml : List (List UInt8 × (Nat × Nat))} {n : List UInt8} {p : Nat × Nat} (h : (n, p) ∈ ml) : 1 ≤ cnt ml p.2 := by
 unfold cnt
 exact List.length_pos_of_mem (List.mem_filter.2 ⟨h, by simp⟩)
theorem cnt_del {ml : List (List UInt8 × (Nat × Nat))} {n : List UInt8} {p : Nat × Nat} (hn : (ml.map Prod.fst).Nodup) (h : alook ml n = some p) (id : Nat) : cnt (mdel ml n) id + (if p.2 = id then 1 else 0) = cnt ml id := by
 obtain ⟨a, b, rfl, ha⟩ := alook_split h
 rw [List.map_append, List.map_cons, List.nodup_append, List.nodup_cons] at hn
 have hb : ∀ q ∈ b, q.1 ≠ n := fun q hq e => hn.2.1.1 (by rw [← e]; exact List.mem_map.2 ⟨q, hq, rfl⟩)
 have e1 : mdel (a ++ (n, p) :: b) n = a ++ b := by
  unfold mdel
  rw [List.filter_append, List.filter_cons_of_neg (by simp), List.filter_eq_self.2 (fun q hq => by simpa using ha q hq), List.filter_eq_self.2 (fun q hq => by simpa using hb q hq)]
 rw [e1]
 unfold cnt
 rw [List.filter_append, List.filter_append, List.filter_cons]
 by_cases hp : p.2 = id
 ·rw [if_pos hp, if_pos (by simpa using hp)]
  simp only [List.length_append, List.length_cons]
  omega
 ·rw [if_neg hp, if_neg (by simpa using hp)]
  simp only [List.length_append]
  omega
theorem raw_lets {s : SM} (h : Raw s) {n : List UInt8} {es : Array MapEntry} (hm : MapOk strEnc strOk es s.ck ((letsM s n).ml.map fun q => (q.1, fptr q.2))) : Raw { letsM s n with es := es } := by
 unfold letsM at hm ⊢
 cases hl : alook s.ml n with
 | none =>
  rw [hl] at hm
  exact ⟨hm, h.nd, h.ids, h.gnd, h.has, h.form, h.le, h.us⟩
 | some p =>
  rw [hl] at hm
  simp only at hm ⊢
  obtain ⟨f, hf, hfg, hfi⟩ := h.has _ (alook_mem hl)
  obtain ⟨a, b, hab⟩ := List.append_of_mem hf
  have hids := h.ids
  rw [hab] at hids
  have hg : getF s.fs p.2 = some f := by rw [hab, ← hfi]; exact getF_split hids
  rw [hg] at hm ⊢
  simp only at hm ⊢
  have hnd : ((mdel s.ml n).map Prod.fst).Nodup := List.Nodup.sublist (List.Sublist.map _ List.filter_sublist) h.nd
  have hsub : ∀ q ∈ mdel s.ml n, q ∈ s.ml := fun q hq => (List.mem_filter.1 hq).1
  have hc := cnt_del h.nd hl
  have hlf := h.le f hf
  have hcf := hc f.id
  rw [if_pos hfi.symm] at hcf
  obtain ⟨A, cap, hv, hxl⟩ := h.form f hf
  have hus := h.us
  have hts := tot_split a b f
  rw [← hab] at hts
  by_cases hk : f.k = 1
  ·rw [if_pos hk] at hm ⊢
   refine ⟨hm, hnd, List.Nodup.sublist (List.Sublist.map _ List.filter_sublist) h.ids, List.Nodup.sublist (List.Sublist.map _ List.filter_sublist) h.gnd, fun q hq => ?_, fun x hx => h.form x (List.mem_filter.1 hx).1, fun x hx => ?_, ?_⟩
   ·obtain ⟨x, hx, hxg, hxi⟩ := h.has q (hsub q hq)
    refine ⟨x, List.mem_filter.2 ⟨hx, ?_⟩, hxg, hxi⟩
    simp only [decide_eq_true_eq]
    intro e
    have h1 : 1 ≤ cnt (mdel s.ml n) f.id := by
     have := cnt_pos (n := q.1) (p := q.2) hq
     rw [← hxi, e, ← hfi] at this
     exact this
    omega
   ·have h1 := h.le x (List.mem_filter.1 hx).1
    have h2 := hc x.id
    simp only at h1 ⊢
    omega
   ·have hfs : s.fs.filter (fun x => decide (x.id ≠ p.2)) = a ++ b := by rw [hab, ← hfi]; exact filter_split hids
    simp only
    rw [hfs]
    omega
  ·rw [if_neg hk] at hm ⊢
   have hbm : ∀ x ∈ bump s.fs p.2 (-1), ∃ y ∈ s.fs, x.id = y.id ∧ x.g = y.g ∧ x.v = y.v ∧ x.xs = y.xs ∧ x.k = y.k + if y.id = p.2 then -1 else 0 := fun x hx => by
    obtain ⟨y, hy, rfl⟩ := List.mem_map.1 hx
    refine ⟨y, hy, ?_⟩
    split <;> simp_all
   have hids2 : (bump s.fs p.2 (-1)).map FL.id = s.fs.map FL.id := by
    unfold bump
    rw [List.map_map]
    exact List.map_congr_left fun x _ => by simp only [Function.comp]; split <;> rfl
   have hgs2 : (bump s.fs p.2 (-1)).map FL.g = s.fs.map FL.g := by
    unfold bump
    rw [List.map_map]
    exact List.map_congr_left fun x _ => by simp only [Function.comp]; split <;> rfl
   refine ⟨hm, hnd, by show (List.map FL.id (bump s.fs p.2 (-1))).Nodup; rw [hids2]; exact h.ids, by show (List.map FL.g (bump s.fs p.2 (-1))).Nodup; rw [hgs2]; exact h.gnd, fun q hq => ?_, fun x hx => ?_, fun x hx => ?_, by show (tot (bump s.fs p.2 (-1)) : Int) ≤ _ ∧ _; rw [tot_bump]; exact hus⟩
   ·obtain ⟨x, hx, hxg, hxi⟩ := h.has q (hsub q hq)
    exact ⟨if x.id = p.2 then { x with k := x.k + -1 } else x, List.mem_map.2 ⟨x, hx, rfl⟩, by split <;> exact hxg, by split <;> exact hxi⟩
   ·obtain ⟨y, hy, _, _, e3, e4, _⟩ := hbm x hx
    rw [e3, e4]
    exact h.form y hy
   ·obtain ⟨y, hy, e1, _, _, _, e5⟩ := hbm x hx
    have h1 := h.le y hy
    have h2 := hc y.id
    rw [e1, e5]
    simp only at h1 ⊢
    by_cases hyp : y.id = p.2
    ·rw [if_pos hyp]
     rw [if_pos hyp.symm] at h2
     omega
    ·rw [if_neg hyp]
     rw [if_neg (fun e => hyp e.symm)] at h2
     omega
theorem aload_con (g i : Nat) (l : List Value) (e : TypeId) (fz : Nat × Nat) (n : Int) (w : World) (hc : w.heap[g]? = some (.cells l.toArray e fz)) (hi : l[i]? = some (.int .i32 n)) : Con Tryz.prog 100 [.pointer (some ⟨g, i, none⟩)] w [] fun v _ => v = .int .i32 n := by
 refine con_of_tree mix Tryz.func100 T100_ok (by kernel_rfl) ?_
 unfold T100
 refine j_q (qs_ac) ?_
 refine j_q (qs_nil rfl) ?_
 refine j_q (qs_field U112 rfl sz21 (by decide) rfl) ?_
 refine j_q (qs_extw (f := 124) (fn := Tryz.f124) (e := fun _ => pure .nilIface) rfl rfl rfl (fun w' hw' => run_call_load Tryz.func124 (by kernel_rfl) (by kernel_rfl) (by kernel_rfl) .i32 (by kernel_rfl) (by rw [cell_of ((hw'.frame g (lt_of_get hc) (by simp)).trans hc)]; exact hi))) ?_
 refine j_ret_con (vs := [_]) (fun w' hw' => ⟨rfl, trivial⟩) ?_
 rfl
theorem aadd_con (g i : Nat) (l : List Value) (e : TypeId) (n d : Int) (w : World) (hi : l[i]? = some (.int .i32 n)) (hb : -2147483648 ≤ n + d ∧ n + d ≤ 2147483647) : Con Tryz.prog 83 [.pointer (some ⟨g, i, none⟩), .int .i32 d] w [(g, .cells l.toArray e (0, 0))] fun v S' => v = .int .i32 (n + d) ∧ S' = [[(g, .cells (l.set i (.int .i32 (n + d))).toArray e (0, 0))]] := by
 refine con_of_tree mix Tryz.func83 T83_ok (by kernel_rfl) ?_
 unfold T83
 refine j_q (qs_ac) ?_
 refine j_q (qs_nil rfl) ?_
 refine j_q (qs_field U112 rfl sz21 (by decide) rfl) ?_
 refine j_extset (u := .int .i32 (n + d)) 0 rfl rfl rfl rfl (fun w' hw' => run_call_add Tryz.func106 (by kernel_rfl) (by kernel_rfl) (by kernel_rfl) .i32 (by kernel_rfl) (by rw [cell_of hw']; exact hi) (notFrozen hw') (by simp only [Op.intArith]; rw [IntWalk.i32_in _ hb]; rfl)) ?_
 refine j_ret_con (vs := [_]) (fun w' hw' => ⟨rfl, trivial⟩) ?_
 exact ⟨rfl, rfl⟩
theorem clip_con (A : Option Addr) (n c : Nat) (hc : n ≤ c) (w : World) : Con Tryz.prog 82 [.slice A n c] w [] fun v _ => v = .slice (if n = 0 then A else A.map (fun a : Addr => a.add (0 * 1))) n n := by
 refine con_of_tree mix Tryz.func82 T82_ok (by kernel_rfl) ?_
 unfold T82
 refine j_q (qs_ac) ?_
 refine j_q (qs_lenl U33 rfl) ?_
 refine j_q (qs_lenl U33 rfl) ?_
 refine j_q (qs_cut3 (z := n) (m := n) U33 sz5 rfl rfl rfl (Nat.le_refl _) hc) ?_
 refine j_ret_con (vs := [_]) (fun w' hw' => ⟨rfl, trivial⟩) ?_
 rfl
theorem lets_con (s : SM) (n : List UInt8) (w : World) (h : Raw s) (hn : strOk n) : Con Tryz.prog 99 [s.ptr, .string (bs n)] w s.heap fun _ S' => ∃ es : Array MapEntry, S' = [SM.heap { letsM s n with es := es }] ∧ Raw { letsM s n with es := es } := by
 refine con_of_tree mix Tryz.func99 T99_ok (by kernel_rfl) ?_
 unfold T99
 refine j_perm (S' := [[(s.gs, s.sobj)], [(s.gm, .map s.es s.ck)], s.fs.map FL.h]) (by simp [SM.heap]) ?_
 refine j_q (qs_nil rfl) ?_
 refine j_q (qs_field U109 rfl sz107 (by decide) rfl) ?_
 refine j_q (qs_load (l := smcells s) 0 U107 rfl rfl rfl rfl) ?_
 refine j_q (qs_lookup (key := n) strKey 1 U107 zv63 rfl rfl rfl h.map hn) ?_
 rw [mlook_map fptr, getD_fptr]
 refine j_q (qs_pnil U110 rfl) ?_
 refine j_cond rfl (fun hc0 => ?_) (fun hc0 => ?_)
 ·skip
  have hl : alook s.ml n = none := by
   cases hx : alook s.ml n with
   | none => rfl
   | some p => rw [hx] at hc0; simp at hc0
  refine j_perm (S' := [s.heap]) (by simp [SM.heap]) ?_
  refine j_ret_con (vs := []) (fun w' hw' => trivial) ?_
  refine ⟨s.es, ?_, ?_⟩
  ·have e : letsM s n = s := by unfold letsM; rw [hl]
   rw [e]
  ·refine raw_lets h ?_
   have e : letsM s n = s := by unfold letsM; rw [hl]
   rw [e]
   exact h.map
 ·skip
  obtain ⟨p, hl⟩ : ∃ p, alook s.ml n = some p := by
   cases hx : alook s.ml n with
   | none => rw [hx] at hc0; simp at hc0
   | some p => exact ⟨p, rfl⟩
  rw [hl, Option.map_some]
  obtain ⟨f, hf, hfg, hfi⟩ := h.has _ (alook_mem hl)
  simp only at hfg hfi
  obtain ⟨a, b, hab⟩ := List.append_of_mem hf
  have hids := h.ids
  rw [hab] at hids
  have hgf : getF s.fs p.2 = some f := by rw [hab, ← hfi]; exact getF_split hids
  obtain ⟨A, cap, hv, hxl⟩ := h.form f hf
  have hlf := h.le f hf
  have hcp := cnt_pos (alook_mem hl)
  rw [← hfi] at hcp
  have hus := h.us
  have hts := tot_split a b f
  rw [← hab] at hts
  rw [← hfg]
  refine j_perm (S' := [[(s.gs, s.sobj)], [(s.gm, .map s.es s.ck)], [f.h], rest a b]) (by
   refine List.Perm.trans (List.Perm.of_eq ?_) (SM.open_ hab)
   simp [SM.heap]) ?_
  refine j_q (qs_nil rfl) ?_
  refine j_q (qs_field U109 rfl sz107 (by decide) rfl) ?_
  refine j_q (qs_load (l := smcells s) 0 U107 rfl rfl rfl rfl) ?_
  refine j_mapdel (key := n) strKey 1 U107 rfl rfl rfl h.map hn (fun es1 hm1 => ?_)
  rw [mdel_map fptr] at hm1
  refine j_q (qs_nil rfl) ?_
  refine j_q (qs_field U114 rfl sz112 (by decide) rfl) ?_
  refine j_call 2 ent83 rfl rfl rfl rfl (fun w' hw' => aadd_con f.g 1 (flcells f) 114 f.k (-1) w' rfl (by omega)) (fun u S2 hu => ?_)
  obtain ⟨rfl, rfl⟩ := hu
  refine j_perm (S' := [[(s.gs, s.sobj)], [(s.gm, .map es1 s.ck)], [FL.h ({ f with k := f.k + -1 } : FL)], rest a b]) (by
   classical
   refine List.perm_iff_count.2 fun x => ?_
   simp only [FL.h, flcells, SM.sobj, smcells, List.set, List.flatten_cons, List.flatten_nil, List.append_nil, List.nil_append, List.cons_append, List.count_append, List.count_cons, List.count_nil] <;> omega) ?_
  refine j_q (qs_eql rfl rfl) ?_
  refine j_cond rfl (fun hc1 => ?_) (fun hc1 => ?_)
  ·skip
   have hk : f.k = 1 := by
    have h1 : f.k + -1 = 0 := by simpa using hc1
    omega
   have hM : letsM s n = { s with ml := mdel s.ml n, fs := a ++ b, used := s.used - (f.xs.length : Int) } := by
    unfold letsM
    rw [hl]
    simp only
    rw [hgf]
    simp only
    rw [if_pos hk, hab, ← hfi, filter_split hids]
   refine j_draw ?_
   refine jq_q (qs_nil rfl) ?_
   refine jq_q (qs_field U109 rfl sz3 (by decide) rfl) ?_
   refine jq_q (qs_load (l := smcells s) 0 U3 rfl rfl rfl rfl) ?_
   refine jq_q (qs_nil rfl) ?_
   refine jq_q (qs_field U114 rfl sz33 (by decide) rfl) ?_
   refine jq_q (qs_load (l := flcells ({ f with k := f.k + -1 } : FL)) 2 U33 rfl rfl rfl rfl) ?_
   refine jq_q (qs_lenl U33 hv) ?_
   refine jq_q (qs_sub64 rfl rfl (by first | omega | (simp only [bnA] at *; omega))) ?_
   refine jq_q (qs_nil rfl) ?_
   refine jq_q (qs_field U109 rfl sz3 (by decide) rfl) ?_
   refine jq_nil ?_
   refine j_store (l := smcells s) 0 sz3 rfl rfl rfl rfl (by simp) (by simp) ?_
   refine j_subl (S' := [[(s.gs, .cells [.map (some s.gm), .int .i64 (s.used - (f.xs.length : Int))].toArray 109 (0, 0))], [(s.gm, .map es1 s.ck)], rest a b]) (by repeat first | exact slR _ | exact slN _ | apply slC | apply slD) ?_
   refine j_perm (S' := [SM.heap { letsM s n with es := es1 }]) (by rw [hM]; simp [SM.heap, rest]) ?_
   refine j_ret_con (vs := []) (fun w' hw' => trivial) ?_
   refine ⟨es1, rfl, raw_lets h ?_⟩
   rw [hM]
   exact hm1
  ·skip
   have hk : f.k ≠ 1 := by
    have h1 : ¬ f.k + -1 = 0 := by simpa using hc1
    omega
   have hM : letsM s n = { s with ml := mdel s.ml n, fs := a ++ ({ f with k := f.k + -1 } : FL) :: b } := by
    unfold letsM
    rw [hl]
    simp only
    rw [hgf]
    simp only
    rw [if_neg hk, hab, ← hfi, bump_split hids]
   refine j_perm (S' := [SM.heap { letsM s n with es := es1 }]) (by
    rw [hM]
    classical
    refine List.perm_iff_count.2 fun x => ?_
    simp only [SM.heap, SM.sobj, smcells, rest, List.map_append, List.map_cons, List.flatten_cons, List.flatten_nil, List.append_nil, List.nil_append, List.cons_append, List.count_append, List.count_cons, List.count_nil] <;> omega) ?_
   refine j_ret_con (vs := []) (fun w' hw' => trivial) ?_
   refine ⟨es1, rfl, raw_lets h ?_⟩
   rw [hM]
   exact hm1
end Go.Proofs.YtfebkkmmagbnlaaGreatDoor
/-! Fs2 -/
namespace Go.Proofs.YtfebkkmmagbnlaaGreatDoor
open Go Go.Sx
set_option maxRecDepth 100000
set_option maxHeartbeats 4000000
set_option linter.unusedVariables false
set_option linter.unusedSimpArgs false
attribute [local irreducible] J JQ QS Con W opW
open Go.MapKept Go.WideMaps Go.Maps
theorem letsM_gs (s : SM) (n : List UInt8) : (letsM s n).gs = s.gs ∧ (letsM s n).gm = s.gm ∧ (letsM s n).ck = s.ck := by
 unfold letsM
 split
 ·exact ⟨rfl, rfl, rfl⟩
 ·split
  ·exact ⟨rfl, rfl, rfl⟩
  ·split <;> exact ⟨rfl, rfl, rfl⟩
theorem letsM_free {s : SM} (h : Raw s) (n : List UInt8) : alook (letsM s n).ml n = none := by
 unfold letsM
 cases hl : alook s.ml n with
 | none => exact hl
 | some p =>
  obtain ⟨f, hf, hfg, hfi⟩ := h.has _ (alook_mem hl)
  obtain ⟨a, b, hab⟩ := List.append_of_mem hf
  have hids := h.ids
  rw [hab] at hids
  have hg : getF s.fs p.2 = some f := by rw [hab, ← hfi]; exact getF_split hids
  simp only
  rw [hg]
  simp only
  split <;> (show alook (mdel s.ml n) n = none; rw [alook_mdel, if_pos rfl])
theorem lets_keep {s : SM} {n : List UInt8} {f : FL} (hf : f ∈ s.fs) (ho : ∀ p, alook s.ml n = some p → p.2 ≠ f.id) : f ∈ (letsM s n).fs := by
 unfold letsM
 cases hl : alook s.ml n with
 | none => exact hf
 | some p =>
  simp only
  cases hg : getF s.fs p.2 with
  | none => exact hf
  | some f2 =>
   simp only
   have hne := ho p hl
   split
   ·exact List.mem_filter.2 ⟨hf, by simpa using fun e => hne e.symm⟩
   ·exact List.mem_map.2 ⟨f, hf, by rw [if_neg (fun e => hne e.symm)]⟩
theorem lets_cnt {s : SM} (h : Raw s) {n : List UInt8} {id : Nat} (ho : ∀ p, alook s.ml n = some p → p.2 ≠ id) : cnt (letsM s n).ml id = cnt s.ml id := by
 unfold letsM
 cases hl : alook s.ml n with
 | none => rfl
 | some p =>
  simp only
  have hc := cnt_del h.nd hl id
  rw [if_neg (ho p hl)] at hc
  cases hg : getF s.fs p.2 with
  | none => rfl
  | some f2 =>
   simp only
   split <;> exact hc
theorem mem_bump {fs : List FL} {id : Nat} {d : Int} {x : FL} (hx : x ∈ bump fs id d) : ∃ y ∈ fs, x.id = y.id ∧ x.g = y.g ∧ x.v = y.v ∧ x.xs = y.xs ∧ x.k = y.k + if y.id = id then d else 0 := by
 obtain ⟨y, hy, rfl⟩ := List.mem_map.1 hx
 refine ⟨y, hy, ?_⟩
 split <;> simp_all
theorem bump_ids (fs : List FL) (id : Nat) (d : Int) : (bump fs id d).map FL.id = fs.map FL.id ∧ (bump fs id d).map FL.g = fs.map FL.g := by
 unfold bump
 rw [List.map_map, List.map_map]
 exact ⟨List.map_congr_left fun x _ => by simp only [Function.comp]; split <;> rfl, List.map_congr_left fun x _ => by simp only [Function.comp]; split <;> rfl⟩
theorem bump_mem {fs : List FL} (id : Nat) (d : Int) {x : FL} (hx : x ∈ fs) : ∃ y ∈ bump fs id d, y.g = x.g ∧ y.id = x.id :=
 ⟨_, List.mem_map.2 ⟨x, hx, rfl⟩, by split <;> rfl, by split <;> rfl⟩
theorem raw_bump {s : SM} (h : Raw s) {f : FL} (hf : f ∈ s.fs) (hk : f.k + 1 ≤ 1000000) : Raw { s with fs := bump s.fs f.id 1 } := by
 obtain ⟨a, b, hab⟩ := List.append_of_mem hf
 have hids := h.ids
 rw [hab] at hids
 refine ⟨h.map, h.nd, by show ((bump s.fs f.id 1).map FL.id).Nodup; rw [(bump_ids _ _ _).1]; exact h.ids, by show ((bump s.fs f.id 1).map FL.g).Nodup; rw [(bump_ids _ _ _).2]; exact h.gnd, fun q hq => ?_, fun x hx => ?_, fun x hx => ?_, by show (tot (bump s.fs f.id 1) : Int) ≤ _ ∧ _; rw [tot_bump]; exact h.us⟩
 ·obtain ⟨x, hx, h1, h2⟩ := h.has q hq
  obtain ⟨y, hy, h3, h4⟩ := bump_mem f.id 1 hx
  exact ⟨y, hy, h3.trans h1, h4.trans h2⟩
 ·obtain ⟨y, hy, _, _, e3, e4, _⟩ := mem_bump hx
  rw [e3, e4]
  exact h.form y hy
 ·obtain ⟨y, hy, e1, _, _, _, e5⟩ := mem_bump hx
  have h1 := h.le y hy
  rw [e1, e5]
  by_cases hyp : y.id = f.id
  ·rw [if_pos hyp]
   have : y = f := by
    rw [hab] at hy
    rcases List.mem_append.1 hy with hy | hy
    ·exact absurd hyp ((off_ids hids).1 y hy)
    ·rcases List.mem_cons.1 hy with hy | hy
     ·exact hy
     ·exact absurd hyp ((off_ids hids).2 y hy)
   rw [this] at h1 ⊢
   simp only at h1 ⊢
   omega
  ·rw [if_neg hyp]
   simp only at h1 ⊢
   omega
def givesM (s : SM) (n : List UInt8) (p : Nat × Nat) : SM :=
 if alook s.ml n = some p then s
 else { letsM { s with fs := bump s.fs p.2 1 } n with ml := (letsM { s with fs := bump s.fs p.2 1 } n).ml ++ [(n, p)] }
theorem raw_gives {s : SM} (h : Raw s) {n : List UInt8} {f : FL} (hf : f ∈ s.fs) (hk : f.k + 1 ≤ 1000000) {es es0 : Array MapEntry} {ck : Nat} (hne : alook s.ml n ≠ some (f.g, f.id)) (h2 : Raw { letsM { s with fs := bump s.fs f.id 1 } n with es := es0 })
  (hm : MapOk strEnc strOk es ck ((givesM s n (f.g, f.id)).ml.map fun q => (q.1, fptr q.2))) : Raw { givesM s n (f.g, f.id) with es := es, ck := ck } := by
 have hr1 := raw_bump h hf hk
 unfold givesM at hm ⊢
 rw [if_neg hne] at hm ⊢
 have hfree := letsM_free hr1 n
 have ho : ∀ p, alook s.ml n = some p → p.2 ≠ f.id := fun p hp e => by
  obtain ⟨x, hx, h4, h3⟩ := h.has _ (alook_mem hp)
  simp only at h4 h3
  obtain ⟨a, b, hab⟩ := List.append_of_mem hf
  have hids := h.ids
  rw [hab] at hids
  have : x = f := by
   rw [hab] at hx
   rcases List.mem_append.1 hx with hx | hx
   ·exact absurd (h3.trans e) ((off_ids hids).1 x hx)
   ·rcases List.mem_cons.1 hx with hx | hx
    ·exact hx
    ·exact absurd (h3.trans e) ((off_ids hids).2 x hx)
  subst this
  exact hne (by rw [hp]; congr 1; exact Prod.ext h4.symm h3.symm)
 have hf1 : ({ f with k := f.k + 1 } : FL) ∈ bump s.fs f.id 1 := List.mem_map.2 ⟨f, hf, by rw [if_pos rfl]⟩
 have hkeep := lets_keep (s := { s with fs := bump s.fs f.id 1 }) (n := n) hf1 ho
 have hcn := lets_cnt hr1 (id := f.id) ho
 have hlf := h.le f hf
 refine ⟨hm, ?_, h2.ids, h2.gnd, fun q hq => ?_, h2.form, fun x hx => ?_, h2.us⟩
 ·show (((letsM { s with fs := bump s.fs f.id 1 } n).ml ++ [(n, (f.g, f.id))]).map Prod.fst).Nodup
  rw [List.map_append, List.nodup_append]
  refine ⟨h2.nd, by simp, fun x hx y hy e => ?_⟩
  simp only [List.map_cons, List.map_nil, List.mem_singleton] at hy
  subst hy
  obtain ⟨q, hq, e2⟩ := List.mem_map.1 hx
  exact alook_none.1 hfree q hq (e2.trans e)
 ·rcases List.mem_append.1 hq with hq | hq
  ·exact h2.has q hq
  ·rw [List.mem_singleton] at hq
   subst hq
   exact ⟨_, hkeep, rfl, rfl⟩
 ·have h3 := h2.le x hx
  have e : cnt ((letsM { s with fs := bump s.fs f.id 1 } n).ml ++ [(n, (f.g, f.id))]) x.id = cnt (letsM { s with fs := bump s.fs f.id 1 } n).ml x.id + if f.id = x.id then 1 else 0 := by
   unfold cnt
   rw [List.filter_append, List.length_append, List.filter_cons, List.filter_nil]
   by_cases hx2 : f.id = x.id
   ·rw [if_pos hx2, if_pos (by simpa using hx2)]; rfl
   ·rw [if_neg hx2, if_neg (by simpa using hx2)]; rfl
  show ((cnt ((letsM { s with fs := bump s.fs f.id 1 } n).ml ++ [(n, (f.g, f.id))]) x.id : Nat) : Int) ≤ x.k ∧ x.k ≤ 1000000
  rw [e]
  by_cases hx2 : f.id = x.id
  ·have hxe : x = { f with k := f.k + 1 } := by
    have hids2 : ((letsM { s with fs := bump s.fs f.id 1 } n).fs.map FL.id).Nodup := h2.ids
    obtain ⟨a, b, hab⟩ := List.append_of_mem hkeep
    rw [hab] at hids2
    have hx' : x ∈ a ++ { f with k := f.k + 1 } :: b := by rw [← hab]; exact hx
    rcases List.mem_append.1 hx' with hx' | hx'
    ·exact absurd hx2.symm ((off_ids hids2).1 x hx')
    ·rcases List.mem_cons.1 hx' with hx' | hx'
     ·exact hx'
     ·exact absurd hx2.symm ((off_ids hids2).2 x hx')
   rw [if_pos hx2, ← hx2, hcn, hxe]
   simp only at h3 ⊢
   omega
  ·rw [if_neg hx2]
   exact h3
theorem fs_uniq {s : SM} (h : Raw s) {f x : FL} (hf : f ∈ s.fs) (hx : x ∈ s.fs) (hg : x.g = f.g) : x = f := by
 obtain ⟨a, b, hab⟩ := List.append_of_mem hf
 have hn := h.gnd
 rw [hab, List.map_append, List.map_cons, List.nodup_append, List.nodup_cons] at hn
 rw [hab] at hx
 rcases List.mem_append.1 hx with hx | hx
 ·exact absurd hg (fun e => hn.2.2 x.g (List.mem_map.2 ⟨x, hx, rfl⟩) f.g (by simp) e)
 ·rcases List.mem_cons.1 hx with hx | hx
  ·exact hx
  ·exact absurd (List.mem_map.2 ⟨x, hx, hg⟩) hn.2.1.1
theorem gives_con (s : SM) (n : List UInt8) (f : FL) (w : World) (h : Raw s) (hn : strOk n) (hf : f ∈ s.fs) (hk : f.k + 1 ≤ 1000000) : Con Tryz.prog 102 [s.ptr, .string (bs n), .pointer (some ⟨f.g, 0, none⟩)] w s.heap fun _ S' => ∃ (es : Array MapEntry) (ck : Nat), S' = [SM.heap { givesM s n (f.g, f.id) with es := es, ck := ck }] ∧ Raw { givesM s n (f.g, f.id) with es := es, ck := ck } := by
 refine con_of_tree mix Tryz.func102 T102_ok (by kernel_rfl) ?_
 unfold T102
 obtain ⟨a, b, hab⟩ := List.append_of_mem hf
 have hids := h.ids
 rw [hab] at hids
 have hr1 := raw_bump h hf hk
 have hlf := h.le f hf
 have hb1 : bump s.fs f.id 1 = a ++ ({ f with k := f.k + 1 } : FL) :: b := by rw [hab]; exact bump_split hids
 refine j_perm (S' := [[(s.gs, s.sobj)], [(s.gm, .map s.es s.ck)], [f.h], rest a b]) (by
  refine List.Perm.trans (List.Perm.of_eq ?_) (SM.open_ hab)
  simp [SM.heap]) ?_
 refine j_q (qs_nil rfl) ?_
 refine j_q (qs_field U114 rfl sz112 (by decide) rfl) ?_
 refine j_call 2 ent83 rfl rfl rfl rfl (fun w' hw' => aadd_con f.g 1 (flcells f) 114 f.k 1 w' rfl (by omega)) (fun u S2 hu => ?_)
 obtain ⟨rfl, rfl⟩ := hu
 refine j_perm (S' := [[(s.gs, s.sobj)], [(s.gm, .map s.es s.ck)], (bump s.fs f.id 1).map FL.h]) (by
  rw [hb1]
  exact (by
  classical
  refine List.perm_iff_count.2 fun x => ?_
  simp only [SM.heap, rest, FL.h, flcells, SM.sobj, smcells, List.set, List.map_append, List.map_cons, List.flatten_cons, List.flatten_nil, List.append_nil, List.nil_append, List.cons_append, List.count_append, List.count_cons, List.count_nil] <;> omega)) ?_
 refine j_q (qs_nil rfl) ?_
 refine j_q (qs_field U109 rfl sz107 (by decide) rfl) ?_
 refine j_q (qs_load (l := smcells s) 0 U107 rfl rfl rfl rfl) ?_
 refine j_q (qs_lookup (key := n) strKey 1 U107 zv63 rfl rfl rfl h.map hn) ?_
 rw [mlook_map fptr, getD_fptr]
 refine j_q (qs_pne U110 sz114 (by decide) rfl rfl (fun a' ha' => by
  obtain ⟨p, hp, rfl⟩ := Option.map_eq_some_iff.1 ha'
  obtain ⟨x, hx, h1, h2⟩ := h.has _ (alook_mem hp)
  obtain ⟨y, hy, h3, h4⟩ := bump_mem f.id 1 hx
  exact ⟨_, _, rdo_mem (o := (FL.h y).2) 2 rfl (List.mem_map.2 ⟨y, hy, Prod.ext (h3.trans h1) rfl⟩)⟩) ⟨_, _, rdo_mem (o := (FL.h ({ f with k := f.k + 1 } : FL)).2) 2 rfl (List.mem_map.2 ⟨({ f with k := f.k + 1 } : FL), by rw [hb1]; simp, rfl⟩)⟩) ?_
 refine j_cond rfl (fun hc0 => ?_) (fun hc0 => ?_)
 ·skip
  have hne : alook s.ml n ≠ some (f.g, f.id) := fun e => by
   rw [e] at hc0
   simp at hc0
  refine j_perm (S' := [SM.heap ({ s with fs := bump s.fs f.id 1 } : SM)]) (by simp [SM.heap]) ?_
  refine j_call 0 ent99 rfl rfl rfl rfl (fun w' hw' => lets_con ({ s with fs := bump s.fs f.id 1 } : SM) n w' hr1 hn) (fun u S2 hu => ?_)
  obtain ⟨es1, rfl, hr2⟩ := hu
  refine j_perm (S' := [[(s.gs, .cells (smcells (letsM ({ s with fs := bump s.fs f.id 1 } : SM) n)).toArray 109 (0, 0))], [(s.gm, .map es1 (letsM ({ s with fs := bump s.fs f.id 1 } : SM) n).ck)], (letsM ({ s with fs := bump s.fs f.id 1 } : SM) n).fs.map FL.h]) (by
   simp only [SM.heap, SM.sobj, smcells, (letsM_gs ({ s with fs := bump s.fs f.id 1 } : SM) n).1, (letsM_gs ({ s with fs := bump s.fs f.id 1 } : SM) n).2.1]
   simp) ?_
  refine j_q (qs_nil rfl) ?_
  refine j_q (qs_field U109 rfl sz107 (by decide) rfl) ?_
  refine j_q (qs_load (l := smcells (letsM ({ s with fs := bump s.fs f.id 1 } : SM) n)) 0 U107 rfl rfl rfl rfl) ?_
  refine j_mapset (key := n) (val := fptr (f.g, f.id)) strKey 1 U107 (by show Value.map (some (letsM ({ s with fs := bump s.fs f.id 1 } : SM) n).gm) = _; rw [(letsM_gs _ _).2.1]) rfl rfl rfl hr2.map hn (fun es2 ck2 hm2 => ?_)
  rw [mset_map fptr, aset_fresh (letsM_free hr1 n)] at hm2
  refine j_perm (S' := [SM.heap { givesM s n (f.g, f.id) with es := es2, ck := ck2 }]) (by
   unfold givesM
   rw [if_neg hne]
   simp only [SM.heap, SM.sobj, smcells, (letsM_gs ({ s with fs := bump s.fs f.id 1 } : SM) n).1, (letsM_gs ({ s with fs := bump s.fs f.id 1 } : SM) n).2.1]
   simp) ?_
  refine j_ret_con (vs := []) (fun w' hw' => trivial) ?_
  refine ⟨es2, ck2, rfl, raw_gives h hf hk hne hr2 ?_⟩
  unfold givesM
  rw [if_neg hne]
  exact hm2
 ·skip
  have hlk : alook s.ml n = some (f.g, f.id) := by
   cases hx : alook s.ml n with
   | none => rw [hx] at hc0; simp at hc0
   | some p =>
    rw [hx] at hc0
    have h1 : p.1 = f.g := by simpa using hc0
    obtain ⟨x, hx2, h2, h3⟩ := h.has _ (alook_mem hx)
    have h4 := fs_uniq h hf hx2 (h2.trans h1)
    rw [h4] at h3
    exact congrArg some (Prod.ext h1 h3.symm)
  rw [hb1]
  refine j_perm (S' := [[(s.gs, s.sobj)], [(s.gm, .map s.es s.ck)], [FL.h ({ f with k := f.k + 1 } : FL)], rest a b]) (by
   classical
   refine List.perm_iff_count.2 fun x => ?_
   simp only [SM.heap, rest, FL.h, flcells, SM.sobj, smcells, List.set, List.map_append, List.map_cons, List.flatten_cons, List.flatten_nil, List.append_nil, List.nil_append, List.cons_append, List.count_append, List.count_cons, List.count_nil] <;> omega) ?_
  refine j_q (qs_nil rfl) ?_
  refine j_q (qs_field U114 rfl sz112 (by decide) rfl) ?_
  refine j_call 2 ent83 rfl rfl rfl rfl (fun w' hw' => aadd_con f.g 1 (flcells ({ f with k := f.k + 1 } : FL)) 114 (f.k + 1) (-1) w' rfl (by omega)) (fun u S2 hu => ?_)
  obtain ⟨rfl, rfl⟩ := hu
  have hff : ({ f with k := f.k + 1 + -1 } : FL) = f := by
   have e : f.k + 1 + -1 = f.k := by omega
   rw [e]
  refine j_perm (S' := [[(s.gs, s.sobj)], [(s.gm, .map s.es s.ck)], [FL.h { f with k := f.k + 1 + -1 }], rest a b]) (by
   classical
   refine List.perm_iff_count.2 fun x => ?_
   simp only [SM.heap, rest, FL.h, flcells, SM.sobj, smcells, List.set, List.map_append, List.map_cons, List.flatten_cons, List.flatten_nil, List.append_nil, List.nil_append, List.cons_append, List.count_append, List.count_cons, List.count_nil] <;> omega) ?_
  rw [hff]
  refine j_q (qs_nil rfl) ?_
  refine j_q (qs_field U109 rfl sz107 (by decide) rfl) ?_
  refine j_q (qs_load (l := smcells s) 0 U107 rfl rfl rfl rfl) ?_
  refine j_mapset (key := n) (val := fptr (f.g, f.id)) strKey 1 U107 rfl rfl rfl rfl h.map hn (fun es2 ck2 hm2 => ?_)
  rw [mset_map fptr, aset_same h.nd hlk] at hm2
  have hgM : givesM s n (f.g, f.id) = s := by unfold givesM; rw [if_pos hlk]
  refine j_perm (S' := [SM.heap { givesM s n (f.g, f.id) with es := es2, ck := ck2 }]) (by
   rw [hgM]
   classical
   refine List.perm_iff_count.2 fun x => ?_
   simp only [SM.heap, SM.sobj, smcells, rest, hab, List.set, List.map_append, List.map_cons, List.flatten_cons, List.flatten_nil, List.append_nil, List.nil_append, List.cons_append, List.count_append, List.count_cons, List.count_nil] <;> omega) ?_
  refine j_ret_con (vs := []) (fun w' hw' => trivial) ?_
  refine ⟨es2, ck2, rfl, ?_⟩
  rw [hgM]
  exact ⟨hm2, h.nd, h.ids, h.gnd, h.has, h.form, h.le, h.us⟩
end Go.Proofs.YtfebkkmmagbnlaaGreatDoor
/-! Pool -/
namespace Go.Proofs.YtfebkkmmagbnlaaGreatDoor
open Go Go.Sx Go.MapKept Go.WideMaps Go.Maps
set_option maxRecDepth 100000
set_option linter.unusedVariables false
set_option linter.unusedSimpArgs false
set_option linter.unusedSectionVars false
structure BK where
 g : Nat
 xs : List UInt8
 rest : List Value
 fz : Nat × Nat
 own : Nat
def BK.h (b : BK) : Nat × Obj := (b.g, .cells (ints b.xs ++ b.rest).toArray 5 b.fz)
def ph (P : List BK) : SH := P.map BK.h
def BK.len (b : BK) : Nat := (ints b.xs ++ b.rest).length
def BK.free (b : BK) : Prop := ∀ j, j < b.len → ¬ (b.fz.1 ≤ j ∧ j < b.fz.2)
def RV (P : List BK) (v : Value) (xs : List UInt8) : Prop :=
 (v = .slice none 0 0 ∧ xs = []) ∨ ∃ b ∈ P, ∃ cap, v = .slice (some ⟨b.g, 0, none⟩) xs.length cap ∧ xs <+: b.xs ∧ xs.length ≤ cap
def Vw (P : List BK) (o : Nat) (v : Value) (xs : List UInt8) : Prop :=
 (v = .slice none 0 0 ∧ xs = []) ∨ ∃ b ∈ P, ∃ cap, v = .slice (some ⟨b.g, 0, none⟩) xs.length cap ∧ xs <+: b.xs ∧ xs.length ≤ cap ∧ (cap = xs.length ∨ (b.own = o ∧ xs = b.xs ∧ cap = b.len ∧ b.free))
theorem Vw.rv {P : List BK} {o : Nat} {v : Value} {xs : List UInt8} (h : Vw P o v xs) : RV P v xs := by
 rcases h with h | ⟨b, hb, cap, h1, h2, h3, _⟩
 ·exact .inl h
 ·exact .inr ⟨b, hb, cap, h1, h2, h3⟩
theorem RV.form {P : List BK} {v : Value} {xs : List UInt8} (h : RV P v xs) : ∃ A cap, v = .slice A xs.length cap ∧ xs.length ≤ cap ∧ (A = none ∨ ∃ g, A = some ⟨g, 0, none⟩) := by
 rcases h with ⟨rfl, rfl⟩ | ⟨b, _, cap, rfl, _, h⟩
 ·exact ⟨none, 0, rfl, Nat.le_refl _, .inl rfl⟩
 ·exact ⟨_, cap, rfl, h, .inr ⟨_, rfl⟩⟩
def PLe (o : Nat) (P P' : List BK) : Prop := ∀ b ∈ P, ∃ b' ∈ P', b'.g = b.g ∧ b'.own = b.own ∧ b.xs <+: b'.xs ∧ (b.own ≠ o → b' = b)
theorem PLe.refl (o : Nat) (P : List BK) : PLe o P P := fun b hb => ⟨b, hb, rfl, rfl, List.prefix_refl _, fun _ => rfl⟩
theorem PLe.cons (o : Nat) (P : List BK) (c : BK) : PLe o P (c :: P) := fun b hb => ⟨b, List.mem_cons_of_mem _ hb, rfl, rfl, List.prefix_refl _, fun _ => rfl⟩
theorem PLe.trans {o : Nat} {P Q R : List BK} (h1 : PLe o P Q) (h2 : PLe o Q R) : PLe o P R := fun b hb => by
 obtain ⟨c, hc, e1, e2, e3, e4⟩ := h1 b hb
 obtain ⟨d, hd, f1, f2, f3, f4⟩ := h2 c hc
 refine ⟨d, hd, f1.trans e1, f2.trans e2, e3.trans f3, fun h => ?_⟩
 rw [f4 (by rw [e2]; exact h), e4 h]
theorem RV.mono {o : Nat} {P Q : List BK} {v : Value} {xs : List UInt8} (hp : PLe o P Q) (h : RV P v xs) : RV Q v xs := by
 rcases h with h | ⟨b, hb, cap, h1, h2, h3⟩
 ·exact .inl h
 ·obtain ⟨c, hc, e1, _, e3, _⟩ := hp b hb
  exact .inr ⟨c, hc, cap, by rw [e1]; exact h1, h2.trans e3, h3⟩
theorem Vw.mono {o o' : Nat} {P Q : List BK} {v : Value} {xs : List UInt8} (hp : PLe o P Q) (hne : o' ≠ o) (h : Vw P o' v xs) : Vw Q o' v xs := by
 rcases h with h | ⟨b, hb, cap, h1, h2, h3, h4⟩
 ·exact .inl h
 ·obtain ⟨c, hc, e1, e2, e3, e4⟩ := hp b hb
  refine .inr ⟨c, hc, cap, by rw [e1]; exact h1, h2.trans e3, h3, ?_⟩
  rcases h4 with h4 | ⟨h4, h5⟩
  ·exact .inl h4
  ·have : c = b := e4 (by rw [h4]; exact hne)
   rw [this]
   exact .inr ⟨h4, h5⟩
theorem Vw.clip {P : List BK} {v : Value} {xs : List UInt8} (o : Nat) (h : RV P v xs) {A : Option Addr} {n c : Nat} (e : v = .slice A n c) : Vw P o (.slice (if n = 0 then A else A.map (fun a : Addr => a.add (0 * 1))) n n) xs := by
 rcases h with ⟨rfl, rfl⟩ | ⟨b, hb, cap, rfl, h2, h3⟩
 ·injection e with e1 e2 e3
  subst e1 e2
  exact .inl ⟨rfl, rfl⟩
 ·injection e with e1 e2 e3
  subst e1 e2
  refine .inr ⟨b, hb, xs.length, ?_, h2, Nat.le_refl _, .inl rfl⟩
  split <;> simp [Addr.add]
theorem rdo_flat {b : Base} {S : List SH} {g : Nat} {o : Obj} (h : (g, o) ∈ S.flatten) : RdO b S g o := fun w hw => hw.own _ h
theorem ints_pre {xs ys : List UInt8} {rest : List Value} (h : xs <+: ys) : ((ints ys ++ rest).drop 0).take xs.length = ints xs := by
 obtain ⟨t, rfl⟩ := h
 rw [List.drop_zero, ints_append, List.append_assoc, List.take_left' (ints_length _)]
theorem rd_bk {b : Base} {S : List SH} {k : BK} {xs : List UInt8} (h : k.h ∈ S.flatten) (hp : xs <+: k.xs) : Rd b S ⟨k.g, 0, none⟩ (ints xs) := rd_rdo (off := 0) (n := xs.length) (rdo_flat h) (ints_pre hp)
theorem src_rv {b : Base} {S : List SH} {P : List BK} {v : Value} {xs : List UInt8} (h : RV P v xs) (hm : ∀ k ∈ P, k.h ∈ S.flatten) : Src b S 1 v xs.length (ints xs) := by
 rcases h with ⟨rfl, rfl⟩ | ⟨k, hk, cap, rfl, h2, h3⟩
 ·exact .inr (.inl ⟨0, rfl, rfl, rfl⟩)
 ·exact .inl ⟨_, cap, rfl, rd_bk (hm k hk) h2, by rw [ints_length, Nat.mul_one]⟩
theorem sbB : (Tryz.prog.info? 5).map (fun i => (i.size, i.bytes)) = some (1, 1) := by kernel_rfl
theorem zeroB : zeroL Tryz.prog 5 = some [.int .u8 0] := by kernel_rfl
section
variable {R : Ending → World → Prop} {env : Env} {b : Base} {S : List SH} {B : JB} {T : Tree} {ty : TypeId}
theorem j_appendP {x y : Operand} {xs news : List UInt8} {P : List BK} {o : Nat} (k : Nat) (hk : S[k]? = some (ph P)) (hx : Vw P o (ev env x) xs) (hy : Src b S 1 (ev env y) news.length (ints news)) (hb : xs.length + news.length ≤ 70000000000000)
  (h : ∀ v' P', Vw P' o v' (xs ++ news) → PLe o P P' → J Tryz.prog R T (v' :: env) (S.set k (ph P')) b B) : J Tryz.prog R (.op (O (.call ⟨.builtin .append, #[x, y], #[33, 33]⟩) ty) T) env S b B := by
 have hone : ∀ u ∈ ints news, oneV u = true := ints_one
 have hbb : ((ints xs).length + (ints news).length) * (1 + 1) ≤ 140737488355328 ∧ 0 < 1 := by
  rw [ints_length, ints_length]
  omega
 have hset : S.set k (ph P) = S := by
  obtain ⟨hlt, he⟩ := List.getElem?_eq_some_iff.1 hk
  have := List.set_getElem_self hlt
  rwa [he] at this
 have hzero : ∀ {A : Option Addr} {n cap : Nat}, ev env x = .slice A n cap → news.length = 0 → J Tryz.prog R T (.slice A n cap :: env) S b B := fun he h0 => by
  have hn := List.eq_nil_of_length_eq_zero h0
  subst hn
  have h1 := h _ P (by rw [List.append_nil]; exact hx) (PLe.refl o P)
  rw [hset, he] at h1
  exact h1
 -- a new row
 have hnew : ∀ (S2 : List SH), S2.flatten.Perm S.flatten → ∀ (g' cap' : Nat) (rest : List Value), (xs ++ news).length ≤ cap' → ((ints xs ++ ints news) ++ rest).length = cap' * 1 → J Tryz.prog R T (.slice (some ⟨g', 0, none⟩) (xs ++ news).length cap' :: env) ([(g', .cells ((ints xs ++ ints news) ++ rest).toArray 5 (0, 0))] :: S2) b B := fun S2 hS2 g' cap' rest h1 h2 => by
  have hc : ((⟨g', xs ++ news, rest, (0, 0), o⟩ : BK) :: P).map BK.h = (g', .cells ((ints xs ++ ints news) ++ rest).toArray 5 (0, 0)) :: ph P := by
   rw [List.map_cons]
   simp only [BK.h, ints_append, ph]
  obtain ⟨r, p1, p2⟩ := flatten_set hk (ph ((⟨g', xs ++ news, rest, (0, 0), o⟩ : BK) :: P))
  refine j_perm (S' := S.set k (ph ((⟨g', xs ++ news, rest, (0, 0), o⟩ : BK) :: P))) ?_ (h _ _ (.inr ⟨⟨g', xs ++ news, rest, (0, 0), o⟩, by simp, cap', rfl, List.prefix_refl _, h1, .inr ⟨rfl, rfl, ?_, fun j _ hj => by simp at hj⟩⟩) (PLe.cons _ _ _))
  ·refine List.Perm.trans ?_ p2.symm
   show ([(g', _)] ++ S2.flatten).Perm _
   rw [show ph ((⟨g', xs ++ news, rest, (0, 0), o⟩ : BK) :: P) = _ from hc]
   exact List.Perm.cons _ (hS2.trans p1)
  ·show cap' = (ints (xs ++ news) ++ rest).length
   rw [ints_append]
   omega
 rcases hx with ⟨hxe, rfl⟩ | ⟨c, hc, cap, hxe, hpre, hcap, hown⟩
 ·refine j_appendK (A := none) (n := 0) (cap := 0) (xs := []) (news := ints news) (z := [.int .u8 0]) 0 U33 U33 (.inr ⟨_, rfl⟩) sbB zeroB rfl hxe rfl (.inl ⟨rfl, rfl⟩) (Nat.le_refl _) hy hone hbb ?_ (hzero hxe) ?_
  ·intro _ g' cap' rest h1 h2
   have h3 := hnew S (.refl _) g' cap' rest (by simpa using h1) h2
   rw [List.nil_append] at h3
   rw [Nat.zero_add]
   exact h3
  ·intro h1 h2
   omega
 ·obtain ⟨P1, P2, rfl⟩ := List.append_of_mem hc
  obtain ⟨r, p1, p2⟩ := flatten_set hk (ph (P1 ++ P2))
  have hph : ph (P1 ++ c :: P2) = ph P1 ++ c.h :: ph P2 := by simp [ph]
  have hph2 : ph (P1 ++ P2) = ph P1 ++ ph P2 := by simp [ph]
  have hS2 : ([c.h] :: S.set k (ph (P1 ++ P2))).flatten.Perm S.flatten := by
   rw [List.flatten_cons]
   refine List.Perm.trans (List.Perm.append_left _ p2) (List.Perm.trans ?_ p1.symm)
   rw [hph, hph2, List.singleton_append, List.append_assoc, List.append_assoc, List.cons_append]
   exact List.perm_middle.symm
  refine j_perm (S' := [c.h] :: S.set k (ph (P1 ++ P2))) hS2.symm ?_
  have hy2 : Src b ([c.h] :: S.set k (ph (P1 ++ P2))) 1 (ev env y) news.length (ints news) := by
   rcases hy with ⟨a, cc, e1, e2, e3⟩ | h1 | h1
   ·exact .inl ⟨a, cc, e1, fun w hw => e2 w (hw.perm hS2), e3⟩
   ·exact .inr (.inl h1)
   ·exact .inr (.inr h1)
  refine j_appendK (A := some ⟨c.g, 0, none⟩) (n := xs.length) (cap := cap) (xs := ints xs) (news := ints news) (z := [.int .u8 0]) 0 U33 U33 (.inr ⟨_, rfl⟩) sbB zeroB rfl hxe (by rw [ints_length, Nat.mul_one]) (.inr ⟨c.g, rfl, rd_bk (by simp) hpre⟩) hcap hy2 hone hbb ?_ (fun h0 => ?_) ?_
  ·intro _ g' cap' rest h1 h2
   have h3 := hnew _ hS2 g' cap' rest (by rw [List.length_append]; exact h1) h2
   rw [List.length_append] at h3
   exact h3
  ·exact j_perm hS2 (hzero hxe h0)
  ·intro hroom hm
   rcases hown with he | ⟨ho, hxs, hcl, hfr⟩
   ·omega
   ·subst hxs
    refine ⟨c.g, c.rest, c.fz, rfl, rfl, by rw [Nat.mul_one]; exact hcl.symm, hfr, ?_⟩
    have hn : news.length = (ints news).length := (ints_length _).symm
    obtain ⟨r', q1, q2⟩ := flatten_set hk (ph (P1 ++ (⟨c.g, c.xs ++ news, c.rest.drop (ints news).length, c.fz, o⟩ : BK) :: P2))
    have hlen : (⟨c.g, c.xs ++ news, c.rest.drop (ints news).length, c.fz, o⟩ : BK).len = c.len := by
     simp only [BK.len, List.length_append, ints_length, List.length_drop] at hcl ⊢
     omega
    have h1 := h (.slice (some ⟨c.g, 0, none⟩) (c.xs ++ news).length cap) (P1 ++ (⟨c.g, c.xs ++ news, c.rest.drop (ints news).length, c.fz, o⟩ : BK) :: P2) (.inr ⟨⟨c.g, c.xs ++ news, c.rest.drop (ints news).length, c.fz, o⟩, by simp, cap, rfl, List.prefix_refl _, by rw [List.length_append]; exact hroom, .inr ⟨rfl, rfl, by rw [hlen]; exact hcl, fun j hj => hfr j (by rw [← hlen]; exact hj)⟩⟩) (fun b2 hb2 => by
     rcases List.mem_append.1 hb2 with hb2 | hb2
     ·exact ⟨b2, List.mem_append_left _ hb2, rfl, rfl, List.prefix_refl _, fun _ => rfl⟩
     ·rcases List.mem_cons.1 hb2 with rfl | hb2
      ·exact ⟨_, List.mem_append_right _ (List.mem_cons_self ..), rfl, ho.symm, List.prefix_append _ _, fun hne => absurd ho hne⟩
      ·exact ⟨b2, List.mem_append_right _ (List.mem_cons_of_mem _ hb2), rfl, rfl, List.prefix_refl _, fun _ => rfl⟩)
    rw [List.length_append] at h1
    refine j_perm ?_ h1
    show (([(c.g, _)] : SH) ++ (S.set k (ph (P1 ++ P2))).flatten).Perm _
    refine List.Perm.trans (List.Perm.append_left _ p2) (List.Perm.trans ?_ q2.symm)
    have hr : r.Perm r' := by
     have := p1.symm.trans q1
     exact (List.perm_append_left_iff _).1 this
    rw [hph2]
    have e : ph (P1 ++ (⟨c.g, c.xs ++ news, c.rest.drop (ints news).length, c.fz, o⟩ : BK) :: P2) = ph P1 ++ (c.g, .cells ((ints c.xs ++ ints news) ++ c.rest.drop (ints news).length).toArray 5 c.fz) :: ph P2 := by
     simp [ph, BK.h, ints_append]
    have key : ∀ q : Nat × Obj, ([q] ++ (ph P1 ++ ph P2 ++ r)).Perm (ph P1 ++ q :: ph P2 ++ r') := fun q => by
     rw [List.singleton_append, List.append_assoc, List.append_assoc, List.cons_append]
     exact (List.Perm.cons _ (List.Perm.append_left _ (List.Perm.append_left _ hr))).trans List.perm_middle.symm
    rw [e]
    exact key _
end
end Go.Proofs.YtfebkkmmagbnlaaGreatDoor
