/- SHA-256, as both codes reckon it: a plain function. -/
import Derived.Test.YtfeabbeebkkhaaaGreatSx7
namespace Go.Sx
open Go
set_option linter.unusedVariables false
set_option linter.unusedSimpArgs false

abbrev cv (z : Int) : Int := IntKind.u32.wrap z
abbrev shl32 (z n : Int) : Int := IntKind.u32.wrap (z * 2 ^ min n.toNat IntKind.u32.bits)
abbrev shr32 (z n : Int) : Int := z.fdiv (2 ^ min n.toNat IntKind.u32.bits)
abbrev xo (a c : Int) : Int := bw .xor .u32 a c
abbrev an (a c : Int) : Int := bw .and .u32 a c
abbrev oo (a c : Int) : Int := bw .or .u32 a c
abbrev inv32 (a : Int) : Int := bw .xor .u32 (if IntKind.u32.signed then -1 else IntKind.u32.max) a
/-- x turned n digits to the right -/
def rotr (x n : Int) : Int := oo (shl32 x (32 - n)) (shr32 x n)
abbrev gb (p : List UInt8) (i : Nat) : Int := ((p.getD i 0).toNat : Int)
def word (p : List UInt8) (i : Nat) : Int := oo (oo (oo (shl32 (cv (gb p (4 * i))) 24) (shl32 (cv (gb p (4 * i + 1))) 16)) (shl32 (cv (gb p (4 * i + 2))) 8)) (cv (gb p (4 * i + 3)))
def sig0 (x : Int) : Int := xo (xo (rotr x 7) (rotr x 18)) (shr32 x 3)
def sig1 (x : Int) : Int := xo (xo (rotr x 17) (rotr x 19)) (shr32 x 10)
def wnext (w : List Int) (n : Nat) : Int := cv (cv (cv (w.getD (n - 16) 0 + sig0 (w.getD (n - 15) 0)) + w.getD (n - 7) 0) + sig1 (w.getD (n - 2) 0))
def sched (p : List UInt8) : Nat → List Int
  | 0 => []
  | n + 1 => sched p n ++ [if n < 16 then word p n else wnext (sched p n) n]
theorem sched_length (p : List UInt8) (n : Nat) : (sched p n).length = n := by
  induction n with
  | zero => rfl
  | succ n ih => simp [sched, ih]
theorem sched_word {p : List UInt8} {w : List Int} {i : Nat} (h : w.take i = sched p i) (hi : i < 16) (hl : i < w.length) : (w.set i (word p i)).take (i + 1) = sched p (i + 1) := by
  rw [take_set_succ hl, h, sched, if_pos hi]
theorem sched_next {p : List UInt8} {w : List Int} {i : Nat} (h : w.take i = sched p i) (hi : 16 ≤ i) (hl : i < w.length) : (w.set i (wnext w i)).take (i + 1) = sched p (i + 1) := by
  rw [take_set_succ hl, h, sched, if_neg (by omega)]
  have hw : wnext (sched p i) i = wnext w i := by
    unfold wnext
    rw [← h, list_getD_take (by omega), list_getD_take (by omega), list_getD_take (by omega), list_getD_take (by omega)]
  rw [hw]
def t1of (k w : Int) (v : List Int) : Int := cv (cv (cv (cv (v.getD 7 0 + xo (xo (rotr (v.getD 4 0) 6) (rotr (v.getD 4 0) 11)) (rotr (v.getD 4 0) 25)) + xo (an (v.getD 4 0) (v.getD 5 0)) (an (inv32 (v.getD 4 0)) (v.getD 6 0))) + k) + w)
def t2of (v : List Int) : Int := cv (xo (xo (rotr (v.getD 0 0) 2) (rotr (v.getD 0 0) 13)) (rotr (v.getD 0 0) 22) + xo (xo (an (v.getD 0 0) (v.getD 1 0)) (an (v.getD 0 0) (v.getD 2 0))) (an (v.getD 1 0) (v.getD 2 0)))
def rnd (k w : Int) (v : List Int) : List Int := [cv (t1of k w v + t2of v), v.getD 0 0, v.getD 1 0, v.getD 2 0, cv (v.getD 3 0 + t1of k w v), v.getD 4 0, v.getD 5 0, v.getD 6 0]
def rounds (kk ws v : List Int) : Nat → List Int
  | 0 => v
  | n + 1 => rnd (kk.getD n 0) (ws.getD n 0) (rounds kk ws v n)
theorem rounds_length {kk ws v : List Int} (h : v.length = 8) (n : Nat) : (rounds kk ws v n).length = 8 := by
  cases n with
  | zero => exact h
  | succ n => rfl
def adds (s v : List Int) : Nat → List Int
  | 0 => s
  | n + 1 => (adds s v n).set n (cv ((adds s v n).getD n 0 + v.getD n 0))
theorem adds_length (s v : List Int) (n : Nat) : (adds s v n).length = s.length := by
  induction n with
  | zero => rfl
  | succ n ih => simp [adds, ih]
def kk64 : List Int := [1116352408, 1899447441, 3049323471, 3921009573, 961987163, 1508970993, 2453635748, 2870763221, 3624381080, 310598401, 607225278, 1426881987, 1925078388, 2162078206, 2614888103, 3248222580, 3835390401, 4022224774, 264347078, 604807628, 770255983, 1249150122, 1555081692, 1996064986, 2554220882, 2821834349, 2952996808, 3210313671, 3336571891, 3584528711, 113926993, 338241895, 666307205, 773529912, 1294757372, 1396182291, 1695183700, 1986661051, 2177026350, 2456956037, 2730485921, 2820302411, 3259730800, 3345764771, 3516065817, 3600352804, 4094571909, 275423344, 430227734, 506948616, 659060556, 883997877, 958139571, 1322822218, 1537002063, 1747873779, 1955562222, 2024104815, 2227730452, 2361852424, 2428436474, 2756734187, 3204031479, 3329325298]
def init8 : List Int := [1779033703, 3144134277, 1013904242, 2773480762, 1359893119, 2600822924, 528734635, 1541459225]
/-- sixty-four bytes taken in -/
def block (p : List UInt8) (s : List Int) : List Int := adds s (rounds kk64 (sched p 64) s 64) 8
theorem block_length {p : List UInt8} {s : List Int} (h : s.length = 8) : (block p s).length = 8 := by rw [block, adds_length, h]
def blocks : Nat → List UInt8 → List Int → List Int
  | 0, _, s => s
  | n + 1, p, s => blocks n (p.drop 64) (block p s)
theorem blocks_length {n : Nat} {p : List UInt8} {s : List Int} (h : s.length = 8) : (blocks n p s).length = 8 := by
  induction n generalizing p s with
  | zero => exact h
  | succ n ih => exact ih (block_length h)
/-- one block more, at the end -/
theorem blocks_succ (n : Nat) (p : List UInt8) (s : List Int) : blocks (n + 1) p s = block (p.drop (64 * n)) (blocks n p s) := by
  induction n generalizing p s with
  | zero => simp [blocks]
  | succ n ih =>
    rw [blocks, ih, blocks, List.drop_drop]
    congr 2
    omega
theorem blocks_add (n m : Nat) (p : List UInt8) (s : List Int) : blocks (n + m) p s = blocks m (p.drop (64 * n)) (blocks n p s) := by
  induction n generalizing p s with
  | zero => simp [blocks]
  | succ n ih =>
    rw [show n + 1 + m = (n + m) + 1 by omega, blocks, ih, blocks, List.drop_drop]
    congr 2
    omega
theorem word_congr {p q : List UInt8} {i : Nat} (h : ∀ j, j < 64 → p.getD j 0 = q.getD j 0) (hi : i < 16) : word p i = word q i := by
  unfold word gb
  rw [h _ (by omega), h _ (by omega), h _ (by omega), h _ (by omega)]
theorem sched_congr {p q : List UInt8} (h : ∀ j, j < 64 → p.getD j 0 = q.getD j 0) (n : Nat) : sched p n = sched q n := by
  induction n with
  | zero => rfl
  | succ n ih =>
    simp only [sched, ih]
    split
    · rename_i hn; rw [word_congr h hn]
    · rfl
theorem block_congr {p q : List UInt8} (h : ∀ j, j < 64 → p.getD j 0 = q.getD j 0) (s : List Int) : block p s = block q s := by
  unfold block
  rw [sched_congr h]
/-- only the blocks' own bytes count -/
theorem blocks_congr {n : Nat} {p q : List UInt8} (h : ∀ j, j < 64 * n → p.getD j 0 = q.getD j 0) (s : List Int) : blocks n p s = blocks n q s := by
  induction n generalizing p q s with
  | zero => rfl
  | succ n ih =>
    rw [blocks, blocks, block_congr (fun j hj => h j (by omega)), ih]
    intro j hj
    simp only [List.getD_eq_getElem?_getD, List.getElem?_drop]
    simpa only [List.getD_eq_getElem?_getD] using h (64 + j) (by omega)
/-- how many zeros stand behind the first byte of the padding -/
def zc (n : Nat) : Nat := (119 - n % 64) % 64
/-- the first i bytes of a number of eight bytes -/
def len8 (x : Int) : Nat → List UInt8
  | 0 => []
  | i + 1 => len8 x i ++ [by8 (x.fdiv (2 ^ (56 - 8 * i)))]
theorem len8_length (x : Int) (i : Nat) : (len8 x i).length = i := by
  induction i with
  | zero => rfl
  | succ i ih => simp [len8, ih]
def pad (n : Nat) (x : Int) : List UInt8 := [128] ++ List.replicate (zc n) 0 ++ len8 x 8
theorem pad_length (n : Nat) (x : Int) : (pad n x).length = zc n + 9 := by simp [pad, len8_length]
/-- the digest's first i bytes -/
def outs (s : List Int) : Nat → List UInt8
  | 0 => []
  | i + 1 => outs s i ++ [by8 ((s.getD (i / 4) 0).fdiv (2 ^ (24 - 8 * (i % 4))))]
theorem outs_length (s : List Int) (i : Nat) : (outs s i).length = i := by
  induction i with
  | zero => rfl
  | succ i ih => simp [outs, ih]
/-- the bits of n bytes, as a number of eight bytes -/
def bits8 (n : Nat) : Int := IntKind.u64.wrap (IntKind.u64.wrap (n : Int) * 8)
/-- what 'ended' answers -/
def ended (s : List Int) (rest : List UInt8) (x : Int) : List UInt8 := outs (blocks ((rest.length + zc rest.length + 9) / 64) (rest ++ pad rest.length x) s) 32
/-- SHA-256 -/
def sum (p : List UInt8) : List UInt8 := ended init8 p (bits8 p.length)
theorem sum_length (p : List UInt8) : (sum p).length = 32 := outs_length _ _
theorem sum_split (p : List UInt8) : ended (blocks (p.length / 64) p init8) (p.drop (64 * (p.length / 64))) (bits8 p.length) = sum p := by
  have hr : (p.drop (64 * (p.length / 64))).length = p.length % 64 := by rw [List.length_drop]; omega
  have hz : zc (p.length % 64) = zc p.length := by unfold zc; omega
  have hp : pad (p.length % 64) (bits8 p.length) = pad p.length (bits8 p.length) := by unfold pad; rw [hz]
  unfold sum ended
  rw [hr, hz, hp]
  congr 1
  have hn : (p.length + zc p.length + 9) / 64 = p.length / 64 + (p.length % 64 + zc p.length + 9) / 64 := by omega
  rw [hn, blocks_add]
  have hd : (p ++ pad p.length (bits8 p.length)).drop (64 * (p.length / 64)) = p.drop (64 * (p.length / 64)) ++ pad p.length (bits8 p.length) := by
    rw [List.drop_append_of_le_length (by omega)]
  rw [hd]
  congr 1
  refine blocks_congr (fun j hj => ?_) _
  rw [List.getD_eq_getElem?_getD, List.getD_eq_getElem?_getD, List.getElem?_append_left (by omega)]
theorem zc_back {n j : Nat} (hj : j ≤ zc n) (h : (n + 1 + j) % 64 ≠ 56) : j < zc n := by unfold zc at *; omega
theorem zc_end {n j : Nat} (hj : j ≤ zc n) (h : (n + 1 + j) % 64 = 56) : j = zc n := by unfold zc at *; omega
theorem zc_lt (n : Nat) : zc n < 64 := by unfold zc; omega
theorem zc_mod (n : Nat) : (n + zc n + 9) % 64 = 0 := by unfold zc; omega
/-- a digest in twenty bytes, after i bytes -/
def foldN (h : List UInt8) : Nat → List UInt8
  | 0 => List.replicate 20 0
  | i + 1 => (foldN h i).set (i % 20) (by8 (bw .xor .u8 (((foldN h i).getD (i % 20) 0).toNat : Int) ((h.getD i 0).toNat : Int)))
theorem foldN_length (h : List UInt8) (i : Nat) : (foldN h i).length = 20 := by
  induction i with
  | zero => rfl
  | succ i ih => simp [foldN, ih]
def fold (h : List UInt8) : List UInt8 := foldN h 32
def digit (n : Int) : UInt8 := if n < 10 then by8 (48 + n) else by8 (IntKind.u8.wrap (97 + n) - 10)
/-- a digest's digits, of the first i bytes -/
def hexN (h : List UInt8) : Nat → List UInt8
  | 0 => []
  | i + 1 => hexN h i ++ [digit (((h.getD i 0).toNat : Int) / 16), digit (((h.getD i 0).toNat : Int) % 16)]
theorem hexN_length (h : List UInt8) (i : Nat) : (hexN h i).length = 2 * i := by
  induction i with
  | zero => rfl
  | succ i ih => simp [hexN, ih]; omega
def hex (h : List UInt8) : List UInt8 := hexN h 32
end Go.Sx
