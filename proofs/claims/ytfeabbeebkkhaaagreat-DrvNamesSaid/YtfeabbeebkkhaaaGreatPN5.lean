/- Part 5. -/
import Derived.Test.YtfeabbeebkkhaaaGreatPN3
import Derived.Test.YtfeabbeebkkhaaaGreatPN4
import Derived.Sort.Walk0
import Derived.Shelf.SlIter.Nil
import Derived.Shelf.SortM.Plain
import Derived.Shelf.SortM.SortNone
import Derived.Ground.GgzProg
import Derived.Ground.SlgmProg
import Derived.Test.YtfeabbeebkkhaaaGreatProg
import Derived.Maps.Keyed
import Derived.WideKeyArr
import Derived.Sort.KeysCollected
/-! Par -/
namespace Go.Proofs.YtfeabbeebkkhaaaGreat
open Go Go.Sx
set_option maxRecDepth 100000
set_option maxHeartbeats 4000000
set_option linter.unusedVariables false
set_option linter.unusedSimpArgs false
attribute [local irreducible] J JQ QS Con W opW
def parseE (l : List UInt8) : Int := if l.length = 32 ∧ allDig l = true then 0 else 3
theorem parseE_fail {l : List UInt8} {i : Nat} (hi : i < l.length) (h : dpos (l.getD i 0) < 0) : parseE l = 3 := by
 unfold parseE
 rw [if_neg]
 rintro ⟨_, h2⟩
 rw [allDig_fail hi h] at h2
 cases h2
theorem parseE_len {l : List UInt8} (h : l.length ≠ 32) : parseE l = 3 := by
 unfold parseE
 rw [if_neg (fun h2 => h h2.1)]
theorem parseE_ok {l : List UInt8} (h : l.length = 32) (h2 : ∀ i, i < l.length → 0 ≤ dpos (l.getD i 0)) : parseE l = 0 := by
 unfold parseE
 rw [if_pos ⟨h, allDig_of h2⟩]
theorem slIndex_con (s : List UInt8) (c : UInt8) (w : World) : Con Tryz.prog 149 [.string (bs s), .int .u8 (c.toNat : Int)] w [] fun v _ => v = .int .i64 (firstIdx (bs s) c) := by
 refine con_of_tree mix Tryz.func149 T149_ok (by kernel_rfl) ?_
 unfold T149
 refine j_q (qs_ac) ?_
 refine j_q (qs_extern Tryz.func168 (by kernel_rfl) (by kernel_rfl) (by kernel_rfl) (e := Extern.BytealgIndexByte.indexByte) (by kernel_rfl) rfl rfl rfl (fun w => run_indexByte_string (bs s) (c.toNat : Int) w)) ?_
 refine j_ret_con (vs := [_]) (fun w' hw' => ⟨rfl, trivial⟩) ?_
 show Value.int _ _ = _
 rw [show ((c.toNat : Int)).toNat.toUInt8 = c by simp]
theorem index_con (s : List UInt8) (c : UInt8) (w : World) : Con Tryz.prog 128 [.string (bs s), .int .u8 (c.toNat : Int)] w [] fun v _ => v = .int .i64 (firstIdx (bs s) c) := by
 refine con_of_tree mix Tryz.func128 T128_ok (by kernel_rfl) ?_
 unfold T128
 refine j_q (qs_ac) ?_
 refine j_q (qs_call ent149 rfl rfl rfl (fun w' hw' => slIndex_con s c w')) ?_
 refine j_ret_con (vs := [_]) (fun w' hw' => ⟨rfl, trivial⟩) ?_
 rfl
theorem value_con (c : UInt8) (w : World) : Con Tryz.prog 111 [.int .u8 (c.toNat : Int)] w [] fun v _ => v = .int .i64 (dpos c) := by
 refine con_of_tree mix Tryz.func111 T111_ok (by kernel_rfl) ?_
 unfold T111
 refine j_q (qs_ac) ?_
 refine j_q (qs_ac) ?_
 refine j_loop (fun m vs S' => ∃ i : Nat, vs = [.int .i64 i] ∧ S' = [[]] ∧ i ≤ 32 ∧ m = 32 - i ∧ ∀ j, j < i → DIG.getD j 0 ≠ c) ⟨_, 0, rfl, rfl, by omega, rfl, fun j h => by omega⟩ ?_
 rintro m vs S' hlen ⟨i, rfl, rfl, hi, rfl, hall⟩
 clear hlen
 refine j_q (qs_lss rfl rfl) ?_
 refine j_cond rfl (fun hc0 => ?_) (fun hc0 => ?_)
 ·skip
  have hi1 : i < 32 := by
   simp only [bnA] at *
   omega
  refine j_q (qs_idx (l := DIG) U9 rfl rfl ⟨by omega, by show _ < ((32 : Nat) : Int); omega⟩) ?_
  rw [Int.toNat_natCast]
  refine j_q (qs_eql rfl rfl) ?_
  refine j_cond rfl (fun hc1 => ?_) (fun hc1 => ?_)
  ·skip
   have he : DIG.getD i 0 = c := UInt8.toNat_inj.1 (by simp only [beq_iff_eq] at hc1; omega)
   refine j_ret_con (vs := [_]) (fun w' hw' => ⟨rfl, trivial⟩) ?_
   show Value.int _ _ = _
   rw [← he, dpos_at i hi1]
  ·skip
   have he : DIG.getD i 0 ≠ c := fun h => by rw [h] at hc1; simp at hc1
   refine j_q (qs_add64 rfl rfl (by omega)) ?_
   refine j_back rfl ?_
   refine ⟨_, (by omega : 32 - (i + 1) < 32 - i), i + 1, rfl, rfl, by omega, rfl, fun j hj => ?_⟩
   rcases Nat.lt_or_ge j i with h | h
   ·exact hall j h
   ·obtain rfl : j = i := by omega
    exact he
 ·skip
  have hi1 : i = 32 := by
   simp only [bnA] at *
   omega
  refine j_q (qs_ac) ?_
  refine j_ret_con (vs := [_]) (fun w' hw' => ⟨rfl, trivial⟩) ?_
  show Value.int _ _ = _
  subst hi1
  rw [dpos_none c hall]
theorem parse_con (l : List UInt8) (w : World) (hl : l.length ≤ 9223372036854775807) : Con Tryz.prog 126 [.string (bs l), .int .i64 20] w [] fun v _ => ∃ u, v = .tuple #[u, .int .i64 (parseE l)] := by
 refine con_of_tree mix Tryz.func126 T126_ok (by kernel_rfl) ?_
 unfold T126
 refine j_q (qs_ac) ?_
 refine j_q (qs_ac) ?_
 refine j_q (qs_lss rfl rfl) ?_
 refine j_g rfl (fun hb => qs_mt rfl) ?_
 refine j_g rfl (fun hb => qs_gtr (gd_eq hb) rfl) ?_
 refine j_q (qs_or rfl rfl) ?_
 refine j_cond rfl (fun hc0 => ?_) (fun hc0 => ?_)
 ·skip
  exact absurd hc0 (by decide)
 ·skip
  refine j_q (qs_lens U9 rfl) ?_
  refine j_q (qs_call ent147 rfl rfl rfl (fun w' hw' => len_con 20 w' (by decide))) ?_
  refine j_q (qs_neq rfl rfl) ?_
  refine j_cond rfl (fun hc1 => ?_) (fun hc1 => ?_)
  ·skip
   have hl32 : l.length ≠ 32 := by
    have h20 : lenD 20 = 32 := rfl
    rw [h20] at hc1
    simp only [bnA] at *
    omega
   refine j_q (qs_ac) ?_
   refine j_q (qs_ac) ?_
   refine j_ret_con (vs := [_, _]) (fun w' hw' => ⟨rfl, rfl, trivial⟩) ?_
   show ∃ u, Value.tuple #[_, _] = Value.tuple #[u, _]
   rw [parseE_len hl32]
   exact ⟨_, rfl⟩
  ·skip
   have hl32 : l.length = 32 := by
    have h20 : lenD 20 = 32 := rfl
    rw [h20] at hc1
    simp only [bnA] at *
    omega
   refine j_make (n := 0) (c := 20) U46 sb5 zero5 rfl (by decide) rfl rfl (by decide) (by decide) (fun g13 v13 c13 hv13 hc13 ho13 => ?_)
   refine j_q (qs_ac) ?_
   refine j_q (qs_ac) ?_
   refine j_q (qs_lens U9 rfl) ?_
   refine j_q (qs_sub64 rfl rfl (by omega)) ?_
   rw [show (l.length : Int) - 1 = 31 - ((0 : Nat) : Int) by omega]
   refine j_loop (fun m vs S' => ∃ (t bits : Nat) (xs : List Value) (v : Value) (c : SH), vs = [v, .int .u32 bits, .int .u64 (5 * t % 8 : Nat), .int .i64 (31 - (t : Int))] ∧ S' = [c, []] ∧ Sx.Own 5 1 xs v c ∧ xs.length = 5 * t / 8 ∧ bits < 2 ^ (5 * t % 8) ∧ t ≤ 32 ∧ (∀ j, 32 - t ≤ j → j < 32 → 0 ≤ dpos (l.getD j 0)) ∧ m = 32 - t) ⟨_, 0, 0, _, _, _, rfl, rfl, ho13, rfl, by decide, by omega, fun j h1 h2 => by omega, rfl⟩ ?_
   rintro m vs S' hlen ⟨t, bits, xs, v, ch, rfl, rfl, ho, hxl, hb2, ht, hall, rfl⟩
   obtain ⟨n, A, cap, rfl, hn⟩ := own_form ho (by decide)
   rw [Nat.mul_one] at hn
   clear hlen
   refine j_q (qs_geq rfl rfl) ?_
   refine j_cond rfl (fun hc2 => ?_) (fun hc2 => ?_)
   ·skip
    have ht1 : t < 32 := by
     simp only [bnA] at *
     omega
    obtain ⟨h, hh⟩ : ∃ h, h = 5 * t % 8 := ⟨_, rfl⟩
    rw [← hh] at hb2 ⊢
    refine j_q (qs_idx U9 rfl rfl ⟨(by omega), (by omega)⟩) ?_
    rw [show (31 - (t : Int)).toNat = 31 - t by omega]
    refine j_q (qs_call ent128 rfl rfl rfl (fun w' hw' => index_con DIG (l.getD (31 - t) 0) w')) ?_
    rw [firstIdx_dig]
    refine j_q (qs_lss rfl rfl) ?_
    refine j_cond rfl (fun hc3 => ?_) (fun hc3 => ?_)
    ·skip
     refine j_q (qs_ac) ?_
     refine j_q (qs_ac) ?_
     refine j_ret_con (vs := [_, _]) (fun w' hw' => ⟨rfl, rfl, trivial⟩) ?_
     show ∃ u, Value.tuple #[_, _] = Value.tuple #[u, _]
     rw [parseE_fail (i := 31 - t) (by omega) (by simp only [bnA] at *; omega)]
     exact ⟨_, rfl⟩
    ·skip
     have hr := dpos_range (l.getD (31 - t) 0)
     have hd0 : 0 ≤ dpos (l.getD (31 - t) 0) := by
      simp only [bnA] at *
      omega
     obtain ⟨d, hd⟩ : ∃ d : Nat, dpos (l.getD (31 - t) 0) = (d : Int) := ⟨(dpos (l.getD (31 - t) 0)).toNat, by omega⟩
     have hd32 : d < 32 := by omega
     rw [hd]
     refine j_q (qs_conv U3 U145 rfl) ?_
     refine j_q (qs_shl rfl rfl (by omega)) ?_
     refine j_q (qs_or_ rfl rfl) ?_
     have e26 : bw .or .u32 (bits : Int) (IntKind.u32.wrap (IntKind.u32.wrap (d : Int) * 2 ^ min ((h : Int)).toNat IntKind.u32.bits)) = _ := or32' bits d h hb2 hd32 (by omega)
     rw [e26]
     have hX := more_lt bits d h hb2 hd32
     obtain ⟨X, hXe⟩ : ∃ X, X = bits + d * 2 ^ h := ⟨_, rfl⟩
     rw [← hXe] at hX ⊢
     refine j_q (qs_add rfl rfl) ?_
     rw [show (h : Int) + 5 = ((h + 5 : Nat) : Int) by omega, IntWalk.u64_in _ (by omega)]
     refine j_q (qs_geq rfl rfl) ?_
     refine j_g rfl (fun hb => qs_mt rfl) ?_
     refine j_g rfl (fun hb => qs_lenl U46 (gd_eq hb)) ?_
     refine j_g rfl (fun hb => qs_mt rfl) ?_
     refine j_g rfl (fun hb => qs_lss (gd_eq hb) (gd_eq hb)) ?_
     refine j_q (qs_and rfl rfl) ?_
     refine j_cond rfl (fun hc4 => ?_) (fun hc4 => ?_)
     ·skip
      have h48 : 8 ≤ h + 5 := by
       simp only [bnA] at *
       omega
      refine j_q (qs_conv8 U145 U5 rfl) ?_
      refine j_lit (vs := [.int .u8 _]) U46 sz5 zero5 rfl (by simp [oneV]) ⟨rfl, by decide⟩ (fun g35 v35 c35 hv35 hc35 ho35 => ?_)
      subst hv35 hc35
      refine j_append 1 U46 U46 (.inr ⟨_, rfl⟩) sb5 zero5 rfl ho rfl (src_sl (rd_own 0 rfl (n := 1) rfl) rfl) (by simp [oneV]) ⟨(by simp; omega), (by decide)⟩ (fun v36 c36 ho36 => ?_)
      refine j_drop ?_
      refine j_q (qs_shr rfl rfl (by omega)) ?_
      have e37 : (X : Int).fdiv (2 ^ min (Int.toNat 8) IntKind.u32.bits) = _ := shr8' X
      rw [e37]
      refine j_q (qs_sub rfl rfl) ?_
      rw [show ((h + 5 : Nat) : Int) - 8 = ((h + 5 - 8 : Nat) : Int) by omega, IntWalk.u64_in _ (by omega)]
      refine j_q (qs_sub64 rfl rfl (by omega)) ?_
      refine j_back rfl ?_
      refine ⟨_, (by omega : 32 - (t + 1) < 32 - t), t + 1, X / 256, _, _, _, ?_, rfl, ho36, by simp; omega, ?_, by omega, fun j h1 h2 => by
         rcases Nat.lt_or_ge j (32 - t) with h3 | h3
         ·obtain rfl : j = 31 - t := by omega
          omega
         ·exact hall j h3 h2, rfl⟩
      ·have e1 : h + 5 - 8 = 5 * (t + 1) % 8 := by omega
       have e2 : 31 - (t : Int) - 1 = 31 - ((t + 1 : Nat) : Int) := by omega
       show [v36, Value.int .u32 ((X / 256 : Nat) : Int), Value.int .u64 ((h + 5 - 8 : Nat) : Int), Value.int .i64 (31 - (t : Int) - 1)] = _
       rw [e1, e2]
      ·rw [show 5 * (t + 1) % 8 = h + 5 - 8 by omega]
       exact less_lt X (h + 5) hX h48
     ·skip
      have h48 : h + 5 < 8 := by
       simp only [bnA] at *
       omega
      refine j_q (qs_sub64 rfl rfl (by omega)) ?_
      refine j_back rfl ?_
      refine ⟨_, (by omega : 32 - (t + 1) < 32 - t), t + 1, X, _, _, _, ?_, rfl, ho, by omega, ?_, by omega, fun j h1 h2 => by
         rcases Nat.lt_or_ge j (32 - t) with h3 | h3
         ·obtain rfl : j = 31 - t := by omega
          omega
         ·exact hall j h3 h2, rfl⟩
      ·have e1 : h + 5 = 5 * (t + 1) % 8 := by omega
       have e2 : 31 - (t : Int) - 1 = 31 - ((t + 1 : Nat) : Int) := by omega
       show [Value.slice A n cap, Value.int .u32 (X : Int), Value.int .u64 ((h + 5 : Nat) : Int), Value.int .i64 (31 - (t : Int) - 1)] = _
       rw [e1, e2]
      ·rw [show 5 * (t + 1) % 8 = h + 5 by omega]
       exact hX
   ·skip
    obtain rfl : t = 32 := by
     simp only [bnA] at *
     omega
    refine j_q (qs_neq rfl rfl) ?_
    refine j_cond rfl (fun hc5 => ?_) (fun hc5 => ?_)
    ·skip
     exfalso
     have h0 : 5 * 32 % 8 = 0 := rfl
     rw [h0] at hb2
     simp only [bnA] at *
     omega
    ·skip
     refine j_q (qs_ac) ?_
     refine j_ret_con (vs := [_, _]) (fun w' hw' => ⟨rfl, rfl, trivial⟩) ?_
     show ∃ u, Value.tuple #[_, _] = Value.tuple #[u, _]
     rw [parseE_ok hl32 (fun i hi => hall i (by omega) (by omega))]
     exact ⟨_, rfl⟩
theorem rparse_con (l : List UInt8) (w : World) (hl : l.length ≤ 9223372036854775807) : Con Tryz.prog 60 [.string (bs l), .int .i64 20] w [] fun v _ => ∃ u, v = .tuple #[u, .int .i64 (parseE l)] := by
 refine con_of_tree mix Tryz.func60 T60_ok (by kernel_rfl) ?_
 unfold T60
 refine j_q (qs_ac) ?_
 refine j_q (qs_ac) ?_
 refine j_q (qs_lss rfl rfl) ?_
 refine j_g rfl (fun hb => qs_mt rfl) ?_
 refine j_g rfl (fun hb => qs_gtr (gd_eq hb) rfl) ?_
 refine j_q (qs_or rfl rfl) ?_
 refine j_cond rfl (fun hc0 => ?_) (fun hc0 => ?_)
 ·skip
  exact absurd hc0 (by decide)
 ·skip
  refine j_q (qs_lens U9 rfl) ?_
  refine j_q (qs_call ent110 rfl rfl rfl (fun w' hw' => rlen_con 20 w' (by decide))) ?_
  refine j_q (qs_neq rfl rfl) ?_
  refine j_cond rfl (fun hc1 => ?_) (fun hc1 => ?_)
  ·skip
   have hl32 : l.length ≠ 32 := by
    have h20 : lenD 20 = 32 := rfl
    rw [h20] at hc1
    simp only [bnA] at *
    omega
   refine j_q (qs_ac) ?_
   refine j_q (qs_ac) ?_
   refine j_ret_con (vs := [_, _]) (fun w' hw' => ⟨rfl, rfl, trivial⟩) ?_
   show ∃ u, Value.tuple #[_, _] = Value.tuple #[u, _]
   rw [parseE_len hl32]
   exact ⟨_, rfl⟩
  ·skip
   have hl32 : l.length = 32 := by
    have h20 : lenD 20 = 32 := rfl
    rw [h20] at hc1
    simp only [bnA] at *
    omega
   refine j_make (n := 20) (c := 20) U46 sb5 zero5 rfl (by decide) rfl rfl (by decide) (by decide) (fun g13 v13 c13 hv13 hc13 ho13 => ?_)
   subst hv13 hc13
   rw [ints_rep]
   clear ho13
   refine j_q (qs_ac) ?_
   refine j_loop (fun m vs S' => ∃ (t : Nat) (q : List UInt8), vs = [.int .i64 t] ∧ S' = [[(g13, .cells (ints q).toArray 5 (0, 0))], []] ∧ q.length = 20 ∧ t ≤ 32 ∧ (∀ j, 32 - t ≤ j → j < 32 → 0 ≤ dpos (l.getD j 0)) ∧ m = 32 - t) ⟨_, 0, _, rfl, rfl, by simp, by omega, fun j h1 h2 => by omega, rfl⟩ ?_
   rintro m vs S' hlen ⟨t, q, rfl, rfl, hq, ht, hall, rfl⟩
   clear hlen
   refine j_q (qs_lens U9 rfl) ?_
   refine j_q (qs_lss rfl rfl) ?_
   refine j_cond rfl (fun hc2 => ?_) (fun hc2 => ?_)
   ·skip
    have ht1 : t < 32 := by
     simp only [bnA] at *
     omega
    refine j_q (qs_lens U9 rfl) ?_
    refine j_q (qs_sub64 rfl rfl (by omega)) ?_
    refine j_q (qs_sub64 rfl rfl (by omega)) ?_
    refine j_q (qs_idx U9 rfl rfl ⟨(by omega), (by omega)⟩) ?_
    rw [show ((l.length : Int) - 1 - (t : Int)).toNat = 31 - t by omega]
    refine j_q (qs_call ent111 rfl rfl rfl (fun w' hw' => value_con (l.getD (31 - t) 0) w')) ?_
    refine j_q (qs_lss rfl rfl) ?_
    refine j_cond rfl (fun hc3 => ?_) (fun hc3 => ?_)
    ·skip
     refine j_q (qs_ac) ?_
     refine j_q (qs_ac) ?_
     refine j_ret_con (vs := [_, _]) (fun w' hw' => ⟨rfl, rfl, trivial⟩) ?_
     show ∃ u, Value.tuple #[_, _] = Value.tuple #[u, _]
     rw [parseE_fail (i := 31 - t) (by omega) (by simp only [bnA] at *; omega)]
     exact ⟨_, rfl⟩
    ·skip
     have hd0 : 0 ≤ dpos (l.getD (31 - t) 0) := by
      simp only [bnA] at *
      omega
     obtain ⟨dd, hdd⟩ : ∃ dd, dd = dpos (l.getD (31 - t) 0) := ⟨_, rfl⟩
     rw [← hdd]
     refine j_q (qs_ac) ?_
     refine j_loop (fun m vs S' => ∃ (j : Nat) (q : List UInt8), vs = [.int .i64 j] ∧ S' = [[(g13, .cells (ints q).toArray 5 (0, 0))], []] ∧ q.length = 20 ∧ j ≤ 5 ∧ m = 5 - j) ⟨_, 0, _, rfl, rfl, hq, by omega, rfl⟩ ?_
     rintro m vs S' hlen ⟨j, q, rfl, rfl, hq, hj, rfl⟩
     clear hlen
     refine j_q (qs_lss rfl rfl) ?_
     refine j_cond rfl (fun hc4 => ?_) (fun hc4 => ?_)
     ·skip
      have hj1 : j < 5 := by
       simp only [bnA] at *
       omega
      refine j_q (qs_conv U3 U152 rfl) ?_
      rw [IntWalk.u64_in _ (by omega)]
      refine j_q (qs_shr rfl rfl (by omega)) ?_
      refine j_q (qs_and_ rfl rfl) ?_
      refine j_q (qs_eql rfl rfl) ?_
      refine j_cond rfl (fun hc5 => ?_) (fun hc5 => ?_)
      ·skip
       refine j_q (qs_add64 rfl rfl (by omega)) ?_
       refine j_back rfl ?_
       exact ⟨_, (by omega : 5 - (j + 1) < 5 - j), j + 1, _, rfl, rfl, hq, by omega, rfl⟩
      ·skip
       refine j_q (qs_mul64 rfl rfl (by omega)) ?_
       refine j_q (qs_add64 rfl rfl (by omega)) ?_
       refine j_q (qs_quo64 rfl rfl (by omega) (by omega) (by omega)) ?_
       refine j_q (qs_geq rfl rfl) ?_
       refine j_cond rfl (fun hc6 => ?_) (fun hc6 => ?_)
       ·skip
        exfalso
        simp only [bnA] at *
        omega
       ·skip
        refine j_q (qs_quo64 rfl rfl (by omega) (by omega) (by omega)) ?_
        refine j_q (qs_quo64 rfl rfl (by omega) (by omega) (by omega)) ?_
        refine j_q (qs_ixg U46 sz5 rfl rfl ⟨(by omega), (by omega)⟩) ?_
        refine j_q (qs_loadi 0 U5 rfl rfl (by omega)) ?_
        refine j_q (qs_rem64 rfl rfl (by omega) (by omega)) ?_
        refine j_q (qs_conv U3 U152 rfl) ?_
        rw [IntWalk.u64_in _ (by omega)]
        refine j_q (qs_shl rfl rfl (by omega)) ?_
        refine j_q (qs_or_ rfl rfl) ?_
        rw [bw_by8]
        refine j_q (qs_ixg U46 sz5 rfl rfl ⟨(by omega), (by omega)⟩) ?_
        refine j_storei 0 sz5 rfl rfl rfl (by omega) ?_
        refine j_q (qs_add64 rfl rfl (by omega)) ?_
        refine j_back rfl ?_
        exact ⟨_, (by omega : 5 - (j + 1) < 5 - j), j + 1, _, rfl, rfl, by simpa using hq, by omega, rfl⟩
     ·skip
      refine j_q (qs_add64 rfl rfl (by omega)) ?_
      refine j_back rfl ?_
      exact ⟨_, (by omega : 32 - (t + 1) < 32 - t), t + 1, _, rfl, rfl, hq, by omega, fun j h1 h2 => by
         rcases Nat.lt_or_ge j (32 - t) with h3 | h3
         ·obtain rfl : j = 31 - t := by omega
          omega
         ·exact hall j h3 h2, rfl⟩
   ·skip
    obtain rfl : t = 32 := by
     simp only [bnA] at *
     omega
    refine j_q (qs_ac) ?_
    refine j_ret_con (vs := [_, _]) (fun w' hw' => ⟨rfl, rfl, trivial⟩) ?_
    show ∃ u, Value.tuple #[_, _] = Value.tuple #[u, _]
    rw [parseE_ok hl32 (fun i hi => hall i (by omega) (by omega))]
    exact ⟨_, rfl⟩
end Go.Proofs.YtfeabbeebkkhaaaGreat
/-! Path1 -/
namespace Go.Proofs.YtfeabbeebkkhaaaGreat
open Go Go.Sx
set_option maxRecDepth 100000
set_option maxHeartbeats 4000000
set_option linter.unusedVariables false
set_option linter.unusedSimpArgs false
attribute [local irreducible] J JQ QS Con W opW
def okI (n : Int) : Bool := decide (48 ≤ n ∧ n ≤ 57 ∨ 65 ≤ n ∧ n ≤ 90 ∨ 97 ≤ n ∧ n ≤ 122 ∨ n = 43 ∨ n = 45 ∨ n = 46 ∨ n = 95 ∨ n = 63 ∨ n = 61)
def okB (c : UInt8) : Bool := okI (c.toNat : Int)
def isName (l : List UInt8) : Bool := decide (1 ≤ l.length ∧ l.length ≤ 80 ∧ ((l.getD 0 0).toNat : Int) ≠ 46) && l.all okB
theorem isName_len {l : List UInt8} (h : isName l = true) : 1 ≤ l.length ∧ l.length ≤ 80 := by
 simp only [isName, Bool.and_eq_true, decide_eq_true_eq] at h
 exact ⟨h.1.1, h.1.2.1⟩
theorem all_step {l : List UInt8} {i : Nat} (h : (l.take i).all okB = true) (hi : i < l.length) (hc : okI ((l.getD i 0).toNat : Int) = true) : (l.take (i + 1)).all okB = true := by
 rw [List.take_succ_eq_append_getElem hi, List.all_append, h]
 have : l.getD i 0 = l[i] := by rw [List.getD_eq_getElem?_getD, List.getElem?_eq_getElem hi]; rfl
 rw [this] at hc
 simpa [okB] using hc
theorem all_fail {l : List UInt8} {i : Nat} (hi : i < l.length) (hc : okI ((l.getD i 0).toNat : Int) = false) : isName l = false := by
 have : l.getD i 0 = l[i] := by rw [List.getD_eq_getElem?_getD, List.getElem?_eq_getElem hi]; rfl
 rw [this] at hc
 have : l.all okB = false := by
  rw [List.all_eq_false]
  exact ⟨l[i], List.getElem_mem hi, by simp [okB, hc]⟩
 rw [isName, this, Bool.and_false]
theorem all_done {l : List UInt8} {i : Nat} (h : (l.take i).all okB = true) (hi : l.length ≤ i) (h1 : 1 ≤ l.length) (h2 : l.length ≤ 80) (h3 : ((l.getD 0 0).toNat : Int) ≠ 46) : isName l = true := by
 rw [List.take_of_length_le hi] at h
 simp only [isName, h, Bool.and_true, decide_eq_true_eq]
 exact ⟨h1, h2, h3⟩
theorem risName_con (l : List UInt8) (w : World) (hl : l.length ≤ 9223372036854775807) : Con Tryz.prog 59 [.string (bs l)] w [] fun v _ => v = .bool (isName l) := by
 refine con_of_tree mix Tryz.func59 T59_ok (by kernel_rfl) ?_
 unfold T59
 refine j_q (qs_ac) ?_
 refine j_q (qs_lens U9 rfl) ?_
 refine j_q (qs_lss rfl rfl) ?_
 refine j_g rfl (fun hb => qs_mt rfl) ?_
 refine j_g rfl (fun hb => qs_lens U9 (gd_eq hb)) ?_
 refine j_g rfl (fun hb => qs_gtr (gd_eq hb) rfl) ?_
 refine j_q (qs_or rfl rfl) ?_
 refine j_g rfl (fun hb => qs_mt rfl) ?_
 refine j_g rfl (fun hb => qs_idx U9 (gd_eq hb) rfl ⟨(by omega), (by simp only [bnA] at *; omega)⟩) ?_
 refine j_g rfl (fun hb => qs_eql (gd_eq hb) rfl) ?_
 refine j_q (qs_or rfl rfl) ?_
 refine j_cond rfl (fun hc0 => ?_) (fun hc0 => ?_)
 ·skip
  refine j_q (qs_ac) ?_
  refine j_ret_con (vs := [_]) (fun w' hw' => ⟨rfl, trivial⟩) ?_
  show Value.bool _ = _
  congr 1
  symm
  simp only [isName, Bool.and_eq_false_iff]
  left
  simp only [decide_eq_false_iff_not]
  intro hx
  simp only [bnA] at *
  have h00 : Int.toNat 0 = 0 := rfl
  rw [h00] at hc0
  omega
 ·skip
  refine j_q (qs_ac) ?_
  refine j_loop (fun m vs S' => ∃ i : Nat, vs = [.int .i64 i] ∧ S' = [[]] ∧ i ≤ l.length ∧ m = l.length - i ∧ (l.take i).all okB = true) ⟨_, 0, rfl, rfl, by omega, rfl, rfl⟩ ?_
  rintro m vs S' hlen ⟨i, rfl, rfl, hi, rfl, hall⟩
  refine j_q (qs_lens U9 rfl) ?_
  refine j_q (qs_lss rfl rfl) ?_
  refine j_cond rfl (fun hc1 => ?_) (fun hc1 => ?_)
  ·skip
   refine j_q (qs_idx U9 rfl rfl (by simp only [bnA] at *; omega)) ?_
   rw [Int.toNat_natCast]
   obtain ⟨c, hc00⟩ : ∃ c : Int, c = ((l.getD i 0).toNat : Int) := ⟨_, rfl⟩
   rw [← hc00]
   refine j_q (qs_geq rfl rfl) ?_
   refine j_g rfl (fun hb => qs_mt rfl) ?_
   refine j_g rfl (fun hb => qs_leq (gd_eq hb) rfl) ?_
   refine j_q (qs_and rfl rfl) ?_
   refine j_g rfl (fun hb => qs_mt rfl) ?_
   refine j_g rfl (fun hb => qs_geq (gd_eq hb) rfl) ?_
   refine j_g rfl (fun hb => qs_move (gd_eq hb)) ?_
   refine j_gg rfl (fun hb hb1 => qs_mt rfl) ?_
   refine j_gg rfl (fun hb hb1 => qs_leq (gd_eq2 hb hb1) rfl) ?_
   refine j_g rfl (fun hb => qs_and (gd_eq hb) (gd_eq hb)) ?_
   refine j_q (qs_or rfl rfl) ?_
   refine j_g rfl (fun hb => qs_mt rfl) ?_
   refine j_g rfl (fun hb => qs_geq (gd_eq hb) rfl) ?_
   refine j_g rfl (fun hb => qs_move (gd_eq hb)) ?_
   refine j_gg rfl (fun hb hb1 => qs_mt rfl) ?_
   refine j_gg rfl (fun hb hb1 => qs_leq (gd_eq2 hb hb1) rfl) ?_
   refine j_g rfl (fun hb => qs_and (gd_eq hb) (gd_eq hb)) ?_
   refine j_q (qs_or rfl rfl) ?_
   refine j_q (qs_not rfl) ?_
   refine j_g rfl (fun hb => qs_mt rfl) ?_
   refine j_g rfl (fun hb => qs_neq (gd_eq hb) rfl) ?_
   refine j_q (qs_and rfl rfl) ?_
   refine j_g rfl (fun hb => qs_mt rfl) ?_
   refine j_g rfl (fun hb => qs_neq (gd_eq hb) rfl) ?_
   refine j_q (qs_and rfl rfl) ?_
   refine j_g rfl (fun hb => qs_mt rfl) ?_
   refine j_g rfl (fun hb => qs_neq (gd_eq hb) rfl) ?_
   refine j_q (qs_and rfl rfl) ?_
   refine j_g rfl (fun hb => qs_mt rfl) ?_
   refine j_g rfl (fun hb => qs_neq (gd_eq hb) rfl) ?_
   refine j_q (qs_and rfl rfl) ?_
   refine j_g rfl (fun hb => qs_mt rfl) ?_
   refine j_g rfl (fun hb => qs_neq (gd_eq hb) rfl) ?_
   refine j_q (qs_and rfl rfl) ?_
   refine j_g rfl (fun hb => qs_mt rfl) ?_
   refine j_g rfl (fun hb => qs_neq (gd_eq hb) rfl) ?_
   refine j_q (qs_and rfl rfl) ?_
   refine j_cond rfl (fun hc2 => ?_) (fun hc2 => ?_)
   ·skip
    refine j_q (qs_ac) ?_
    refine j_ret_con (vs := [_]) (fun w' hw' => ⟨rfl, trivial⟩) ?_
    show Value.bool _ = _
    congr 1
    symm
    refine all_fail (i := i) (by simp only [bnA] at *; omega) ?_
    rw [← hc00]
    simp only [okI, decide_eq_false_iff_not]
    simp only [bnA] at *
    omega
   ·skip
    refine j_q (qs_add64 rfl rfl (by simp only [bnA] at *; omega)) ?_
    refine j_back rfl ?_
    have h4 : okI ((l.getD i 0).toNat : Int) = true := by
     rw [← hc00]
     simp only [okI, decide_eq_true_eq]
     simp only [bnA] at *
     omega
    have h5 : i < l.length := by
     simp only [bnA] at *
     omega
    exact ⟨_, (by omega : l.length - (i + 1) < l.length - i), i + 1, by show [Value.int IntKind.i64 _] = _; congr 2, rfl, by omega, rfl, all_step hall h5 h4⟩
  ·skip
   refine j_q (qs_ac) ?_
   refine j_ret_con (vs := [_]) (fun w' hw' => ⟨rfl, trivial⟩) ?_
   show Value.bool _ = _
   congr 1
   symm
   have h00 : Int.toNat 0 = 0 := rfl
   rw [h00] at hc0
   simp only [bnA] at *
   exact all_done hall (by omega) (by omega) (by omega) (by omega)
theorem isName_con (l : List UInt8) (w : World) (hl : l.length ≤ 9223372036854775807) : Con Tryz.prog 38 [.string (bs l)] w [] fun v _ => v = .bool (isName l) := by
 refine con_of_tree mix Tryz.func38 T38_ok (by kernel_rfl) ?_
 unfold T38
 refine j_q (qs_ac) ?_
 refine j_q (qs_lens U9 rfl) ?_
 refine j_q (qs_lss rfl rfl) ?_
 refine j_g rfl (fun hb => qs_mt rfl) ?_
 refine j_g rfl (fun hb => qs_lens U9 (gd_eq hb)) ?_
 refine j_g rfl (fun hb => qs_gtr (gd_eq hb) rfl) ?_
 refine j_q (qs_or rfl rfl) ?_
 refine j_g rfl (fun hb => qs_mt rfl) ?_
 refine j_g rfl (fun hb => qs_idx U9 (gd_eq hb) rfl ⟨(by omega), (by simp only [bnA] at *; omega)⟩) ?_
 refine j_g rfl (fun hb => qs_eql (gd_eq hb) rfl) ?_
 refine j_q (qs_or rfl rfl) ?_
 refine j_cond rfl (fun hc0 => ?_) (fun hc0 => ?_)
 ·skip
  refine j_q (qs_ac) ?_
  refine j_ret_con (vs := [_]) (fun w' hw' => ⟨rfl, trivial⟩) ?_
  show Value.bool _ = _
  congr 1
  symm
  simp only [isName, Bool.and_eq_false_iff]
  left
  simp only [decide_eq_false_iff_not]
  intro hx
  simp only [bnA] at *
  have h00 : Int.toNat 0 = 0 := rfl
  rw [h00] at hc0
  omega
 ·skip
  refine j_bytes U9 U46 U5 rfl (fun v12 c12 ho12 hv12 => ?_)
  obtain ⟨g12, cap12, rfl⟩ := hv12
  refine j_q (qs_lenl U46 rfl) ?_
  refine j_q (qs_mc) ?_
  refine j_loop (fun m vs S' => ∃ i : Nat, vs = [.int .i64 i] ∧ S' = [c12, []] ∧ i ≤ l.length ∧ m = l.length - i ∧ (l.take i).all okB = true) ⟨_, 0, rfl, rfl, by omega, rfl, rfl⟩ ?_
  rintro m vs S' hlen ⟨i, rfl, rfl, hi, rfl, hall⟩
  refine j_q (qs_lss rfl rfl) ?_
  refine j_cond rfl (fun hc1 => ?_) (fun hc1 => ?_)
  ·skip
   have hi1 : i < l.length := by
    simp only [bnA] at *
    omega
   refine j_q (qs_ixl0 U46 sz5 rfl rfl ⟨(by omega), (by omega)⟩) ?_
   refine j_q (qs_loadR (own_rd ho12 0 rfl) U5 rfl rfl (by rw [Int.toNat_natCast]; exact ints_get_lt hi1)) ?_
   obtain ⟨c, hc00⟩ : ∃ c : Int, c = ((l.getD i 0).toNat : Int) := ⟨_, rfl⟩
   rw [← hc00]
   refine j_q (qs_geq rfl rfl) ?_
   refine j_g rfl (fun hb => qs_mt rfl) ?_
   refine j_g rfl (fun hb => qs_leq (gd_eq hb) rfl) ?_
   refine j_q (qs_and rfl rfl) ?_
   refine j_cond rfl (fun hc2 => ?_) (fun hc2 => ?_)
   ·skip
    refine j_cond rfl (fun hc3 => ?_) (fun hc3 => ?_)
    ·skip
     refine j_q (qs_add64 rfl rfl (by omega)) ?_
     refine j_back rfl ?_
     first
      | (exfalso; simp only [bnA] at * <;> omega)
      | (
       have h4 : okI ((l.getD i 0).toNat : Int) = true := by
        rw [← hc00]
        simp only [okI, decide_eq_true_eq]
        simp only [bnA] at *
        omega
       exact ⟨_, (by omega : l.length - (i + 1) < l.length - i), i + 1, by show [Value.int IntKind.i64 _] = _; congr 2, rfl, by omega, rfl, all_step hall hi1 h4⟩)
    ·skip
     refine j_q (qs_eql rfl rfl) ?_
     refine j_cond rfl (fun hc4 => ?_) (fun hc4 => ?_)
     ·skip
      refine j_cond rfl (fun hc5 => ?_) (fun hc5 => ?_)
      ·skip
       refine j_q (qs_add64 rfl rfl (by omega)) ?_
       refine j_back rfl ?_
       first
        | (exfalso; simp only [bnA] at * <;> omega)
        | (
         have h4 : okI ((l.getD i 0).toNat : Int) = true := by
          rw [← hc00]
          simp only [okI, decide_eq_true_eq]
          simp only [bnA] at *
          omega
         exact ⟨_, (by omega : l.length - (i + 1) < l.length - i), i + 1, by show [Value.int IntKind.i64 _] = _; congr 2, rfl, by omega, rfl, all_step hall hi1 h4⟩)
      ·skip
       refine j_q (qs_ac) ?_
       refine j_ret_con (vs := [_]) (fun w' hw' => ⟨rfl, trivial⟩) ?_
       first
        | (exfalso; simp only [bnA] at * <;> omega)
        | (
         show Value.bool _ = _
         congr 1
         symm
         refine all_fail (i := i) hi1 ?_
         rw [← hc00]
         simp only [okI, decide_eq_false_iff_not]
         simp only [bnA] at *
         omega)
     ·skip
      refine j_q (qs_eql rfl rfl) ?_
      refine j_cond rfl (fun hc6 => ?_) (fun hc6 => ?_)
      ·skip
       refine j_cond rfl (fun hc7 => ?_) (fun hc7 => ?_)
       ·skip
        refine j_q (qs_add64 rfl rfl (by omega)) ?_
        refine j_back rfl ?_
        first
         | (exfalso; simp only [bnA] at * <;> omega)
         | (
          have h4 : okI ((l.getD i 0).toNat : Int) = true := by
           rw [← hc00]
           simp only [okI, decide_eq_true_eq]
           simp only [bnA] at *
           omega
          exact ⟨_, (by omega : l.length - (i + 1) < l.length - i), i + 1, by show [Value.int IntKind.i64 _] = _; congr 2, rfl, by omega, rfl, all_step hall hi1 h4⟩)
       ·skip
        refine j_q (qs_ac) ?_
        refine j_ret_con (vs := [_]) (fun w' hw' => ⟨rfl, trivial⟩) ?_
        first
         | (exfalso; simp only [bnA] at * <;> omega)
         | (
          show Value.bool _ = _
          congr 1
          symm
          refine all_fail (i := i) hi1 ?_
          rw [← hc00]
          simp only [okI, decide_eq_false_iff_not]
          simp only [bnA] at *
          omega)
      ·skip
       refine j_q (qs_eql rfl rfl) ?_
       refine j_cond rfl (fun hc8 => ?_) (fun hc8 => ?_)
       ·skip
        refine j_cond rfl (fun hc9 => ?_) (fun hc9 => ?_)
        ·skip
         refine j_q (qs_add64 rfl rfl (by omega)) ?_
         refine j_back rfl ?_
         first
          | (exfalso; simp only [bnA] at * <;> omega)
          | (
           have h4 : okI ((l.getD i 0).toNat : Int) = true := by
            rw [← hc00]
            simp only [okI, decide_eq_true_eq]
            simp only [bnA] at *
            omega
           exact ⟨_, (by omega : l.length - (i + 1) < l.length - i), i + 1, by show [Value.int IntKind.i64 _] = _; congr 2, rfl, by omega, rfl, all_step hall hi1 h4⟩)
        ·skip
         refine j_q (qs_ac) ?_
         refine j_ret_con (vs := [_]) (fun w' hw' => ⟨rfl, trivial⟩) ?_
         first
          | (exfalso; simp only [bnA] at * <;> omega)
          | (
           show Value.bool _ = _
           congr 1
           symm
           refine all_fail (i := i) hi1 ?_
           rw [← hc00]
           simp only [okI, decide_eq_false_iff_not]
           simp only [bnA] at *
           omega)
       ·skip
        refine j_q (qs_eql rfl rfl) ?_
        refine j_cond rfl (fun hc10 => ?_) (fun hc10 => ?_)
        ·skip
         refine j_cond rfl (fun hc11 => ?_) (fun hc11 => ?_)
         ·skip
          refine j_q (qs_add64 rfl rfl (by omega)) ?_
          refine j_back rfl ?_
          first
           | (exfalso; simp only [bnA] at * <;> omega)
           | (
            have h4 : okI ((l.getD i 0).toNat : Int) = true := by
             rw [← hc00]
             simp only [okI, decide_eq_true_eq]
             simp only [bnA] at *
             omega
            exact ⟨_, (by omega : l.length - (i + 1) < l.length - i), i + 1, by show [Value.int IntKind.i64 _] = _; congr 2, rfl, by omega, rfl, all_step hall hi1 h4⟩)
         ·skip
          refine j_q (qs_ac) ?_
          refine j_ret_con (vs := [_]) (fun w' hw' => ⟨rfl, trivial⟩) ?_
          first
           | (exfalso; simp only [bnA] at * <;> omega)
           | (
            show Value.bool _ = _
            congr 1
            symm
            refine all_fail (i := i) hi1 ?_
            rw [← hc00]
            simp only [okI, decide_eq_false_iff_not]
            simp only [bnA] at *
            omega)
        ·skip
         refine j_q (qs_eql rfl rfl) ?_
         refine j_cond rfl (fun hc12 => ?_) (fun hc12 => ?_)
         ·skip
          refine j_cond rfl (fun hc13 => ?_) (fun hc13 => ?_)
          ·skip
           refine j_q (qs_add64 rfl rfl (by omega)) ?_
           refine j_back rfl ?_
           first
            | (exfalso; simp only [bnA] at * <;> omega)
            | (
             have h4 : okI ((l.getD i 0).toNat : Int) = true := by
              rw [← hc00]
              simp only [okI, decide_eq_true_eq]
              simp only [bnA] at *
              omega
             exact ⟨_, (by omega : l.length - (i + 1) < l.length - i), i + 1, by show [Value.int IntKind.i64 _] = _; congr 2, rfl, by omega, rfl, all_step hall hi1 h4⟩)
          ·skip
           refine j_q (qs_ac) ?_
           refine j_ret_con (vs := [_]) (fun w' hw' => ⟨rfl, trivial⟩) ?_
           first
            | (exfalso; simp only [bnA] at * <;> omega)
            | (
             show Value.bool _ = _
             congr 1
             symm
             refine all_fail (i := i) hi1 ?_
             rw [← hc00]
             simp only [okI, decide_eq_false_iff_not]
             simp only [bnA] at *
             omega)
         ·skip
          refine j_q (qs_eql rfl rfl) ?_
          refine j_cond rfl (fun hc14 => ?_) (fun hc14 => ?_)
          ·skip
           refine j_q (qs_add64 rfl rfl (by omega)) ?_
           refine j_back rfl ?_
           first
            | (exfalso; simp only [bnA] at * <;> omega)
            | (
             have h4 : okI ((l.getD i 0).toNat : Int) = true := by
              rw [← hc00]
              simp only [okI, decide_eq_true_eq]
              simp only [bnA] at *
              omega
             exact ⟨_, (by omega : l.length - (i + 1) < l.length - i), i + 1, by show [Value.int IntKind.i64 _] = _; congr 2, rfl, by omega, rfl, all_step hall hi1 h4⟩)
          ·skip
           refine j_q (qs_ac) ?_
           refine j_ret_con (vs := [_]) (fun w' hw' => ⟨rfl, trivial⟩) ?_
           first
            | (exfalso; simp only [bnA] at * <;> omega)
            | (
             show Value.bool _ = _
             congr 1
             symm
             refine all_fail (i := i) hi1 ?_
             rw [← hc00]
             simp only [okI, decide_eq_false_iff_not]
             simp only [bnA] at *
             omega)
   ·skip
    refine j_q (qs_geq rfl rfl) ?_
    refine j_g rfl (fun hb => qs_mt rfl) ?_
    refine j_g rfl (fun hb => qs_leq (gd_eq hb) rfl) ?_
    refine j_q (qs_and rfl rfl) ?_
    refine j_cond rfl (fun hc15 => ?_) (fun hc15 => ?_)
    ·skip
     refine j_cond rfl (fun hc16 => ?_) (fun hc16 => ?_)
     ·skip
      refine j_q (qs_add64 rfl rfl (by omega)) ?_
      refine j_back rfl ?_
      first
       | (exfalso; simp only [bnA] at * <;> omega)
       | (
        have h4 : okI ((l.getD i 0).toNat : Int) = true := by
         rw [← hc00]
         simp only [okI, decide_eq_true_eq]
         simp only [bnA] at *
         omega
        exact ⟨_, (by omega : l.length - (i + 1) < l.length - i), i + 1, by show [Value.int IntKind.i64 _] = _; congr 2, rfl, by omega, rfl, all_step hall hi1 h4⟩)
     ·skip
      refine j_q (qs_eql rfl rfl) ?_
      refine j_cond rfl (fun hc17 => ?_) (fun hc17 => ?_)
      ·skip
       refine j_cond rfl (fun hc18 => ?_) (fun hc18 => ?_)
       ·skip
        refine j_q (qs_add64 rfl rfl (by omega)) ?_
        refine j_back rfl ?_
        first
         | (exfalso; simp only [bnA] at * <;> omega)
         | (
          have h4 : okI ((l.getD i 0).toNat : Int) = true := by
           rw [← hc00]
           simp only [okI, decide_eq_true_eq]
           simp only [bnA] at *
           omega
          exact ⟨_, (by omega : l.length - (i + 1) < l.length - i), i + 1, by show [Value.int IntKind.i64 _] = _; congr 2, rfl, by omega, rfl, all_step hall hi1 h4⟩)
       ·skip
        refine j_q (qs_ac) ?_
        refine j_ret_con (vs := [_]) (fun w' hw' => ⟨rfl, trivial⟩) ?_
        first
         | (exfalso; simp only [bnA] at * <;> omega)
         | (
          show Value.bool _ = _
          congr 1
          symm
          refine all_fail (i := i) hi1 ?_
          rw [← hc00]
          simp only [okI, decide_eq_false_iff_not]
          simp only [bnA] at *
          omega)
      ·skip
       refine j_q (qs_eql rfl rfl) ?_
       refine j_cond rfl (fun hc19 => ?_) (fun hc19 => ?_)
       ·skip
        refine j_cond rfl (fun hc20 => ?_) (fun hc20 => ?_)
        ·skip
         refine j_q (qs_add64 rfl rfl (by omega)) ?_
         refine j_back rfl ?_
         first
          | (exfalso; simp only [bnA] at * <;> omega)
          | (
           have h4 : okI ((l.getD i 0).toNat : Int) = true := by
            rw [← hc00]
            simp only [okI, decide_eq_true_eq]
            simp only [bnA] at *
            omega
           exact ⟨_, (by omega : l.length - (i + 1) < l.length - i), i + 1, by show [Value.int IntKind.i64 _] = _; congr 2, rfl, by omega, rfl, all_step hall hi1 h4⟩)
        ·skip
         refine j_q (qs_ac) ?_
         refine j_ret_con (vs := [_]) (fun w' hw' => ⟨rfl, trivial⟩) ?_
         first
          | (exfalso; simp only [bnA] at * <;> omega)
          | (
           show Value.bool _ = _
           congr 1
           symm
           refine all_fail (i := i) hi1 ?_
           rw [← hc00]
           simp only [okI, decide_eq_false_iff_not]
           simp only [bnA] at *
           omega)
       ·skip
        refine j_q (qs_eql rfl rfl) ?_
        refine j_cond rfl (fun hc21 => ?_) (fun hc21 => ?_)
        ·skip
         refine j_cond rfl (fun hc22 => ?_) (fun hc22 => ?_)
         ·skip
          refine j_q (qs_add64 rfl rfl (by omega)) ?_
          refine j_back rfl ?_
          first
           | (exfalso; simp only [bnA] at * <;> omega)
           | (
            have h4 : okI ((l.getD i 0).toNat : Int) = true := by
             rw [← hc00]
             simp only [okI, decide_eq_true_eq]
             simp only [bnA] at *
             omega
            exact ⟨_, (by omega : l.length - (i + 1) < l.length - i), i + 1, by show [Value.int IntKind.i64 _] = _; congr 2, rfl, by omega, rfl, all_step hall hi1 h4⟩)
         ·skip
          refine j_q (qs_ac) ?_
          refine j_ret_con (vs := [_]) (fun w' hw' => ⟨rfl, trivial⟩) ?_
          first
           | (exfalso; simp only [bnA] at * <;> omega)
           | (
            show Value.bool _ = _
            congr 1
            symm
            refine all_fail (i := i) hi1 ?_
            rw [← hc00]
            simp only [okI, decide_eq_false_iff_not]
            simp only [bnA] at *
            omega)
        ·skip
         refine j_q (qs_eql rfl rfl) ?_
         refine j_cond rfl (fun hc23 => ?_) (fun hc23 => ?_)
         ·skip
          refine j_cond rfl (fun hc24 => ?_) (fun hc24 => ?_)
          ·skip
           refine j_q (qs_add64 rfl rfl (by omega)) ?_
           refine j_back rfl ?_
           first
            | (exfalso; simp only [bnA] at * <;> omega)
            | (
             have h4 : okI ((l.getD i 0).toNat : Int) = true := by
              rw [← hc00]
              simp only [okI, decide_eq_true_eq]
              simp only [bnA] at *
              omega
             exact ⟨_, (by omega : l.length - (i + 1) < l.length - i), i + 1, by show [Value.int IntKind.i64 _] = _; congr 2, rfl, by omega, rfl, all_step hall hi1 h4⟩)
          ·skip
           refine j_q (qs_ac) ?_
           refine j_ret_con (vs := [_]) (fun w' hw' => ⟨rfl, trivial⟩) ?_
           first
            | (exfalso; simp only [bnA] at * <;> omega)
            | (
             show Value.bool _ = _
             congr 1
             symm
             refine all_fail (i := i) hi1 ?_
             rw [← hc00]
             simp only [okI, decide_eq_false_iff_not]
             simp only [bnA] at *
             omega)
         ·skip
          refine j_q (qs_eql rfl rfl) ?_
          refine j_cond rfl (fun hc25 => ?_) (fun hc25 => ?_)
          ·skip
           refine j_cond rfl (fun hc26 => ?_) (fun hc26 => ?_)
           ·skip
            refine j_q (qs_add64 rfl rfl (by omega)) ?_
            refine j_back rfl ?_
            first
             | (exfalso; simp only [bnA] at * <;> omega)
             | (
              have h4 : okI ((l.getD i 0).toNat : Int) = true := by
               rw [← hc00]
               simp only [okI, decide_eq_true_eq]
               simp only [bnA] at *
               omega
              exact ⟨_, (by omega : l.length - (i + 1) < l.length - i), i + 1, by show [Value.int IntKind.i64 _] = _; congr 2, rfl, by omega, rfl, all_step hall hi1 h4⟩)
           ·skip
            refine j_q (qs_ac) ?_
            refine j_ret_con (vs := [_]) (fun w' hw' => ⟨rfl, trivial⟩) ?_
            first
             | (exfalso; simp only [bnA] at * <;> omega)
             | (
              show Value.bool _ = _
              congr 1
              symm
              refine all_fail (i := i) hi1 ?_
              rw [← hc00]
              simp only [okI, decide_eq_false_iff_not]
              simp only [bnA] at *
              omega)
          ·skip
           refine j_q (qs_eql rfl rfl) ?_
           refine j_cond rfl (fun hc27 => ?_) (fun hc27 => ?_)
           ·skip
            refine j_q (qs_add64 rfl rfl (by omega)) ?_
            refine j_back rfl ?_
            first
             | (exfalso; simp only [bnA] at * <;> omega)
             | (
              have h4 : okI ((l.getD i 0).toNat : Int) = true := by
               rw [← hc00]
               simp only [okI, decide_eq_true_eq]
               simp only [bnA] at *
               omega
              exact ⟨_, (by omega : l.length - (i + 1) < l.length - i), i + 1, by show [Value.int IntKind.i64 _] = _; congr 2, rfl, by omega, rfl, all_step hall hi1 h4⟩)
           ·skip
            refine j_q (qs_ac) ?_
            refine j_ret_con (vs := [_]) (fun w' hw' => ⟨rfl, trivial⟩) ?_
            first
             | (exfalso; simp only [bnA] at * <;> omega)
             | (
              show Value.bool _ = _
              congr 1
              symm
              refine all_fail (i := i) hi1 ?_
              rw [← hc00]
              simp only [okI, decide_eq_false_iff_not]
              simp only [bnA] at *
              omega)
    ·skip
     refine j_q (qs_geq rfl rfl) ?_
     refine j_g rfl (fun hb => qs_mt rfl) ?_
     refine j_g rfl (fun hb => qs_leq (gd_eq hb) rfl) ?_
     refine j_q (qs_and rfl rfl) ?_
     refine j_cond rfl (fun hc28 => ?_) (fun hc28 => ?_)
     ·skip
      refine j_q (qs_add64 rfl rfl (by omega)) ?_
      refine j_back rfl ?_
      first
       | (exfalso; simp only [bnA] at * <;> omega)
       | (
        have h4 : okI ((l.getD i 0).toNat : Int) = true := by
         rw [← hc00]
         simp only [okI, decide_eq_true_eq]
         simp only [bnA] at *
         omega
        exact ⟨_, (by omega : l.length - (i + 1) < l.length - i), i + 1, by show [Value.int IntKind.i64 _] = _; congr 2, rfl, by omega, rfl, all_step hall hi1 h4⟩)
     ·skip
      refine j_q (qs_eql rfl rfl) ?_
      refine j_cond rfl (fun hc29 => ?_) (fun hc29 => ?_)
      ·skip
       refine j_cond rfl (fun hc30 => ?_) (fun hc30 => ?_)
       ·skip
        refine j_q (qs_add64 rfl rfl (by omega)) ?_
        refine j_back rfl ?_
        first
         | (exfalso; simp only [bnA] at * <;> omega)
         | (
          have h4 : okI ((l.getD i 0).toNat : Int) = true := by
           rw [← hc00]
           simp only [okI, decide_eq_true_eq]
           simp only [bnA] at *
           omega
          exact ⟨_, (by omega : l.length - (i + 1) < l.length - i), i + 1, by show [Value.int IntKind.i64 _] = _; congr 2, rfl, by omega, rfl, all_step hall hi1 h4⟩)
       ·skip
        refine j_q (qs_ac) ?_
        refine j_ret_con (vs := [_]) (fun w' hw' => ⟨rfl, trivial⟩) ?_
        first
         | (exfalso; simp only [bnA] at * <;> omega)
         | (
          show Value.bool _ = _
          congr 1
          symm
          refine all_fail (i := i) hi1 ?_
          rw [← hc00]
          simp only [okI, decide_eq_false_iff_not]
          simp only [bnA] at *
          omega)
      ·skip
       refine j_q (qs_eql rfl rfl) ?_
       refine j_cond rfl (fun hc31 => ?_) (fun hc31 => ?_)
       ·skip
        refine j_cond rfl (fun hc32 => ?_) (fun hc32 => ?_)
        ·skip
         refine j_q (qs_add64 rfl rfl (by omega)) ?_
         refine j_back rfl ?_
         first
          | (exfalso; simp only [bnA] at * <;> omega)
          | (
           have h4 : okI ((l.getD i 0).toNat : Int) = true := by
            rw [← hc00]
            simp only [okI, decide_eq_true_eq]
            simp only [bnA] at *
            omega
           exact ⟨_, (by omega : l.length - (i + 1) < l.length - i), i + 1, by show [Value.int IntKind.i64 _] = _; congr 2, rfl, by omega, rfl, all_step hall hi1 h4⟩)
        ·skip
         refine j_q (qs_ac) ?_
         refine j_ret_con (vs := [_]) (fun w' hw' => ⟨rfl, trivial⟩) ?_
         first
          | (exfalso; simp only [bnA] at * <;> omega)
          | (
           show Value.bool _ = _
           congr 1
           symm
           refine all_fail (i := i) hi1 ?_
           rw [← hc00]
           simp only [okI, decide_eq_false_iff_not]
           simp only [bnA] at *
           omega)
       ·skip
        refine j_q (qs_eql rfl rfl) ?_
        refine j_cond rfl (fun hc33 => ?_) (fun hc33 => ?_)
        ·skip
         refine j_cond rfl (fun hc34 => ?_) (fun hc34 => ?_)
         ·skip
          refine j_q (qs_add64 rfl rfl (by omega)) ?_
          refine j_back rfl ?_
          first
           | (exfalso; simp only [bnA] at * <;> omega)
           | (
            have h4 : okI ((l.getD i 0).toNat : Int) = true := by
             rw [← hc00]
             simp only [okI, decide_eq_true_eq]
             simp only [bnA] at *
             omega
            exact ⟨_, (by omega : l.length - (i + 1) < l.length - i), i + 1, by show [Value.int IntKind.i64 _] = _; congr 2, rfl, by omega, rfl, all_step hall hi1 h4⟩)
         ·skip
          refine j_q (qs_ac) ?_
          refine j_ret_con (vs := [_]) (fun w' hw' => ⟨rfl, trivial⟩) ?_
          first
           | (exfalso; simp only [bnA] at * <;> omega)
           | (
            show Value.bool _ = _
            congr 1
            symm
            refine all_fail (i := i) hi1 ?_
            rw [← hc00]
            simp only [okI, decide_eq_false_iff_not]
            simp only [bnA] at *
            omega)
        ·skip
         refine j_q (qs_eql rfl rfl) ?_
         refine j_cond rfl (fun hc35 => ?_) (fun hc35 => ?_)
         ·skip
          refine j_cond rfl (fun hc36 => ?_) (fun hc36 => ?_)
          ·skip
           refine j_q (qs_add64 rfl rfl (by omega)) ?_
           refine j_back rfl ?_
           first
            | (exfalso; simp only [bnA] at * <;> omega)
            | (
             have h4 : okI ((l.getD i 0).toNat : Int) = true := by
              rw [← hc00]
              simp only [okI, decide_eq_true_eq]
              simp only [bnA] at *
              omega
             exact ⟨_, (by omega : l.length - (i + 1) < l.length - i), i + 1, by show [Value.int IntKind.i64 _] = _; congr 2, rfl, by omega, rfl, all_step hall hi1 h4⟩)
          ·skip
           refine j_q (qs_ac) ?_
           refine j_ret_con (vs := [_]) (fun w' hw' => ⟨rfl, trivial⟩) ?_
           first
            | (exfalso; simp only [bnA] at * <;> omega)
            | (
             show Value.bool _ = _
             congr 1
             symm
             refine all_fail (i := i) hi1 ?_
             rw [← hc00]
             simp only [okI, decide_eq_false_iff_not]
             simp only [bnA] at *
             omega)
         ·skip
          refine j_q (qs_eql rfl rfl) ?_
          refine j_cond rfl (fun hc37 => ?_) (fun hc37 => ?_)
          ·skip
           refine j_cond rfl (fun hc38 => ?_) (fun hc38 => ?_)
           ·skip
            refine j_q (qs_add64 rfl rfl (by omega)) ?_
            refine j_back rfl ?_
            first
             | (exfalso; simp only [bnA] at * <;> omega)
             | (
              have h4 : okI ((l.getD i 0).toNat : Int) = true := by
               rw [← hc00]
               simp only [okI, decide_eq_true_eq]
               simp only [bnA] at *
               omega
              exact ⟨_, (by omega : l.length - (i + 1) < l.length - i), i + 1, by show [Value.int IntKind.i64 _] = _; congr 2, rfl, by omega, rfl, all_step hall hi1 h4⟩)
           ·skip
            refine j_q (qs_ac) ?_
            refine j_ret_con (vs := [_]) (fun w' hw' => ⟨rfl, trivial⟩) ?_
            first
             | (exfalso; simp only [bnA] at * <;> omega)
             | (
              show Value.bool _ = _
              congr 1
              symm
              refine all_fail (i := i) hi1 ?_
              rw [← hc00]
              simp only [okI, decide_eq_false_iff_not]
              simp only [bnA] at *
              omega)
          ·skip
           refine j_q (qs_eql rfl rfl) ?_
           refine j_cond rfl (fun hc39 => ?_) (fun hc39 => ?_)
           ·skip
            refine j_q (qs_add64 rfl rfl (by omega)) ?_
            refine j_back rfl ?_
            first
             | (exfalso; simp only [bnA] at * <;> omega)
             | (
              have h4 : okI ((l.getD i 0).toNat : Int) = true := by
               rw [← hc00]
               simp only [okI, decide_eq_true_eq]
               simp only [bnA] at *
               omega
              exact ⟨_, (by omega : l.length - (i + 1) < l.length - i), i + 1, by show [Value.int IntKind.i64 _] = _; congr 2, rfl, by omega, rfl, all_step hall hi1 h4⟩)
           ·skip
            refine j_q (qs_ac) ?_
            refine j_ret_con (vs := [_]) (fun w' hw' => ⟨rfl, trivial⟩) ?_
            first
             | (exfalso; simp only [bnA] at * <;> omega)
             | (
              show Value.bool _ = _
              congr 1
              symm
              refine all_fail (i := i) hi1 ?_
              rw [← hc00]
              simp only [okI, decide_eq_false_iff_not]
              simp only [bnA] at *
              omega)
  ·skip
   refine j_q (qs_ac) ?_
   refine j_ret_con (vs := [_]) (fun w' hw' => ⟨rfl, trivial⟩) ?_
   first
    | (exfalso; simp only [bnA] at * <;> omega)
    | (
     show Value.bool _ = _
     congr 1
     symm
     have h00 : Int.toNat 0 = 0 := rfl
     rw [h00] at hc0
     simp only [bnA] at *
     exact all_done hall (by omega) (by omega) (by omega) (by omega))
end Go.Proofs.YtfeabbeebkkhaaaGreat
/-! Spl -/
namespace Go.Proofs.YtfeabbeebkkhaaaGreat
open Go Go.Sx
set_option maxRecDepth 100000
set_option maxHeartbeats 4000000
set_option linter.unusedVariables false
set_option linter.unusedSimpArgs false
attribute [local irreducible] J JQ QS Con W opW
def isPath (l : List UInt8) : Bool := decide (34 ≤ l.length ∧ ((l.getD 32 0).toNat : Int) = 45) && isName (l.drop 33) && allDig (l.take 32)
def spA (l : List UInt8) : List UInt8 := if isPath l then l.take 32 else []
def spB (l : List UInt8) : List UInt8 := if isPath l then l.drop 33 else []
def spE (l : List UInt8) : Int := if isPath l then 0 else 3
def spl (l : List UInt8) : Value := .tuple #[.string (bs (spA l)), .string (bs (spB l)), .int .i64 (spE l)]
theorem spl_no {l : List UInt8} (h : isPath l = false) : spl l = .tuple #[.string (bs []), .string (bs []), .int .i64 3] := by
 simp [spl, spA, spB, spE, h]
theorem spl_yes {l : List UInt8} (h : isPath l = true) : spl l = .tuple #[.string (bs (l.take 32)), .string (bs (l.drop 33)), .int .i64 0] := by
 simp [spl, spA, spB, spE, h]
theorem cut_no {l : List UInt8} (h : (decide ((l.length : Int) < 34) || ((l.getD (Int.toNat 32) 0).toNat : Int) != 45 || !isName (l.drop 33)) = true) : isPath l = false := by
 unfold isPath
 have e : Int.toNat 32 = 32 := rfl
 rw [e] at h
 simp only [Bool.or_eq_true, decide_eq_true_eq, bne_iff_ne, Bool.not_eq_true'] at h
 rcases h with (h | h) | h
 ·rw [show decide (34 ≤ l.length ∧ ((l.getD 32 0).toNat : Int) = 45) = false by simp only [decide_eq_false_iff_not]; omega]; rfl
 ·rw [show decide (34 ≤ l.length ∧ ((l.getD 32 0).toNat : Int) = 45) = false by simp only [decide_eq_false_iff_not]; rintro ⟨_, h2⟩; exact h h2]; rfl
 ·rw [h, Bool.and_false]; rfl
theorem cut_yes {l : List UInt8} (h : (decide ((l.length : Int) < 34) || ((l.getD (Int.toNat 32) 0).toNat : Int) != 45 || !isName (l.drop 33)) = false) : 34 ≤ l.length ∧ isPath l = allDig (l.take 32) := by
 unfold isPath
 have e : Int.toNat 32 = 32 := rfl
 rw [e] at h
 simp only [Bool.or_eq_false_iff, decide_eq_false_iff_not, bne_eq_false_iff_eq, Bool.not_eq_false'] at h
 obtain ⟨⟨h1, h2⟩, h3⟩ := h
 have h4 : 34 ≤ l.length := by omega
 refine ⟨h4, ?_⟩
 rw [show decide (34 ≤ l.length ∧ ((l.getD 32 0).toNat : Int) = 45) = true by simp only [decide_eq_true_eq]; exact ⟨h4, h2⟩, h3]
 rfl
theorem parseE_take {l : List UInt8} (h : 34 ≤ l.length) : parseE ((l.take 32).drop 0) = if allDig (l.take 32) then 0 else 3 := by
 rw [List.drop_zero]
 unfold parseE
 have : (l.take 32).length = 32 := by rw [List.length_take]; omega
 simp [this]
attribute [local irreducible] allDig isName
theorem split_con (l : List UInt8) (w : World) (hl : l.length ≤ 9223372036854775807) : Con Tryz.prog 79 [.string (bs l)] w [] fun v _ => v = spl l := by
 refine con_of_tree mix Tryz.func79 T79_ok (by kernel_rfl) ?_
 unfold T79
 refine j_q (qs_ac) ?_
 refine j_q (qs_ac) ?_
 refine j_q (qs_ac) ?_
 refine j_q (qs_lens U9 rfl) ?_
 refine j_q (qs_lss rfl rfl) ?_
 refine j_g rfl (fun hb => qs_mt rfl) ?_
 refine j_g rfl (fun hb => qs_idx U9 (gd_eq hb) rfl ⟨(by omega), (by simp only [bnA] at *; omega)⟩) ?_
 refine j_g rfl (fun hb => qs_neq (gd_eq hb) rfl) ?_
 refine j_q (qs_or rfl rfl) ?_
 refine j_g rfl (fun hb => qs_mt rfl) ?_
 refine j_g rfl (fun hb => qs_cuts (a := 33) (z := l.length) U9 (gd_eq hb) ⟨.i64, rfl⟩ rfl (by simp only [bnA] at *; omega) (by omega)) ?_
 rw [List.take_length]
 refine j_g rfl (fun hb => qs_call ent38 rfl rfl (args1 (gd_eq hb)) (fun w' hw' => isName_con _ w' (by simp; omega))) ?_
 refine j_g rfl (fun hb => qs_not (gd_eq hb)) ?_
 refine j_q (qs_or rfl rfl) ?_
 refine j_cond rfl (fun hc0 => ?_) (fun hc0 => ?_)
 ·skip
  have hno := cut_no hc0
  refine j_q (qs_ac) ?_
  refine j_q (qs_ac) ?_
  refine j_q (qs_ac) ?_
  refine j_ret_con (vs := [_, _, _]) (fun w' hw' => ⟨rfl, rfl, rfl, trivial⟩) ?_
  show Value.tuple #[_, _, _] = _
  rw [spl_no hno]
  rfl
 ·skip
  have hy := cut_yes hc0
  have hy1 := hy.1
  refine j_q (qs_cuts (a := 0) (z := 32) U9 rfl rfl ⟨.i64, rfl⟩ (by omega) (by omega)) ?_
  refine j_call0 ent126 rfl rfl rfl (fun w' hw' => parse_con _ w' (by simp; omega)) (fun u S2 hu => ?_)
  obtain ⟨u0, rfl⟩ := hu
  refine j_sub (S' := [[]]) (by simp) ?_
  rw [parseE_take hy.1]
  refine j_q (qs_ext (vs := [u0, .int .i64 (if allDig (l.take 32) then 0 else 3)]) rfl rfl) ?_
  refine j_q (qs_ext (vs := [u0, .int .i64 (if allDig (l.take 32) then 0 else 3)]) rfl rfl) ?_
  refine j_q (qs_neq rfl rfl) ?_
  refine j_cond rfl (fun hc1 => ?_) (fun hc1 => ?_)
  ·skip
   have hd : isPath l = false := by
    rw [hy.2]
    cases hx : allDig (l.take 32)
    ·rfl
    ·rw [hx] at hc1; exact absurd hc1 (by decide)
   refine j_q (qs_ac) ?_
   refine j_q (qs_ac) ?_
   refine j_q (qs_ac) ?_
   refine j_ret_con (vs := [_, _, _]) (fun w' hw' => ⟨rfl, rfl, rfl, trivial⟩) ?_
   show Value.tuple #[_, _, _] = _
   rw [spl_no hd]
   rfl
  ·skip
   have hd : isPath l = true := by
    rw [hy.2]
    cases hx : allDig (l.take 32)
    ·rw [hx] at hc1; exact absurd hc1 (by decide)
    ·rfl
   refine j_draw ?_
   refine jq_q (qs_cuts (a := 0) (z := 32) U9 rfl rfl ⟨.i64, rfl⟩ (by omega) (by omega)) ?_
   refine jq_q (qs_cuts (a := 33) (z := l.length) U9 rfl ⟨.i64, rfl⟩ rfl (by omega) (by omega)) ?_
   rw [List.take_length]
   refine jq_q (qs_ac) ?_
   refine jq_nil ?_
   refine j_ret_con (vs := [_, _, _]) (fun w' hw' => ⟨rfl, rfl, rfl, trivial⟩) ?_
   show Value.tuple #[_, _, _] = _
   rw [spl_yes hd]
   rfl
theorem rsplit_con (l : List UInt8) (w : World) (hl : l.length ≤ 9223372036854775807) : Con Tryz.prog 29 [.string (bs l)] w [] fun v _ => v = spl l := by
 refine con_of_tree mix Tryz.func29 T29_ok (by kernel_rfl) ?_
 unfold T29
 refine j_q (qs_ac) ?_
 refine j_q (qs_ac) ?_
 refine j_q (qs_ac) ?_
 refine j_q (qs_lens U9 rfl) ?_
 refine j_q (qs_lss rfl rfl) ?_
 refine j_g rfl (fun hb => qs_mt rfl) ?_
 refine j_g rfl (fun hb => qs_idx U9 (gd_eq hb) rfl ⟨(by omega), (by simp only [bnA] at *; omega)⟩) ?_
 refine j_g rfl (fun hb => qs_neq (gd_eq hb) rfl) ?_
 refine j_q (qs_or rfl rfl) ?_
 refine j_g rfl (fun hb => qs_mt rfl) ?_
 refine j_g rfl (fun hb => qs_cuts (a := 33) (z := l.length) U9 (gd_eq hb) ⟨.i64, rfl⟩ rfl (by simp only [bnA] at *; omega) (by omega)) ?_
 rw [List.take_length]
 refine j_g rfl (fun hb => qs_call ent59 rfl rfl (args1 (gd_eq hb)) (fun w' hw' => risName_con _ w' (by simp; omega))) ?_
 refine j_g rfl (fun hb => qs_not (gd_eq hb)) ?_
 refine j_q (qs_or rfl rfl) ?_
 refine j_cond rfl (fun hc0 => ?_) (fun hc0 => ?_)
 ·skip
  have hno := cut_no hc0
  refine j_q (qs_ac) ?_
  refine j_q (qs_ac) ?_
  refine j_q (qs_ac) ?_
  refine j_ret_con (vs := [_, _, _]) (fun w' hw' => ⟨rfl, rfl, rfl, trivial⟩) ?_
  show Value.tuple #[_, _, _] = _
  rw [spl_no hno]
  rfl
 ·skip
  have hy := cut_yes hc0
  have hy1 := hy.1
  refine j_q (qs_cuts (a := 0) (z := 32) U9 rfl rfl ⟨.i64, rfl⟩ (by omega) (by omega)) ?_
  refine j_call0 ent60 rfl rfl rfl (fun w' hw' => rparse_con _ w' (by simp; omega)) (fun u S2 hu => ?_)
  obtain ⟨u0, rfl⟩ := hu
  refine j_sub (S' := [[]]) (by simp) ?_
  rw [parseE_take hy.1]
  refine j_q (qs_ext (vs := [u0, .int .i64 (if allDig (l.take 32) then 0 else 3)]) rfl rfl) ?_
  refine j_q (qs_ext (vs := [u0, .int .i64 (if allDig (l.take 32) then 0 else 3)]) rfl rfl) ?_
  refine j_q (qs_neq rfl rfl) ?_
  refine j_cond rfl (fun hc1 => ?_) (fun hc1 => ?_)
  ·skip
   have hd : isPath l = false := by
    rw [hy.2]
    cases hx : allDig (l.take 32)
    ·rfl
    ·rw [hx] at hc1; exact absurd hc1 (by decide)
   refine j_q (qs_ac) ?_
   refine j_q (qs_ac) ?_
   refine j_q (qs_ac) ?_
   refine j_ret_con (vs := [_, _, _]) (fun w' hw' => ⟨rfl, rfl, rfl, trivial⟩) ?_
   show Value.tuple #[_, _, _] = _
   rw [spl_no hd]
   rfl
  ·skip
   have hd : isPath l = true := by
    rw [hy.2]
    cases hx : allDig (l.take 32)
    ·rw [hx] at hc1; exact absurd hc1 (by decide)
    ·rfl
   refine j_draw ?_
   refine jq_q (qs_cuts (a := 0) (z := 32) U9 rfl rfl ⟨.i64, rfl⟩ (by omega) (by omega)) ?_
   refine jq_q (qs_cuts (a := 33) (z := l.length) U9 rfl ⟨.i64, rfl⟩ rfl (by omega) (by omega)) ?_
   rw [List.take_length]
   refine jq_q (qs_ac) ?_
   refine jq_nil ?_
   refine j_ret_con (vs := [_, _, _]) (fun w' hw' => ⟨rfl, rfl, rfl, trivial⟩) ?_
   show Value.tuple #[_, _, _] = _
   rw [spl_yes hd]
   rfl
end Go.Proofs.YtfeabbeebkkhaaaGreat
/-! Bld -/
namespace Go.Proofs.YtfeabbeebkkhaaaGreat
open Go Go.Sx
set_option maxRecDepth 100000
set_option maxHeartbeats 4000000
set_option linter.unusedVariables false
set_option linter.unusedSimpArgs false
attribute [local irreducible] J JQ QS Con W opW
theorem copyCheck_con (g : Nat) (A : Option Addr) (hA : A = none ∨ A = some ⟨g, 0, none⟩) (bv : Value) (w : World) : Con Tryz.prog 143 [.pointer (some ⟨g, 0, none⟩)] w [(g, .cells [.pointer A, bv].toArray 169 (0, 0))] fun v S' => v = .tuple #[] ∧ S' = [[(g, .cells [.pointer (some ⟨g, 0, none⟩), bv].toArray 169 (0, 0))]] := by
 refine con_of_tree mix Tryz.func143 T143_ok (by kernel_rfl) ?_
 unfold T143
 refine j_q (qs_nil rfl) ?_
 refine j_q (qs_field U169 rfl sz167 (by decide) rfl) ?_
 refine j_q (qs_load 0 U167 rfl rfl rfl rfl) ?_
 refine j_q (qs_pnil U167 rfl) ?_
 refine j_cond rfl (fun hc0 => ?_) (fun hc0 => ?_)
 ·skip
  obtain rfl : A = none := by simpa using hc0
  refine j_q (qs_tounsafe 0 U167 U223 sz169 (by decide) rfl rfl (by simp)) ?_
  refine j_q (qs_extern Tryz.func164 (by kernel_rfl) (by kernel_rfl) (by kernel_rfl) (e := Extern.AbiNoEscape.same) (by kernel_rfl) rfl rfl rfl (v := .pointer (some ⟨g, 0, none⟩)) (fun w => rfl)) ?_
  refine j_q (qs_fromunsafe 0 U223 U167 sz169 rfl rfl (by kernel_rfl)) ?_
  refine j_q (qs_nil rfl) ?_
  refine j_q (qs_field U169 rfl sz167 (by decide) rfl) ?_
  refine j_store 0 sz167 rfl rfl rfl rfl (by simp) (by omega) ?_
  refine j_ret_con (vs := []) (fun w' hw' => trivial) ?_
  exact ⟨rfl, rfl⟩
 ·skip
  obtain rfl : A = some ⟨g, 0, none⟩ := hA.resolve_left (by rintro rfl; cases hc0)
  refine j_q (qs_nil rfl) ?_
  refine j_q (qs_field U169 rfl sz167 (by decide) rfl) ?_
  refine j_q (qs_load 0 U167 rfl rfl rfl rfl) ?_
  refine j_q (qs_psame U167 sz169 rfl rfl) ?_
  refine j_cond rfl (fun hc1 => ?_) (fun hc1 => ?_)
  ·skip
   cases hc1
  ·skip
   refine j_ret_con (vs := []) (fun w' hw' => trivial) ?_
   exact ⟨rfl, rfl⟩
theorem writeString_con (g : Nat) (A : Option Addr) (hA : A = none ∨ A = some ⟨g, 0, none⟩) (bv : Value) (c : SH) (l s : List UInt8) (ho : Sx.Own 5 1 (ints l) bv c) (hl : l.length + s.length ≤ 70368744177664) (w : World) : Con Tryz.prog 115 [.pointer (some ⟨g, 0, none⟩), .string (bs s)] w ((g, .cells [.pointer A, bv].toArray 169 (0, 0)) :: c) fun v S' => v = .tuple #[.int .i64 s.length, .nilIface] ∧ ∃ bv' c', S' = [(g, .cells [.pointer (some ⟨g, 0, none⟩), bv'].toArray 169 (0, 0)) :: c'] ∧ Sx.Own 5 1 (ints (l ++ s)) bv' c' := by
 refine con_of_tree mix Tryz.func115 T115_ok (by kernel_rfl) ?_
 unfold T115
 refine j_perm (S' := [[(g, .cells [.pointer A, bv].toArray 169 (0, 0))], c]) (by simp) ?_
 refine j_q (qs_ac) ?_
 refine j_q (qs_ac) ?_
 refine j_call 0 ent143 rfl rfl rfl rfl (fun w' hw' => copyCheck_con g A hA bv w') (fun u S2 hu => ?_)
 obtain ⟨rfl, rfl⟩ := hu
 refine j_q (qs_nil rfl) ?_
 refine j_q (qs_field U169 rfl sz46 (by decide) rfl) ?_
 refine j_q (qs_load 0 U46 rfl rfl rfl rfl) ?_
 refine j_append 2 U46 U9 (.inl rfl) sb5 zero5 rfl ho rfl (.inr (.inr ⟨s, rfl, rfl, rfl, rfl⟩)) ints_one ⟨(by rw [ints_length, ints_length]; omega), (by decide)⟩ (fun v6 c6 ho6 => ?_)
 rw [← ints_append] at ho6
 obtain ⟨n6, A6, cap6, rfl, hn6⟩ := own_form ho6 (by decide)
 refine j_q (qs_nil rfl) ?_
 refine j_q (qs_field U169 rfl sz46 (by decide) rfl) ?_
 refine j_store 0 sz46 rfl rfl rfl rfl (by simp) (by omega) ?_
 refine j_q (qs_lens U9 rfl) ?_
 refine j_q (qs_ac) ?_
 refine j_perm (S' := [(g, .cells [.pointer (some ⟨g, 0, none⟩), .slice A6 n6 cap6].toArray 169 (0, 0)) :: c6]) (by simp; exact List.Perm.refl _) ?_
 refine j_ret_con (vs := [_, _]) (fun w' hw' => ⟨rfl, rfl, trivial⟩) ?_
 exact ⟨rfl, _, _, rfl, ho6⟩
theorem string_con (g : Nat) (A : Value) (bv : Value) (c : SH) (l : List UInt8) (h0 : l ≠ []) (hl : l.length ≤ 9223372036854775807) (ho : Sx.Own 5 1 (ints l) bv c) (w : World) : Con Tryz.prog 117 [.pointer (some ⟨g, 0, none⟩)] w ((g, .cells [A, bv].toArray 169 (0, 0)) :: c) fun v S' => v = .string (bs l) ∧ S' = [] := by
 refine con_of_tree mix Tryz.func117 T117_ok (by kernel_rfl) ?_
 unfold T117
 obtain ⟨g2, n, cap, rfl⟩ := own_some ho (by intro h; exact h0 (by simpa [ints] using h))
 obtain ⟨rest, fz, rfl, ho1, ho2, ho3, ho4⟩ := own_row ho
 have hn : n = l.length := by rw [ints_length] at ho1; omega
 have hl0 : 0 < l.length := List.length_pos_iff.2 h0
 subst hn
 refine j_perm (S' := [[(g, .cells [A, .slice (some ⟨g2, 0, none⟩) l.length cap].toArray 169 (0, 0))], [(g2, .cells (ints l ++ rest).toArray 5 fz)]]) (by simp) ?_
 refine j_q (qs_ac) ?_
 refine j_mix _ (.refl _) ?_
 refine j_mq (qs_nil rfl) ?_
 refine j_mq (qs_field U169 rfl sz46 (by decide) rfl) ?_
 refine j_mq (qs_load 0 U46 rfl rfl rfl rfl) ?_
 refine j_mq (qs_nil rfl) ?_
 refine j_mq (qs_field U169 rfl sz46 (by decide) rfl) ?_
 refine j_mq (qs_load 0 U46 rfl rfl rfl rfl) ?_
 refine j_mq (qs_lenl U46 rfl) ?_
 refine j_q (qs_usd rfl (by omega)) ?_
 refine j_mD0 (Le.of_sub (by repeat first | exact slR _ | exact slN _ | apply slC | apply slD)) ?_
 refine j_ustr (l := l) (rest := rest) 1 U196 (by kernel_rfl) rfl rfl rfl h0 hl ?_
 refine j_mR _ (.refl _) ?_
 refine j_mend ?_
 refine j_sub (S' := []) (by simp) ?_
 refine j_ret_con (vs := [_]) (fun w' hw' => ⟨rfl, trivial⟩) ?_
 exact ⟨rfl, rfl⟩
theorem writeByte_con (g : Nat) (A : Option Addr) (hA : A = none ∨ A = some ⟨g, 0, none⟩) (bv : Value) (c : SH) (l : List UInt8) (s : Int) (hs : 0 ≤ s ∧ s ≤ 255) (ho : Sx.Own 5 1 (ints l) bv c) (hl : l.length + 1 ≤ 70368744177664) (w : World) : Con Tryz.prog 116 [.pointer (some ⟨g, 0, none⟩), .int .u8 s] w ((g, .cells [.pointer A, bv].toArray 169 (0, 0)) :: c) fun v S' => v = .nilIface ∧ ∃ bv' c', S' = [(g, .cells [.pointer (some ⟨g, 0, none⟩), bv'].toArray 169 (0, 0)) :: c'] ∧ Sx.Own 5 1 (ints (l ++ [by8 s])) bv' c' := by
 refine con_of_tree mix Tryz.func116 T116_ok (by kernel_rfl) ?_
 unfold T116
 refine j_perm (S' := [[(g, .cells [.pointer A, bv].toArray 169 (0, 0))], c]) (by simp) ?_
 refine j_q (qs_ac) ?_
 refine j_call 0 ent143 rfl rfl rfl rfl (fun w' hw' => copyCheck_con g A hA bv w') (fun u S2 hu => ?_)
 obtain ⟨rfl, rfl⟩ := hu
 refine j_q (qs_nil rfl) ?_
 refine j_q (qs_field U169 rfl sz46 (by decide) rfl) ?_
 refine j_q (qs_load 0 U46 rfl rfl rfl rfl) ?_
 have hone : ints l ++ [.int .u8 s] = ints (l ++ [by8 s]) := by
  rw [ints_append]
  congr 1
  simp only [ints, List.map_cons, List.map_nil]
  have h1 := wrap_by8 s
  have h2 : IntKind.u8.wrap s = s := by rw [IntKind.wrap_u8]; omega
  rw [← h1, h2]
 refine j_lit (vs := [.int .u8 _]) U46 sz5 zero5 rfl (by simp [oneV]) ⟨rfl, by decide⟩ (fun g5 v5 c5 hv5 hc5 ho5 => ?_)
 subst hv5 hc5
 refine j_append 3 U46 U46 (.inr ⟨_, rfl⟩) sb5 zero5 rfl ho rfl (.inl ⟨_, _, rfl, rd_own (off := 0) (n := 1) 0 rfl rfl, rfl⟩) (by simp [oneV]) ⟨(by rw [ints_length]; simp; omega), (by decide)⟩ (fun v6 c6 ho6 => ?_)
 have ho6 : Sx.Own 5 1 (ints (l ++ [by8 s])) v6 c6 := by
  rw [← hone]
  exact ho6
 obtain ⟨n6, A6, cap6, rfl, hn6⟩ := own_form ho6 (by decide)
 refine j_q (qs_nil rfl) ?_
 refine j_q (qs_field U169 rfl sz46 (by decide) rfl) ?_
 refine j_store 1 sz46 rfl rfl rfl rfl (by simp) (by omega) ?_
 refine j_q (qs_ac) ?_
 refine j_sub (S' := [(g, .cells [.pointer (some ⟨g, 0, none⟩), .slice A6 n6 cap6].toArray 169 (0, 0)) :: c6]) (by simp only [List.set_cons_succ, List.set_cons_zero, List.cons_append, List.nil_append, List.flatten_cons, List.flatten_nil, List.append_nil]; exact List.Sublist.cons _ (List.Sublist.refl _)) ?_
 refine j_ret_con (vs := [_]) (fun w' hw' => ⟨rfl, trivial⟩) ?_
 exact ⟨rfl, _, _, rfl, ho6⟩
end Go.Proofs.YtfeabbeebkkhaaaGreat
/-! Cpt -/
namespace Go.Proofs.YtfeabbeebkkhaaaGreat
open Go Go.Sx
set_option maxRecDepth 100000
set_option maxHeartbeats 4000000
set_option linter.unusedVariables false
set_option linter.unusedSimpArgs false
attribute [local irreducible] J JQ QS Con W opW
def cps (acc : List (List UInt8)) (y : List UInt8) : List (List UInt8) := if acc.getLast? = some y then acc else acc ++ [y]
def cp (l : List (List UInt8)) : List (List UInt8) := l.foldl cps []
theorem cp_snoc (l : List (List UInt8)) (y : List UInt8) : cp (l ++ [y]) = cps (cp l) y := by simp [cp]
theorem take_snoc {l : List (List UInt8)} {i : Nat} (h : i < l.length) : l.take (i + 1) = l.take i ++ [l.getD i []] := by
 rw [List.take_add_one, List.getD_eq_getElem?_getD, List.getElem?_eq_getElem h]
 rfl
theorem cps_last (acc : List (List UInt8)) (y : List UInt8) : (cps acc y).getLast? = some y := by
 unfold cps
 split
 ·assumption
 ·simp
theorem cp_last {l : List (List UInt8)} {i : Nat} (h0 : 0 < i) (h : i ≤ l.length) : (cp (l.take i)).getLast? = some (l.getD (i - 1) []) := by
 obtain ⟨j, rfl⟩ : ∃ j, i = j + 1 := ⟨i - 1, by omega⟩
 rw [take_snoc (by omega), cp_snoc, cps_last]
 rfl
theorem cp_step {l : List (List UInt8)} {i : Nat} (h0 : 0 < i) (h : i < l.length) : cp (l.take (i + 1)) = if l.getD (i - 1) [] = l.getD i [] then cp (l.take i) else cp (l.take i) ++ [l.getD i []] := by
 rw [take_snoc h, cp_snoc, cps, cp_last h0 (by omega)]
 simp only [Option.some.injEq]
theorem cp_le (l : List (List UInt8)) (i : Nat) : (cp (l.take i)).length ≤ i := by
 induction i with
 | zero => simp [cp]
 | succ i ih =>
  by_cases h : i < l.length
  ·rw [take_snoc h, cp_snoc, cps]
   split
   ·omega
   ·simp only [List.length_append, List.length_singleton]; omega
  ·rw [List.take_of_length_le (by omega)] at ih ⊢
   omega
theorem cp_one {l : List (List UInt8)} (h : 0 < l.length) : cp (l.take 1) = l.take 1 := by
 rw [take_snoc h]
 rfl
theorem cp_short {l : List (List UInt8)} (h : l.length < 2) : cp l = l := by
 match l, h with
 | [], _ => rfl
 | [x], _ => rfl
theorem take_set_next {l : List (List UInt8)} {i : Nat} (h : i < l.length) (x : List UInt8) : (l.set i x).take (i + 1) = l.take i ++ [x] := take_set_succ h x
theorem drop_getD {l m : List (List UInt8)} {i j : Nat} (h : l.drop i = m.drop i) (hij : i ≤ j) : l.getD j [] = m.getD j [] := by
 have e : ∀ (l : List (List UInt8)), l.getD j [] = (l.drop i).getD (j - i) [] := fun l => by
  simp only [List.getD_eq_getElem?_getD, List.getElem?_drop]
  rw [show i + (j - i) = j by omega]
 rw [e, e, h]
theorem drop_mono {l m : List (List UInt8)} {i j : Nat} (h : l.drop i = m.drop i) (hij : i ≤ j) : l.drop j = m.drop j := by
 have e : ∀ (l : List (List UInt8)), l.drop j = (l.drop i).drop (j - i) := fun l => by
  rw [List.drop_drop]
  rw [show i + (j - i) = j by omega]
 rw [e, e, h]
theorem take_prefix {l : List (List UInt8)} {k i : Nat} {m : List (List UInt8)} (h : l.take k = m) (z : List UInt8) (hi : k ≤ i) : (l.set i z).take k = m := by
 rw [List.take_set_of_le hi]
 exact h
theorem compact_con (ss : List (List UInt8)) (v : Value) (c : SH) (ho : Sx.Own 49 1 (strs ss) v c) (hsz : ss.length < 4611686018427387904) (w : World) : Con Tryz.prog 140 [v] w c fun u S' => ∃ c', S' = [c'] ∧ Sx.Own 49 1 (strs (cp ss)) u c' := by
 refine con_of_tree mix Tryz.func140 T140_ok (by kernel_rfl) ?_
 unfold T140
 obtain ⟨n, A, cap, rfl, hn⟩ := own_form ho (by decide)
 rw [strs_length, Nat.mul_one] at hn
 subst hn
 refine j_q (qs_ac) ?_
 refine j_q (qs_lenl U25 rfl) ?_
 refine j_q (qs_lss rfl rfl) ?_
 refine j_cond rfl (fun hc0 => ?_) (fun hc0 => ?_)
 ·skip
  refine j_ret_con (vs := [_]) (fun w' hw' => ⟨rfl, trivial⟩) ?_
  exact ⟨c, rfl, by rw [cp_short (by simp only [bnA] at *; omega)]; exact ho⟩
 ·skip
  have h2 : 2 ≤ ss.length := by
   simp only [bnA] at *
   omega
  obtain ⟨g, n', cap', hA⟩ := own_some ho (by intro h; have := strs_nil h; rw [this] at h2; simp at h2)
  injection hA with hA hn' hcap
  subst hA
  obtain ⟨rest, fz, rfl, ho1, ho2, ho3, ho4⟩ := own_row ho
  rw [List.length_append, strs_length] at ho2 ho4
  refine j_q (qs_ac) ?_
  refine j_loop (fun m vs S' => ∃ k : Nat, vs = [.int .i64 (k : Int)] ∧ S' = [[(g, .cells (strs ss ++ rest).toArray 49 fz)]] ∧ 1 ≤ k ∧ k ≤ ss.length ∧ cp (ss.take k) = ss.take k ∧ m = ss.length - k) ⟨_, 1, rfl, rfl, Nat.le_refl _, by omega, cp_one (by omega), rfl⟩ ?_
  rintro m vs S' hlen ⟨k, rfl, rfl, hk1, hkn, hcp, rfl⟩
  refine j_q (qs_lenl U25 rfl) ?_
  refine j_q (qs_lss rfl rfl) ?_
  refine j_cond rfl (fun hc1 => ?_) (fun hc1 => ?_)
  ·skip
   have hk : k < ss.length := by
    simp only [bnA] at *
    omega
   refine j_draw ?_
   refine jq_q (qs_ixg U25 sz49 rfl rfl ⟨(by omega), (by omega)⟩) ?_
   refine jq_q (qs_loadst 0 U49 rfl rfl (by simp only [Int.toNat_natCast]; omega)) ?_
   simp only [Int.toNat_natCast]
   refine jq_q (qs_sub64 rfl rfl (by omega)) ?_
   refine jq_q (qs_ixg U25 sz49 rfl rfl ⟨(by omega), (by omega)⟩) ?_
   refine jq_q (qs_loadst (i := k - 1) 0 U49 (by show Value.pointer (some ⟨g, ((k : Int) - 1).toNat, none⟩) = _; rw [show ((k : Int) - 1).toNat = k - 1 by omega]) rfl (by omega)) ?_
   refine jq_q (qs_seql rfl rfl) ?_
   refine jq_nil ?_
   refine j_cond rfl (fun hc2 => ?_) (fun hc2 => ?_)
   ·skip
    have heq : ss.getD k [] = ss.getD (k - 1) [] := by simpa using hc2
    have hstep := cp_step (l := ss) (i := k) (by omega) hk
    rw [if_pos heq.symm, hcp] at hstep
    refine j_q (qs_cutl (a := k) U25 sz49 rfl ⟨_, rfl⟩ rfl (by omega) (by omega)) ?_
    rw [if_neg (show ¬ cap = k by omega)]
    simp only [Option.map_some, add_off, Nat.zero_add, Nat.mul_one]
    refine j_q (qs_ac) ?_
    refine j_loop (fun m vs S' => ∃ (k2 : Nat) (ys : List (List UInt8)), vs = [.int .i64 ((cp (ss.take (k + k2))).length : Int), .int .i64 (k2 : Int)] ∧ S' = [[(g, .cells (strs ys ++ rest).toArray 49 fz)]] ∧ ys.length = ss.length ∧ 1 ≤ k2 ∧ k + k2 ≤ ss.length ∧ ys.take (cp (ss.take (k + k2))).length = cp (ss.take (k + k2)) ∧ ys.drop (k + k2 - 1) = ss.drop (k + k2 - 1) ∧ (cp (ss.take (k + k2))).length ≤ k + k2 - 1 ∧ m = ss.length - k2) ⟨_, 1, ss, by rw [hstep, List.length_take, Nat.min_eq_left (by omega)]; rfl, rfl, rfl, Nat.le_refl _, by omega, by rw [hstep, List.length_take, Nat.min_eq_left (by omega)], rfl, by rw [hstep, List.length_take]; omega, rfl⟩ ?_
    rintro m vs S' hlen ⟨k2, ys, rfl, rfl, hyl, hk21, hk2n, ht, hd, hle, rfl⟩
    refine j_q (qs_lenl U25 rfl) ?_
    refine j_q (qs_lss rfl rfl) ?_
    refine j_cond rfl (fun hc3 => ?_) (fun hc3 => ?_)
    ·skip
     have hk2 : k + k2 < ss.length := by
      simp only [bnA] at *
      omega
     refine j_draw ?_
     refine jq_q (qs_ixl0 U25 sz49 rfl rfl ⟨(by omega), (by omega)⟩) ?_
     refine jq_q (qs_loadst0 0 U49 rfl rfl (by simp only [Int.toNat_natCast]; omega)) ?_
     simp only [Int.toNat_natCast]
     refine jq_q (qs_sub64 rfl rfl (by omega)) ?_
     refine jq_q (qs_ixl0 U25 sz49 rfl rfl ⟨(by omega), (by omega)⟩) ?_
     refine jq_q (qs_loadst0 (i := k2 - 1) 0 U49 (by show Value.pointer (some ((⟨g, k, none⟩ : Addr).add ((k2 : Int) - 1).toNat)) = _; rw [show ((k2 : Int) - 1).toNat = k2 - 1 by omega]) rfl (by omega)) ?_
     rw [show k + (k2 - 1) = k + k2 - 1 by omega]
     refine jq_q (qs_sneq rfl rfl) ?_
     refine jq_nil ?_
     refine j_cond rfl (fun hc4 => ?_) (fun hc4 => ?_)
     ·skip
      have hne : ss.getD (k + k2) [] ≠ ss.getD (k + k2 - 1) [] := by
       rw [← drop_getD hd (Nat.le_refl _), ← drop_getD hd (show k + k2 - 1 ≤ k + k2 by omega)]
       simpa using hc4
      have hst := cp_step (l := ss) (i := k + k2) (by omega) hk2
      rw [if_neg (Ne.symm hne)] at hst
      refine j_q (qs_ixl0 U25 sz49 rfl rfl ⟨(by omega), (by omega)⟩) ?_
      refine j_q (qs_loadst0 0 U49 rfl rfl (by simp only [Int.toNat_natCast]; omega)) ?_
      simp only [Int.toNat_natCast]
      refine j_q (qs_ixg U25 sz49 rfl rfl ⟨(by omega), (by omega)⟩) ?_
      refine j_storest 0 sz49 rfl rfl rfl (ho4 _ (by simp only [Int.toNat_natCast]; omega)) (by simp only [Int.toNat_natCast]; omega) ?_
      simp only [Int.toNat_natCast]
      refine j_q (qs_add64 rfl rfl (by omega)) ?_
      refine j_q (qs_add64 rfl rfl (by omega)) ?_
      refine j_back rfl ?_
      refine ⟨ss.length - (k2 + 1), by omega, k2 + 1, ys.set (cp (ss.take (k + k2))).length (ys.getD (k + k2) []), ?_⟩
      rw [show k + (k2 + 1) = k + k2 + 1 by omega, hst, List.length_append, List.length_singleton]
      refine ⟨rfl, rfl, by rw [List.length_set]; exact hyl, by omega, by omega, ?_, ?_, by omega, rfl⟩
      ·rw [take_set_next (by omega), ht, drop_getD hd (show k + k2 - 1 ≤ k + k2 by omega)]
      ·rw [List.drop_set_of_lt (by omega)]
       exact drop_mono hd (by omega)
     ·skip
      have heq2 : ss.getD (k + k2) [] = ss.getD (k + k2 - 1) [] := by
       rw [← drop_getD hd (Nat.le_refl _), ← drop_getD hd (show k + k2 - 1 ≤ k + k2 by omega)]
       simpa using hc4
      have hst := cp_step (l := ss) (i := k + k2) (by omega) hk2
      rw [if_pos heq2.symm] at hst
      refine j_q (qs_add64 rfl rfl (by omega)) ?_
      refine j_back rfl ?_
      refine ⟨ss.length - (k2 + 1), by omega, k2 + 1, ys, ?_⟩
      rw [show k + (k2 + 1) = k + k2 + 1 by omega, hst]
      exact ⟨rfl, rfl, hyl, by omega, by omega, ht, drop_mono hd (by omega), by omega, rfl⟩
    ·skip
     have hk2 : k + k2 = ss.length := by
      simp only [bnA] at *
      omega
     have hcpe : cp (ss.take (k + k2)) = cp ss := by rw [hk2, List.take_of_length_le (Nat.le_refl _)]
     rw [hcpe] at ht hle ⊢
     refine j_q (qs_cutl (a := (cp ss).length) U25 sz49 rfl ⟨_, rfl⟩ rfl (by omega) (by omega)) ?_
     rw [if_neg (show ¬ cap = (cp ss).length by omega)]
     simp only [Option.map_some, add_off, Nat.zero_add, Nat.mul_one]
     refine j_clear (z := .string (bs [])) 0 U25 zero49 rfl rfl rfl (by simp [strs_length]; omega) (fun j h1 h2 => ho4 j (by omega)) ?_
     refine j_q (qs_cutl (z := (cp ss).length) U25 sz49 rfl rfl ⟨_, rfl⟩ (by omega) (by omega)) ?_
     rw [if_neg (show ¬ cap = 0 by omega)]
     simp only [Option.map_some, Nat.zero_mul, add_zero_, Nat.sub_zero]
     refine j_ret_con (vs := [_]) (fun w' hw' => ⟨rfl, trivial⟩) ?_
     refine ⟨_, rfl, .inr ⟨g, (cp ss).length, cap, List.replicate (ss.length - (cp ss).length) (.string (bs [])) ++ rest, fz, rfl, ?_, by rw [strs_length, Nat.mul_one], by simp only [List.length_append, List.length_replicate, strs_length]; omega, by omega, fun j hj => ho4 j (by simp only [List.length_append, List.length_replicate, strs_length] at hj; omega)⟩⟩
     rw [List.take_append_of_le_length (by rw [strs_length]; omega), strs_take, ht, show (cp ss).length + (ss.length - (cp ss).length) = (strs ys).length by rw [strs_length]; omega, List.drop_left, List.append_assoc]
   ·skip
    have hne : ss.getD k [] ≠ ss.getD (k - 1) [] := by simpa using hc2
    have hstep := cp_step (l := ss) (i := k) (by omega) hk
    rw [if_neg (Ne.symm hne), hcp, ← take_snoc hk] at hstep
    refine j_q (qs_add64 rfl rfl (by omega)) ?_
    refine j_back rfl ?_
    exact ⟨_, by omega, k + 1, rfl, rfl, by omega, by omega, hstep, rfl⟩
  ·skip
   obtain rfl : k = ss.length := by
    simp only [bnA] at *
    omega
   refine j_ret_con (vs := [_]) (fun w' hw' => ⟨rfl, trivial⟩) ?_
   exact ⟨_, rfl, by rw [List.take_of_length_le (Nat.le_refl _)] at hcp; rw [hcp]; exact ho⟩
end Go.Proofs.YtfeabbeebkkhaaaGreat
/-! Ord -/
namespace Go.Proofs.YtfeabbeebkkhaaaGreat
open Go Go.Sx
def Strict (l : List (List UInt8)) : Prop := l.Pairwise (· < ·)
theorem lt_ne {x y : List UInt8} (h : x < y) : x ≠ y := fun e => List.lt_irrefl y (e ▸ h)
theorem strict_ext : ∀ {l m : List (List UInt8)}, Strict l → Strict m → (∀ x, x ∈ l ↔ x ∈ m) → l = m
 | [], [], _, _, _ => rfl
 | [], b :: m, _, _, h => by have := (h b).2 (by simp); simp at this
 | a :: l, [], _, _, h => by have := (h a).1 (by simp); simp at this
 | a :: l, b :: m, hl, hm, h => by
  obtain ⟨hl1, hl2⟩ := List.pairwise_cons.1 hl
  obtain ⟨hm1, hm2⟩ := List.pairwise_cons.1 hm
  have hab : a = b := by
   rcases List.mem_cons.1 ((h a).1 (by simp)) with e | ha
   ·exact e
   ·rcases List.mem_cons.1 ((h b).2 (by simp)) with e | hb
    ·exact e.symm
    ·exact absurd (List.lt_trans (hl1 b hb) (hm1 a ha)) (List.lt_irrefl a)
  subst hab
  congr 1
  refine strict_ext hl2 hm2 fun x => ?_
  have hx := h x
  simp only [List.mem_cons] at hx
  constructor
  ·intro hm
   rcases hx.1 (.inr hm) with e | h'
   ·exact absurd e.symm (lt_ne (hl1 x hm))
   ·exact h'
  ·intro hm
   rcases hx.2 (.inr hm) with e | h'
   ·exact absurd e.symm (lt_ne (hm1 x hm))
   ·exact h'
theorem lt_of_le_ne {x y : List UInt8} (h : x ≤ y) (hne : x ≠ y) : x < y := by
 rcases List.le_iff_lt_or_eq.1 h with h | h
 ·exact h
 ·exact absurd h hne
theorem lt_of_le_lt {x y z : List UInt8} (h : x ≤ y) (h2 : y < z) : x < z := by
 rcases List.le_iff_lt_or_eq.1 h with h | h
 ·exact List.lt_trans h h2
 ·exact h ▸ h2
theorem cp_spec {l : List (List UInt8)} (hl : l.Pairwise (· ≤ ·)) : ∀ i, i ≤ l.length → Strict (cp (l.take i)) ∧ ∀ x, x ∈ cp (l.take i) ↔ x ∈ l.take i
 | 0, _ => ⟨by simp [cp, Strict], by simp [cp]⟩
 | i + 1, h => by
  obtain ⟨h1, h2⟩ := cp_spec hl i (by omega)
  by_cases h0 : i = 0
  ·subst h0
   rw [cp_one (by omega)]
   refine ⟨?_, fun _ => Iff.rfl⟩
   rw [take_snoc (by omega)]
   simp [Strict]
  ·have hst := cp_step (l := l) (i := i) (by omega) (by omega)
   have e : ∀ j, j < l.length → l.getD j [] ∈ l := fun j hj => by rw [List.getD_eq_getElem?_getD, List.getElem?_eq_getElem hj]; exact List.getElem_mem hj
   have hget : ∀ j, (hj : j < l.length) → l.getD j [] = l[j] := fun j hj => by rw [List.getD_eq_getElem?_getD, List.getElem?_eq_getElem hj]; rfl
   split at hst
   ·rename_i he
    rw [hst]
    refine ⟨h1, fun x => ?_⟩
    rw [h2, take_snoc (by omega), List.mem_append, List.mem_singleton]
    constructor
    ·exact .inl
    ·rintro (h | rfl)
     ·exact h
     ·rw [← he, hget _ (by omega)]
      exact List.mem_take_iff_getElem.2 ⟨i - 1, by omega, rfl⟩
   ·rename_i he
    rw [hst]
    refine ⟨?_, fun x => by rw [List.mem_append, List.mem_singleton, take_snoc (by omega), List.mem_append, List.mem_singleton, h2]⟩
    refine List.pairwise_append.2 ⟨h1, by simp, fun x hx y hy => ?_⟩
    rw [List.mem_singleton] at hy
    subst hy
    have hx := (h2 x).1 hx
    obtain ⟨j, hj, rfl⟩ := List.mem_take_iff_getElem.1 hx
    have hlast : l.getD (i - 1) [] < l.getD i [] := by
     refine lt_of_le_ne ?_ he
     rw [hget _ (by omega), hget _ (by omega)]
     exact List.pairwise_iff_getElem.1 hl (i - 1) i (by omega) (by omega) (by omega)
    by_cases hji : j = i - 1
    ·rw [← hget j (by omega), hji]; exact hlast
    ·refine lt_of_le_lt ?_ hlast
     rw [hget (i - 1) (by omega)]
     exact List.pairwise_iff_getElem.1 hl j (i - 1) (by omega) (by omega) (by omega)
theorem sortS_sorted (l : List (List UInt8)) : (sortS l).Pairwise (· ≤ ·) := by
 unfold sortS
 have := List.pairwise_mergeSort (le := fun (x y : List UInt8) => decide (x ≤ y)) (fun a b c h1 h2 => by simp only [decide_eq_true_eq] at *; exact List.le_trans h1 h2) (fun a b => by
  simp only [Bool.or_eq_true, decide_eq_true_eq]; exact List.le_total a b) l
 exact this.imp fun h => by simpa using h
def rise (l : List (List UInt8)) : List (List UInt8) := cp (sortS l)
theorem rise_strict (l : List (List UInt8)) : Strict (rise l) := by
 have := (cp_spec (sortS_sorted l) (sortS l).length (Nat.le_refl _)).1
 rwa [List.take_of_length_le (Nat.le_refl _)] at this
theorem rise_mem (l : List (List UInt8)) (x : List UInt8) : x ∈ rise l ↔ x ∈ l := by
 have := (cp_spec (sortS_sorted l) (sortS l).length (Nat.le_refl _)).2 x
 rw [List.take_of_length_le (Nat.le_refl _)] at this
 rw [rise, this]
 unfold sortS
 exact List.mem_mergeSort
theorem rise_eq {l m : List (List UInt8)} (h : Strict m) (hm : ∀ x, x ∈ m ↔ x ∈ l) : m = rise l := strict_ext h (rise_strict l) fun x => (hm x).trans (rise_mem l x).symm
theorem rise_len (l : List (List UInt8)) : (rise l).length ≤ l.length := by
 have := cp_le (sortS l) (sortS l).length
 rw [List.take_of_length_le (Nat.le_refl _), sortS_length] at this
 exact this
theorem rise_congr {l m : List (List UInt8)} (h : ∀ x, x ∈ l ↔ x ∈ m) : rise l = rise m := rise_eq (rise_strict l) fun x => (rise_mem l x).trans (h x)
theorem strict_put {os : List (List UInt8)} {p : List UInt8} {lo : Nat} (hs : Strict os) (h1 : ∀ i, i < lo → os.getD i [] < p) (h2 : ∀ i, lo ≤ i → i < os.length → ¬ os.getD i [] < p) (hne : lo < os.length → os.getD lo [] ≠ p) (hlo : lo ≤ os.length) :
  Strict (os.take lo ++ [p] ++ os.drop lo) := by
 have hget : ∀ j, (hj : j < os.length) → os.getD j [] = os[j] := fun j hj => by rw [List.getD_eq_getElem?_getD, List.getElem?_eq_getElem hj]; rfl
 have hgt : ∀ y ∈ os.drop lo, p < y := by
  intro y hy
  obtain ⟨j, hj, rfl⟩ := List.mem_drop_iff_getElem.1 hy
  have h3 := h2 (lo + j) (by omega) (by omega)
  have hne2 : p ≠ os[lo + j] := by
   intro e
   by_cases hj0 : j = 0
   ·subst hj0
    exact hne (by omega) (by rw [hget lo (by omega)]; exact e.symm)
   ·have hlt : os[lo]'(by omega) < os[lo + j]'(by omega) := List.pairwise_iff_getElem.1 hs lo (lo + j) (by omega) (by omega) (by omega)
    exact h2 lo (Nat.le_refl _) (by omega) (by rw [hget lo (by omega), e]; exact hlt)
  rw [hget _ (by omega)] at h3
  exact lt_of_le_ne (List.not_lt.1 h3) hne2
 have hlt : ∀ x ∈ os.take lo, x < p := by
  intro x hx
  obtain ⟨j, hj, rfl⟩ := List.mem_take_iff_getElem.1 hx
  rw [← hget j (by omega)]
  exact h1 j (by omega)
 unfold Strict at *
 rw [List.append_assoc]
 refine List.pairwise_append.2 ⟨hs.sublist (List.take_sublist _ _), ?_, ?_⟩
 ·rw [List.singleton_append]
  exact List.pairwise_cons.2 ⟨hgt, hs.sublist (List.drop_sublist _ _)⟩
 ·intro x hx y hy
  rw [List.singleton_append, List.mem_cons] at hy
  rcases hy with rfl | hy
  ·exact hlt x hx
  ·exact List.lt_trans (hlt x hx) (hgt y hy)
theorem put_mem {os : List (List UInt8)} {p : List UInt8} {lo : Nat} (x : List UInt8) : x ∈ os.take lo ++ [p] ++ os.drop lo ↔ x ∈ os ∨ x = p := by
 have : x ∈ os ↔ x ∈ os.take lo ∨ x ∈ os.drop lo := by rw [← List.mem_append, List.take_append_drop]
 rw [this]
 simp only [List.mem_append, List.mem_singleton]
 constructor
 ·rintro ((h | h) | h) <;> simp [h]
 ·rintro ((h | h) | h) <;> simp [h]
theorem strict_get {os : List (List UInt8)} (hs : Strict os) {i j : Nat} (h1 : i < j) (h2 : j < os.length) : os.getD i [] < os.getD j [] := by
 have hget : ∀ j, (hj : j < os.length) → os.getD j [] = os[j] := fun j hj => by rw [List.getD_eq_getElem?_getD, List.getElem?_eq_getElem hj]; rfl
 rw [hget _ (by omega), hget _ h2]
 exact List.pairwise_iff_getElem.1 hs i j (by omega) h2 h1
end Go.Proofs.YtfeabbeebkkhaaaGreat
/-! Lay -/
namespace Go.Proofs.YtfeabbeebkkhaaaGreat
open Go Go.Sx
set_option maxRecDepth 100000
set_option maxHeartbeats 4000000
set_option linter.unusedVariables false
set_option linter.unusedSimpArgs false
attribute [local irreducible] J JQ QS Con W opW
attribute [local irreducible] isPath spA spB spE isName cp sortS rise
theorem less_iff {x y : List UInt8} {r : Bool} (h : Op.bytesLess x y = r) : (x < y) ↔ r = true := by
 rw [← h, bytesLess_eq, decide_eq_true_eq]
theorem one_of {u : Value} {p : List UInt8} (h : u ∈ [Value.string (bs p)]) : oneV u = true := by
 rw [List.mem_singleton] at h
 rw [h]
 rfl
theorem is_con (p : List UInt8) (w : World) (hp : p.length ≤ 9223372036854775807) : Con Tryz.prog 24 [.string (bs p)] w [] fun v _ => v = .bool (isPath p) := by
 refine con_of_tree mix Tryz.func24 T24_ok (by kernel_rfl) ?_
 unfold T24
 refine j_q (qs_ac) ?_
 refine j_q (qs_call ent29 rfl rfl rfl (fun w' hw' => rsplit_con p w' (by omega))) ?_
 unfold spl
 refine j_q (qs_ext (vs := [.string (bs (spA p)), .string (bs (spB p)), .int .i64 (spE p)]) rfl rfl) ?_
 refine j_q (qs_ext (vs := [.string (bs (spA p)), .string (bs (spB p)), .int .i64 (spE p)]) rfl rfl) ?_
 refine j_q (qs_ext (vs := [.string (bs (spA p)), .string (bs (spB p)), .int .i64 (spE p)]) rfl rfl) ?_
 refine j_q (qs_eql rfl rfl) ?_
 refine j_ret_con (vs := [_]) (fun w' hw' => ⟨rfl, trivial⟩) ?_
 show Value.bool _ = _
 congr 1
 unfold spE
 cases isPath p <;> rfl
theorem lay_con (os : List (List UInt8)) (p : List UInt8) (v : Value) (c : SH) (ho : Sx.Own 49 1 (strs os) v c) (hs : Strict os) (hsz : os.length ≤ 100000) (w : World) : Con Tryz.prog 25 [v, .string (bs p)] w c fun u S' => ∃ zs c', S' = [c'] ∧ Sx.Own 49 1 (strs zs) u c' ∧ Strict zs ∧ (∀ x, x ∈ zs ↔ x ∈ os ∨ x = p) ∧ zs.length ≤ os.length + 1 := by
 refine con_of_tree mix Tryz.func25 T25_ok (by kernel_rfl) ?_
 unfold T25
 obtain ⟨n, A, cap, rfl, hn⟩ := own_form ho (by decide)
 rw [strs_length, Nat.mul_one] at hn
 subst hn
 have hcap := own_cap ho
 refine j_q (qs_ac) ?_
 refine j_q (qs_lenl U25 rfl) ?_
 refine j_q (qs_ac) ?_
 refine j_loop (fun m vs S' => ∃ lo hi : Nat, vs = [.int .i64 (lo : Int), .int .i64 (hi : Int)] ∧ S' = [c] ∧ lo ≤ hi ∧ hi ≤ os.length ∧ (∀ i, i < lo → os.getD i [] < p) ∧ (∀ i, hi ≤ i → i < os.length → ¬ os.getD i [] < p) ∧ m = hi - lo) ⟨_, 0, os.length, rfl, rfl, Nat.zero_le _, Nat.le_refl _, fun i h => by omega, fun i h h2 => by omega, rfl⟩ ?_
 rintro m vs S' hlen ⟨lo, hi, rfl, rfl, hlh, hhn, hlo, hhi, rfl⟩
 refine j_q (qs_lss rfl rfl) ?_
 refine j_cond rfl (fun hc0 => ?_) (fun hc0 => ?_)
 ·skip
  have hlt : lo < hi := by
   simp only [bnA] at *
   omega
  obtain ⟨g, rfl⟩ := own_addr ho (by rw [strs_length]; omega)
  refine j_q (qs_add64 rfl rfl (by omega)) ?_
  refine j_q (qs_quo64 rfl rfl (by omega) (by omega) (by omega)) ?_
  rw [show ((lo : Int) + (hi : Int)) / 2 = (((lo + hi) / 2 : Nat) : Int) by omega]
  refine j_q (qs_ixl0 U25 sz49 rfl rfl ⟨(by omega), (by omega)⟩) ?_
  refine j_q (qs_loadrs (own_rd ho 0 rfl) U49 rfl (by simp only [Int.toNat_natCast]; omega)) ?_
  simp only [Int.toNat_natCast]
  refine j_q (qs_slss rfl rfl) ?_
  refine j_cond rfl (fun hc1 => ?_) (fun hc1 => ?_)
  ·skip
   have hl8 : os.getD ((lo + hi) / 2) [] < p := (less_iff rfl).2 hc1
   refine j_q (qs_add64 rfl rfl (by omega)) ?_
   refine j_back rfl ?_
   exact ⟨hi - ((lo + hi) / 2 + 1), by omega, (lo + hi) / 2 + 1, hi, rfl, rfl, by omega, by omega, fun i hi' => by
    by_cases h : i < (lo + hi) / 2
    ·exact List.lt_trans (strict_get hs (by omega) (by omega)) hl8
    ·obtain rfl : i = (lo + hi) / 2 := by omega
     exact hl8, hhi, rfl⟩
  ·skip
   have hl8 : ¬ os.getD ((lo + hi) / 2) [] < p := fun h => by rw [(less_iff rfl).1 h] at hc1; cases hc1
   refine j_back rfl ?_
   exact ⟨(lo + hi) / 2 - lo, by omega, lo, (lo + hi) / 2, rfl, rfl, by omega, by omega, hlo, fun i h1 h2 h3 => by
    by_cases h : i = (lo + hi) / 2
    ·subst h; exact hl8 h3
    ·exact hl8 (List.lt_trans (strict_get hs (by omega) h2) h3), rfl⟩
 ·skip
  obtain rfl : lo = hi := by
   simp only [bnA] at *
   omega
  have hA : decide ((lo : Int) < (os.length : Int)) = true → ∃ a, A = some a := fun hb => by
   have hb2 : lo < os.length := by simpa using hb
   obtain ⟨g, h⟩ := own_addr ho (by rw [strs_length]; omega)
   exact ⟨_, h⟩
  refine j_q (qs_lenl U25 rfl) ?_
  refine j_q (qs_lss rfl rfl) ?_
  refine j_g rfl (fun hb => qs_mt rfl) ?_
  refine j_g rfl (fun hb => qs_mt rfl) ?_
  refine j_g (v := .pointer (A.map (·.add (lo : Int).toNat))) rfl (fun hb => by obtain ⟨a, rfl⟩ := hA hb; exact qs_ixl0 U25 sz49 (gd_eq hb) (gd_eq hb) (by simp only [bnA] at *; omega)) ?_
  simp only [Int.toNat_natCast]
  refine j_g (v := .string (bs (os.getD lo []))) rfl (fun hb => by obtain ⟨a, rfl⟩ := hA hb; exact qs_loadrs (own_rd ho 0 rfl) U49 (gd_eq hb) (by simp only [bnA] at *; omega)) ?_
  refine j_g rfl (fun hb => qs_mt rfl) ?_
  refine j_g rfl (fun hb => qs_seql (gd_eq hb) (gd_eq hb)) ?_
  refine j_q (qs_and rfl rfl) ?_
  refine j_cond rfl (fun hc2 => ?_) (fun hc2 => ?_)
  ·skip
   simp only [Bool.and_eq_true, decide_eq_true_eq, beq_iff_eq, Int.toNat_natCast] at hc2
   have hlt : lo < os.length := by omega
   refine j_ret_con (vs := [_]) (fun w' hw' => ⟨rfl, trivial⟩) ?_
   exact ⟨os, c, rfl, ho, hs, fun x => ⟨.inl, fun h => h.elim id fun e => by rw [e, ← hc2.2, List.getD_eq_getElem?_getD, List.getElem?_eq_getElem hlt]; exact List.getElem_mem hlt⟩, by omega⟩
  ·skip
   have hne : lo < os.length → os.getD lo [] ≠ p := fun h1 h2 => by
    rw [h2] at hc2
    have h3 : decide ((lo : Int) < (os.length : Int)) = true := by simpa using h1
    rw [h3] at hc2
    simp at hc2
   refine j_lit (vs := []) U25 sz49 zero49 rfl (by simp [oneV]) ⟨rfl, by decide⟩ (fun g19 v19 c19 hv19 hc19 ho19 => ?_)
   subst hv19 hc19
   refine j_q (qs_cutl (z := lo) U25 sz49 rfl rfl ⟨_, rfl⟩ (by omega) (by omega)) ?_
   refine j_append 0 U25 U25 (.inr ⟨_, rfl⟩) sb49 zero49 rfl ho19 rfl (src_cut ho 1 rfl (Nat.zero_le _) (by omega)) (fun u hu => strs_one u (by rw [List.drop_zero, strs_take] at hu; exact List.map_subset _ (fun _ h => h) hu)) ⟨(by simp [strs_length]; omega), (by decide)⟩ (fun v21 c21 ho21 => ?_)
   rw [List.drop_zero, strs_take] at ho21
   simp only [List.nil_append] at ho21
   refine j_lit (vs := [.string (bs _)]) U25 sz49 zero49 rfl (by simp [oneV]) ⟨rfl, by decide⟩ (fun g22 v22 c22 hv22 hc22 ho22 => ?_)
   subst hv22 hc22
   refine j_append 1 U25 U25 (.inr ⟨_, rfl⟩) sb49 zero49 rfl ho21 rfl (.inl ⟨_, _, rfl, own_rd ho22 0 rfl, rfl⟩) (fun u hu => one_of hu) ⟨(by simp [strs_length]; omega), (by decide)⟩ (fun v23 c23 ho23 => ?_)
   refine j_q (qs_cutl (a := lo) U25 sz49 rfl ⟨_, rfl⟩ rfl (by omega) (by omega)) ?_
   refine j_append 1 U25 U25 (.inr ⟨_, rfl⟩) sb49 zero49 rfl ho23 rfl (src_cut ho 2 rfl (show lo ≤ os.length by omega) (Nat.le_refl _)) (fun u hu => strs_one u (List.mem_of_mem_take (List.mem_of_mem_drop hu))) ⟨(by simp [strs_length]; omega), (by decide)⟩ (fun v25 c25 ho25 => ?_)
   rw [show List.take os.length (strs os) = strs os from List.take_of_length_le (by rw [strs_length]; exact Nat.le_refl _), strs_drop, show [Value.string (bs p)] = strs [p] by rfl, ← strs_append, ← strs_append] at ho25
   refine j_sub (S' := [c25]) (by simp) ?_
   refine j_ret_con (vs := [_]) (fun w' hw' => ⟨rfl, trivial⟩) ?_
   exact ⟨_, c25, rfl, ho25, strict_put hs hlo hhi hne hhn, put_mem, by simp only [List.length_append, List.length_take, List.length_drop, List.length_singleton]; omega⟩
end Go.Proofs.YtfeabbeebkkhaaaGreat
/-! Iter -/
namespace Go.Proofs
open Go.RowKit Go.Maps Go.Sort Go.Shelf
def Tryz.keys57_ren : Go.Shelf.Ren := ⟨fun | 7 => 57 | 10 => 108 | n => n, fun | 23 => 106 | 26 => 49 | 3 => 4 | 28 => 109 | 0 => 0 | 27 => 108 | 33 => 63 | 4 => 4 | n => n, fun | n => n⟩
theorem Tryz.keys57 : Go.Proofs.SlLaysZ.n7 Tryz.prog Tryz.keys57_ren := {
 mixed := by kernel_rfl
 f7 := ⟨Tryz.f57.name, by decide, Tryz.func57.trans (congrArg some (by kernel_rfl))⟩
 f10 := ⟨Tryz.f108.name, by decide, Tryz.func108.trans (congrArg some (by kernel_rfl))⟩
 t0 := Tryz.underlying0
 a0 := Tryz.isAgg0
 z0 := Tryz.sizeOf0
 v0 := Tryz.zeroValue0
 t4 := Tryz.underlying4
 a4 := Tryz.isAgg4
 z4 := Tryz.sizeOf4
 v4 := Tryz.zeroValue4
 t23 := Tryz.underlying106
 a23 := Tryz.isAgg106
 z23 := Tryz.sizeOf106
 v23 := Tryz.zeroValue106
 t26 := Tryz.underlying49
 a26 := Tryz.isAgg49
 z26 := Tryz.sizeOf49
 v26 := Tryz.zeroValue49
 t27 := Tryz.underlying108
 a27 := Tryz.isAgg108
 z27 := Tryz.sizeOf108
 v27 := Tryz.zeroValue108
 t28 := Tryz.underlying109
 a28 := Tryz.isAgg109
 z28 := Tryz.sizeOf109
 v28 := Tryz.zeroValue109
 t33 := Tryz.underlying63
 a33 := Tryz.isAgg63
 z33 := Tryz.sizeOf63
 v33 := Tryz.zeroValue63 }
def Tryz.sorted56_ren : Go.Shelf.Ren := ⟨fun | 6 => 56 | 8 => 106 | 9 => 107 | 11 => 137 | 13 => 139 | 12 => 138 | 23 => 161 | 24 => 162 | 14 => 152 | 15 => 153 | 16 => 154 | 17 => 155 | 18 => 156 | 19 => 157 | 20 => 158 | 21 => 159 | 22 => 160 | 25 => 169 | 26 => 170 | 27 => 171 | 28 => 172 | 29 => 173 | 30 => 174 | 31 => 181 | n => n, fun | 26 => 49 | 28 => 109 | 24 => 25 | 0 => 0 | 3 => 3 | 37 => 152 | 48 => 145 | 50 => 151 | 4 => 4 | 40 => 214 | 39 => 213 | 45 => 219 | 5 => 5 | 9 => 9 | 51 => 227 | 55 => 231 | 57 => 248 | 58 => 249 | 33 => 63 | n => n, fun | n => n⟩
theorem Tryz.sorted56 : Go.Proofs.SlLaysZ.n6 Tryz.prog Tryz.sorted56_ren := {
 mixed := by kernel_rfl
 f6 := ⟨Tryz.f56.name, by decide, Tryz.func56.trans (congrArg some (by kernel_rfl))⟩
 f8 := ⟨Tryz.f106.name, by decide, Tryz.func106.trans (congrArg some (by kernel_rfl))⟩
 f11 := ⟨Tryz.f137.name, by decide, Tryz.func137.trans (congrArg some (by kernel_rfl))⟩
 t0 := Tryz.underlying0
 a0 := Tryz.isAgg0
 z0 := Tryz.sizeOf0
 v0 := Tryz.zeroValue0
 t24 := Tryz.underlying25
 a24 := Tryz.isAgg25
 z24 := Tryz.sizeOf25
 v24 := Tryz.zeroValue25
 t26 := Tryz.underlying49
 a26 := Tryz.isAgg49
 z26 := Tryz.sizeOf49
 v26 := Tryz.zeroValue49
 t28 := Tryz.underlying109
 a28 := Tryz.isAgg109
 z28 := Tryz.sizeOf109
 v28 := Tryz.zeroValue109
 i26 := by kernel_rfl }
def Tryz.sort107_ren : Go.Shelf.Ren := ⟨fun | 6 => 107 | 8 => 139 | 9 => 138 | 19 => 161 | 20 => 162 | 21 => 152 | 22 => 153 | 23 => 154 | 24 => 155 | 25 => 156 | 26 => 157 | 27 => 158 | 28 => 159 | 29 => 160 | 36 => 169 | 31 => 170 | 32 => 171 | 37 => 172 | 38 => 173 | 39 => 174 | 41 => 181 | n => n, fun | 27 => 25 | 29 => 49 | 3 => 3 | 32 => 152 | 26 => 25 | 0 => 0 | 44 => 145 | 46 => 151 | 4 => 4 | 36 => 214 | 35 => 213 | 41 => 219 | 5 => 5 | 9 => 9 | 53 => 227 | 57 => 231 | 63 => 248 | 64 => 249 | n => n, fun | n => n⟩
theorem Tryz.sort107 : Go.Proofs.SlLaysM.n6 Tryz.prog Tryz.sort107_ren := {
 mixed := by kernel_rfl
 f6 := ⟨Tryz.f107.name, by decide, Tryz.func107.trans (congrArg some (by kernel_rfl))⟩
 f8 := Tryz.func139.trans (congrArg some (by kernel_rfl))
 f9 := ⟨Tryz.f138.name, by decide, Tryz.func138.trans (congrArg some (by kernel_rfl))⟩
 f19 := Tryz.func161.trans (congrArg some (by kernel_rfl))
 f20 := Tryz.func162.trans (congrArg some (by kernel_rfl))
 f21 := ⟨Tryz.f152.name, by decide, Tryz.func152.trans (congrArg some (by kernel_rfl))⟩
 f22 := ⟨Tryz.f153.name, by decide, Tryz.func153.trans (congrArg some (by kernel_rfl))⟩
 f23 := ⟨Tryz.f154.name, by decide, Tryz.func154.trans (congrArg some (by kernel_rfl))⟩
 f24 := ⟨Tryz.f155.name, by decide, Tryz.func155.trans (congrArg some (by kernel_rfl))⟩
 f25 := ⟨Tryz.f156.name, by decide, Tryz.func156.trans (congrArg some (by kernel_rfl))⟩
 f26 := ⟨Tryz.f157.name, by decide, Tryz.func157.trans (congrArg some (by kernel_rfl))⟩
 f27 := ⟨Tryz.f158.name, by decide, Tryz.func158.trans (congrArg some (by kernel_rfl))⟩
 f28 := ⟨Tryz.f159.name, by decide, Tryz.func159.trans (congrArg some (by kernel_rfl))⟩
 f29 := ⟨Tryz.f160.name, by decide, Tryz.func160.trans (congrArg some (by kernel_rfl))⟩
 f31 := Tryz.func170.trans (congrArg some (by kernel_rfl))
 f32 := Tryz.func171.trans (congrArg some (by kernel_rfl))
 f36 := ⟨Tryz.f169.name, by decide, Tryz.func169.trans (congrArg some (by kernel_rfl))⟩
 f37 := ⟨Tryz.f172.name, by decide, Tryz.func172.trans (congrArg some (by kernel_rfl))⟩
 f38 := ⟨Tryz.f173.name, by decide, Tryz.func173.trans (congrArg some (by kernel_rfl))⟩
 f39 := ⟨Tryz.f174.name, by decide, Tryz.func174.trans (congrArg some (by kernel_rfl))⟩
 f41 := ⟨Tryz.f181.name, by decide, Tryz.func181.trans (congrArg some (by kernel_rfl))⟩
 t0 := Tryz.underlying0
 a0 := Tryz.isAgg0
 z0 := Tryz.sizeOf0
 v0 := Tryz.zeroValue0
 t3 := Tryz.underlying3
 a3 := Tryz.isAgg3
 z3 := Tryz.sizeOf3
 v3 := Tryz.zeroValue3
 t4 := Tryz.underlying4
 a4 := Tryz.isAgg4
 z4 := Tryz.sizeOf4
 v4 := Tryz.zeroValue4
 t5 := Tryz.underlying5
 a5 := Tryz.isAgg5
 z5 := Tryz.sizeOf5
 v5 := Tryz.zeroValue5
 t9 := Tryz.underlying9
 a9 := Tryz.isAgg9
 z9 := Tryz.sizeOf9
 v9 := Tryz.zeroValue9
 t26 := Tryz.underlying25
 a26 := Tryz.isAgg25
 z26 := Tryz.sizeOf25
 v26 := Tryz.zeroValue25
 t27 := Tryz.underlying25
 a27 := Tryz.isAgg25
 z27 := Tryz.sizeOf25
 v27 := Tryz.zeroValue25
 t29 := Tryz.underlying49
 a29 := Tryz.isAgg49
 z29 := Tryz.sizeOf49
 v29 := Tryz.zeroValue49
 t32 := Tryz.underlying152
 a32 := Tryz.isAgg152
 z32 := Tryz.sizeOf152
 v32 := Tryz.zeroValue152
 t35 := Tryz.underlying213
 a35 := Tryz.isAgg213
 z35 := Tryz.sizeOf213
 v35 := Tryz.zeroValue213
 t36 := Tryz.underlying214
 a36 := Tryz.isAgg214
 z36 := Tryz.sizeOf214
 v36 := Tryz.zeroValue214
 t41 := Tryz.underlying219
 a41 := Tryz.isAgg219
 z41 := Tryz.sizeOf219
 v41 := Tryz.zeroValue219
 t44 := Tryz.underlying145
 a44 := Tryz.isAgg145
 z44 := Tryz.sizeOf145
 v44 := Tryz.zeroValue145
 t46 := Tryz.underlying151
 a46 := Tryz.isAgg151
 z46 := Tryz.sizeOf151
 v46 := Tryz.zeroValue151
 t53 := Tryz.underlying227
 a53 := Tryz.isAgg227
 z53 := Tryz.sizeOf227
 v53 := Tryz.zeroValue227
 t57 := Tryz.underlying231
 a57 := Tryz.isAgg231
 z57 := Tryz.sizeOf231
 v57 := Tryz.zeroValue231
 t63 := Tryz.underlying248
 a63 := Tryz.isAgg248
 z63 := Tryz.sizeOf248
 v63 := Tryz.zeroValue248
 t64 := Tryz.underlying249
 a64 := Tryz.isAgg249
 z64 := Tryz.sizeOf249
 v64 := Tryz.zeroValue249 }
theorem Tryz.sorts56 (m : Nat) : AnyZ.SortsIn Tryz.prog Tryz.sorted56_ren Fence.wide m :=
 ⟨fun blk off cap ss W hH hblk hsz => callsIn_wide.2 (AnyM.slices_Sort_string Tryz.sort107 blk off cap ss W hH hblk hsz),
  fun p cap W => callsIn_wide.2 (AnyM.slices_Sort_string_none Tryz.sort107 p cap W)⟩
theorem Tryz.maps_Keys_57 (mb : Option Nat) (W : World) : CallsIn Fence.wide 5 Tryz.prog 57 #[.map mb] W fun e w' => e = .returned (.func (.func 108) #[] #[.pointer (some ⟨W.heap.size, 0, none⟩)]) ∧ w' = W.alloc (.cells #[.map mb] 106) :=
 AnyZ.keys_in Tryz.keys57 Fence.wide 5 trivial rfl mb W
end Go.Proofs
/-! Sx14 -/
namespace Go.Sx
open Go Go.MapKept Go.WideMaps Go.Maps
set_option linter.unusedVariables false
set_option linter.unusedSimpArgs false
set_option linter.unusedSectionVars false
variable {P : Program} {R : Ending → World → Prop} {env : Env} {b : Base} {S : List SH} {B : JB} {T : Tree} {v : Value} {ty : TypeId}
theorem getObj_map {w : World} {r : Nat} {es : Array MapEntry} {clock : Nat} (hb : w.heap[r]? = some (.map es clock)) : (getObj r).run P w = .ok (.map es clock) w := by
 simp [getObj, Sem.run, hb]
theorem setObj_map {w : World} {r : Nat} {es : Array MapEntry} {clock : Nat} (o : Obj) (hb : w.heap[r]? = some (.map es clock)) : (setObj r o).run P w = .ok () { w with heap := w.heap.setIfInBounds r o } := by
 simp [setObj, Sem.run, hb]
theorem nodup_inj {α : Type} {l : List α} (h : l.Nodup) {i j : Nat} {a : α} (hi : l[i]? = some a) (hj : l[j]? = some a) : i = j := by
 obtain ⟨hi1, hi2⟩ := List.getElem?_eq_some_iff.1 hi
 obtain ⟨hj1, hj2⟩ := List.getElem?_eq_some_iff.1 hj
 rcases Nat.lt_trichotomy i j with h1 | h1 | h1
 ·exact absurd (hi2.trans hj2.symm) (List.pairwise_iff_getElem.1 h i j hi1 hj1 h1)
 ·exact h1
 ·exact absurd (hj2.trans hi2.symm) (List.pairwise_iff_getElem.1 h j i hj1 hi1 h1)
structure KeyE (P : Program) (kt : TypeId) {κ : Type} (enc : κ → Value) (ok : κ → Prop) : Prop where
 keyed : Keyed P kt
 inj : ∀ a b, enc a = enc b → a = b
 lit : ∀ k, ok k → ∃ l, keyOf P kt (enc k) = some l
structure MapOk {κ : Type} (enc : κ → Value) (ok : κ → Prop) (es : Array MapEntry) (clock : Nat) (m : List (κ × Value)) : Prop where
 ents : es.toList.map (fun e => (e.key, e.val)) = m.map (fun p => (enc p.1, p.2))
 stamped : Stamped es clock
 keys : ∀ p ∈ m, ok p.1
section
variable {κ : Type} [DecidableEq κ] {enc : κ → Value} {ok : κ → Prop} {es : Array MapEntry} {clock : Nat} {m : List (κ × Value)} {kt : TypeId}
def mlook (m : List (κ × Value)) (k : κ) : Option Value := (m.find? (fun p => decide (p.1 = k))).map (·.2)
def mput (m : List (κ × Value)) (k : κ) (v : Value) : List (κ × Value) := m.map fun p => if p.1 = k then (p.1, v) else p
def mset (m : List (κ × Value)) (k : κ) (v : Value) : List (κ × Value) := if (mlook m k).isSome then mput m k v else m ++ [(k, v)]
theorem mlook_mem : ∀ {m : List (κ × Value)} {k : κ} {v : Value}, (m.map Prod.fst).Nodup → (k, v) ∈ m → mlook m k = some v
 | p :: m, k, v, hn, h => by
  rw [List.map_cons, List.nodup_cons] at hn
  rcases List.mem_cons.1 h with rfl | h
  ·simp [mlook]
  ·have hne : p.1 ≠ k := fun e => hn.1 (by rw [e]; exact List.mem_map_of_mem (f := Prod.fst) h)
   have := mlook_mem hn.2 h
   unfold mlook at this ⊢
   rw [List.find?_cons_of_neg (by simpa using hne)]
   exact this
theorem mlook_some {m : List (κ × Value)} {k : κ} {v : Value} (h : mlook m k = some v) : (k, v) ∈ m := by
 unfold mlook at h
 obtain ⟨p, hp, rfl⟩ := Option.map_eq_some_iff.1 h
 have h1 := List.mem_of_find?_eq_some hp
 have h2 := List.find?_some hp
 simp only [decide_eq_true_eq] at h2
 subst h2
 exact h1
theorem mlook_none {m : List (κ × Value)} {k : κ} : mlook m k = none ↔ ∀ p ∈ m, p.1 ≠ k := by
 unfold mlook
 rw [Option.map_eq_none_iff, List.find?_eq_none]
 simp
theorem MapOk.get (h : MapOk enc ok es clock m) (j : Nat) : (es[j]?).map (fun e => (e.key, e.val)) = (m[j]?).map (fun p => (enc p.1, p.2)) := by
 have := congrArg (fun l => l[j]?) h.ents
 simpa using this
theorem MapOk.nodup (h : MapOk enc ok es clock m) : (m.map Prod.fst).Nodup := by
 have h1 := h.stamped.2.2
 have h2 : es.toList.map (·.key) = m.map (fun p => enc p.1) := by
  have := congrArg (List.map Prod.fst) h.ents
  simpa [List.map_map, Function.comp_def] using this
 rw [h2] at h1
 unfold List.Nodup at h1 ⊢
 rw [List.pairwise_map] at h1 ⊢
 exact h1.imp fun hne e => hne (by rw [e])
theorem MapOk.size (h : MapOk enc ok es clock m) : es.size = m.length := by
 have := congrArg List.length h.ents
 simpa using this
theorem mapOk_nil : MapOk enc ok #[] 0 ([] : List (κ × Value)) := ⟨rfl, ⟨by simp, by simp, by simp⟩, by simp⟩
theorem find_cases (KE : KeyE P kt enc ok) (h : MapOk enc ok es clock m) {k : κ} (hk : ok k) (w : World) :
  ((Instr.findKey kt (enc k) es.toList).run P w = .ok none w ∧ mlook m k = none) ∨
  ∃ j e, (Instr.findKey kt (enc k) es.toList).run P w = .ok (some (j, e.val)) w ∧ es[j]? = some e ∧ e.key = enc k ∧ m[j]? = some (k, e.val) ∧ mlook m k = some e.val := by
 obtain ⟨lx, hlx⟩ := KE.lit k hk
 have hes : ∀ e ∈ es.toList, ∃ l, keyOf P kt e.key = some l := fun e he => by
  have : (e.key, e.val) ∈ m.map (fun p => (enc p.1, p.2)) := by rw [← h.ents]; exact List.mem_map_of_mem (f := fun e : MapEntry => (e.key, e.val)) he
  obtain ⟨p, hp, e1⟩ := List.mem_map.1 this
  injection e1 with e1 e2
  obtain ⟨l, hl⟩ := KE.lit p.1 (h.keys p hp)
  exact ⟨l, by rw [← e1]; exact hl⟩
 rcases KE.keyed.find w hlx es.toList hes with ⟨h1, h2⟩ | ⟨j, e, h1, h2, h3⟩
 ·refine .inl ⟨h1, mlook_none.2 fun p hp e => ?_⟩
  have : (enc p.1, p.2) ∈ es.toList.map (fun e => (e.key, e.val)) := by rw [h.ents]; exact List.mem_map_of_mem (f := fun p : κ × Value => (enc p.1, p.2)) hp
  obtain ⟨x, hx, e1⟩ := List.mem_map.1 this
  injection e1 with e1 e2
  exact h2 x hx (by rw [e1, e])
 ·have h2' : es[j]? = some e := by simpa using h2
  have hg := h.get j
  rw [h2', Option.map_some] at hg
  obtain ⟨p, hp, e1⟩ := Option.map_eq_some_iff.1 hg.symm
  injection e1 with e1 e2
  have hpk : p.1 = k := KE.inj _ _ (by rw [e1, h3])
  have hp' : p = (k, e.val) := by rw [← hpk, ← e2]
  rw [hp'] at hp
  exact .inr ⟨j, e, h1, h2', h3, hp, mlook_mem h.nodup (List.mem_of_getElem? hp)⟩
theorem mput_keys (m : List (κ × Value)) (k : κ) (v : Value) : (mput m k v).map Prod.fst = m.map Prod.fst := by
 simp only [mput, List.map_map]
 refine List.map_congr_left fun p _ => ?_
 simp only [Function.comp]
 split <;> rfl
theorem MapOk.modify (h : MapOk enc ok es clock m) {k : κ} {j : Nat} {e : MapEntry} (hj : es[j]? = some e) (hkey : e.key = enc k) (hm : m[j]? = some (k, e.val)) (v : Value) (f : MapEntry → MapEntry) (hf : f e = { e with val := v }) : MapOk enc ok (es.modify j f) clock (mput m k v) := by
 have hjlt := (Array.getElem?_eq_some_iff.1 hj).1
 have hl : (es.modify j f).toList = es.toList.set j { e with val := v } := by
  apply List.ext_getElem?
  intro i
  simp only [Array.getElem?_toList, Array.getElem?_modify, List.getElem?_set]
  by_cases hij : j = i
  ·subst hij
   rw [if_pos rfl, if_pos rfl, hj, if_pos (by simpa using hjlt), Option.map_some, hf]
  ·rw [if_neg hij, if_neg hij]
 have hkeys : (es.modify j f).toList.map (·.key) = es.toList.map (·.key) := by
  rw [hl, List.map_set]
  have hj' : (es.toList.map (·.key))[j]? = some e.key := by simp [hj]
  obtain ⟨h1, h2⟩ := List.getElem?_eq_some_iff.1 hj'
  have := List.set_getElem_self h1
  rwa [h2] at this
 have hborn : (es.modify j f).toList.map (·.born) = es.toList.map (·.born) := by
  rw [hl, List.map_set]
  have hj' : (es.toList.map (·.born))[j]? = some e.born := by simp [hj]
  obtain ⟨h1, h2⟩ := List.getElem?_eq_some_iff.1 hj'
  have := List.set_getElem_self h1
  rwa [h2] at this
 refine ⟨?_, ⟨fun x hx => ?_, by rw [hborn]; exact h.stamped.2.1, by rw [hkeys]; exact h.stamped.2.2⟩, fun p hp => ?_⟩
 ·rw [hl, List.map_set, h.ents]
  apply List.ext_getElem?
  intro i
  simp only [List.getElem?_set, mput, List.map_map, List.getElem?_map, List.length_map]
  by_cases hij : j = i
  ·subst hij
   rw [if_pos rfl, hm, if_pos (List.getElem?_eq_some_iff.1 hm).1]
   simp [hkey]
  ·rw [if_neg hij]
   cases hi : m[i]? with
   | none => rfl
   | some p =>
    simp only [Option.map_some, Function.comp]
    rw [if_neg]
    intro e1
    have hn := h.nodup
    exact hij (nodup_inj hn (i := j) (j := i) (a := k) (by simp [hm]) (by simp [hi, e1]))
 ·have : x.born ∈ (es.modify j f).toList.map (·.born) := List.mem_map_of_mem (f := (·.born)) hx
  rw [hborn] at this
  obtain ⟨y, hy, e1⟩ := List.mem_map.1 this
  rw [← e1]
  exact h.stamped.1 y hy
 ·have : p.1 ∈ (mput m k v).map Prod.fst := List.mem_map_of_mem (f := Prod.fst) hp
  rw [mput_keys] at this
  obtain ⟨q, hq, e1⟩ := List.mem_map.1 this
  rw [← e1]
  exact h.keys q hq
theorem MapOk.push (h : MapOk enc ok es clock m) (hinj : ∀ a b, enc a = enc b → a = b) {k : κ} (hk : ok k) (hno : mlook m k = none) (v : Value) : MapOk enc ok (es.push ⟨enc k, v, clock⟩) (clock + 1) (m ++ [(k, v)]) := by
 have hno := mlook_none.1 hno
 refine ⟨by simp [h.ents], ⟨fun x hx => ?_, ?_, ?_⟩, fun p hp => ?_⟩
 ·simp only [Array.toList_push, List.mem_append, List.mem_singleton] at hx
  rcases hx with hx | rfl
  ·have := h.stamped.1 x hx; omega
  ·simp
 ·simp only [Array.toList_push, List.map_append, List.map_cons, List.map_nil]
  rw [List.nodup_append]
  refine ⟨h.stamped.2.1, by simp, fun a ha c hc => ?_⟩
  obtain ⟨y, hy, rfl⟩ := List.mem_map.1 ha
  rw [List.mem_singleton] at hc
  subst hc
  have := h.stamped.1 y hy
  omega
 ·simp only [Array.toList_push, List.map_append, List.map_cons, List.map_nil]
  rw [List.nodup_append]
  refine ⟨h.stamped.2.2, by simp, fun a ha c hc => ?_⟩
  obtain ⟨y, hy, rfl⟩ := List.mem_map.1 ha
  rw [List.mem_singleton] at hc
  subst hc
  intro e1
  have : (y.key, y.val) ∈ m.map (fun p => (enc p.1, p.2)) := by rw [← h.ents]; exact List.mem_map_of_mem (f := fun e : MapEntry => (e.key, e.val)) hy
  obtain ⟨p, hp, e2⟩ := List.mem_map.1 this
  injection e2 with e2 e3
  exact hno p hp (hinj _ _ (by rw [e2, e1]))
 ·rcases List.mem_append.1 hp with hp | hp
  ·exact h.keys p hp
  ·rw [List.mem_singleton] at hp
   rw [hp]
   exact hk
theorem Sig.map_at {w : World} (hw : Sig b S w) {k g : Nat} (hk : S[k]? = some [(g, .map es clock)]) : w.heap[g]? = some (.map es clock) := hw.at_ hk
theorem run_zeroV {t : TypeId} {z : Value} (h : (P.info? t).bind (·.zero) = some z) (w : World) : (zeroValue t).run P w = .ok z w := by
 cases hi : P.info? t with
 | none => simp [hi] at h
 | some i =>
  rw [hi] at h
  simp only [Option.bind_some] at h
  simp only [zeroValue, typeInfo, program, Sem.run_bind, Sem.run, Result.andThen_ok, hi, h]
  simp only [Sem.run_pure, Result.andThen_ok, h]
theorem j_mkmap {t : TypeId} (h : ∀ g, b.w0.heap.size ≤ g → J P R T (.map (some g) :: env) ([(g, .map #[] 0)] :: S) b B) : J P R (.op (O (.makeMap t none) ty) T) env S b B := fun w hw => by
 have hrun : (execOp (ev env) (O (.makeMap t none) ty)).run P w = .ok (.value (.map (some w.heap.size))) { w with heap := w.heap.push (.map #[] 0) } := by
  simp only [O, execOp, Option.map_none, Instr.makeMap, Sem.run_bind, Sem.run_pure, Result.andThen_ok, newObj, Sem.run]
 show opW _ _ _ _ _ _
 unfold opW
 rw [hrun]
 obtain ⟨h1, h2, h3⟩ := hw.new (o := .map #[] 0) (w' := { w with heap := w.heap.push (.map #[] 0) }) rfl rfl rfl rfl
 exact h _ h3 _ h1
theorem run_lookup_ok (KE : KeyE P kt enc ok) {t vt : TypeId} {g : Nat} {k : κ} {z : Value} (ht : P.underlying t = some (.map kt vt)) (hz : (P.info? vt).bind (·.zero) = some z) (hm : MapOk enc ok es clock m) (hk : ok k) {w : World} (hg : w.heap[g]? = some (.map es clock)) (c : Bool) :
  (Instr.lookup t (.map (some g)) (enc k) c).run P w = .ok (if c then .tuple #[(mlook m k).getD z, .bool (mlook m k).isSome] else (mlook m k).getD z) w := by
 obtain ⟨l, hl⟩ := KE.lit k hk
 have hck := fun em => KE.keyed.check w em hl
 rcases find_cases KE hm hk w with ⟨h1, h2⟩ | ⟨j, e, h1, _, _, _, h2⟩
 ·simp only [Instr.lookup, Sem.run_bind, run_underlying_ok ht, Result.andThen_ok, getObj_map hg, Sem.run_pure, hck, h1, run_zeroV hz, h2]
  cases c <;> rfl
 ·simp only [Instr.lookup, Sem.run_bind, run_underlying_ok ht, Result.andThen_ok, getObj_map hg, Sem.run_pure, hck, h1, h2]
  cases c <;> rfl
theorem qs_lookup (KE : KeyE P kt enc ok) {t vt : TypeId} {x y : Operand} {g : Nat} {key : κ} {z : Value} (k : Nat) (ht : P.underlying t = some (.map kt vt)) (hz : (P.info? vt).bind (·.zero) = some z) (hx : ev env x = .map (some g)) (hy : ev env y = enc key) (hk : S[k]? = some [(g, .map es clock)]) (hm : MapOk enc ok es clock m) (hok : ok key) :
  QS P (O (.lookup t x y false) ty) env b S ((mlook m key).getD z) := qs_val fun w hw => by
 simp only [O, execOp, hx, hy, Sem.run_bind, run_lookup_ok KE ht hz hm hok (hw.map_at hk) false, Result.andThen_ok, Sem.run_pure]
 rfl
theorem qs_lookup2 (KE : KeyE P kt enc ok) {t vt : TypeId} {x y : Operand} {g : Nat} {key : κ} {z : Value} (k : Nat) (ht : P.underlying t = some (.map kt vt)) (hz : (P.info? vt).bind (·.zero) = some z) (hx : ev env x = .map (some g)) (hy : ev env y = enc key) (hk : S[k]? = some [(g, .map es clock)]) (hm : MapOk enc ok es clock m) (hok : ok key) :
  QS P (O (.lookup t x y true) ty) env b S (.tuple #[(mlook m key).getD z, .bool (mlook m key).isSome]) := qs_val fun w hw => by
 simp only [O, execOp, hx, hy, Sem.run_bind, run_lookup_ok KE ht hz hm hok (hw.map_at hk) true, Result.andThen_ok, Sem.run_pure]
 rfl
theorem sig_setmap {w : World} (hw : Sig b S w) {k g : Nat} (hk : S[k]? = some [(g, .map es clock)]) (o : Obj) : Sig b (S.set k [(g, o)]) { w with heap := w.heap.setIfInBounds g o } := by
 have hg := hw.map_at hk
 have hlt := lt_of_get hg
 exact hw.set hk rfl rfl rfl (by simp) (by simp [hlt]) fun j hj => by simp [Ne.symm hj]
theorem j_mapset (KE : KeyE P kt enc ok) {t vt : TypeId} {x y z : Operand} {g : Nat} {key : κ} {val : Value} (k : Nat) (ht : P.underlying t = some (.map kt vt)) (hx : ev env x = .map (some g)) (hy : ev env y = enc key) (hv : ev env z = val) (hk : S[k]? = some [(g, .map es clock)]) (hm : MapOk enc ok es clock m) (hok : ok key)
  (h : ∀ es' clock', MapOk enc ok es' clock' (mset m key val) → J P R T (undef :: env) (S.set k [(g, .map es' clock')]) b B) : J P R (.op (O (.mapUpdate t x y z) ty) T) env S b B := fun w hw => by
 have hg := hw.map_at hk
 obtain ⟨l, hl⟩ := KE.lit key hok
 have hck := fun em => KE.keyed.check w em hl
 show opW _ _ _ _ _ _
 unfold opW
 rcases find_cases KE hm hok w with ⟨h1, h2⟩ | ⟨j, e, h1, h3, h4, h5, h2⟩
 ·have hrun : (execOp (ev env) (O (.mapUpdate t x y z) ty)).run P w = .ok .skip { w with heap := w.heap.setIfInBounds g (.map (es.push ⟨enc key, val, clock⟩) (clock + 1)) } := by
   simp only [O, execOp, hx, hy, hv, Instr.mapUpdate, Sem.run_bind, run_underlying_ok ht, Result.andThen_ok, getObj_map hg, hck, h1, setObj_map _ hg, Sem.run_pure]
  rw [hrun]
  refine h _ _ ?_ _ (sig_setmap hw hk _)
  unfold mset
  rw [h2]
  exact hm.push KE.inj hok h2 val
 ·have hst : (Instr.keyThatStays (((es[j]?).map (·.key)).getD (enc key)) (enc key)).run P w = .ok (enc key) w := by
   rw [h3, Option.map_some, Option.getD_some, h4]
   exact KE.keyed.stays w hl
  have hrun : (execOp (ev env) (O (.mapUpdate t x y z) ty)).run P w = .ok .skip { w with heap := w.heap.setIfInBounds g (.map (es.modify j fun e => { e with key := enc key, val := val }) clock) } := by
   simp only [O, execOp, hx, hy, hv, Instr.mapUpdate, Sem.run_bind, run_underlying_ok ht, Result.andThen_ok, getObj_map hg, hck, h1, hst, setObj_map _ hg, Sem.run_pure]
  rw [hrun]
  refine h _ _ ?_ _ (sig_setmap hw hk _)
  unfold mset
  rw [h2]
  exact hm.modify h3 h4 h5 val _ (by rw [← h4])
end
theorem str_key {kt : TypeId} (hk : P.underlying kt = some .string) : KeyE P kt (fun l : List UInt8 => Value.string (bs l)) (fun l => l.length ≤ 9223372036854775807) :=
 ⟨string_keyed hk, fun a b h => by injection h with h; exact bs_inj h, fun l hl => ⟨.string l, by
  have : (bs l).size ≤ maxLen := hl
  simp [keyOf, hk, mapKey, this, bs_data]⟩⟩
end Go.Sx
/-! Sx15 -/
namespace Go.Sx
open Go Go.MapKept Go.WideMaps Go.Maps
set_option linter.unusedVariables false
set_option linter.unusedSimpArgs false
variable {P : Program} {R : Ending → World → Prop} {env : Env} {b : Base} {S : List SH} {B : JB} {T : Tree} {v : Value} {ty : TypeId}
theorem eqItems_ints {e : TypeId} (he : P.underlying e = some (.int .u8)) (hpl : P.plainKey e = true) {l m : List UInt8} (w : World) (d : Nat) : ∀ (is : List Nat), (∀ i ∈ is, i < l.length ∧ i < m.length) →
  (Op.eqItems (d + 1) e 1 (ints l).toArray (ints m).toArray is).run P w = .ok (is.all fun i => l.getD i 0 == m.getD i 0) w
 | [], _ => by simp [Op.eqItems]
 | i :: is, h => by
  have h0 := h i (by simp)
  have p1 := run_part_plain (w := w) hpl (xs := (ints l).toArray) (off := i) (v := .int .u8 ((l.getD i 0).toNat : Int)) (by simpa using ints_get_lt h0.1)
  have p2 := run_part_plain (w := w) hpl (xs := (ints m).toArray) (off := i) (v := .int .u8 ((m.getD i 0).toNat : Int)) (by simpa using ints_get_lt h0.2)
  have p3 : (Op.equalIn (d + 1) e (.int .u8 ((l.getD i 0).toNat : Int)) (.int .u8 ((m.getD i 0).toNat : Int))).run P w = .ok (((l.getD i 0).toNat : Int) == ((m.getD i 0).toNat : Int)) w := by
   simp only [Op.equalIn, Sem.run_bind, run_underlying_ok he, Result.andThen_ok, if_true, Sem.run_pure]
  have hcmp : (((l.getD i 0).toNat : Int) == ((m.getD i 0).toNat : Int)) = (l.getD i 0 == m.getD i 0) := by
   rw [Bool.eq_iff_iff, beq_iff_eq, beq_iff_eq]
   exact ⟨fun h => UInt8.toNat_inj.1 (by omega), fun h => by rw [h]⟩
  have ih := eqItems_ints he hpl (l := l) (m := m) w d is fun j hj => h j (by simp [hj])
  simp only [Op.eqItems, Nat.mul_one, Sem.run_bind, p1, p2, p3, Result.andThen_ok, hcmp, List.all_cons]
  cases hb : (l.getD i 0 == m.getD i 0)
  ·simp
  ·simpa using ih
theorem run_eqa {t e : TypeId} {n : Nat} (ht : P.underlying t = some (.array n e)) (he : P.underlying e = some (.int .u8)) (hpl : P.plainKey e = true) (hc : P.cellsOf e = 1) {l m : List UInt8} (hl : l.length = n) (hm : m.length = n) (w : World) (d : Nat) :
  (Op.equalIn (d + 2) t (.agg (ints l).toArray) (.agg (ints m).toArray)).run P w = .ok (l == m) w := by
 obtain ⟨i, hi⟩ := info_of_underlying he
 rw [run_equalIn_array w (d + 1) _ _ ht hi, hc, eqItems_ints he hpl w d _ (fun i hi => by rw [List.mem_range] at hi; omega)]
 congr 1
 rw [Bool.eq_iff_iff, List.all_eq_true, beq_iff_eq]
 constructor
 ·intro h
  apply List.ext_getElem (by omega)
  intro i h1 h2
  have := h i (by rw [List.mem_range]; omega)
  rw [beq_iff_eq, List.getD_eq_getElem?_getD, List.getD_eq_getElem?_getD, List.getElem?_eq_getElem h1, List.getElem?_eq_getElem h2] at this
  simpa using this
 ·rintro rfl i _
  simp
theorem run_eqa_op {op : BinOp} {t t' e : TypeId} {x y : Operand} {n : Nat} (hop : op = .eql ∨ op = .neq) (ht : P.underlying t = some (.array n e)) (he : P.underlying e = some (.int .u8)) (hpl : P.plainKey e = true) (hc : P.cellsOf e = 1) (hgd : P.eqGuardType P.depth t = false) {l m : List UInt8} (hx : ev env x = .agg (ints l).toArray) (hy : ev env y = .agg (ints m).toArray) (hl : l.length = n) (hm : m.length = n) (w : World) :
  (execOp (ev env) (O (.binOp op t x y t') ty)).run P w = .ok (.value (.bool (if op = .eql then l == m else !(l == m)))) w := by
 have hg : ∀ w, (eqGuard op t x y (.agg (ints l).toArray) (.agg (ints m).toArray)).run P w = .ok () w := fun w => by
  unfold eqGuard
  rcases hop with rfl | rfl <;> simp [Sem.run_bind, program, Sem.run, hgd]
 have he' : (Op.equal t (.agg (ints l).toArray) (.agg (ints m).toArray)).run P w = .ok (l == m) w := run_eqa ht he hpl hc hl hm w 9998
 have hb : binOp op t (.agg (ints l).toArray) (.agg (ints m).toArray) = (match op with | .eql => (do pure (.bool (← Op.equal t (.agg (ints l).toArray) (.agg (ints m).toArray)))) | _ => (do pure (.bool (!(← Op.equal t (.agg (ints l).toArray) (.agg (ints m).toArray)))))) := by
  rcases hop with rfl | rfl <;> rfl
 simp only [O, execOp, hx, hy, hg, Sem.run_bind, Sem.run_pure, Result.andThen_ok]
 rw [hb]
 rcases hop with rfl | rfl <;> simp [Sem.run_bind, he', Sem.run_pure, Result.andThen_ok]
theorem qs_aeq {t t' e : TypeId} {x y : Operand} {n : Nat} (ht : P.underlying t = some (.array n e)) (he : P.underlying e = some (.int .u8)) (hpl : P.plainKey e = true) (hc : P.cellsOf e = 1) (hgd : P.eqGuardType P.depth t = false) {l m : List UInt8} (hx : ev env x = .agg (ints l).toArray) (hy : ev env y = .agg (ints m).toArray) (hl : l.length = n) (hm : m.length = n) :
  QS P (O (.binOp .eql t x y t') ty) env b S (.bool (l == m)) := qs_run fun w => run_eqa_op (.inl rfl) ht he hpl hc hgd hx hy hl hm w
theorem qs_ane {t t' e : TypeId} {x y : Operand} {n : Nat} (ht : P.underlying t = some (.array n e)) (he : P.underlying e = some (.int .u8)) (hpl : P.plainKey e = true) (hc : P.cellsOf e = 1) (hgd : P.eqGuardType P.depth t = false) {l m : List UInt8} (hx : ev env x = .agg (ints l).toArray) (hy : ev env y = .agg (ints m).toArray) (hl : l.length = n) (hm : m.length = n) :
  QS P (O (.binOp .neq t x y t') ty) env b S (.bool (!(l == m))) := qs_run fun w => run_eqa_op (.inr rfl) ht he hpl hc hgd hx hy hl hm w
theorem qs_loadwR {t : TypeId} {d : TypeDesc} {x : Operand} {g off n : Nat} {vs : List Value} (hr : Rd b S ⟨g, off, none⟩ vs) (hu : P.underlying t = some d) (hd : flat d = false) (hz : (P.info? t).map (·.size) = some n) (hx : ev env x = .pointer (some ⟨g, off, none⟩)) (hl : vs.length = n) : QS P (O (.load t x) ty) env b S (.agg vs.toArray) := qs_val fun w hw => by
 have h := run_loadVar_agg hu hd hz (g := g) (off := off) (w := w) hl (fun j hj => by
  obtain ⟨u, hu⟩ : ∃ u, vs[j]? = some u := ⟨vs[j]'(by omega), List.getElem?_eq_getElem (by omega)⟩
  have := hr w hw j u hu
  rw [add_off] at this
  rw [this, hu])
 simp only [O, execOp, hx, Instr.loadAt, Instr.sureAddr, Sem.run_bind, Sem.run_pure, Result.andThen_ok, h]
theorem run_firstsN {m n : Nat} {y : Value} {news : List Value} (h : Src b S 1 y m news) (hn : n ≤ m) {w : World} (hw : Sig b S w) : (Builtin.firstCells 1 n y).run P w = .ok (news.take n).toArray w := by
 rcases h with ⟨a, c, rfl, hr, hl⟩ | ⟨c, rfl, rfl, rfl⟩ | ⟨l, rfl, _, rfl, rfl⟩
 ·refine run_firstCells_some w 1 n a m c (news.take n) (by rw [List.length_take, hl]; omega) (fun j u hu => ?_)
  rw [List.getElem?_take] at hu
  split at hu
  ·exact hr w hw j u hu
  ·cases hu
 ·obtain rfl : n = 0 := by omega
  simp only [Builtin.firstCells, Sem.run_pure, List.take_nil]
 ·simp only [Builtin.firstCells, Sem.run_pure, bs_extract]
  congr 1
  apply Array.ext'
  simp [ints, bs]
theorem j_copy {t t' e : TypeId} {x y : Operand} {g off dn dc m : Nat} {l news : List Value} {e' : TypeId} {fz : Nat × Nat} (k : Nat) (ht : P.underlying t = some (.slice e)) (hz : (P.info? e).map (·.size) = some 1) (hx : ev env x = .slice (some ⟨g, off, none⟩) dn dc) (hy : Src b S 1 (ev env y) m news) (hk : S[k]? = some [(g, .cells l.toArray e' fz)])
  (hone : ∀ u ∈ news, oneV u = true) (hi : off + dn ≤ l.length) (hf : ∀ j, off ≤ j → j < off + dn → ¬ (fz.1 ≤ j ∧ j < fz.2))
  (h : J P R T (.int .i64 (min m dn : Nat) :: env) (S.set k [(g, .cells (l.take off ++ news.take (min m dn) ++ l.drop (off + min m dn)).toArray e' fz)]) b B) :
  J P R (.op (O (.call ⟨.builtin .copy, #[x, y], #[t, t']⟩) ty) T) env S b B := fun w hw => by
 have hg := hw.at_ hk
 have hml := src_len hy
 rw [Nat.mul_one] at hml
 have hsize : ∀ w, (sizeOf e).run P w = .ok 1 w := run_sizeOf_ok hz
 have hlen : (news.take (min m dn)).length = min m dn := by rw [List.length_take]; omega
 obtain ⟨w', e1, e2, e3, e4, e5, e6, e7⟩ := run_storeCells_ok (P := P) (news.take (min m dn)) off 0 l w hg (by rw [hlen]; omega) (fun j h1 h2 => hf j (by omega) (by rw [hlen] at h2; omega)) (fun v hv => hone v (List.mem_of_mem_take hv))
 have hfc := run_firstsN (P := P) (n := min m dn) hy (by omega) hw
 have hmin : Nat.min m dn = min m dn := rfl
 have hrun : (execOp (ev env) (O (.call ⟨.builtin .copy, #[x, y], #[t, t']⟩) ty)).run P w = .ok (.value (.int .i64 (min m dn : Nat))) w' := by
  simp [O, execOp, resolve, invoke, builtin, Sem.run_bind, Sem.run_pure, Result.andThen_ok, hx, Builtin.copy_, run_underlying_ok ht, run_lenOf hy, hsize, hmin, hfc]
  simp only [e1, Result.andThen_ok]
  rfl
 show opW _ _ _ _ _ _
 unfold opW
 rw [hrun]
 refine h _ (hw.set hk e2 e3 e4 e5 ?_ e7)
 rw [e6, hlen]
 simp
def putAt (l : List Value) (off : Nat) (vs : List Value) : List Value := l.take off ++ vs ++ l.drop (off + vs.length)
theorem putAt_length {l vs : List Value} {off : Nat} (h : off + vs.length ≤ l.length) : (putAt l off vs).length = l.length := by
 simp only [putAt, List.length_append, List.length_take, List.length_drop]; omega
theorem fold_put : ∀ (vs : List Value) (i off : Nat) (l : List Value), off + i + vs.length ≤ l.length →
  (vs.zipIdx i).foldl (fun cs (p : Value × Nat) => Array.setIfInBounds cs (off + p.2) p.1) l.toArray = (putAt l (off + i) vs).toArray
 | [], i, off, l, _ => by simp [putAt]
 | v :: vs, i, off, l, h => by
  simp only [List.length_cons] at h
  rw [List.zipIdx_cons, List.foldl_cons]
  have e1 : Array.setIfInBounds l.toArray (off + i) v = (l.set (off + i) v).toArray := by apply Array.ext'; simp
  simp only [e1]
  rw [fold_put vs (i + 1) off (l.set (off + i) v) (by simp; omega)]
  congr 1
  unfold putAt
  rw [show off + (i + 1) = off + i + 1 by omega, take_set_succ (by omega), List.drop_set_of_lt (by omega)]
  simp only [List.length_cons, List.append_assoc, List.singleton_append]
  congr 3
  omega
theorem fill_put {place : Nat → Option (Nat × Nat)} : ∀ (parts : List (Nat × Value)) (offs : List (Nat × List Value)) (l : List Value), offs.length = parts.length → (∀ (j : Nat) (p : Nat × Value) (q : Nat × List Value), parts[j]? = some p → offs[j]? = some q → place p.1 = some (q.1, q.2.length) ∧ p.2.cells = q.2.toArray ∧ q.1 + q.2.length ≤ l.length) →
  Instr.fill place l.toArray parts = some (offs.foldl (fun l q => putAt l q.1 q.2) l).toArray
 | [], [], l, _, _ => by simp [Instr.fill]
 | p :: parts, q :: offs, l, hl, h => by
  obtain ⟨h1, h2, h3⟩ := h 0 p q rfl rfl
  obtain ⟨i, v⟩ := p
  simp only at h1 h2
  unfold Instr.fill
  simp only [h1, h2, List.size_toArray, ne_eq, not_true_eq_false, decide_false, Bool.false_or]
  rw [if_neg (by simp; omega)]
  have e1 : (q.2.toArray.zipIdx.foldl (fun cs x => match x with | (c, j) => Array.setIfInBounds cs (q.1 + j) c) l.toArray) = (putAt l q.1 q.2).toArray := by
   have := fold_put q.2 0 q.1 l (by simpa using h3)
   rw [Nat.add_zero] at this
   rw [← this, ← Array.foldl_toList, Array.toList_zipIdx]
  rw [e1]
  have hl2 := putAt_length h3
  refine fill_put parts offs (putAt l q.1 q.2) (by simpa using hl) fun j p' q' hp hq => ?_
  rw [hl2]
  exact h (j + 1) p' q' hp hq
 | [], _ :: _, _, hl, _ => by simp at hl
 | _ :: _, [], _, hl, _ => by simp at hl
theorem qs_build {t : TypeId} {fs : Array Field} {parts : Array (Nat × Operand)} {places : List (Nat × Nat)} {offs : List (Nat × List Value)} {z : List Value} (ht : P.underlying t = some (.struct fs)) (h0 : zeroL P t = some z) (hpl : fs.toList.mapM (fun f => (P.info? f.type).map fun i => (f.offset, i.size)) = some places)
  (hlen : offs.length = parts.toList.length) (h : ∀ (j : Nat) (p : Nat × Operand) (q : Nat × List Value), parts.toList[j]? = some p → offs[j]? = some q → places[p.1]? = some (q.1, q.2.length) ∧ (ev env p.2).cells = q.2.toArray ∧ q.1 + q.2.length ≤ z.length) :
  QS P (O (.build t parts) ty) env b S (.agg (offs.foldl (fun l q => putAt l q.1 q.2) z).toArray) := qs_run fun w => by
 obtain ⟨zv, hzv, hrunz⟩ := run_zero_ok h0
 have hm : ∀ (l : List Field) (pl : List (Nat × Nat)), l.mapM (fun f => (P.info? f.type).map fun i => (f.offset, i.size)) = some pl → (l.mapM (fun f => do pure (f.offset, ← sizeOf f.type) : Field → Sem (Nat × Nat))).run P w = .ok pl w := by
  intro l
  induction l with
  | nil => intro pl h; simp at h; subst h; rfl
  | cons f l ih =>
   intro pl h
   rw [List.mapM_cons] at h ⊢
   simp only [bind, Option.bind_eq_some_iff, pure, Option.some.injEq] at h
   obtain ⟨a, ha, l', hl', rfl⟩ := h
   obtain ⟨i, hi, rfl⟩ := Option.map_eq_some_iff.1 ha
   have hs : (sizeOf f.type).run P w = .ok i.size w := run_sizeOf_ok (by rw [hi]; rfl) w
   simp only [Sem.run_bind, hs, Result.andThen_ok, Sem.run_pure, ih l' hl']
 have hfill := fill_put (place := (places.toArray[·]?)) (parts.toList.map fun p => (p.1, ev env p.2)) offs z (by simpa using hlen) fun j p q hp hq => by
  rw [List.getElem?_map] at hp
  obtain ⟨p', hp', rfl⟩ := Option.map_eq_some_iff.1 hp
  obtain ⟨h1, h2, h3⟩ := h j p' q hp' hq
  exact ⟨by simpa using h1, h2, h3⟩
 have hmA : (fs.mapM (fun f => do pure (f.offset, ← sizeOf f.type) : Field → Sem (Nat × Nat))).run P w = .ok places.toArray w := by
  have e : fs.mapM (fun f => do pure (f.offset, ← sizeOf f.type) : Field → Sem (Nat × Nat)) = List.toArray <$> fs.toList.mapM (fun f => do pure (f.offset, ← sizeOf f.type) : Field → Sem (Nat × Nat)) := by rw [← List.mapM_toArray, Array.toArray_toList]
  rw [e, map_eq_pure_bind, Sem.run_bind, hm _ _ hpl]
  rfl
 have hparts : (parts.map fun x => match x with | (i, x) => (i, ev env x)).toList = parts.toList.map fun p => (p.1, ev env p.2) := by simp
 simp only [O, execOp, Instr.build, Sem.run_bind, hrunz, Result.andThen_ok, run_underlying_ok ht, hmA, hzv, hparts, hfill, Sem.run_pure]
theorem Con.mono {f : FuncId} {args : List Value} {w : World} {Fp : SH} {post post' : Value → List SH → Prop} (h : Con P f args w Fp post) (hp : ∀ v S', post v S' → post' v S') : Con P f args w Fp post' := fun h1 h2 => by
 refine (h h1 h2).mono ?_
 rintro e w' ⟨v, S', rfl, h3, hS⟩
 exact ⟨v, S', rfl, hp _ _ h3, hS⟩
theorem con_calls {f : FuncId} {args : List Value} {w : World} {post : Value → List SH → Prop} (h : Calls P f args.toArray w fun e w' => ∃ v S', e = .returned v ∧ post v S' ∧ Sig ⟨w, dom []⟩ S' w') : Con P f args w [] post := fun _ _ => h
end Go.Sx
