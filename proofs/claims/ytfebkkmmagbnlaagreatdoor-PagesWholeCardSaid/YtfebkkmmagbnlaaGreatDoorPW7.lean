/- Part 7. -/
import Derived.Test.YtfebkkmmagbnlaaGreatDoorPW3
import Derived.Test.YtfebkkmmagbnlaaGreatDoorPW4
import Derived.Test.YtfebkkmmagbnlaaGreatDoorPW6
import Derived.Test.YtfebkkmmagbnlaaGreatDoorPW5
import Derived.Tactics
import Derived.Tactics2
import Derived.Defers
import Derived.Recover
import Derived.Laws.Pointers
import Derived.RegionTactic
import Derived.RegionCalls
import Derived.ChangeAlike
import Derived.Laws.LoneSync
/-! Sha2 -/
namespace Go.Proofs.YtfebkkmmagbnlaaGreatDoor
open Go Go.Sx
set_option maxRecDepth 100000
set_option maxHeartbeats 4000000
set_option linter.unusedVariables false
set_option linter.unusedSimpArgs false
attribute [local irreducible] J JQ QS Con W opW
theorem add_block (a : Addr) (n : Nat) : (a.add n).block = a.block := by unfold Addr.add; split <;> rfl
theorem add_add (a : Addr) (n j : Nat) : (a.add n).add j = a.add (n + j) := by
 obtain ⟨g, o, sp⟩ := a
 unfold Addr.add
 by_cases h1 : n = 0
 ·subst h1; simp
 ·by_cases h2 : j = 0
  ·subst h2; simp
  ·have h3 : n + j ≠ 0 := by omega
   simp [h1, h2, h3, Nat.add_assoc]
theorem cells_drop {w : World} {a : Addr} {vs : List Value} (h : Cells w a vs) (n : Nat) : Cells w (a.add n) (vs.drop n) := fun j u hu => by
 rw [add_add]
 exact h _ _ (by rwa [List.getElem?_drop] at hu)
theorem cells_take {w : World} {a : Addr} {vs : List Value} (h : Cells w a vs) (n : Nat) : Cells w a (vs.take n) := fun j u hu => by
 rw [List.getElem?_take] at hu
 split at hu
 ·exact h _ _ hu
 ·cases hu
theorem ints_drop (l : List UInt8) (n : Nat) : (ints l).drop n = ints (l.drop n) := by simp [ints, List.map_drop]
theorem ints_take (l : List UInt8) (n : Nat) : (ints l).take n = ints (l.take n) := by simp [ints, List.map_take]
theorem back_le {n i : Nat} (h : i < n) : n - (i + 1) < n - i := by omega
theorem take_con (s : List Int) (p : List UInt8) (a : Addr) (c gs : Nat) (e : TypeId) (w : World) (hs : s.length = 8) (hpm : p.length ≤ 140737488355328) (hc : p.length ≤ c) (hpc : Cells w a (ints p)) (hne : p ≠ [] → a.block ≠ gs) : Con Tryz.prog 108 [.pointer (some ⟨gs, 0, none⟩), .slice (some a) p.length c] w [(gs, .cells (ks .u32 s).toArray e (0, 0))] fun v S' => v = .tuple #[] ∧ S' = [[(gs, .cells (ks .u32 (blocks (p.length / 64) p s)).toArray e (0, 0))]] := by
 refine con_of_tree mix Tryz.func108 T108_ok (by kernel_rfl) ?_
 unfold T108
 have hkl : kk64.length = 64 := rfl
 refine j_q (qs_call ent127 rfl rfl rfl (fun w' hw' => numbers_con w')) ?_
 refine j_alloc zero192 (fun g1 hg1 hs1 => ?_)
 first
  | refine j_storew 0 sz192 rfl rfl (by first | rfl | (simp only [ks_length]; first | omega | exact hstl | exact hvl) | simp [ks_length]) ks_one rfl (by first | rfl | (simp only [ks_length]; first | omega | exact hstl | exact hvl) | simp [ks_length]) ?_
  | refine j_storew 1 sz192 rfl rfl (by first | rfl | (simp only [ks_length]; first | omega | exact hstl | exact hvl) | simp [ks_length]) ks_one rfl (by first | rfl | (simp only [ks_length]; first | omega | exact hstl | exact hvl) | simp [ks_length]) ?_
  | refine j_storew 2 sz192 rfl rfl (by first | rfl | (simp only [ks_length]; first | omega | exact hstl | exact hvl) | simp [ks_length]) ks_one rfl (by first | rfl | (simp only [ks_length]; first | omega | exact hstl | exact hvl) | simp [ks_length]) ?_
  | refine j_storew 3 sz192 rfl rfl (by first | rfl | (simp only [ks_length]; first | omega | exact hstl | exact hvl) | simp [ks_length]) ks_one rfl (by first | rfl | (simp only [ks_length]; first | omega | exact hstl | exact hvl) | simp [ks_length]) ?_
 refine j_alloc zero192 (fun g3 hg3 hs3 => ?_)
 refine j_loop (fun m vs S' => ∃ (n : Nat) (q : List UInt8) (a' : Addr) (c' : Nat) (st ws : List Int), vs = [.slice (some a') q.length c'] ∧ S' = [[(g3, .cells (ks .u32 ws).toArray 192 (0, 0))], [(g1, .cells (ks .u32 kk64).toArray 192 (0, 0))], [(gs, .cells (ks .u32 st).toArray e (0, 0))]] ∧ 64 * n ≤ p.length ∧ q = p.drop (64 * n) ∧ q.length ≤ c' ∧ Cells w a' (ints q) ∧ a'.block = a.block ∧ st = blocks n p s ∧ ws.length = 64 ∧ m = p.length - 64 * n) ⟨_, 0, p, a, c, s, _, rfl, rfl, by omega, rfl, hc, hpc, rfl, rfl, by simp, rfl⟩ ?_
 rintro m vs S' hlen ⟨n, q, a', c', st, ws0, rfl, rfl, hn, hq, hqc, hqm, hab, hst, hwl0, rfl⟩
 have hql : q.length = p.length - 64 * n := by rw [hq, List.length_drop]
 have hstl : st.length = 8 := by rw [hst]; exact blocks_length hs
 clear hlen hs1 hs3 hg1 hg3
 refine j_q (qs_lenl U33 rfl) ?_
 refine j_q (qs_geq rfl rfl) ?_
 refine j_cond rfl (fun hc0 => ?_) (fun hc0 => ?_)
 ·skip
  have hq64 : 64 ≤ q.length := by
   simp only [bnA] at *
   omega
  have hpne : p ≠ [] := by
   intro h0
   have := congrArg List.length h0
   simp only [List.length_nil] at this
   omega
  refine j_q (qs_mc) ?_
  refine j_loop (fun m vs S' => ∃ (i : Nat) (ws : List Int), vs = [.int .i64 i] ∧ S' = [[(g3, .cells (ks .u32 ws).toArray 192 (0, 0))], [(g1, .cells (ks .u32 kk64).toArray 192 (0, 0))], [(gs, .cells (ks .u32 st).toArray e (0, 0))]] ∧ i ≤ 16 ∧ ws.length = 64 ∧ m = 16 - i ∧ ws.take i = sched q i) ⟨_, 0, _, rfl, rfl, by omega, hwl0, rfl, rfl⟩ ?_
  rintro m vs S' hlen ⟨i, ws, rfl, rfl, hi, hwl, rfl, hws⟩
  clear hlen
  refine j_q (qs_lss rfl rfl) ?_
  refine j_cond rfl (fun hc1 => ?_) (fun hc1 => ?_)
  ·skip
   have hi1 : i < 16 := by
    simp only [bnA] at *
    omega
   refine j_draw ?_
   refine jq_q (qs_mul64 rfl rfl (by first | omega | (simp only [bnA] at *; omega))) ?_
   first
    | refine jq_q (qs_ixg U33 sz5 rfl rfl ⟨(by first | omega | (simp only [bnA] at *; omega)), (by first | omega | (simp only [bnA] at *; omega))⟩) ?_
    | refine jq_q (qs_ixl0 U33 sz5 rfl rfl ⟨(by first | omega | (simp only [bnA] at *; omega)), (by first | omega | (simp only [bnA] at *; omega))⟩) ?_
   first
    | refine jq_q (qs_loadr8 (rd_cells hqm (by rw [hab]; simpa using hne hpne)) U5 rfl (by first | omega | (simp only [bnA] at *; omega))) ?_
    | refine jq_q (qs_loadk 0 U5 rfl rfl (by first | omega | (simp only [bnA] at *; omega))) ?_
    | refine jq_q (qs_loadk 1 U5 rfl rfl (by first | omega | (simp only [bnA] at *; omega))) ?_
    | refine jq_q (qs_loadk 2 U5 rfl rfl (by first | omega | (simp only [bnA] at *; omega))) ?_
    | refine jq_q (qs_loadk 3 U5 rfl rfl (by first | omega | (simp only [bnA] at *; omega))) ?_
    | refine jq_q (qs_loadi 0 U5 rfl rfl (by first | omega | (simp only [bnA] at *; omega))) ?_
    | refine jq_q (qs_loadi 1 U5 rfl rfl (by first | omega | (simp only [bnA] at *; omega))) ?_
    | refine jq_q (qs_loadi 2 U5 rfl rfl (by first | omega | (simp only [bnA] at *; omega))) ?_
    | refine jq_q (qs_loadi 3 U5 rfl rfl (by first | omega | (simp only [bnA] at *; omega))) ?_
    | refine jq_q (qs_load 0 U5 rfl rfl rfl rfl) ?_
    | refine jq_q (qs_load 1 U5 rfl rfl rfl rfl) ?_
    | refine jq_q (qs_load 2 U5 rfl rfl rfl rfl) ?_
    | refine jq_q (qs_load 3 U5 rfl rfl rfl rfl) ?_
   refine jq_q (qs_conv U5 U123 rfl) ?_
   refine jq_q (qs_shl rfl rfl (by first | omega | (simp only [bnA] at *; omega))) ?_
   refine jq_q (qs_mul64 rfl rfl (by first | omega | (simp only [bnA] at *; omega))) ?_
   refine jq_q (qs_add64 rfl rfl (by first | omega | (simp only [bnA] at *; omega))) ?_
   first
    | refine jq_q (qs_ixg U33 sz5 rfl rfl ⟨(by first | omega | (simp only [bnA] at *; omega)), (by first | omega | (simp only [bnA] at *; omega))⟩) ?_
    | refine jq_q (qs_ixl0 U33 sz5 rfl rfl ⟨(by first | omega | (simp only [bnA] at *; omega)), (by first | omega | (simp only [bnA] at *; omega))⟩) ?_
   first
    | refine jq_q (qs_loadr8 (rd_cells hqm (by rw [hab]; simpa using hne hpne)) U5 rfl (by first | omega | (simp only [bnA] at *; omega))) ?_
    | refine jq_q (qs_loadk 0 U5 rfl rfl (by first | omega | (simp only [bnA] at *; omega))) ?_
    | refine jq_q (qs_loadk 1 U5 rfl rfl (by first | omega | (simp only [bnA] at *; omega))) ?_
    | refine jq_q (qs_loadk 2 U5 rfl rfl (by first | omega | (simp only [bnA] at *; omega))) ?_
    | refine jq_q (qs_loadk 3 U5 rfl rfl (by first | omega | (simp only [bnA] at *; omega))) ?_
    | refine jq_q (qs_loadi 0 U5 rfl rfl (by first | omega | (simp only [bnA] at *; omega))) ?_
    | refine jq_q (qs_loadi 1 U5 rfl rfl (by first | omega | (simp only [bnA] at *; omega))) ?_
    | refine jq_q (qs_loadi 2 U5 rfl rfl (by first | omega | (simp only [bnA] at *; omega))) ?_
    | refine jq_q (qs_loadi 3 U5 rfl rfl (by first | omega | (simp only [bnA] at *; omega))) ?_
    | refine jq_q (qs_load 0 U5 rfl rfl rfl rfl) ?_
    | refine jq_q (qs_load 1 U5 rfl rfl rfl rfl) ?_
    | refine jq_q (qs_load 2 U5 rfl rfl rfl rfl) ?_
    | refine jq_q (qs_load 3 U5 rfl rfl rfl rfl) ?_
   refine jq_q (qs_conv U5 U123 rfl) ?_
   refine jq_q (qs_shl rfl rfl (by first | omega | (simp only [bnA] at *; omega))) ?_
   refine jq_q (qs_or_ rfl rfl) ?_
   refine jq_q (qs_mul64 rfl rfl (by first | omega | (simp only [bnA] at *; omega))) ?_
   refine jq_q (qs_add64 rfl rfl (by first | omega | (simp only [bnA] at *; omega))) ?_
   first
    | refine jq_q (qs_ixg U33 sz5 rfl rfl ⟨(by first | omega | (simp only [bnA] at *; omega)), (by first | omega | (simp only [bnA] at *; omega))⟩) ?_
    | refine jq_q (qs_ixl0 U33 sz5 rfl rfl ⟨(by first | omega | (simp only [bnA] at *; omega)), (by first | omega | (simp only [bnA] at *; omega))⟩) ?_
   first
    | refine jq_q (qs_loadr8 (rd_cells hqm (by rw [hab]; simpa using hne hpne)) U5 rfl (by first | omega | (simp only [bnA] at *; omega))) ?_
    | refine jq_q (qs_loadk 0 U5 rfl rfl (by first | omega | (simp only [bnA] at *; omega))) ?_
    | refine jq_q (qs_loadk 1 U5 rfl rfl (by first | omega | (simp only [bnA] at *; omega))) ?_
    | refine jq_q (qs_loadk 2 U5 rfl rfl (by first | omega | (simp only [bnA] at *; omega))) ?_
    | refine jq_q (qs_loadk 3 U5 rfl rfl (by first | omega | (simp only [bnA] at *; omega))) ?_
    | refine jq_q (qs_loadi 0 U5 rfl rfl (by first | omega | (simp only [bnA] at *; omega))) ?_
    | refine jq_q (qs_loadi 1 U5 rfl rfl (by first | omega | (simp only [bnA] at *; omega))) ?_
    | refine jq_q (qs_loadi 2 U5 rfl rfl (by first | omega | (simp only [bnA] at *; omega))) ?_
    | refine jq_q (qs_loadi 3 U5 rfl rfl (by first | omega | (simp only [bnA] at *; omega))) ?_
    | refine jq_q (qs_load 0 U5 rfl rfl rfl rfl) ?_
    | refine jq_q (qs_load 1 U5 rfl rfl rfl rfl) ?_
    | refine jq_q (qs_load 2 U5 rfl rfl rfl rfl) ?_
    | refine jq_q (qs_load 3 U5 rfl rfl rfl rfl) ?_
   refine jq_q (qs_conv U5 U123 rfl) ?_
   refine jq_q (qs_shl rfl rfl (by first | omega | (simp only [bnA] at *; omega))) ?_
   refine jq_q (qs_or_ rfl rfl) ?_
   refine jq_q (qs_mul64 rfl rfl (by first | omega | (simp only [bnA] at *; omega))) ?_
   refine jq_q (qs_add64 rfl rfl (by first | omega | (simp only [bnA] at *; omega))) ?_
   first
    | refine jq_q (qs_ixg U33 sz5 rfl rfl ⟨(by first | omega | (simp only [bnA] at *; omega)), (by first | omega | (simp only [bnA] at *; omega))⟩) ?_
    | refine jq_q (qs_ixl0 U33 sz5 rfl rfl ⟨(by first | omega | (simp only [bnA] at *; omega)), (by first | omega | (simp only [bnA] at *; omega))⟩) ?_
   first
    | refine jq_q (qs_loadr8 (rd_cells hqm (by rw [hab]; simpa using hne hpne)) U5 rfl (by first | omega | (simp only [bnA] at *; omega))) ?_
    | refine jq_q (qs_loadk 0 U5 rfl rfl (by first | omega | (simp only [bnA] at *; omega))) ?_
    | refine jq_q (qs_loadk 1 U5 rfl rfl (by first | omega | (simp only [bnA] at *; omega))) ?_
    | refine jq_q (qs_loadk 2 U5 rfl rfl (by first | omega | (simp only [bnA] at *; omega))) ?_
    | refine jq_q (qs_loadk 3 U5 rfl rfl (by first | omega | (simp only [bnA] at *; omega))) ?_
    | refine jq_q (qs_loadi 0 U5 rfl rfl (by first | omega | (simp only [bnA] at *; omega))) ?_
    | refine jq_q (qs_loadi 1 U5 rfl rfl (by first | omega | (simp only [bnA] at *; omega))) ?_
    | refine jq_q (qs_loadi 2 U5 rfl rfl (by first | omega | (simp only [bnA] at *; omega))) ?_
    | refine jq_q (qs_loadi 3 U5 rfl rfl (by first | omega | (simp only [bnA] at *; omega))) ?_
    | refine jq_q (qs_load 0 U5 rfl rfl rfl rfl) ?_
    | refine jq_q (qs_load 1 U5 rfl rfl rfl rfl) ?_
    | refine jq_q (qs_load 2 U5 rfl rfl rfl rfl) ?_
    | refine jq_q (qs_load 3 U5 rfl rfl rfl rfl) ?_
   refine jq_q (qs_conv U5 U123 rfl) ?_
   refine jq_q (qs_or_ rfl rfl) ?_
   refine jq_q (qs_ix0 U192 sz123 rfl rfl ⟨(by first | omega | (simp only [bnA] at *; omega)), (by first | omega | (simp only [bnA] at *; omega))⟩) ?_
   refine jq_nil ?_
   first
    | refine j_storek 0 sz123 rfl rfl rfl (by first | omega | (simp only [bnA] at *; omega)) ?_
    | refine j_storek 1 sz123 rfl rfl rfl (by first | omega | (simp only [bnA] at *; omega)) ?_
    | refine j_storek 2 sz123 rfl rfl rfl (by first | omega | (simp only [bnA] at *; omega)) ?_
    | refine j_storek 3 sz123 rfl rfl rfl (by first | omega | (simp only [bnA] at *; omega)) ?_
    | refine j_store 0 sz123 rfl rfl rfl rfl (by simp) (by first | omega | (simp only [bnA] at *; omega)) ?_
    | refine j_store 1 sz123 rfl rfl rfl rfl (by simp) (by first | omega | (simp only [bnA] at *; omega)) ?_
    | refine j_store 2 sz123 rfl rfl rfl rfl (by simp) (by first | omega | (simp only [bnA] at *; omega)) ?_
    | refine j_store 3 sz123 rfl rfl rfl rfl (by simp) (by first | omega | (simp only [bnA] at *; omega)) ?_
   refine j_q (qs_add64 rfl rfl (by first | omega | (simp only [bnA] at *; omega))) ?_
   refine j_back rfl ?_
   exact ⟨_, back_le hi1, i + 1, _, rfl, rfl, by omega, by simpa using hwl, rfl, sched_word hws hi1 (by omega)⟩
  ·skip
   have hi1 : i = 16 := by
    simp only [bnA] at *
    omega
   subst hi1
   refine j_q (qs_ac) ?_
   refine j_loop (fun m vs S' => ∃ (i : Nat) (ws : List Int), vs = [.int .i64 i] ∧ S' = [[(g3, .cells (ks .u32 ws).toArray 192 (0, 0))], [(g1, .cells (ks .u32 kk64).toArray 192 (0, 0))], [(gs, .cells (ks .u32 st).toArray e (0, 0))]] ∧ 16 ≤ i ∧ i ≤ 64 ∧ ws.length = 64 ∧ m = 64 - i ∧ ws.take i = sched q i) ⟨_, 16, _, rfl, rfl, by omega, by omega, hwl, rfl, hws⟩ ?_
   rintro m vs S' hlen ⟨i, ws, rfl, rfl, hi0, hi, hwl, rfl, hws⟩
   clear hlen
   refine j_q (qs_lss rfl rfl) ?_
   refine j_cond rfl (fun hc2 => ?_) (fun hc2 => ?_)
   ·skip
    have hi1 : i < 64 := by
     simp only [bnA] at *
     omega
    refine j_draw ?_
    refine jq_q (qs_sub64 rfl rfl (by first | omega | (simp only [bnA] at *; omega))) ?_
    refine jq_q (qs_ix0 U192 sz123 rfl rfl ⟨(by first | omega | (simp only [bnA] at *; omega)), (by first | omega | (simp only [bnA] at *; omega))⟩) ?_
    first
     | refine jq_q (qs_loadr8 (rd_cells hqm (by rw [hab]; simpa using hne hpne)) U123 rfl (by first | omega | (simp only [bnA] at *; omega))) ?_
     | refine jq_q (qs_loadk 0 U123 rfl rfl (by first | omega | (simp only [bnA] at *; omega))) ?_
     | refine jq_q (qs_loadk 1 U123 rfl rfl (by first | omega | (simp only [bnA] at *; omega))) ?_
     | refine jq_q (qs_loadk 2 U123 rfl rfl (by first | omega | (simp only [bnA] at *; omega))) ?_
     | refine jq_q (qs_loadk 3 U123 rfl rfl (by first | omega | (simp only [bnA] at *; omega))) ?_
     | refine jq_q (qs_load 0 U123 rfl rfl rfl rfl) ?_
     | refine jq_q (qs_load 1 U123 rfl rfl rfl rfl) ?_
     | refine jq_q (qs_load 2 U123 rfl rfl rfl rfl) ?_
     | refine jq_q (qs_load 3 U123 rfl rfl rfl rfl) ?_
    refine jq_q (qs_sub64 rfl rfl (by first | omega | (simp only [bnA] at *; omega))) ?_
    refine jq_q (qs_ix0 U192 sz123 rfl rfl ⟨(by first | omega | (simp only [bnA] at *; omega)), (by first | omega | (simp only [bnA] at *; omega))⟩) ?_
    first
     | refine jq_q (qs_loadr8 (rd_cells hqm (by rw [hab]; simpa using hne hpne)) U123 rfl (by first | omega | (simp only [bnA] at *; omega))) ?_
     | refine jq_q (qs_loadk 0 U123 rfl rfl (by first | omega | (simp only [bnA] at *; omega))) ?_
     | refine jq_q (qs_loadk 1 U123 rfl rfl (by first | omega | (simp only [bnA] at *; omega))) ?_
     | refine jq_q (qs_loadk 2 U123 rfl rfl (by first | omega | (simp only [bnA] at *; omega))) ?_
     | refine jq_q (qs_loadk 3 U123 rfl rfl (by first | omega | (simp only [bnA] at *; omega))) ?_
     | refine jq_q (qs_load 0 U123 rfl rfl rfl rfl) ?_
     | refine jq_q (qs_load 1 U123 rfl rfl rfl rfl) ?_
     | refine jq_q (qs_load 2 U123 rfl rfl rfl rfl) ?_
     | refine jq_q (qs_load 3 U123 rfl rfl rfl rfl) ?_
    refine jq_nil ?_
    refine j_q (qs_call ent128 rfl rfl rfl (fun w' hw' => turn_con _ _ w' (by decide) (by decide))) ?_
    refine j_q (qs_call ent128 rfl rfl rfl (fun w' hw' => turn_con _ _ w' (by decide) (by decide))) ?_
    refine j_q (qs_xor_ rfl rfl) ?_
    refine j_q (qs_shr rfl rfl (by first | omega | (simp only [bnA] at *; omega))) ?_
    refine j_q (qs_xor_ rfl rfl) ?_
    refine j_q (qs_call ent128 rfl rfl rfl (fun w' hw' => turn_con _ _ w' (by decide) (by decide))) ?_
    refine j_q (qs_call ent128 rfl rfl rfl (fun w' hw' => turn_con _ _ w' (by decide) (by decide))) ?_
    refine j_q (qs_xor_ rfl rfl) ?_
    refine j_q (qs_shr rfl rfl (by first | omega | (simp only [bnA] at *; omega))) ?_
    refine j_q (qs_xor_ rfl rfl) ?_
    refine j_draw ?_
    refine jq_q (qs_sub64 rfl rfl (by first | omega | (simp only [bnA] at *; omega))) ?_
    refine jq_q (qs_ix0 U192 sz123 rfl rfl ⟨(by first | omega | (simp only [bnA] at *; omega)), (by first | omega | (simp only [bnA] at *; omega))⟩) ?_
    first
     | refine jq_q (qs_loadr8 (rd_cells hqm (by rw [hab]; simpa using hne hpne)) U123 rfl (by first | omega | (simp only [bnA] at *; omega))) ?_
     | refine jq_q (qs_loadk 0 U123 rfl rfl (by first | omega | (simp only [bnA] at *; omega))) ?_
     | refine jq_q (qs_loadk 1 U123 rfl rfl (by first | omega | (simp only [bnA] at *; omega))) ?_
     | refine jq_q (qs_loadk 2 U123 rfl rfl (by first | omega | (simp only [bnA] at *; omega))) ?_
     | refine jq_q (qs_loadk 3 U123 rfl rfl (by first | omega | (simp only [bnA] at *; omega))) ?_
     | refine jq_q (qs_load 0 U123 rfl rfl rfl rfl) ?_
     | refine jq_q (qs_load 1 U123 rfl rfl rfl rfl) ?_
     | refine jq_q (qs_load 2 U123 rfl rfl rfl rfl) ?_
     | refine jq_q (qs_load 3 U123 rfl rfl rfl rfl) ?_
    refine jq_q (qs_add rfl rfl) ?_
    refine jq_q (qs_sub64 rfl rfl (by first | omega | (simp only [bnA] at *; omega))) ?_
    refine jq_q (qs_ix0 U192 sz123 rfl rfl ⟨(by first | omega | (simp only [bnA] at *; omega)), (by first | omega | (simp only [bnA] at *; omega))⟩) ?_
    first
     | refine jq_q (qs_loadr8 (rd_cells hqm (by rw [hab]; simpa using hne hpne)) U123 rfl (by first | omega | (simp only [bnA] at *; omega))) ?_
     | refine jq_q (qs_loadk 0 U123 rfl rfl (by first | omega | (simp only [bnA] at *; omega))) ?_
     | refine jq_q (qs_loadk 1 U123 rfl rfl (by first | omega | (simp only [bnA] at *; omega))) ?_
     | refine jq_q (qs_loadk 2 U123 rfl rfl (by first | omega | (simp only [bnA] at *; omega))) ?_
     | refine jq_q (qs_loadk 3 U123 rfl rfl (by first | omega | (simp only [bnA] at *; omega))) ?_
     | refine jq_q (qs_load 0 U123 rfl rfl rfl rfl) ?_
     | refine jq_q (qs_load 1 U123 rfl rfl rfl rfl) ?_
     | refine jq_q (qs_load 2 U123 rfl rfl rfl rfl) ?_
     | refine jq_q (qs_load 3 U123 rfl rfl rfl rfl) ?_
    refine jq_q (qs_add rfl rfl) ?_
    refine jq_q (qs_add rfl rfl) ?_
    refine jq_q (qs_ix0 U192 sz123 rfl rfl ⟨(by first | omega | (simp only [bnA] at *; omega)), (by first | omega | (simp only [bnA] at *; omega))⟩) ?_
    refine jq_nil ?_
    first
     | refine j_storek 0 sz123 rfl rfl rfl (by first | omega | (simp only [bnA] at *; omega)) ?_
     | refine j_storek 1 sz123 rfl rfl rfl (by first | omega | (simp only [bnA] at *; omega)) ?_
     | refine j_storek 2 sz123 rfl rfl rfl (by first | omega | (simp only [bnA] at *; omega)) ?_
     | refine j_storek 3 sz123 rfl rfl rfl (by first | omega | (simp only [bnA] at *; omega)) ?_
     | refine j_store 0 sz123 rfl rfl rfl rfl (by simp) (by first | omega | (simp only [bnA] at *; omega)) ?_
     | refine j_store 1 sz123 rfl rfl rfl rfl (by simp) (by first | omega | (simp only [bnA] at *; omega)) ?_
     | refine j_store 2 sz123 rfl rfl rfl rfl (by simp) (by first | omega | (simp only [bnA] at *; omega)) ?_
     | refine j_store 3 sz123 rfl rfl rfl rfl (by simp) (by first | omega | (simp only [bnA] at *; omega)) ?_
    refine j_q (qs_add64 rfl rfl (by first | omega | (simp only [bnA] at *; omega))) ?_
    refine j_back rfl ?_
    have e15 : ((i : Int) - 15).toNat = i - 15 := by omega
    have e2 : ((i : Int) - 2).toNat = i - 2 := by omega
    have e16 : ((i : Int) - 16).toNat = i - 16 := by omega
    have e7 : ((i : Int) - 7).toNat = i - 7 := by omega
    rw [e15, e2, e16, e7]
    exact ⟨_, back_le hi1, i + 1, _, rfl, rfl, by omega, by omega, by simpa using hwl, rfl, sched_next hws hi0 (by omega)⟩
   ·skip
    have hi1 : i = 64 := by
     simp only [bnA] at *
     omega
    subst hi1
    have hws64 : ws = sched q 64 := by rw [← hws, List.take_of_length_le (by omega)]
    refine j_q (qs_nil rfl) ?_
    first
     | refine j_q (qs_loadw 0 U176 rfl sz176 rfl rfl (by first | rfl | (simp only [ks_length]; first | omega | exact hstl | exact hvl) | simp [ks_length])) ?_
     | refine j_q (qs_loadw 1 U176 rfl sz176 rfl rfl (by first | rfl | (simp only [ks_length]; first | omega | exact hstl | exact hvl) | simp [ks_length])) ?_
     | refine j_q (qs_loadw 2 U176 rfl sz176 rfl rfl (by first | rfl | (simp only [ks_length]; first | omega | exact hstl | exact hvl) | simp [ks_length])) ?_
     | refine j_q (qs_loadw 3 U176 rfl sz176 rfl rfl (by first | rfl | (simp only [ks_length]; first | omega | exact hstl | exact hvl) | simp [ks_length])) ?_
    refine j_alloc zero176 (fun g68 hg68 hs68 => ?_)
    first
     | refine j_storew 0 sz176 rfl rfl (by first | rfl | (simp only [ks_length]; first | omega | exact hstl | exact hvl) | simp [ks_length]) ks_one rfl (by first | rfl | (simp only [ks_length]; first | omega | exact hstl | exact hvl) | simp [ks_length]) ?_
     | refine j_storew 1 sz176 rfl rfl (by first | rfl | (simp only [ks_length]; first | omega | exact hstl | exact hvl) | simp [ks_length]) ks_one rfl (by first | rfl | (simp only [ks_length]; first | omega | exact hstl | exact hvl) | simp [ks_length]) ?_
     | refine j_storew 2 sz176 rfl rfl (by first | rfl | (simp only [ks_length]; first | omega | exact hstl | exact hvl) | simp [ks_length]) ks_one rfl (by first | rfl | (simp only [ks_length]; first | omega | exact hstl | exact hvl) | simp [ks_length]) ?_
     | refine j_storew 3 sz176 rfl rfl (by first | rfl | (simp only [ks_length]; first | omega | exact hstl | exact hvl) | simp [ks_length]) ks_one rfl (by first | rfl | (simp only [ks_length]; first | omega | exact hstl | exact hvl) | simp [ks_length]) ?_
    refine j_q (qs_mc) ?_
    refine j_loop (fun m vs S' => ∃ (i : Nat) (v : List Int), vs = [.int .i64 i] ∧ S' = [[(g68, .cells (ks .u32 v).toArray 176 (0, 0))], [(g3, .cells (ks .u32 ws).toArray 192 (0, 0))], [(g1, .cells (ks .u32 kk64).toArray 192 (0, 0))], [(gs, .cells (ks .u32 st).toArray e (0, 0))]] ∧ i ≤ 64 ∧ m = 64 - i ∧ v = rounds kk64 (sched q 64) st i) ⟨_, 0, _, rfl, rfl, by omega, rfl, rfl⟩ ?_
    rintro m vs S' hlen ⟨i, v, rfl, rfl, hi, rfl, hv⟩
    have hvl : v.length = 8 := by rw [hv]; exact rounds_length hstl i
    clear hlen
    refine j_q (qs_lss rfl rfl) ?_
    refine j_cond rfl (fun hc3 => ?_) (fun hc3 => ?_)
    ·skip
     have hi1 : i < 64 := by
      simp only [bnA] at *
      omega
     refine j_draw ?_
     refine jq_q (qs_ix0 U176 sz123 rfl rfl ⟨(by first | omega | (simp only [bnA] at *; omega)), (by first | omega | (simp only [bnA] at *; omega))⟩) ?_
     first
      | refine jq_q (qs_loadr8 (rd_cells hqm (by rw [hab]; simpa using hne hpne)) U123 rfl (by first | omega | (simp only [bnA] at *; omega))) ?_
      | refine jq_q (qs_loadk 0 U123 rfl rfl (by first | omega | (simp only [bnA] at *; omega))) ?_
      | refine jq_q (qs_loadk 1 U123 rfl rfl (by first | omega | (simp only [bnA] at *; omega))) ?_
      | refine jq_q (qs_loadk 2 U123 rfl rfl (by first | omega | (simp only [bnA] at *; omega))) ?_
      | refine jq_q (qs_loadk 3 U123 rfl rfl (by first | omega | (simp only [bnA] at *; omega))) ?_
      | refine jq_q (qs_load 0 U123 rfl rfl rfl rfl) ?_
      | refine jq_q (qs_load 1 U123 rfl rfl rfl rfl) ?_
      | refine jq_q (qs_load 2 U123 rfl rfl rfl rfl) ?_
      | refine jq_q (qs_load 3 U123 rfl rfl rfl rfl) ?_
     refine jq_q (qs_ix0 U176 sz123 rfl rfl ⟨(by first | omega | (simp only [bnA] at *; omega)), (by first | omega | (simp only [bnA] at *; omega))⟩) ?_
     first
      | refine jq_q (qs_loadr8 (rd_cells hqm (by rw [hab]; simpa using hne hpne)) U123 rfl (by first | omega | (simp only [bnA] at *; omega))) ?_
      | refine jq_q (qs_loadk 0 U123 rfl rfl (by first | omega | (simp only [bnA] at *; omega))) ?_
      | refine jq_q (qs_loadk 1 U123 rfl rfl (by first | omega | (simp only [bnA] at *; omega))) ?_
      | refine jq_q (qs_loadk 2 U123 rfl rfl (by first | omega | (simp only [bnA] at *; omega))) ?_
      | refine jq_q (qs_loadk 3 U123 rfl rfl (by first | omega | (simp only [bnA] at *; omega))) ?_
      | refine jq_q (qs_load 0 U123 rfl rfl rfl rfl) ?_
      | refine jq_q (qs_load 1 U123 rfl rfl rfl rfl) ?_
      | refine jq_q (qs_load 2 U123 rfl rfl rfl rfl) ?_
      | refine jq_q (qs_load 3 U123 rfl rfl rfl rfl) ?_
     refine jq_nil ?_
     refine j_draw ?_
     refine jq_q (qs_ix0 U176 sz123 rfl rfl ⟨(by first | omega | (simp only [bnA] at *; omega)), (by first | omega | (simp only [bnA] at *; omega))⟩) ?_
     first
      | refine jq_q (qs_loadr8 (rd_cells hqm (by rw [hab]; simpa using hne hpne)) U123 rfl (by first | omega | (simp only [bnA] at *; omega))) ?_
      | refine jq_q (qs_loadk 0 U123 rfl rfl (by first | omega | (simp only [bnA] at *; omega))) ?_
      | refine jq_q (qs_loadk 1 U123 rfl rfl (by first | omega | (simp only [bnA] at *; omega))) ?_
      | refine jq_q (qs_loadk 2 U123 rfl rfl (by first | omega | (simp only [bnA] at *; omega))) ?_
      | refine jq_q (qs_loadk 3 U123 rfl rfl (by first | omega | (simp only [bnA] at *; omega))) ?_
      | refine jq_q (qs_load 0 U123 rfl rfl rfl rfl) ?_
      | refine jq_q (qs_load 1 U123 rfl rfl rfl rfl) ?_
      | refine jq_q (qs_load 2 U123 rfl rfl rfl rfl) ?_
      | refine jq_q (qs_load 3 U123 rfl rfl rfl rfl) ?_
     refine jq_q (qs_call ent128 rfl rfl rfl (fun w' hw' => turn_con _ _ w' (by decide) (by decide))) ?_
     refine jq_q (qs_call ent128 rfl rfl rfl (fun w' hw' => turn_con _ _ w' (by decide) (by decide))) ?_
     refine jq_q (qs_xor_ rfl rfl) ?_
     refine jq_q (qs_call ent128 rfl rfl rfl (fun w' hw' => turn_con _ _ w' (by decide) (by decide))) ?_
     refine jq_q (qs_xor_ rfl rfl) ?_
     refine jq_q (qs_add rfl rfl) ?_
     refine jq_q (qs_ix0 U176 sz123 rfl rfl ⟨(by first | omega | (simp only [bnA] at *; omega)), (by first | omega | (simp only [bnA] at *; omega))⟩) ?_
     first
      | refine jq_q (qs_loadr8 (rd_cells hqm (by rw [hab]; simpa using hne hpne)) U123 rfl (by first | omega | (simp only [bnA] at *; omega))) ?_
      | refine jq_q (qs_loadk 0 U123 rfl rfl (by first | omega | (simp only [bnA] at *; omega))) ?_
      | refine jq_q (qs_loadk 1 U123 rfl rfl (by first | omega | (simp only [bnA] at *; omega))) ?_
      | refine jq_q (qs_loadk 2 U123 rfl rfl (by first | omega | (simp only [bnA] at *; omega))) ?_
      | refine jq_q (qs_loadk 3 U123 rfl rfl (by first | omega | (simp only [bnA] at *; omega))) ?_
      | refine jq_q (qs_load 0 U123 rfl rfl rfl rfl) ?_
      | refine jq_q (qs_load 1 U123 rfl rfl rfl rfl) ?_
      | refine jq_q (qs_load 2 U123 rfl rfl rfl rfl) ?_
      | refine jq_q (qs_load 3 U123 rfl rfl rfl rfl) ?_
     refine jq_q (qs_and_ rfl rfl) ?_
     refine jq_q (qs_inv rfl) ?_
     refine jq_q (qs_ix0 U176 sz123 rfl rfl ⟨(by first | omega | (simp only [bnA] at *; omega)), (by first | omega | (simp only [bnA] at *; omega))⟩) ?_
     first
      | refine jq_q (qs_loadr8 (rd_cells hqm (by rw [hab]; simpa using hne hpne)) U123 rfl (by first | omega | (simp only [bnA] at *; omega))) ?_
      | refine jq_q (qs_loadk 0 U123 rfl rfl (by first | omega | (simp only [bnA] at *; omega))) ?_
      | refine jq_q (qs_loadk 1 U123 rfl rfl (by first | omega | (simp only [bnA] at *; omega))) ?_
      | refine jq_q (qs_loadk 2 U123 rfl rfl (by first | omega | (simp only [bnA] at *; omega))) ?_
      | refine jq_q (qs_loadk 3 U123 rfl rfl (by first | omega | (simp only [bnA] at *; omega))) ?_
      | refine jq_q (qs_load 0 U123 rfl rfl rfl rfl) ?_
      | refine jq_q (qs_load 1 U123 rfl rfl rfl rfl) ?_
      | refine jq_q (qs_load 2 U123 rfl rfl rfl rfl) ?_
      | refine jq_q (qs_load 3 U123 rfl rfl rfl rfl) ?_
     refine jq_q (qs_and_ rfl rfl) ?_
     refine jq_q (qs_xor_ rfl rfl) ?_
     refine jq_q (qs_add rfl rfl) ?_
     refine jq_q (qs_ix0 U192 sz123 rfl rfl ⟨(by first | omega | (simp only [bnA] at *; omega)), (by first | omega | (simp only [bnA] at *; omega))⟩) ?_
     first
      | refine jq_q (qs_loadr8 (rd_cells hqm (by rw [hab]; simpa using hne hpne)) U123 rfl (by first | omega | (simp only [bnA] at *; omega))) ?_
      | refine jq_q (qs_loadk 0 U123 rfl rfl (by first | omega | (simp only [bnA] at *; omega))) ?_
      | refine jq_q (qs_loadk 1 U123 rfl rfl (by first | omega | (simp only [bnA] at *; omega))) ?_
      | refine jq_q (qs_loadk 2 U123 rfl rfl (by first | omega | (simp only [bnA] at *; omega))) ?_
      | refine jq_q (qs_loadk 3 U123 rfl rfl (by first | omega | (simp only [bnA] at *; omega))) ?_
      | refine jq_q (qs_load 0 U123 rfl rfl rfl rfl) ?_
      | refine jq_q (qs_load 1 U123 rfl rfl rfl rfl) ?_
      | refine jq_q (qs_load 2 U123 rfl rfl rfl rfl) ?_
      | refine jq_q (qs_load 3 U123 rfl rfl rfl rfl) ?_
     refine jq_q (qs_add rfl rfl) ?_
     refine jq_q (qs_ix0 U192 sz123 rfl rfl ⟨(by first | omega | (simp only [bnA] at *; omega)), (by first | omega | (simp only [bnA] at *; omega))⟩) ?_
     first
      | refine jq_q (qs_loadr8 (rd_cells hqm (by rw [hab]; simpa using hne hpne)) U123 rfl (by first | omega | (simp only [bnA] at *; omega))) ?_
      | refine jq_q (qs_loadk 0 U123 rfl rfl (by first | omega | (simp only [bnA] at *; omega))) ?_
      | refine jq_q (qs_loadk 1 U123 rfl rfl (by first | omega | (simp only [bnA] at *; omega))) ?_
      | refine jq_q (qs_loadk 2 U123 rfl rfl (by first | omega | (simp only [bnA] at *; omega))) ?_
      | refine jq_q (qs_loadk 3 U123 rfl rfl (by first | omega | (simp only [bnA] at *; omega))) ?_
      | refine jq_q (qs_load 0 U123 rfl rfl rfl rfl) ?_
      | refine jq_q (qs_load 1 U123 rfl rfl rfl rfl) ?_
      | refine jq_q (qs_load 2 U123 rfl rfl rfl rfl) ?_
      | refine jq_q (qs_load 3 U123 rfl rfl rfl rfl) ?_
     refine jq_q (qs_add rfl rfl) ?_
     refine jq_nil ?_
     refine j_draw ?_
     refine jq_q (qs_call ent128 rfl rfl rfl (fun w' hw' => turn_con _ _ w' (by decide) (by decide))) ?_
     refine jq_q (qs_call ent128 rfl rfl rfl (fun w' hw' => turn_con _ _ w' (by decide) (by decide))) ?_
     refine jq_q (qs_xor_ rfl rfl) ?_
     refine jq_q (qs_call ent128 rfl rfl rfl (fun w' hw' => turn_con _ _ w' (by decide) (by decide))) ?_
     refine jq_q (qs_xor_ rfl rfl) ?_
     refine jq_q (qs_ix0 U176 sz123 rfl rfl ⟨(by first | omega | (simp only [bnA] at *; omega)), (by first | omega | (simp only [bnA] at *; omega))⟩) ?_
     first
      | refine jq_q (qs_loadr8 (rd_cells hqm (by rw [hab]; simpa using hne hpne)) U123 rfl (by first | omega | (simp only [bnA] at *; omega))) ?_
      | refine jq_q (qs_loadk 0 U123 rfl rfl (by first | omega | (simp only [bnA] at *; omega))) ?_
      | refine jq_q (qs_loadk 1 U123 rfl rfl (by first | omega | (simp only [bnA] at *; omega))) ?_
      | refine jq_q (qs_loadk 2 U123 rfl rfl (by first | omega | (simp only [bnA] at *; omega))) ?_
      | refine jq_q (qs_loadk 3 U123 rfl rfl (by first | omega | (simp only [bnA] at *; omega))) ?_
      | refine jq_q (qs_load 0 U123 rfl rfl rfl rfl) ?_
      | refine jq_q (qs_load 1 U123 rfl rfl rfl rfl) ?_
      | refine jq_q (qs_load 2 U123 rfl rfl rfl rfl) ?_
      | refine jq_q (qs_load 3 U123 rfl rfl rfl rfl) ?_
     refine jq_q (qs_and_ rfl rfl) ?_
     refine jq_q (qs_ix0 U176 sz123 rfl rfl ⟨(by first | omega | (simp only [bnA] at *; omega)), (by first | omega | (simp only [bnA] at *; omega))⟩) ?_
     first
      | refine jq_q (qs_loadr8 (rd_cells hqm (by rw [hab]; simpa using hne hpne)) U123 rfl (by first | omega | (simp only [bnA] at *; omega))) ?_
      | refine jq_q (qs_loadk 0 U123 rfl rfl (by first | omega | (simp only [bnA] at *; omega))) ?_
      | refine jq_q (qs_loadk 1 U123 rfl rfl (by first | omega | (simp only [bnA] at *; omega))) ?_
      | refine jq_q (qs_loadk 2 U123 rfl rfl (by first | omega | (simp only [bnA] at *; omega))) ?_
      | refine jq_q (qs_loadk 3 U123 rfl rfl (by first | omega | (simp only [bnA] at *; omega))) ?_
      | refine jq_q (qs_load 0 U123 rfl rfl rfl rfl) ?_
      | refine jq_q (qs_load 1 U123 rfl rfl rfl rfl) ?_
      | refine jq_q (qs_load 2 U123 rfl rfl rfl rfl) ?_
      | refine jq_q (qs_load 3 U123 rfl rfl rfl rfl) ?_
     refine jq_q (qs_and_ rfl rfl) ?_
     refine jq_q (qs_xor_ rfl rfl) ?_
     refine jq_q (qs_ix0 U176 sz123 rfl rfl ⟨(by first | omega | (simp only [bnA] at *; omega)), (by first | omega | (simp only [bnA] at *; omega))⟩) ?_
     first
      | refine jq_q (qs_loadr8 (rd_cells hqm (by rw [hab]; simpa using hne hpne)) U123 rfl (by first | omega | (simp only [bnA] at *; omega))) ?_
      | refine jq_q (qs_loadk 0 U123 rfl rfl (by first | omega | (simp only [bnA] at *; omega))) ?_
      | refine jq_q (qs_loadk 1 U123 rfl rfl (by first | omega | (simp only [bnA] at *; omega))) ?_
      | refine jq_q (qs_loadk 2 U123 rfl rfl (by first | omega | (simp only [bnA] at *; omega))) ?_
      | refine jq_q (qs_loadk 3 U123 rfl rfl (by first | omega | (simp only [bnA] at *; omega))) ?_
      | refine jq_q (qs_load 0 U123 rfl rfl rfl rfl) ?_
      | refine jq_q (qs_load 1 U123 rfl rfl rfl rfl) ?_
      | refine jq_q (qs_load 2 U123 rfl rfl rfl rfl) ?_
      | refine jq_q (qs_load 3 U123 rfl rfl rfl rfl) ?_
     refine jq_q (qs_ix0 U176 sz123 rfl rfl ⟨(by first | omega | (simp only [bnA] at *; omega)), (by first | omega | (simp only [bnA] at *; omega))⟩) ?_
     first
      | refine jq_q (qs_loadr8 (rd_cells hqm (by rw [hab]; simpa using hne hpne)) U123 rfl (by first | omega | (simp only [bnA] at *; omega))) ?_
      | refine jq_q (qs_loadk 0 U123 rfl rfl (by first | omega | (simp only [bnA] at *; omega))) ?_
      | refine jq_q (qs_loadk 1 U123 rfl rfl (by first | omega | (simp only [bnA] at *; omega))) ?_
      | refine jq_q (qs_loadk 2 U123 rfl rfl (by first | omega | (simp only [bnA] at *; omega))) ?_
      | refine jq_q (qs_loadk 3 U123 rfl rfl (by first | omega | (simp only [bnA] at *; omega))) ?_
      | refine jq_q (qs_load 0 U123 rfl rfl rfl rfl) ?_
      | refine jq_q (qs_load 1 U123 rfl rfl rfl rfl) ?_
      | refine jq_q (qs_load 2 U123 rfl rfl rfl rfl) ?_
      | refine jq_q (qs_load 3 U123 rfl rfl rfl rfl) ?_
     refine jq_q (qs_and_ rfl rfl) ?_
     refine jq_q (qs_xor_ rfl rfl) ?_
     refine jq_q (qs_add rfl rfl) ?_
     refine jq_nil ?_
     refine j_q (qs_add rfl rfl) ?_
     refine j_q (qs_ix0 U176 sz123 rfl rfl ⟨(by first | omega | (simp only [bnA] at *; omega)), (by first | omega | (simp only [bnA] at *; omega))⟩) ?_
     first
      | refine j_q (qs_loadr8 (rd_cells hqm (by rw [hab]; simpa using hne hpne)) U123 rfl (by first | omega | (simp only [bnA] at *; omega))) ?_
      | refine j_q (qs_loadk 0 U123 rfl rfl (by first | omega | (simp only [bnA] at *; omega))) ?_
      | refine j_q (qs_loadk 1 U123 rfl rfl (by first | omega | (simp only [bnA] at *; omega))) ?_
      | refine j_q (qs_loadk 2 U123 rfl rfl (by first | omega | (simp only [bnA] at *; omega))) ?_
      | refine j_q (qs_loadk 3 U123 rfl rfl (by first | omega | (simp only [bnA] at *; omega))) ?_
      | refine j_q (qs_load 0 U123 rfl rfl rfl rfl) ?_
      | refine j_q (qs_load 1 U123 rfl rfl rfl rfl) ?_
      | refine j_q (qs_load 2 U123 rfl rfl rfl rfl) ?_
      | refine j_q (qs_load 3 U123 rfl rfl rfl rfl) ?_
     refine j_q (qs_ix0 U176 sz123 rfl rfl ⟨(by first | omega | (simp only [bnA] at *; omega)), (by first | omega | (simp only [bnA] at *; omega))⟩) ?_
     first
      | refine j_q (qs_loadr8 (rd_cells hqm (by rw [hab]; simpa using hne hpne)) U123 rfl (by first | omega | (simp only [bnA] at *; omega))) ?_
      | refine j_q (qs_loadk 0 U123 rfl rfl (by first | omega | (simp only [bnA] at *; omega))) ?_
      | refine j_q (qs_loadk 1 U123 rfl rfl (by first | omega | (simp only [bnA] at *; omega))) ?_
      | refine j_q (qs_loadk 2 U123 rfl rfl (by first | omega | (simp only [bnA] at *; omega))) ?_
      | refine j_q (qs_loadk 3 U123 rfl rfl (by first | omega | (simp only [bnA] at *; omega))) ?_
      | refine j_q (qs_load 0 U123 rfl rfl rfl rfl) ?_
      | refine j_q (qs_load 1 U123 rfl rfl rfl rfl) ?_
      | refine j_q (qs_load 2 U123 rfl rfl rfl rfl) ?_
      | refine j_q (qs_load 3 U123 rfl rfl rfl rfl) ?_
     refine j_q (qs_ix0 U176 sz123 rfl rfl ⟨(by first | omega | (simp only [bnA] at *; omega)), (by first | omega | (simp only [bnA] at *; omega))⟩) ?_
     first
      | refine j_q (qs_loadr8 (rd_cells hqm (by rw [hab]; simpa using hne hpne)) U123 rfl (by first | omega | (simp only [bnA] at *; omega))) ?_
      | refine j_q (qs_loadk 0 U123 rfl rfl (by first | omega | (simp only [bnA] at *; omega))) ?_
      | refine j_q (qs_loadk 1 U123 rfl rfl (by first | omega | (simp only [bnA] at *; omega))) ?_
      | refine j_q (qs_loadk 2 U123 rfl rfl (by first | omega | (simp only [bnA] at *; omega))) ?_
      | refine j_q (qs_loadk 3 U123 rfl rfl (by first | omega | (simp only [bnA] at *; omega))) ?_
      | refine j_q (qs_load 0 U123 rfl rfl rfl rfl) ?_
      | refine j_q (qs_load 1 U123 rfl rfl rfl rfl) ?_
      | refine j_q (qs_load 2 U123 rfl rfl rfl rfl) ?_
      | refine j_q (qs_load 3 U123 rfl rfl rfl rfl) ?_
     refine j_q (qs_ix0 U176 sz123 rfl rfl ⟨(by first | omega | (simp only [bnA] at *; omega)), (by first | omega | (simp only [bnA] at *; omega))⟩) ?_
     first
      | refine j_q (qs_loadr8 (rd_cells hqm (by rw [hab]; simpa using hne hpne)) U123 rfl (by first | omega | (simp only [bnA] at *; omega))) ?_
      | refine j_q (qs_loadk 0 U123 rfl rfl (by first | omega | (simp only [bnA] at *; omega))) ?_
      | refine j_q (qs_loadk 1 U123 rfl rfl (by first | omega | (simp only [bnA] at *; omega))) ?_
      | refine j_q (qs_loadk 2 U123 rfl rfl (by first | omega | (simp only [bnA] at *; omega))) ?_
      | refine j_q (qs_loadk 3 U123 rfl rfl (by first | omega | (simp only [bnA] at *; omega))) ?_
      | refine j_q (qs_load 0 U123 rfl rfl rfl rfl) ?_
      | refine j_q (qs_load 1 U123 rfl rfl rfl rfl) ?_
      | refine j_q (qs_load 2 U123 rfl rfl rfl rfl) ?_
      | refine j_q (qs_load 3 U123 rfl rfl rfl rfl) ?_
     refine j_q (qs_add rfl rfl) ?_
     refine j_q (qs_ix0 U176 sz123 rfl rfl ⟨(by first | omega | (simp only [bnA] at *; omega)), (by first | omega | (simp only [bnA] at *; omega))⟩) ?_
     first
      | refine j_q (qs_loadr8 (rd_cells hqm (by rw [hab]; simpa using hne hpne)) U123 rfl (by first | omega | (simp only [bnA] at *; omega))) ?_
      | refine j_q (qs_loadk 0 U123 rfl rfl (by first | omega | (simp only [bnA] at *; omega))) ?_
      | refine j_q (qs_loadk 1 U123 rfl rfl (by first | omega | (simp only [bnA] at *; omega))) ?_
      | refine j_q (qs_loadk 2 U123 rfl rfl (by first | omega | (simp only [bnA] at *; omega))) ?_
      | refine j_q (qs_loadk 3 U123 rfl rfl (by first | omega | (simp only [bnA] at *; omega))) ?_
      | refine j_q (qs_load 0 U123 rfl rfl rfl rfl) ?_
      | refine j_q (qs_load 1 U123 rfl rfl rfl rfl) ?_
      | refine j_q (qs_load 2 U123 rfl rfl rfl rfl) ?_
      | refine j_q (qs_load 3 U123 rfl rfl rfl rfl) ?_
     refine j_q (qs_ix0 U176 sz123 rfl rfl ⟨(by first | omega | (simp only [bnA] at *; omega)), (by first | omega | (simp only [bnA] at *; omega))⟩) ?_
     first
      | refine j_q (qs_loadr8 (rd_cells hqm (by rw [hab]; simpa using hne hpne)) U123 rfl (by first | omega | (simp only [bnA] at *; omega))) ?_
      | refine j_q (qs_loadk 0 U123 rfl rfl (by first | omega | (simp only [bnA] at *; omega))) ?_
      | refine j_q (qs_loadk 1 U123 rfl rfl (by first | omega | (simp only [bnA] at *; omega))) ?_
      | refine j_q (qs_loadk 2 U123 rfl rfl (by first | omega | (simp only [bnA] at *; omega))) ?_
      | refine j_q (qs_loadk 3 U123 rfl rfl (by first | omega | (simp only [bnA] at *; omega))) ?_
      | refine j_q (qs_load 0 U123 rfl rfl rfl rfl) ?_
      | refine j_q (qs_load 1 U123 rfl rfl rfl rfl) ?_
      | refine j_q (qs_load 2 U123 rfl rfl rfl rfl) ?_
      | refine j_q (qs_load 3 U123 rfl rfl rfl rfl) ?_
     refine j_q (qs_ix0 U176 sz123 rfl rfl ⟨(by first | omega | (simp only [bnA] at *; omega)), (by first | omega | (simp only [bnA] at *; omega))⟩) ?_
     first
      | refine j_q (qs_loadr8 (rd_cells hqm (by rw [hab]; simpa using hne hpne)) U123 rfl (by first | omega | (simp only [bnA] at *; omega))) ?_
      | refine j_q (qs_loadk 0 U123 rfl rfl (by first | omega | (simp only [bnA] at *; omega))) ?_
      | refine j_q (qs_loadk 1 U123 rfl rfl (by first | omega | (simp only [bnA] at *; omega))) ?_
      | refine j_q (qs_loadk 2 U123 rfl rfl (by first | omega | (simp only [bnA] at *; omega))) ?_
      | refine j_q (qs_loadk 3 U123 rfl rfl (by first | omega | (simp only [bnA] at *; omega))) ?_
      | refine j_q (qs_load 0 U123 rfl rfl rfl rfl) ?_
      | refine j_q (qs_load 1 U123 rfl rfl rfl rfl) ?_
      | refine j_q (qs_load 2 U123 rfl rfl rfl rfl) ?_
      | refine j_q (qs_load 3 U123 rfl rfl rfl rfl) ?_
     refine j_q (qs_run (v := .agg (ks .u32 (rnd (kk64.getD i 0) (ws.getD i 0) v)).toArray) (fun w => by kernel_rfl)) ?_
     first
      | refine j_storew 0 sz176 rfl rfl (by first | rfl | (simp only [ks_length]; first | omega | exact hstl | exact hvl) | simp [ks_length]) ks_one rfl (by first | rfl | (simp only [ks_length]; first | omega | exact hstl | exact hvl) | simp [ks_length]) ?_
      | refine j_storew 1 sz176 rfl rfl (by first | rfl | (simp only [ks_length]; first | omega | exact hstl | exact hvl) | simp [ks_length]) ks_one rfl (by first | rfl | (simp only [ks_length]; first | omega | exact hstl | exact hvl) | simp [ks_length]) ?_
      | refine j_storew 2 sz176 rfl rfl (by first | rfl | (simp only [ks_length]; first | omega | exact hstl | exact hvl) | simp [ks_length]) ks_one rfl (by first | rfl | (simp only [ks_length]; first | omega | exact hstl | exact hvl) | simp [ks_length]) ?_
      | refine j_storew 3 sz176 rfl rfl (by first | rfl | (simp only [ks_length]; first | omega | exact hstl | exact hvl) | simp [ks_length]) ks_one rfl (by first | rfl | (simp only [ks_length]; first | omega | exact hstl | exact hvl) | simp [ks_length]) ?_
     refine j_q (qs_add64 rfl rfl (by first | omega | (simp only [bnA] at *; omega))) ?_
     refine j_back rfl ?_
     refine ⟨_, back_le hi1, i + 1, _, rfl, rfl, by omega, rfl, ?_⟩
     rw [rounds, ← hv, ← hws64]
    ·skip
     have hi1 : i = 64 := by
      simp only [bnA] at *
      omega
     subst hi1
     have hv64 : v = rounds kk64 (sched q 64) st 64 := hv
     refine j_q (qs_mc) ?_
     refine j_loop (fun m vs S' => ∃ (i : Nat) (s' : List Int), vs = [.int .i64 i] ∧ S' = [[(g68, .cells (ks .u32 (rounds kk64 (sched q 64) st 64)).toArray 176 (0, 0))], [(g3, .cells (ks .u32 ws).toArray 192 (0, 0))], [(g1, .cells (ks .u32 kk64).toArray 192 (0, 0))], [(gs, .cells (ks .u32 s').toArray e (0, 0))]] ∧ i ≤ 8 ∧ m = 8 - i ∧ s' = adds st (rounds kk64 (sched q 64) st 64) i) ⟨_, 0, _, rfl, (by rw [← hv64]; rfl), by omega, rfl, rfl⟩ ?_
     rintro m vs S' hlen ⟨i, s', rfl, rfl, hi, rfl, hs'⟩
     have hsl : s'.length = 8 := by rw [hs', adds_length, hstl]
     have hrl : (rounds kk64 (sched q 64) st 64).length = 8 := rounds_length hstl 64
     clear hlen
     refine j_q (qs_lss rfl rfl) ?_
     refine j_cond rfl (fun hc4 => ?_) (fun hc4 => ?_)
     ·skip
      have hi1 : i < 8 := by
       simp only [bnA] at *
       omega
      refine j_draw ?_
      refine jq_q (qs_nil rfl) ?_
      refine jq_q (qs_ix0 U176 sz123 rfl rfl ⟨(by first | omega | (simp only [bnA] at *; omega)), (by first | omega | (simp only [bnA] at *; omega))⟩) ?_
      first
       | refine jq_q (qs_loadr8 (rd_cells hqm (by rw [hab]; simpa using hne hpne)) U123 rfl (by first | omega | (simp only [bnA] at *; omega))) ?_
       | refine jq_q (qs_loadk 0 U123 rfl rfl (by first | omega | (simp only [bnA] at *; omega))) ?_
       | refine jq_q (qs_loadk 1 U123 rfl rfl (by first | omega | (simp only [bnA] at *; omega))) ?_
       | refine jq_q (qs_loadk 2 U123 rfl rfl (by first | omega | (simp only [bnA] at *; omega))) ?_
       | refine jq_q (qs_loadk 3 U123 rfl rfl (by first | omega | (simp only [bnA] at *; omega))) ?_
       | refine jq_q (qs_load 0 U123 rfl rfl rfl rfl) ?_
       | refine jq_q (qs_load 1 U123 rfl rfl rfl rfl) ?_
       | refine jq_q (qs_load 2 U123 rfl rfl rfl rfl) ?_
       | refine jq_q (qs_load 3 U123 rfl rfl rfl rfl) ?_
      refine jq_q (qs_ix0 U176 sz123 rfl rfl ⟨(by first | omega | (simp only [bnA] at *; omega)), (by first | omega | (simp only [bnA] at *; omega))⟩) ?_
      first
       | refine jq_q (qs_loadr8 (rd_cells hqm (by rw [hab]; simpa using hne hpne)) U123 rfl (by first | omega | (simp only [bnA] at *; omega))) ?_
       | refine jq_q (qs_loadk 0 U123 rfl rfl (by first | omega | (simp only [bnA] at *; omega))) ?_
       | refine jq_q (qs_loadk 1 U123 rfl rfl (by first | omega | (simp only [bnA] at *; omega))) ?_
       | refine jq_q (qs_loadk 2 U123 rfl rfl (by first | omega | (simp only [bnA] at *; omega))) ?_
       | refine jq_q (qs_loadk 3 U123 rfl rfl (by first | omega | (simp only [bnA] at *; omega))) ?_
       | refine jq_q (qs_load 0 U123 rfl rfl rfl rfl) ?_
       | refine jq_q (qs_load 1 U123 rfl rfl rfl rfl) ?_
       | refine jq_q (qs_load 2 U123 rfl rfl rfl rfl) ?_
       | refine jq_q (qs_load 3 U123 rfl rfl rfl rfl) ?_
      refine jq_q (qs_add rfl rfl) ?_
      refine jq_q (qs_nil rfl) ?_
      refine jq_q (qs_ix0 U176 sz123 rfl rfl ⟨(by first | omega | (simp only [bnA] at *; omega)), (by first | omega | (simp only [bnA] at *; omega))⟩) ?_
      refine jq_nil ?_
      first
       | refine j_storek 0 sz123 rfl rfl rfl (by first | omega | (simp only [bnA] at *; omega)) ?_
       | refine j_storek 1 sz123 rfl rfl rfl (by first | omega | (simp only [bnA] at *; omega)) ?_
       | refine j_storek 2 sz123 rfl rfl rfl (by first | omega | (simp only [bnA] at *; omega)) ?_
       | refine j_storek 3 sz123 rfl rfl rfl (by first | omega | (simp only [bnA] at *; omega)) ?_
       | refine j_store 0 sz123 rfl rfl rfl rfl (by simp) (by first | omega | (simp only [bnA] at *; omega)) ?_
       | refine j_store 1 sz123 rfl rfl rfl rfl (by simp) (by first | omega | (simp only [bnA] at *; omega)) ?_
       | refine j_store 2 sz123 rfl rfl rfl rfl (by simp) (by first | omega | (simp only [bnA] at *; omega)) ?_
       | refine j_store 3 sz123 rfl rfl rfl rfl (by simp) (by first | omega | (simp only [bnA] at *; omega)) ?_
      refine j_q (qs_add64 rfl rfl (by first | omega | (simp only [bnA] at *; omega))) ?_
      refine j_back rfl ?_
      refine ⟨_, back_le hi1, i + 1, _, rfl, rfl, by omega, rfl, ?_⟩
      rw [adds, ← hs']
      rfl
     ·skip
      have hi1 : i = 8 := by
       simp only [bnA] at *
       omega
      subst hi1
      refine j_q (qs_cutl (a := 64) (z := q.length) U33 sz5 rfl ⟨_, rfl⟩ rfl (by first | omega | (simp only [bnA] at *; omega)) (by first | omega | (simp only [bnA] at *; omega))) ?_
      refine j_sub (S' := [[(g3, .cells (ks .u32 ws).toArray 192 (0, 0))], [(g1, .cells (ks .u32 kk64).toArray 192 (0, 0))], [(gs, .cells (ks .u32 s').toArray e (0, 0))]]) (by exact List.sublist_cons_self _ _) ?_
      refine j_back rfl ?_
      have hcell : Cells w (if c' = 64 then a' else a'.add 64) (ints (q.drop 64)) := by
       split
       ·have : q.drop 64 = [] := List.drop_of_length_le (by omega)
        rw [this]
        intro j u hu
        simp [ints] at hu
       ·have := cells_drop hqm 64
        rwa [ints_drop] at this
      refine ⟨p.length - 64 * (n + 1), (by omega), n + 1, q.drop 64, if c' = 64 then a' else a'.add 64, c' - 64, s', ws, ?_, rfl, by omega, by rw [hq, List.drop_drop]; congr 1, by rw [List.length_drop]; omega, hcell, ?_, ?_, hwl, rfl⟩
      ·show [Value.slice (if c' = 64 then some a' else some (a'.add 64)) (q.length - 64) (c' - 64)] = _
       rw [List.length_drop]
       split <;> rfl
      ·split
       ·exact hab
       ·rw [add_block]; exact hab
      ·rw [blocks_succ, ← hq, ← hst, hs']
       rfl
 ·skip
  have hq64 : q.length < 64 := by
   simp only [bnA] at *
   omega
  refine j_sub (S' := [[(gs, .cells (ks .u32 st).toArray e (0, 0))]]) (by exact (List.sublist_cons_self _ _).trans (List.sublist_cons_self _ _)) ?_
  refine j_ret_con (vs := []) (fun w' hw' => trivial) ?_
  refine ⟨rfl, ?_⟩
  rw [hst]
  have : p.length / 64 = n := by omega
  rw [this]
end Go.Proofs.YtfebkkmmagbnlaaGreatDoor
/-! Sha3 -/
namespace Go.Proofs.YtfebkkmmagbnlaaGreatDoor
open Go Go.Sx
set_option maxRecDepth 100000
set_option maxHeartbeats 4000000
set_option linter.unusedVariables false
set_option linter.unusedSimpArgs false
attribute [local irreducible] J JQ QS Con W opW
theorem ho_len8 {e : TypeId} {q : List UInt8} {x : Int} {v : Value} {c : SH} (h : Sx.Own e 1 (ints q) v c) : Sx.Own e 1 (ints (q ++ len8 x 0)) v c := by simpa [len8] using h
theorem ne_own {a : Addr} {p : List UInt8} {g : Nat} {w : World} (h : Cells w a (ints p)) (hg : w.heap.size ≤ g) (hp : p ≠ []) : a.block ≠ g := by
 intro e
 have := h 0 _ (ints_get_lt (List.length_pos_iff.2 hp))
 rw [add_zero_] at this
 unfold World.cell? at this
 split at this
 ·rename_i h1
  have := lt_of_get h1
  omega
 ·cases this
theorem own128 {e : TypeId} {p : List UInt8} {v : Value} {c : SH} {l : List UInt8} (h : Sx.Own e 1 (ints p ++ ints l) v c) : Sx.Own e 1 (ints (p ++ l)) v c := by rwa [ints_append]
theorem rep_succ (p : List UInt8) (j : Nat) : p ++ List.replicate j (0 : UInt8) ++ [0] = p ++ List.replicate (j + 1) 0 := by
 rw [List.append_assoc, ← List.replicate_succ']
theorem outs_step {s : List Int} {h : List UInt8} {i : Nat} (ht : h.take i = outs s i) (hi : i < h.length) : (h.set i (by8 ((s.getD (i / 4) 0).fdiv (2 ^ (24 - 8 * (i % 4)))))).take (i + 1) = outs s (i + 1) := by
 rw [take_set_succ hi, ht, outs]
theorem len8_succ (p : List UInt8) (x : Int) (i : Nat) : p ++ len8 x i ++ [by8 (x.fdiv (2 ^ (56 - 8 * i)))] = p ++ len8 x (i + 1) := by
 rw [len8, List.append_assoc]
theorem ended_eq (s : List Int) (p : List UInt8) (x : Int) : ended s p x = outs (blocks ((p.length + zc p.length + 9) / 64) (p ++ [128] ++ List.replicate (zc p.length) 0 ++ len8 x 8) s) 32 := by
 unfold ended pad
 simp only [List.append_assoc]
theorem shift24 (i : Nat) : min (24 - 8 * ((i : Int) % 4)).toNat IntKind.u32.bits = 24 - 8 * (i % 4) := by
 show min _ 32 = _
 omega
theorem shift56 (i : Nat) (h : i < 8) : min (56 - 8 * (i : Int)).toNat IntKind.u64.bits = 56 - 8 * i := by
 show min _ 64 = _
 omega
theorem div4 (i : Nat) : ((i : Int) / 4).toNat = i / 4 := by omega
theorem bclone_con (p : List UInt8) (a : Addr) (c : Nat) (w : World) (hpm : p.length ≤ 35184372088832) (hpc : Cells w a (ints p)) : Con Tryz.prog 39 [.slice (some a) p.length c] w [] fun v S' => ∃ c', S' = [c'] ∧ Sx.Own 5 1 (ints p) v c' := by
 refine con_of_tree mix Tryz.func39 T39_ok (by kernel_rfl) ?_
 unfold T39
 refine j_q (qs_ac) ?_
 refine j_q (qs_slnil U33 rfl) ?_
 refine j_cond rfl (fun hc0 => ?_) (fun hc0 => ?_)
 ·skip
  cases hc0
 ·skip
  refine j_lit (vs := []) U33 sz5 zero5 rfl (by simp [oneV]) ⟨rfl, by decide⟩ (fun g3 v3 c3 hv3 hc3 ho3 => ?_)
  subst hv3 hc3
  refine j_append 0 U33 U33 (.inr ⟨_, rfl⟩) sb5 zero5 rfl ho3 rfl (src_sl (rd_cells hpc (by simp)) (by simp [ints_length])) ints_one ⟨(by simp [ints_length]; omega), (by decide)⟩ (fun v4 c4 ho4 => ?_)
  refine j_sub (S' := [c4]) (by simp) ?_
  refine j_ret_con (vs := [_]) (fun w' hw' => ⟨rfl, trivial⟩) ?_
  exact ⟨_, rfl, ho4⟩
theorem ended_con (s : List Int) (rest : List UInt8) (a : Addr) (c : Nat) (n0 x : Int) (w : World) (hs : s.length = 8) (hrm : rest.length ≤ 17592186044416) (hpc : Cells w a (ints rest)) (hx : x = IntKind.u64.wrap (n0 * 8)) : Con Tryz.prog 109 [.agg (ks .u32 s).toArray, .slice (some a) rest.length c, .int .u64 n0] w [] fun v _ => v = .agg (ints (ended s rest x)).toArray := by
 refine con_of_tree mix Tryz.func109 T109_ok (by kernel_rfl) ?_
 unfold T109
 have hz64 := zc_lt rest.length
 refine j_box rfl (fun g0 hg0 hs0 => ?_)
 refine j_alloc zero158 (fun g1 hg1 hs1 => ?_)
 refine j_call0 ent39 rfl rfl rfl (fun w' hw' => bclone_con rest a c w' (by omega) (rd_w (rd_cells hpc (by simp)) hw')) (fun u S2 hu => ?_)
 obtain ⟨c2, rfl, ho2⟩ := hu
 refine j_lit (vs := [.int .u8 _]) U33 sz5 zero5 rfl (by simp [oneV]) ⟨rfl, by decide⟩ (fun g3 v3 c3 hv3 hc3 ho3 => ?_)
 subst hv3 hc3
 refine j_append 1 U33 U33 (.inr ⟨_, rfl⟩) sb5 zero5 rfl ho2 rfl (src_sl (rd_own 0 rfl (n := 1) rfl) rfl) (by simp [oneV]) ⟨(by simp [ints_length]; omega), (by decide)⟩ (fun v4 c4 ho4 => ?_)
 have ho4' : Sx.Own 5 1 (ints (rest ++ [128] ++ List.replicate 0 0)) v4 c4 := by simpa using own128 (l := [128]) ho4
 refine j_loop (fun m vs S' => ∃ (j : Nat) (v : Value) (c : SH), vs = [v] ∧ S' = [[(g3, .cells [.int .u8 128].toArray 5 (0, 0))], c, [(g1, .cells (ints (List.replicate 32 0)).toArray 158 (0, 0))], [(g0, .cells (ks .u32 s).toArray 176 (0, 0))], []] ∧ Sx.Own 5 1 (ints (rest ++ [128] ++ List.replicate j 0)) v c ∧ j ≤ zc rest.length ∧ m = zc rest.length - j) ⟨_, 0, _, _, rfl, rfl, ho4', by omega, rfl⟩ ?_
 rintro m vs S' hlen ⟨j, v, c', rfl, rfl, ho, hj, rfl⟩
 obtain ⟨n, A, cap, rfl, hn⟩ := own_form ho (by decide)
 simp only [ints_length, List.length_append, List.length_replicate, List.length_cons, List.length_nil] at hn
 clear hlen
 refine j_q (qs_lenl U33 rfl) ?_
 refine j_q (qs_rem64 rfl rfl (by first | omega | (simp only [bnA] at *; omega)) (by first | omega | (simp only [bnA] at *; omega))) ?_
 refine j_q (qs_neq rfl rfl) ?_
 refine j_cond rfl (fun hc0 => ?_) (fun hc0 => ?_)
 ·skip
  have hj1 : j < zc rest.length := by
   refine zc_back hj ?_
   simp only [bnA] at *
   omega
  refine j_lit (vs := [.int .u8 _]) U33 sz5 zero5 rfl (by simp [oneV]) ⟨rfl, by decide⟩ (fun g8 v8 c8 hv8 hc8 ho8 => ?_)
  subst hv8 hc8
  refine j_append 2 U33 U33 (.inr ⟨_, rfl⟩) sb5 zero5 rfl ho rfl (src_sl (rd_own 0 rfl (n := 1) rfl) rfl) (by simp [oneV]) ⟨(by simp [ints_length]; omega), (by decide)⟩ (fun v9 c9 ho9 => ?_)
  have ho9' : Sx.Own 5 1 (ints (rest ++ [128] ++ List.replicate (j + 1) 0)) v9 c9 := by rw [← rep_succ]; exact own128 (l := [0]) ho9
  refine j_drop ?_
  refine j_back rfl ?_
  exact ⟨_, back_le hj1, j + 1, _, _, rfl, rfl, ho9', by omega, rfl⟩
 ·skip
  have hje : j = zc rest.length := by
   refine zc_end hj ?_
   simp only [bnA] at *
   omega
  refine j_q (qs_mc) ?_
  refine j_loop (fun m vs S' => ∃ (i : Nat) (v : Value) (c : SH), vs = [v, .int .i64 i] ∧ S' = [[(g3, .cells [.int .u8 128].toArray 5 (0, 0))], c, [(g1, .cells (ints (List.replicate 32 0)).toArray 158 (0, 0))], [(g0, .cells (ks .u32 s).toArray 176 (0, 0))], []] ∧ Sx.Own 5 1 (ints (rest ++ [128] ++ List.replicate (zc rest.length) 0 ++ len8 x i)) v c ∧ i ≤ 8 ∧ m = 8 - i) ⟨_, 0, _, _, rfl, rfl, (ho_len8 (hje ▸ ho)), by omega, rfl⟩ ?_
  rintro m vs S' hlen ⟨i, v, c', rfl, rfl, ho, hi, rfl⟩
  clear hlen
  refine j_q (qs_lss rfl rfl) ?_
  refine j_cond rfl (fun hc1 => ?_) (fun hc1 => ?_)
  ·skip
   have hi1 : i < 8 := by
    simp only [bnA] at *
    omega
   refine j_q (qs_shl rfl rfl (by first | omega | (simp only [bnA] at *; omega))) ?_
   refine j_q (qs_mul64 rfl rfl (by first | omega | (simp only [bnA] at *; omega))) ?_
   refine j_q (qs_sub64 rfl rfl (by first | omega | (simp only [bnA] at *; omega))) ?_
   refine j_q (qs_shr rfl rfl (by first | omega | (simp only [bnA] at *; omega))) ?_
   refine j_q (qs_conv8 U64 U5 rfl) ?_
   rw [show (n0 * 2 ^ min (Int.toNat 3) IntKind.u64.bits : Int) = n0 * 8 from rfl, ← hx, shift56 i hi1]
   refine j_lit (vs := [.int .u8 _]) U33 sz5 zero5 rfl (by simp [oneV]) ⟨rfl, by decide⟩ (fun g17 v17 c17 hv17 hc17 ho17 => ?_)
   subst hv17 hc17
   refine j_append 2 U33 U33 (.inr ⟨_, rfl⟩) sb5 zero5 rfl ho rfl (src_sl (rd_own 0 rfl (n := 1) rfl) rfl) (by simp [oneV]) ⟨(by simp [ints_length, len8_length]; omega), (by decide)⟩ (fun v18 c18 ho18 => ?_)
   have ho18' : Sx.Own 5 1 (ints (rest ++ [128] ++ List.replicate (zc rest.length) 0 ++ len8 x (i + 1))) v18 c18 := by rw [← len8_succ]; exact own128 (l := [_]) ho18
   refine j_drop ?_
   refine j_q (qs_add64 rfl rfl (by first | omega | (simp only [bnA] at *; omega))) ?_
   refine j_back rfl ?_
   exact ⟨_, back_le hi1, i + 1, _, _, rfl, rfl, ho18', by omega, rfl⟩
  ·skip
   have hi1 : i = 8 := by
    simp only [bnA] at *
    omega
   subst hi1
   obtain ⟨g, n, cap, rfl⟩ := own_some ho (by simp [ints])
   obtain ⟨row, fz, hrow, hl1, hl2, hl3, hl4⟩ := own_row ho
   simp only [ints_length] at hl1
   have hmm : (rest ++ [128] ++ List.replicate (zc rest.length) 0 ++ len8 x 8).length = rest.length + zc rest.length + 9 := by simp [len8_length]; omega
   obtain rfl : n = (rest ++ [128] ++ List.replicate (zc rest.length) 0 ++ len8 x 8).length := by omega
   refine j_call 3 ent108 rfl rfl rfl rfl (fun w' hw' => take_con s (rest ++ [128] ++ List.replicate (zc rest.length) 0 ++ len8 x 8) ⟨g, 0, none⟩ cap g0 _ w' hs (by omega) hl3 (rd_w (own_rd ho 1 rfl) hw') (fun _ => by subst hrow; exact hw'.ne (i := 1) (j := 3) rfl rfl (by decide))) (fun u S2 hu => ?_)
   obtain ⟨rfl, rfl⟩ := hu
   rw [hmm]
   obtain ⟨s', hs'⟩ : ∃ s', s' = blocks ((rest.length + zc rest.length + 9) / 64) (rest ++ [128] ++ List.replicate (zc rest.length) 0 ++ len8 x 8) s := ⟨_, rfl⟩
   have hsl : s'.length = 8 := by rw [hs']; exact blocks_length hs
   rw [← hs']
   refine j_q (qs_mc) ?_
   refine j_loop (fun m vs S' => ∃ (i : Nat) (h : List UInt8), vs = [.int .i64 i] ∧ S' = [[(g0, .cells (ks .u32 s').toArray 176 (0, 0))], [(g3, .cells [.int .u8 128].toArray 5 (0, 0))], c', [(g1, .cells (ints h).toArray 158 (0, 0))], [], []] ∧ h.length = 32 ∧ h.take i = outs s' i ∧ i ≤ 32 ∧ m = 32 - i) ⟨_, 0, _, rfl, rfl, by simp, rfl, by omega, rfl⟩ ?_
   rintro m vs S' hlen ⟨i, h, rfl, rfl, hhl, ht, hi, rfl⟩
   clear hlen
   refine j_q (qs_lss rfl rfl) ?_
   refine j_cond rfl (fun hc2 => ?_) (fun hc2 => ?_)
   ·skip
    have hi1 : i < 32 := by
     simp only [bnA] at *
     omega
    refine j_q (qs_quo64 rfl rfl (by first | omega | (simp only [bnA] at *; omega)) (by first | omega | (simp only [bnA] at *; omega)) (by first | omega | (simp only [bnA] at *; omega))) ?_
    refine j_q (qs_ix0 U176 sz123 rfl rfl ⟨(by first | omega | (simp only [bnA] at *; omega)), (by first | omega | (simp only [bnA] at *; omega))⟩) ?_
    first
     | refine j_q (qs_loadk 0 U123 rfl rfl (by first | omega | (simp only [bnA] at *; omega))) ?_
     | refine j_q (qs_loadk 1 U123 rfl rfl (by first | omega | (simp only [bnA] at *; omega))) ?_
     | refine j_q (qs_loadk 2 U123 rfl rfl (by first | omega | (simp only [bnA] at *; omega))) ?_
     | refine j_q (qs_loadk 3 U123 rfl rfl (by first | omega | (simp only [bnA] at *; omega))) ?_
     | refine j_q (qs_loadk 4 U123 rfl rfl (by first | omega | (simp only [bnA] at *; omega))) ?_
     | refine j_q (qs_load 0 U123 rfl rfl rfl rfl) ?_
     | refine j_q (qs_load 1 U123 rfl rfl rfl rfl) ?_
     | refine j_q (qs_load 2 U123 rfl rfl rfl rfl) ?_
     | refine j_q (qs_load 3 U123 rfl rfl rfl rfl) ?_
     | refine j_q (qs_load 4 U123 rfl rfl rfl rfl) ?_
    refine j_q (qs_rem64 rfl rfl (by first | omega | (simp only [bnA] at *; omega)) (by first | omega | (simp only [bnA] at *; omega))) ?_
    refine j_q (qs_mul64 rfl rfl (by first | omega | (simp only [bnA] at *; omega))) ?_
    refine j_q (qs_sub64 rfl rfl (by first | omega | (simp only [bnA] at *; omega))) ?_
    refine j_q (qs_shr rfl rfl (by first | omega | (simp only [bnA] at *; omega))) ?_
    refine j_q (qs_conv8 U123 U5 rfl) ?_
    rw [div4, shift24]
    refine j_q (qs_ix0 U158 sz5 rfl rfl ⟨(by first | omega | (simp only [bnA] at *; omega)), (by first | omega | (simp only [bnA] at *; omega))⟩) ?_
    first
     | refine j_storek 0 sz5 rfl rfl rfl (by first | omega | (simp only [bnA] at *; omega)) ?_
     | refine j_storek 1 sz5 rfl rfl rfl (by first | omega | (simp only [bnA] at *; omega)) ?_
     | refine j_storek 2 sz5 rfl rfl rfl (by first | omega | (simp only [bnA] at *; omega)) ?_
     | refine j_storek 3 sz5 rfl rfl rfl (by first | omega | (simp only [bnA] at *; omega)) ?_
     | refine j_storek 4 sz5 rfl rfl rfl (by first | omega | (simp only [bnA] at *; omega)) ?_
     | refine j_storei 0 sz5 rfl rfl rfl (by first | omega | (simp only [bnA] at *; omega)) ?_
     | refine j_storei 1 sz5 rfl rfl rfl (by first | omega | (simp only [bnA] at *; omega)) ?_
     | refine j_storei 2 sz5 rfl rfl rfl (by first | omega | (simp only [bnA] at *; omega)) ?_
     | refine j_storei 3 sz5 rfl rfl rfl (by first | omega | (simp only [bnA] at *; omega)) ?_
     | refine j_storei 4 sz5 rfl rfl rfl (by first | omega | (simp only [bnA] at *; omega)) ?_
     | refine j_store 0 sz5 rfl rfl rfl rfl (by simp) (by first | omega | (simp only [bnA] at *; omega)) ?_
     | refine j_store 1 sz5 rfl rfl rfl rfl (by simp) (by first | omega | (simp only [bnA] at *; omega)) ?_
     | refine j_store 2 sz5 rfl rfl rfl rfl (by simp) (by first | omega | (simp only [bnA] at *; omega)) ?_
     | refine j_store 3 sz5 rfl rfl rfl rfl (by simp) (by first | omega | (simp only [bnA] at *; omega)) ?_
     | refine j_store 4 sz5 rfl rfl rfl rfl (by simp) (by first | omega | (simp only [bnA] at *; omega)) ?_
    refine j_q (qs_add64 rfl rfl (by first | omega | (simp only [bnA] at *; omega))) ?_
    refine j_back rfl ?_
    exact ⟨_, back_le hi1, i + 1, _, rfl, rfl, by simpa using hhl, outs_step ht (by omega), by omega, rfl⟩
   ·skip
    have hi1 : i = 32 := by
     simp only [bnA] at *
     omega
    subst hi1
    first
     | refine j_q (qs_loadw 0 U158 rfl sz158 rfl rfl (by first | rfl | (rw [ints_length]; exact hhl))) ?_
     | refine j_q (qs_loadw 1 U158 rfl sz158 rfl rfl (by first | rfl | (rw [ints_length]; exact hhl))) ?_
     | refine j_q (qs_loadw 2 U158 rfl sz158 rfl rfl (by first | rfl | (rw [ints_length]; exact hhl))) ?_
     | refine j_q (qs_loadw 3 U158 rfl sz158 rfl rfl (by first | rfl | (rw [ints_length]; exact hhl))) ?_
     | refine j_q (qs_loadw 4 U158 rfl sz158 rfl rfl (by first | rfl | (rw [ints_length]; exact hhl))) ?_
    first
     | refine j_storew 0 sz158 rfl rfl (by first | rfl | (rw [ints_length]; exact hhl)) ints_one rfl (by first | rfl | (rw [ints_length]; exact hhl)) ?_
     | refine j_storew 1 sz158 rfl rfl (by first | rfl | (rw [ints_length]; exact hhl)) ints_one rfl (by first | rfl | (rw [ints_length]; exact hhl)) ?_
     | refine j_storew 2 sz158 rfl rfl (by first | rfl | (rw [ints_length]; exact hhl)) ints_one rfl (by first | rfl | (rw [ints_length]; exact hhl)) ?_
     | refine j_storew 3 sz158 rfl rfl (by first | rfl | (rw [ints_length]; exact hhl)) ints_one rfl (by first | rfl | (rw [ints_length]; exact hhl)) ?_
     | refine j_storew 4 sz158 rfl rfl (by first | rfl | (rw [ints_length]; exact hhl)) ints_one rfl (by first | rfl | (rw [ints_length]; exact hhl)) ?_
    first
     | refine j_ret_con (vs := [_]) (fun w' hw' => ⟨rv_agg 0 U158 rfl sz158 rfl rfl (by first | rfl | (rw [ints_length]; exact hhl)) hw', trivial⟩) ?_
     | refine j_ret_con (vs := [_]) (fun w' hw' => ⟨rv_agg 1 U158 rfl sz158 rfl rfl (by first | rfl | (rw [ints_length]; exact hhl)) hw', trivial⟩) ?_
     | refine j_ret_con (vs := [_]) (fun w' hw' => ⟨rv_agg 2 U158 rfl sz158 rfl rfl (by first | rfl | (rw [ints_length]; exact hhl)) hw', trivial⟩) ?_
     | refine j_ret_con (vs := [_]) (fun w' hw' => ⟨rv_agg 3 U158 rfl sz158 rfl rfl (by first | rfl | (rw [ints_length]; exact hhl)) hw', trivial⟩) ?_
     | refine j_ret_con (vs := [_]) (fun w' hw' => ⟨rv_agg 4 U158 rfl sz158 rfl rfl (by first | rfl | (rw [ints_length]; exact hhl)) hw', trivial⟩) ?_
    show Value.agg _ = _
    rw [List.take_of_length_le (by omega)] at ht
    rw [ht, hs', ended_eq]
end Go.Proofs.YtfebkkmmagbnlaaGreatDoor
/-! Sha4 -/
namespace Go.Proofs.YtfebkkmmagbnlaaGreatDoor
open Go Go.Sx
set_option maxRecDepth 100000
set_option maxHeartbeats 4000000
set_option linter.unusedVariables false
set_option linter.unusedSimpArgs false
attribute [local irreducible] J JQ QS Con W opW
theorem sum_con (p : List UInt8) (a : Addr) (c : Nat) (w : World) (hpm : p.length ≤ 17592186044416) (hc : p.length ≤ c) (hpc : Cells w a (ints p)) : Con Tryz.prog 85 [.slice (some a) p.length c] w [] fun v _ => v = .agg (ints (sum p)).toArray := by
 refine con_of_tree mix Tryz.func85 T85_ok (by kernel_rfl) ?_
 unfold T85
 refine j_alloc zero158 (fun g0 hg0 hs0 => ?_)
 refine j_q (qs_call ent107 rfl rfl rfl (fun w' hw' => dbegun_con w')) ?_
 refine j_alloc zero176 (fun g2 hg2 hs2 => ?_)
 first
  | refine j_storew 0 sz176 rfl rfl (by first | (rw [ks_length]; exact blocks_length rfl) | (rw [ints_length]; exact outs_length _ _) | rfl) ks_one rfl (by first | (rw [ks_length]; exact blocks_length rfl) | (rw [ints_length]; exact outs_length _ _) | rfl) ?_
  | refine j_storew 1 sz176 rfl rfl (by first | (rw [ks_length]; exact blocks_length rfl) | (rw [ints_length]; exact outs_length _ _) | rfl) ks_one rfl (by first | (rw [ks_length]; exact blocks_length rfl) | (rw [ints_length]; exact outs_length _ _) | rfl) ?_
  | refine j_storew 2 sz176 rfl rfl (by first | (rw [ks_length]; exact blocks_length rfl) | (rw [ints_length]; exact outs_length _ _) | rfl) ks_one rfl (by first | (rw [ks_length]; exact blocks_length rfl) | (rw [ints_length]; exact outs_length _ _) | rfl) ?_
 refine j_call 0 ent108 rfl rfl rfl rfl (fun w' hw' => take_con init8 p a c g2 _ w' rfl (by omega) hc (rd_w (rd_cells hpc (by simp)) hw') (fun hp => ne_own hpc hg2 hp)) (fun u S2 hu => ?_)
 obtain ⟨rfl, rfl⟩ := hu
 refine j_draw ?_
 first
  | refine jq_q (qs_loadw 0 U176 rfl sz176 rfl rfl (by first | (rw [ks_length]; exact blocks_length rfl) | (rw [ints_length]; exact outs_length _ _) | rfl)) ?_
  | refine jq_q (qs_loadw 1 U176 rfl sz176 rfl rfl (by first | (rw [ks_length]; exact blocks_length rfl) | (rw [ints_length]; exact outs_length _ _) | rfl)) ?_
  | refine jq_q (qs_loadw 2 U176 rfl sz176 rfl rfl (by first | (rw [ks_length]; exact blocks_length rfl) | (rw [ints_length]; exact outs_length _ _) | rfl)) ?_
 refine jq_q (qs_lenl U33 rfl) ?_
 refine jq_q (qs_quo64 rfl rfl (by first | omega | (simp only [bnA] at *; omega)) (by first | omega | (simp only [bnA] at *; omega)) (by first | omega | (simp only [bnA] at *; omega))) ?_
 refine jq_q (qs_mul64 rfl rfl (by first | omega | (simp only [bnA] at *; omega))) ?_
 refine jq_q (qs_cutl (a := 64 * (p.length / 64)) (z := p.length) U33 sz5 rfl ⟨.i64, by show Value.int _ _ = _; congr 1; omega⟩ rfl (by omega) (by omega)) ?_
 rw [show (if c = 64 * (p.length / 64) then some a else (some a).map (·.add (64 * (p.length / 64) * 1))) = some (if c = 64 * (p.length / 64) then a else a.add (64 * (p.length / 64))) by split <;> simp]
 have hcell : ∀ (S : List SH) w', Sig ⟨w, dom []⟩ S w' → Cells w' (if c = 64 * (p.length / 64) then a else a.add (64 * (p.length / 64))) ((ints p).drop (64 * (p.length / 64))) := by
  intro S w' hw'
  have h0 := rd_w (rd_cells hpc (by simp)) hw'
  split
  ·rw [List.drop_of_length_le (by rw [ints_length]; omega)]
   intro j u hu
   simp at hu
  ·exact cells_drop h0 _
 rw [show p.length - 64 * (p.length / 64) = (p.drop (64 * (p.length / 64))).length by rw [List.length_drop]]
 refine jq_q (qs_lenl U33 rfl) ?_
 refine jq_q (qs_conv U3 U64 rfl) ?_
 refine jq_q (qs_call ent109 rfl rfl rfl (fun w' hw' => ended_con _ (p.drop (64 * (p.length / 64))) _ _ _ (bits8 p.length) w' (blocks_length rfl) (by rw [List.length_drop]; omega) (by rw [← ints_drop]; exact hcell _ w' hw') rfl)) ?_
 refine jq_nil ?_
 first
  | refine j_storew 0 sz158 rfl rfl (by first | (rw [ks_length]; exact blocks_length rfl) | (rw [ints_length]; exact outs_length _ _) | rfl) ints_one rfl (by first | (rw [ks_length]; exact blocks_length rfl) | (rw [ints_length]; exact outs_length _ _) | rfl) ?_
  | refine j_storew 1 sz158 rfl rfl (by first | (rw [ks_length]; exact blocks_length rfl) | (rw [ints_length]; exact outs_length _ _) | rfl) ints_one rfl (by first | (rw [ks_length]; exact blocks_length rfl) | (rw [ints_length]; exact outs_length _ _) | rfl) ?_
  | refine j_storew 2 sz158 rfl rfl (by first | (rw [ks_length]; exact blocks_length rfl) | (rw [ints_length]; exact outs_length _ _) | rfl) ints_one rfl (by first | (rw [ks_length]; exact blocks_length rfl) | (rw [ints_length]; exact outs_length _ _) | rfl) ?_
 first
  | refine j_ret_con (vs := [_]) (fun w' hw' => ⟨rv_agg 0 U158 rfl sz158 rfl rfl (by first | (rw [ks_length]; exact blocks_length rfl) | (rw [ints_length]; exact outs_length _ _) | rfl) hw', trivial⟩) ?_
  | refine j_ret_con (vs := [_]) (fun w' hw' => ⟨rv_agg 1 U158 rfl sz158 rfl rfl (by first | (rw [ks_length]; exact blocks_length rfl) | (rw [ints_length]; exact outs_length _ _) | rfl) hw', trivial⟩) ?_
  | refine j_ret_con (vs := [_]) (fun w' hw' => ⟨rv_agg 2 U158 rfl sz158 rfl rfl (by first | (rw [ks_length]; exact blocks_length rfl) | (rw [ints_length]; exact outs_length _ _) | rfl) hw', trivial⟩) ?_
 show Value.agg _ = _
 rw [sum_split]
end Go.Proofs.YtfebkkmmagbnlaaGreatDoor
/-! Jn0 -/
namespace Go.Proofs.YtfebkkmmagbnlaaGreatDoor
open Go Go.Sx
set_option maxRecDepth 100000
set_option linter.unusedVariables false
set_option linter.unusedSimpArgs false
def num (n : Nat) : List UInt8 := if h : n < 128 then [UInt8.ofNat n] else UInt8.ofNat (n % 128 + 128) :: num (n / 128)
termination_by n
decreasing_by omega
theorem num_lo {n : Nat} (h : n < 128) : num n = [UInt8.ofNat n] := by rw [num, dif_pos h]
theorem num_hi {n : Nat} (h : 128 ≤ n) : num n = UInt8.ofNat (n % 128 + 128) :: num (n / 128) := by rw [num, dif_neg (by omega)]
theorem num_pos (n : Nat) : 1 ≤ (num n).length := by
 by_cases h : n < 128
 ·rw [num_lo h]; exact Nat.le_refl _
 ·rw [num_hi (by omega)]; exact Nat.le_add_left _ _
theorem num_len {n : Nat} (h : n < 268435456) : (num n).length ≤ 4 := by
 by_cases h1 : n < 128
 ·rw [num_lo h1]; exact Nat.succ_le_succ (Nat.zero_le _)
 ·rw [num_hi (by omega), List.length_cons]
  by_cases h2 : n / 128 < 128
  ·rw [num_lo h2]; simp
  ·rw [num_hi (by omega), List.length_cons]
   by_cases h3 : n / 128 / 128 < 128
   ·rw [num_lo h3]; simp
   ·rw [num_hi (by omega), List.length_cons, num_lo (by omega)]; simp
theorem lo8 (n : Nat) : by8 (n : Int) = UInt8.ofNat (n % 256) := by
 unfold by8
 rw [IntKind.wrap_u8]
 congr 1
theorem or128 (n : Nat) : bw .or .u8 (((by8 (n : Int)).toNat : Nat) : Int) 128 = ((UInt8.ofNat (n % 128 + 128)).toNat : Int) := by
 have h : ∀ k : Fin 256, bw .or .u8 ((k.val : Nat) : Int) 128 = ((UInt8.ofNat (k.val % 128 + 128)).toNat : Int) := by decide +kernel
 have h1 := h ⟨n % 256, Nat.mod_lt _ (by decide)⟩
 rw [lo8, UInt8.toNat_ofNat', Nat.mod_mod]
 simp only at h1
 rw [h1]
 congr 4
 omega
theorem and127 (c : UInt8) : bw .and .u8 (c.toNat : Int) 127 = ((c.toNat % 128 : Nat) : Int) := by
 have h : ∀ k : Fin 256, bw .and .u8 ((k.val : Nat) : Int) 127 = ((k.val % 128 : Nat) : Int) := by decide +kernel
 exact h ⟨c.toNat, c.toNat_lt⟩
theorem bw_or64 (a b : Nat) (ha : a < 18446744073709551616) (hb : b < 18446744073709551616) : bw .or .u64 (a : Int) (b : Int) = ((a ||| b : Nat) : Int) := by
 have e : bw .or .u64 (a : Int) (b : Int) = IntKind.u64.wrap (((BitVec.ofInt 64 (a : Int) ||| BitVec.ofInt 64 (b : Int)).toNat : Nat) : Int) := rfl
 have hlt : a ||| b < 18446744073709551616 := Nat.or_lt_two_pow (n := 64) ha hb
 have e1 : ((a : Int) % ((2 ^ 64 : Nat) : Int)).toNat = a := by omega
 have e2 : ((b : Int) % ((2 ^ 64 : Nat) : Int)).toNat = b := by omega
 rw [e, BitVec.toNat_or, BitVec.toNat_ofInt, BitVec.toNat_ofInt, e1, e2, IntKind.wrap_u64]
 omega
theorem bw_or_add {a b s : Nat} (h1 : a < 2 ^ s) (h0 : a < 18446744073709551616) (h2 : b * 2 ^ s < 18446744073709551616) : bw .or .u64 (a : Int) ((b * 2 ^ s : Nat) : Int) = ((a + b * 2 ^ s : Nat) : Int) := by
 rw [bw_or64 _ _ h0 h2]
 congr 1
 rw [Nat.or_comm, Nat.mul_comm, ← Nat.two_pow_add_eq_or_of_lt h1, Nat.add_comm]
end Go.Proofs.YtfebkkmmagbnlaaGreatDoor
/-! Jn1 -/
namespace Go.Proofs.YtfebkkmmagbnlaaGreatDoor
open Go Go.Sx
set_option maxRecDepth 100000
set_option maxHeartbeats 4000000
set_option linter.unusedVariables false
set_option linter.unusedSimpArgs false
attribute [local irreducible] J JQ QS Con W opW
theorem br_sub {w : World} {A : Option Addr} {cap : Nat} {xs : List UInt8} (h : BR w (.slice A xs.length cap) xs) (a z : Nat) (h1 : a ≤ z) (h2 : z ≤ xs.length) : BR w (.slice (if cap = a then A else A.map (fun p : Addr => p.add (a * 1))) (z - a) (cap - a)) ((xs.take z).drop a) := by
 rcases h with ⟨e, rfl⟩ | ⟨p, c, e, hc, hb, hcl⟩
 ·injection e with e1 e2 e3
  subst e1 e3
  have h3 : z = 0 := by simpa using h2
  subst h3
  have h4 : a = 0 := by omega
  subst h4
  exact .inl ⟨rfl, rfl⟩
 ·injection e with e1 e2 e3
  subst e1 e3
  have hl : ((xs.take z).drop a).length = z - a := by rw [List.length_drop, List.length_take]; omega
  by_cases hca : cap = a
  ·rw [if_pos hca]
   have h3 : z - a = 0 := by omega
   refine .inr ⟨p, cap - a, by rw [hl], by omega, fun h0 => by omega, ?_⟩
   rw [List.eq_nil_of_length_eq_zero (by omega : ((xs.take z).drop a).length = 0)]
   intro j u hu
   simp [ints] at hu
  ·rw [if_neg hca]
   refine .inr ⟨p.add (a * 1), cap - a, by rw [hl]; rfl, by omega, fun h0 => ?_, ?_⟩
   ·rw [add_block]
    exact hb (by omega)
   ·rw [Nat.mul_one, ← ints_drop, ← ints_take]
    exact cells_drop (cells_take hcl z) a
theorem own_froz {g : Nat} {xs : List UInt8} : Sx.Own 5 1 (ints xs) (.slice (some ⟨g, 0, none⟩) xs.length xs.length) [(g, .cells (ints xs).toArray 5 (xs.length, xs.length + 1))] :=
 .inr ⟨g, xs.length, xs.length, [], _, rfl, by rw [List.append_nil], by rw [ints_length, Nat.mul_one], by rw [List.append_nil, ints_length, Nat.mul_one], Nat.le_refl _, fun j hj => by rw [List.append_nil, ints_length] at hj; show ¬ (xs.length ≤ j ∧ _); omega⟩
theorem pow7_le {i : Nat} (h : i ≤ 3) : (128 : Nat) ^ i ≤ 2097152 := by
 have h1 : i = 0 ∨ i = 1 ∨ i = 2 ∨ i = 3 := by omega
 rcases h1 with rfl | rfl | rfl | rfl <;> decide
theorem shl7 {k i : Nat} (hi : i ≤ 3) (hk : k < 128) : IntKind.u64.wrap ((k : Int) * 2 ^ min (7 * (i : Int)).toNat IntKind.u64.bits) = ((k * 2 ^ (7 * i) : Nat) : Int) := by
 have h1 : i = 0 ∨ i = 1 ∨ i = 2 ∨ i = 3 := by omega
 have h2 : ∀ e : Nat, e ≤ 21 → IntKind.u64.wrap ((k : Int) * 2 ^ e) = ((k * 2 ^ e : Nat) : Int) := fun e he => by
  have h3 : (2 : Nat) ^ e ≤ 2 ^ 21 := Nat.pow_le_pow_right (by decide) he
  have h4 : k * 2 ^ e ≤ 127 * 2 ^ 21 := Nat.mul_le_mul (by omega) h3
  have h5 : (k : Int) * 2 ^ e = ((k * 2 ^ e : Nat) : Int) := by simp
  rw [h5, IntKind.wrap_u64]
  omega
 rcases h1 with rfl | rfl | rfl | rfl
 ·exact h2 0 (by decide)
 ·exact h2 7 (by decide)
 ·exact h2 14 (by decide)
 ·exact h2 21 (by decide)
theorem num_at {n k i : Nat} {z : List UInt8} (hg : (num n ++ z).getD i 0 = (num k ++ z).getD 0 0) : ((num n ++ z).getD i 0).toNat = if k < 128 then k else k % 128 + 128 := by
 rw [hg]
 by_cases h : k < 128
 ·rw [if_pos h, num_lo h]
  show (UInt8.ofNat k).toNat = k
  rw [UInt8.toNat_ofNat']
  omega
 ·rw [if_neg h, num_hi (by omega)]
  show (UInt8.ofNat (k % 128 + 128)).toNat = _
  rw [UInt8.toNat_ofNat']
  omega
theorem pow27 (i : Nat) : (2 : Nat) ^ (7 * i) = 128 ^ i := by rw [Nat.pow_mul]
theorem appendNum_con (xs : List UInt8) (n : Nat) (v : Value) (c : SH) (w : World) (ho : Sx.Own 5 1 (ints xs) v c) (hn : n < 268435456) (hl : xs.length ≤ 1000000000) : Con Tryz.prog 115 [v, .int .u64 (n : Int)] w c fun u S' => ∃ c', S' = [c'] ∧ Sx.Own 5 1 (ints (xs ++ num n)) u c' := by
 refine con_of_tree mix Tryz.func115 T115_ok (by kernel_rfl) ?_
 unfold T115
 have hnl := num_len hn
 refine j_q (qs_ac) ?_
 refine j_loop (fun m vs S' => ∃ (ys : List UInt8) (k : Nat) (v' : Value) (c' : SH), vs = [v', .int .u64 (k : Int)] ∧ S' = [c'] ∧ Sx.Own 5 1 (ints ys) v' c' ∧ ys ++ num k = xs ++ num n ∧ k ≤ n ∧ k = m) ⟨_, xs, n, v, c, rfl, rfl, ho, rfl, Nat.le_refl _, rfl⟩ ?_
 rintro m vs S' hlen ⟨ys, k, v', c', rfl, rfl, ho', hys, hkn, rfl⟩
 have hyl : ys.length ≤ 1000000004 := by
  have := congrArg List.length hys
  simp only [List.length_append] at this
  omega
 refine j_q (qs_geq rfl rfl) ?_
 refine j_cond rfl (fun hc0 => ?_) (fun hc0 => ?_)
 ·skip
  have hk : 128 ≤ k := by
   simp only [bnA] at *
   omega
  refine j_q (qs_conv8 U64 U5 rfl) ?_
  refine j_q (qs_or_ rfl rfl) ?_
  rw [or128]
  refine j_lit (vs := [.int .u8 _]) U33 sz5 zero5 rfl (by simp [oneV]) ⟨rfl, by decide⟩ (fun g4 v4 c4 hv4 hc4 ho4 => ?_)
  subst hv4 hc4
  refine j_append 1 U33 U33 (.inr ⟨_, rfl⟩) sb5 zero5 rfl ho' rfl (.inl ⟨_, _, rfl, rd_own (off := 0) (n := 1) 0 rfl rfl, rfl⟩) (by simp [oneV]) ⟨(by simp only [ints_length]; simp; omega), (by decide)⟩ (fun v5 c5 ho5 => ?_)
  have ho6 : Sx.Own 5 1 (ints (ys ++ [UInt8.ofNat (k % 128 + 128)])) v5 c5 := by
   rw [ints_append]
   exact ho5
  refine j_subl (S' := [c5]) (by repeat first | exact slR _ | exact slN _ | apply slC | apply slD) ?_
  refine j_q (qs_shr rfl rfl (by first | omega | (simp only [bnA] at *; omega))) ?_
  rw [show Int.fdiv (k : Int) (2 ^ min (7 : Int).toNat IntKind.u64.bits) = ((k / 128 : Nat) : Int) from by
   show Int.fdiv (k : Int) 128 = _
   rw [Int.fdiv_eq_ediv_of_nonneg _ (by decide)]
   rfl]
  refine j_back rfl ?_
  refine ⟨k / 128, by omega, _, k / 128, _, _, rfl, rfl, ho6, ?_, by omega, rfl⟩
  rw [← hys, List.append_assoc, num_hi hk]
  rfl
 ·skip
  have hk : k < 128 := by
   simp only [bnA] at *
   omega
  refine j_q (qs_conv8 U64 U5 rfl) ?_
  rw [lo8, Nat.mod_eq_of_lt (show k < 256 by omega)]
  refine j_lit (vs := [.int .u8 _]) U33 sz5 zero5 rfl (by simp [oneV]) ⟨rfl, by decide⟩ (fun g8 v8 c8 hv8 hc8 ho8 => ?_)
  subst hv8 hc8
  refine j_append 1 U33 U33 (.inr ⟨_, rfl⟩) sb5 zero5 rfl ho' rfl (.inl ⟨_, _, rfl, rd_own (off := 0) (n := 1) 0 rfl rfl, rfl⟩) (by simp [oneV]) ⟨(by simp only [ints_length]; simp; omega), (by decide)⟩ (fun v9 c9 ho9 => ?_)
  refine j_subl (S' := [c9]) (by repeat first | exact slR _ | exact slN _ | apply slC | apply slD) ?_
  refine j_ret_con (vs := [_]) (fun w' hw' => ⟨rfl, trivial⟩) ?_
  refine ⟨_, rfl, ?_⟩
  rw [← hys, num_lo hk, ints_append]
  exact ho9
theorem takeNum_con (n : Nat) (z : List UInt8) (v : Value) (w : World) (h : BR w v (num n ++ z)) (hn : n < 268435456) (hl : (num n ++ z).length ≤ 1000000000) : Con Tryz.prog 88 [v] w [] fun u _ => u = .tuple #[.int .u64 (n : Int), .int .i64 ((num n).length : Int)] := by
 refine con_of_tree mix Tryz.func88 T88_ok (by kernel_rfl) ?_
 unfold T88
 have hnl := num_len hn
 have hnp := num_pos n
 have hll : (num n ++ z).length = (num n).length + z.length := List.length_append
 rcases h with ⟨_, h⟩ | ⟨a, cap, hv, hcap, hbl, hcl⟩
 ·rw [h] at hll; simp at hll; omega
 subst hv
 refine j_q (qs_ac) ?_
 refine j_q (qs_ac) ?_
 refine j_q (qs_ac) ?_
 refine j_q (qs_lenl U33 rfl) ?_
 refine j_q (qs_mc) ?_
 refine j_loop (fun m vs S' => ∃ (i k acc : Nat), vs = [.int .u64 (acc : Int), .int .i64 (i : Int)] ∧ S' = [[]] ∧ (num n ++ z).drop i = num k ++ z ∧ i + (num k).length = (num n).length ∧ acc + k * 128 ^ i = n ∧ acc < 128 ^ i ∧ k = m) ⟨_, 0, n, 0, rfl, rfl, rfl, Nat.zero_add _, by simp, by simp, rfl⟩ ?_
 rintro m vs S' hlen ⟨i, k, acc, rfl, rfl, hdr, hlk, hacc, hlt, rfl⟩
 have hkp := num_pos k
 have hi3 : i ≤ 3 := by omega
 have hi : i < (num n ++ z).length := by omega
 have hp7 := pow7_le hi3
 have hp1 : 1 ≤ 128 ^ i := Nat.one_le_pow _ _ (by decide)
 have hkn : k ≤ n := by have := Nat.le_mul_of_pos_right k (show 0 < 128 ^ i by omega); omega
 have hg0 : (num n ++ z).getD i 0 = (num k ++ z).getD 0 0 := by rw [← hdr, List.getD_eq_getElem?_getD, List.getD_eq_getElem?_getD, List.getElem?_drop, Nat.add_zero]
 have hb := num_at hg0
 clear hg0
 have hkm : k * 128 ^ i ≤ n := by omega
 refine j_q (qs_lss rfl rfl) ?_
 refine j_cond rfl (fun hc0 => ?_) (fun hc0 => ?_)
 ·skip
  refine j_q (qs_ixl0 U33 sz5 rfl rfl ⟨(by first | omega | (simp only [bnA] at *; omega)), (by first | omega | (simp only [bnA] at *; omega))⟩) ?_
  refine j_q (qs_loadR (v := .int .u8 (((num n ++ z).getD i 0).toNat : Int)) (a := a) (i := i) (rd_cells hcl (by simp)) U5 rfl (by show Value.pointer (some (Addr.add a (i : Int).toNat)) = _; rw [Int.toNat_natCast]) (ints_get_lt hi)) ?_
  refine j_q (qs_eql rfl rfl) ?_
  refine j_cond rfl (fun hc1 => ?_) (fun hc1 => ?_)
  ·skip
   simp only [bnA] at *
   omega
  ·skip
   refine j_q (qs_lss rfl rfl) ?_
   refine j_cond rfl (fun hc2 => ?_) (fun hc2 => ?_)
   ·skip
    have hk : k < 128 := by
     by_cases hk : k < 128
     ·exact hk
     ·rw [if_neg hk] at hb
      rw [hb] at hc2
      simp at hc2
      omega
    rw [if_pos hk] at hb
    refine j_q (qs_eql rfl rfl) ?_
    refine j_g rfl (fun hb => qs_mt rfl) ?_
    refine j_g rfl (fun hb => qs_gtr (gd_eq hb) rfl) ?_
    refine j_q (qs_and rfl rfl) ?_
    refine j_cond rfl (fun hc3 => ?_) (fun hc3 => ?_)
    ·skip
     simp only [bnA] at *
     omega
    ·skip
     refine j_q (qs_conv U5 U64 rfl) ?_
     rw [hb, IntWalk.u64_in _ (by omega)]
     refine j_q (qs_mul64 rfl rfl (by first | omega | (simp only [bnA] at *; omega))) ?_
     refine j_q (qs_shl rfl rfl (by first | omega | (simp only [bnA] at *; omega))) ?_
     rw [shl7 hi3 hk]
     refine j_q (qs_or_ rfl rfl) ?_
     rw [bw_or_add (by rw [pow27]; exact hlt) (by omega) (by rw [pow27]; omega), pow27, hacc]
     refine j_q (qs_add64 rfl rfl (by first | omega | (simp only [bnA] at *; omega))) ?_
     refine j_ret_con (vs := [_, _]) (fun w' hw' => ⟨rfl, rfl, trivial⟩) ?_
     show Value.tuple #[_, Value.int .i64 ((i : Int) + 1)] = _
     rw [num_lo hk] at hlk
     rw [← hlk]
     rfl
   ·skip
    have hk : 128 ≤ k := by
     by_cases hk : k < 128
     ·rw [if_pos hk] at hb
      rw [hb] at hc2
      simp at hc2
      omega
     ·omega
    rw [if_neg (by omega)] at hb
    refine j_q (qs_and_ rfl rfl) ?_
    rw [and127, hb, show (k % 128 + 128) % 128 = k % 128 by omega]
    refine j_q (qs_conv U5 U64 rfl) ?_
    rw [IntWalk.u64_in _ (by omega)]
    refine j_q (qs_mul64 rfl rfl (by first | omega | (simp only [bnA] at *; omega))) ?_
    refine j_q (qs_shl rfl rfl (by first | omega | (simp only [bnA] at *; omega))) ?_
    rw [shl7 hi3 (by omega)]
    refine j_q (qs_or_ rfl rfl) ?_
    rw [bw_or_add (by rw [pow27]; exact hlt) (by omega) (by rw [pow27]; have := Nat.mul_le_mul_right (128 ^ i) (show k % 128 ≤ k by omega); omega), pow27]
    refine j_q (qs_add64 rfl rfl (by first | omega | (simp only [bnA] at *; omega))) ?_
    refine j_back rfl ?_
    have hsp : k = 128 * (k / 128) + k % 128 := (Nat.div_add_mod k 128).symm
    refine ⟨k / 128, by omega, i + 1, k / 128, _, rfl, rfl, ?_, ?_, ?_, ?_, rfl⟩
    ·rw [← List.drop_drop, hdr, num_hi hk]
     rfl
    ·rw [num_hi hk, List.length_cons] at hlk
     omega
    ·rw [Nat.pow_succ, ← hacc]
     have h8 : k / 128 * (128 ^ i * 128) = 128 * (k / 128) * 128 ^ i := by rw [Nat.mul_comm (128 ^ i) 128, ← Nat.mul_assoc, Nat.mul_comm (k / 128) 128]
     rw [h8, Nat.add_assoc, ← Nat.add_mul, Nat.add_comm (k % 128), ← hsp]
    ·rw [Nat.pow_succ]
     have := Nat.mul_le_mul_right (128 ^ i) (show k % 128 ≤ 127 by omega)
     omega
 ·skip
  simp only [bnA] at *
  omega
end Go.Proofs.YtfebkkmmagbnlaaGreatDoor
/-! Num -/
namespace Go.Proofs.YtfebkkmmagbnlaaGreatDoor
open Go Go.Sx
set_option maxRecDepth 100000
set_option maxHeartbeats 4000000
set_option linter.unusedVariables false
set_option linter.unusedSimpArgs false
attribute [local irreducible] J JQ QS Con W opW
def dec (n : Nat) : List UInt8 := if n < 10 then [UInt8.ofNat (48 + n)] else dec (n / 10) ++ [UInt8.ofNat (48 + n % 10)]
theorem dec_small {n : Nat} (h : n < 10) : dec n = [UInt8.ofNat (48 + n)] := by rw [dec, if_pos h]
theorem dec_big {n : Nat} (h : 10 ≤ n) : dec n = dec (n / 10) ++ [UInt8.ofNat (48 + n % 10)] := by rw [dec, if_neg (by omega)]
theorem dec2 {n : Nat} (h : 10 ≤ n) (h2 : n < 100) : dec n = [UInt8.ofNat (48 + n / 10), UInt8.ofNat (48 + n % 10)] := by
 rw [dec_big h, dec_small (by omega)]
 rfl
theorem dec3 {n : Nat} (h : 100 ≤ n) (h2 : n < 1000) : dec n = [UInt8.ofNat (48 + n / 100), UInt8.ofNat (48 + n / 10 % 10), UInt8.ofNat (48 + n % 10)] := by
 rw [dec_big (by omega), dec2 (by omega) (by omega), Nat.div_div_eq_div_mul]
 rfl
theorem dec4 {n : Nat} (h : 1000 ≤ n) (h2 : n < 10000) : dec n = [UInt8.ofNat (48 + n / 1000), UInt8.ofNat (48 + n / 100 % 10), UInt8.ofNat (48 + n / 10 % 10), UInt8.ofNat (48 + n % 10)] := by
 rw [dec_big (by omega), dec3 (by omega) (by omega), Nat.div_div_eq_div_mul, Nat.div_div_eq_div_mul]
 rfl
theorem dec_len {n : Nat} (h : n < 10000) : (dec n).length ≤ 4 := by
 by_cases h1 : n < 10
 ·rw [dec_small h1]; simp
 ·by_cases h2 : n < 100
  ·rw [dec2 (by omega) h2]; simp
  ·by_cases h3 : n < 1000
   ·rw [dec3 (by omega) h3]; simp
   ·rw [dec4 (by omega) h]; simp
def SMD : List UInt8 := [48, 48, 48, 49, 48, 50, 48, 51, 48, 52, 48, 53, 48, 54, 48, 55, 48, 56, 48, 57, 49, 48, 49, 49, 49, 50, 49, 51, 49, 52, 49, 53, 49, 54, 49, 55, 49, 56, 49, 57, 50, 48, 50, 49, 50, 50, 50, 51, 50, 52, 50, 53, 50, 54, 50, 55, 50, 56, 50, 57, 51, 48, 51, 49, 51, 50, 51, 51, 51, 52, 51, 53, 51, 54, 51, 55, 51, 56, 51, 57, 52, 48, 52, 49, 52, 50, 52, 51, 52, 52, 52, 53, 52, 54, 52, 55, 52, 56, 52, 57, 53, 48, 53, 49, 53, 50, 53, 51, 53, 52, 53, 53, 53, 54, 53, 55, 53, 56, 53, 57, 54, 48, 54, 49, 54, 50, 54, 51, 54, 52, 54, 53, 54, 54, 54, 55, 54, 56, 54, 57, 55, 48, 55, 49, 55, 50, 55, 51, 55, 52, 55, 53, 55, 54, 55, 55, 55, 56, 55, 57, 56, 48, 56, 49, 56, 50, 56, 51, 56, 52, 56, 53, 56, 54, 56, 55, 56, 56, 56, 57, 57, 48, 57, 49, 57, 50, 57, 51, 57, 52, 57, 53, 57, 54, 57, 55, 57, 56, 57, 57]
def SDG : List UInt8 := [48, 49, 50, 51, 52, 53, 54, 55, 56, 57, 97, 98, 99, 100, 101, 102, 103, 104, 105, 106, 107, 108, 109, 110, 111, 112, 113, 114, 115, 116, 117, 118, 119, 120, 121, 122]
theorem sm_len : SMD.length = 200 := by decide +kernel
theorem sm0 {n : Nat} (h : n < 100) : SMD.getD (n * 2) 0 = UInt8.ofNat (48 + n / 10) := by
 have : ∀ k : Fin 100, SMD.getD (k.val * 2) 0 = UInt8.ofNat (48 + k.val / 10) := by decide +kernel
 exact this ⟨n, h⟩
theorem sm1 {n : Nat} (h : n < 100) : SMD.getD (n * 2 + 1) 0 = UInt8.ofNat (48 + n % 10) := by
 have : ∀ k : Fin 100, SMD.getD (k.val * 2 + 1) 0 = UInt8.ofNat (48 + k.val % 10) := by decide +kernel
 exact this ⟨n, h⟩
theorem sm2 {n : Nat} (h : n < 100) (h2 : 10 ≤ n) : (SMD.take (n * 2 + 2)).drop (n * 2) = dec n := by
 rw [dec2 h2 h]
 have : ∀ k : Fin 100, (SMD.take (k.val * 2 + 2)).drop (k.val * 2) = [UInt8.ofNat (48 + k.val / 10), UInt8.ofNat (48 + k.val % 10)] := by decide +kernel
 exact this ⟨n, h⟩
theorem sd1 {n : Nat} (h : n < 10) : (SDG.take (n + 1)).drop n = dec n := by
 rw [dec_small h]
 have : ∀ k : Fin 10, (SDG.take (k.val + 1)).drop k.val = [UInt8.ofNat (48 + k.val)] := by decide +kernel
 exact this ⟨n, h⟩
def bl (n : Nat) : Nat := if n = 0 then 0 else n.log2 + 1
def LTD : List UInt8 := (List.range 256).map fun i => UInt8.ofNat (bl i)
theorem lt_get {n : Nat} (h : n < 256) : (LTD.getD n 0).toNat = bl n := by
 have : ∀ k : Fin 256, (LTD.getD k.val 0).toNat = bl k.val := by decide +kernel
 exact this ⟨n, h⟩
theorem lt_len : LTD.length = 256 := by decide +kernel
theorem bl_up {n : Nat} (h : 256 ≤ n) (h2 : n < 65536) : bl n = 8 + bl (n / 256) := by
 unfold bl
 rw [if_neg (by omega), if_neg (by omega)]
 have e : n / 256 = n >>> 8 := by rw [Nat.shiftRight_eq_div_pow]
 have hb1 := Nat.log2_self_le (n := n / 256) (by omega)
 have hb2 := Nat.lt_log2_self (n := n / 256)
 have h1 : 2 ^ ((n / 256).log2 + 8) ≤ n := by
  rw [Nat.pow_add]; omega
 have h3 : n < 2 ^ ((n / 256).log2 + 9) := by
  rw [show (n / 256).log2 + 9 = (n / 256).log2 + 1 + 8 by omega, Nat.pow_add]; omega
 have h4 : (n / 256).log2 + 8 ≤ n.log2 := (Nat.le_log2 (by omega)).2 h1
 have h5 : n.log2 < (n / 256).log2 + 9 := (Nat.log2_lt (by omega)).2 h3
 omega
theorem bl_spec {n : Nat} (h : 0 < n) : 2 ^ (bl n - 1) ≤ n ∧ n < 2 ^ bl n := by
 unfold bl
 rw [if_neg (by omega)]
 exact ⟨by simpa using Nat.log2_self_le (n := n) (by omega), Nat.lt_log2_self⟩
theorem nd_eq {n : Nat} (h1 : 100 ≤ n) (h2 : n < 10000) : bl n ≤ 14 ∧ bl n * 78913 / 262144 ≤ 4 ∧ 2 ≤ bl n * 78913 / 262144 ∧ (bl n * 78913 / 262144 : Nat) + (if 10 ^ (bl n * 78913 / 262144) ≤ n then 1 else 0) = (if n < 1000 then 3 else 4) := by
 obtain ⟨a, c⟩ := bl_spec (n := n) (by omega)
 generalize bl n = L at *
 have hL : 7 ≤ L := by
  rcases Nat.lt_or_ge L 7 with h | h
  ·have : 2 ^ L ≤ 2 ^ 6 := Nat.pow_le_pow_right (by decide) (by omega)
   omega
  ·exact h
 have hL2 : L ≤ 14 := by
  rcases Nat.lt_or_ge 14 L with h | h
  ·have : 2 ^ 14 ≤ 2 ^ (L - 1) := Nat.pow_le_pow_right (by decide) (by omega)
   omega
  ·exact h
 rcases (by omega : L = 7 ∨ L = 8 ∨ L = 9 ∨ L = 10 ∨ L = 11 ∨ L = 12 ∨ L = 13 ∨ L = 14) with rfl | rfl | rfl | rfl | rfl | rfl | rfl | rfl <;>
  (simp only [show (7 - 1 : Nat) = 6 from rfl, show (8 - 1 : Nat) = 7 from rfl, show (9 - 1 : Nat) = 8 from rfl, show (10 - 1 : Nat) = 9 from rfl, show (11 - 1 : Nat) = 10 from rfl, show (12 - 1 : Nat) = 11 from rfl, show (13 - 1 : Nat) = 12 from rfl, show (14 - 1 : Nat) = 13 from rfl] at a c
   refine ⟨by omega, by omega, by omega, ?_⟩
   split <;> split <;> omega)
def p10 : List Int := (List.range 20).map fun i => (10 : Int) ^ i
def P10 (w : World) : Prop := 1 < w.heap.size ∧ Cells w ⟨1, 0, none⟩ (ks .u64 p10)
theorem P10.keep {w w' : World} {D : List Nat} {S : List SH} (h : P10 w) (hs : Sig ⟨w, D⟩ S w') (hD : 1 ∉ D) : P10 w' := ⟨Nat.lt_of_lt_of_le h.1 hs.size, cells_stay h.2 hs hD⟩
theorem p10_get {i : Nat} (h : i < 20) : p10.getD i 0 = ((10 ^ i : Nat) : Int) := by
 have : ∀ k : Fin 20, p10.getD k.val 0 = ((10 ^ k.val : Nat) : Int) := by decide +kernel
 exact this ⟨i, h⟩
theorem wr32 {n : Nat} (h : n < 4294967296) : IntKind.u32.wrap (n : Int) = (n : Int) := by rw [IntKind.wrap_u32]; omega
theorem q32 (n d : Nat) (h : n < 4294967296) : IntKind.u32.wrap ((n : Int).tdiv (d : Int)) = ((n / d : Nat) : Int) := by
 rw [Int.tdiv_eq_ediv_of_nonneg (by omega), ← Int.natCast_ediv, wr32 (Nat.lt_of_le_of_lt (Nat.div_le_self _ _) h)]
theorem by8_natN {n : Nat} (h : n < 256) : by8 (n : Int) = UInt8.ofNat n := by
 have : ∀ k : Fin 256, by8 (k.val : Int) = UInt8.ofNat k.val := by decide +kernel
 exact this ⟨n, h⟩
attribute [local irreducible] SMD SDG LTD bl p10
theorem small_con (n : Nat) (w : World) (hn : n < 100) : Con Tryz.prog 111 [.int .i64 (n : Int)] w [] fun v _ => v = .string (bs (dec n)) := by
 refine con_of_tree mix Tryz.func111 T111_ok (by kernel_rfl) ?_
 unfold T111
 refine j_q (qs_ac) ?_
 refine j_q (qs_lss rfl rfl) ?_
 refine j_cond rfl (fun hc0 => ?_) (fun hc0 => ?_)
 ·skip
  have h9 : n < 10 := by
   simp only [bnA] at *
   omega
  refine j_q (qs_add64 rfl rfl (by first | omega | (simp only [bnA] at *; omega))) ?_
  refine j_q (qs_cuts (l := SDG) (a := n) (z := n + 1) U9 (by kernel_rfl) ⟨.i64, rfl⟩ ⟨.i64, rfl⟩ (by omega) (by rw [show SDG.length = 36 by decide +kernel]; omega)) ?_
  rw [sd1 h9]
  refine j_ret_con (vs := [_]) (fun w' hw' => ⟨rfl, trivial⟩) ?_
  rfl
 ·skip
  have h9 : 10 ≤ n := by
   simp only [bnA] at *
   omega
  refine j_q (qs_mul64 rfl rfl (by first | omega | (simp only [bnA] at *; omega))) ?_
  refine j_q (qs_mul64 rfl rfl (by first | omega | (simp only [bnA] at *; omega))) ?_
  refine j_q (qs_add64 rfl rfl (by first | omega | (simp only [bnA] at *; omega))) ?_
  refine j_q (qs_cuts (l := SMD) (a := n * 2) (z := n * 2 + 2) U9 (by kernel_rfl) ⟨.i64, by show Value.int _ _ = _; congr 1⟩ ⟨.i64, by show Value.int _ _ = _; congr 1⟩ (by omega) (by rw [sm_len]; omega)) ?_
  rw [sm2 hn h9]
  refine j_ret_con (vs := [_]) (fun w' hw' => ⟨rfl, trivial⟩) ?_
  rfl
theorem log10_con (n : Nat) (w : World) (hn : n ≤ 64) : Con Tryz.prog 129 [.int .i64 (n : Int)] w [] fun v _ => v = .int .i64 ((n * 78913 / 262144 : Nat) : Int) := by
 refine con_of_tree mix Tryz.func129 T129_ok (by kernel_rfl) ?_
 unfold T129
 refine j_q (qs_ac) ?_
 refine j_q (qs_mul64 rfl rfl (by first | omega | (simp only [bnA] at *; omega))) ?_
 refine j_q (qs_shr rfl rfl (by first | omega | (simp only [bnA] at *; omega))) ?_
 refine j_ret_con (vs := [_]) (fun w' hw' => ⟨rfl, trivial⟩) ?_
 show Value.int _ _ = _
 congr 1
 show Int.fdiv ((n : Int) * 78913) (2 ^ 18) = _
 rw [Int.fdiv_eq_ediv_of_nonneg _ (by decide)]
 omega
theorem bool2_con (x : Bool) (w : World) : Con Tryz.prog 131 [.bool x] w [] fun v _ => v = .int .i64 (if x then 1 else 0) := by
 refine con_of_tree mix Tryz.func131 T131_ok (by kernel_rfl) ?_
 unfold T131
 refine j_q (qs_ac) ?_
 refine j_cond rfl (fun hc0 => ?_) (fun hc0 => ?_)
 ·skip
  refine j_q (qs_ac) ?_
  refine j_ret_con (vs := [_]) (fun w' hw' => ⟨rfl, trivial⟩) ?_
  show Value.int _ _ = _
  rw [if_pos hc0]
 ·skip
  refine j_q (qs_ac) ?_
  refine j_ret_con (vs := [_]) (fun w' hw' => ⟨rfl, trivial⟩) ?_
  show Value.int _ _ = _
  rw [if_neg (by rw [hc0]; decide)]
theorem len64_con (n : Nat) (w : World) (hn : n < 10000) : Con Tryz.prog 130 [.int .u64 (n : Int)] w [] fun v _ => v = .int .i64 (bl n : Nat) := by
 refine con_of_tree mix Tryz.func130 T130_ok (by kernel_rfl) ?_
 unfold T130
 refine j_q (qs_ac) ?_
 refine j_q (qs_geq rfl rfl) ?_
 refine j_cond rfl (fun hc0 => ?_) (fun hc0 => ?_)
 ·skip
  simp only [bnA] at *
  omega
 ·skip
  refine j_q (qs_geq rfl rfl) ?_
  refine j_cond rfl (fun hc4 => ?_) (fun hc4 => ?_)
  ·skip
   simp only [bnA] at *
   omega
  ·skip
   refine j_q (qs_geq rfl rfl) ?_
   refine j_cond rfl (fun hc6 => ?_) (fun hc6 => ?_)
   ·skip
    have h9 : 256 ≤ n := by
     simp only [bnA] at *
     omega
    have e9 : (by8 ((n / 256 : Nat) : Int)).toNat = n / 256 := by
     rw [by8_natN (by omega), UInt8.toNat_ofNat']
     omega
    have h8 : bl (n / 256) ≤ 20 := by
     by_cases h0 : (n / 256) = 0
     ·rw [h0]; decide +kernel
     ·have := bl_spec (n := (n / 256)) (by omega)
      rcases Nat.lt_or_ge 20 (bl ((n / 256))) with h | h
      ·have : 2 ^ 20 ≤ 2 ^ (bl ((n / 256)) - 1) := Nat.pow_le_pow_right (by decide) (by omega)
       omega
      ·exact h
    refine j_q (qs_shr rfl rfl (by decide)) ?_
    rw [show Int.fdiv (n : Int) (2 ^ min (8 : Int).toNat IntKind.u64.bits) = ((n / 256 : Nat) : Int) from by
     show Int.fdiv (n : Int) 256 = _
     rw [Int.fdiv_eq_ediv_of_nonneg _ (by decide)]
     rfl]
    refine j_q (qs_add64 rfl rfl (by first | omega | (simp only [bnA] at *; omega))) ?_
    refine j_q (qs_conv8 U64 U5 rfl) ?_
    refine j_q (qs_idx (l := LTD) U9 (by kernel_rfl) rfl (by rw [lt_len]; have := UInt8.toNat_lt (by8 ((n / 256 : Nat) : Int)); omega)) ?_
    rw [Int.toNat_natCast, e9, lt_get (by omega)]
    refine j_q (qs_conv U5 U3 rfl) ?_
    rw [IntWalk.i64_in _ (by omega)]
    refine j_q (qs_add64 rfl rfl (by first | omega | (simp only [bnA] at *; omega))) ?_
    refine j_ret_con (vs := [_]) (fun w' hw' => ⟨rfl, trivial⟩) ?_
    show Value.int _ _ = _
    congr 1
    rw [bl_up h9 (by omega)]
    omega
   ·skip
    have h9 : n < 256 := by
     simp only [bnA] at *
     omega
    have e9 : (by8 (n : Int)).toNat = n := by
     rw [by8_natN h9, UInt8.toNat_ofNat']
     omega
    have h8 : bl (n) ≤ 20 := by
     by_cases h0 : (n) = 0
     ·rw [h0]; decide +kernel
     ·have := bl_spec (n := (n)) (by omega)
      rcases Nat.lt_or_ge 20 (bl ((n))) with h | h
      ·have : 2 ^ 20 ≤ 2 ^ (bl ((n)) - 1) := Nat.pow_le_pow_right (by decide) (by omega)
       omega
      ·exact h
    refine j_q (qs_conv8 U64 U5 rfl) ?_
    refine j_q (qs_idx (l := LTD) U9 (by kernel_rfl) rfl (by rw [lt_len]; have := UInt8.toNat_lt (by8 (n : Int)); omega)) ?_
    rw [Int.toNat_natCast, e9, lt_get (by omega)]
    refine j_q (qs_conv U5 U3 rfl) ?_
    rw [IntWalk.i64_in _ (by omega)]
    refine j_q (qs_add64 rfl rfl (by first | omega | (simp only [bnA] at *; omega))) ?_
    refine j_ret_con (vs := [_]) (fun w' hw' => ⟨rfl, trivial⟩) ?_
    show Value.int _ _ = _
    congr 1
    omega
theorem numDigits_con (n : Nat) (w : World) (h1 : 100 ≤ n) (h2 : n < 10000) (hP : P10 w) : Con Tryz.prog 112 [.int .u64 (n : Int)] w [] fun v _ => v = .int .i64 ((if n < 1000 then 3 else 4 : Nat) : Int) := by
 refine con_of_tree mix Tryz.func112 T112_ok (by kernel_rfl) ?_
 unfold T112
 obtain ⟨b1, b2, b3, b4⟩ := nd_eq h1 h2
 refine j_q (qs_ac) ?_
 refine j_q (qs_call ent130 rfl rfl rfl (fun w' hw' => len64_con n w' h2)) ?_
 refine j_q (qs_call ent129 rfl rfl rfl (fun w' hw' => log10_con (bl n) w' (by omega))) ?_
 refine j_q (qs_ix0 U196 sz12 rfl rfl (by omega)) ?_
 rw [Int.toNat_natCast]
 refine j_q (qs_loadrk (a := ⟨1, 0, none⟩) (l := p10) (i := bl n * 78913 / 262144) (rd_cells hP.2 (by simp)) U12 (by rw [add_off, Nat.zero_add]; rfl) (by rw [show p10.length = 20 by decide +kernel]; omega)) ?_
 rw [p10_get (by omega)]
 refine j_q (qs_geq rfl rfl) ?_
 refine j_q (qs_call ent131 rfl rfl rfl (fun w' hw' => bool2_con _ w')) ?_
 refine j_q (qs_add64 rfl rfl (by split <;> omega)) ?_
 refine j_ret_con (vs := [_]) (fun w' hw' => ⟨rfl, trivial⟩) ?_
 show Value.int _ _ = _
 congr 1
 rw [← b4]
 by_cases hx : 10 ^ (bl n * 78913 / 262144) ≤ n
 ·rw [if_pos hx, if_pos (by rw [decide_eq_true_eq]; exact Int.ofNat_le.2 hx)]
  rfl
 ·rw [if_neg hx, if_neg (by rw [decide_eq_true_eq]; intro h; exact hx (Int.ofNat_le.1 h))]
  rfl
theorem fmt3_con (n g : Nat) (w : World) (h1 : 100 ≤ n) (h2 : n < 1000) : Con Tryz.prog 113 [.slice (some ⟨g, 0, none⟩) 3 24, .int .u64 (n : Int)] w [(g, .cells (ints (List.replicate 24 0)).toArray 180 (0, 0))] fun v S' => v = .tuple #[] ∧ S' = [[(g, .cells (ints (dec n ++ List.replicate 21 0)).toArray 180 (0, 0))]] := by
 refine con_of_tree mix Tryz.func113 T113_ok (by kernel_rfl) ?_
 unfold T113
 refine j_q (qs_lenl U33 rfl) ?_
 refine j_loop (fun m vs S' => vs = [.int .u64 (n : Int), .int .i64 3] ∧ S' = [[(g, .cells (ints (List.replicate 24 0)).toArray 180 (0, 0))]] ∧ m = 0) ⟨_, rfl, rfl, rfl⟩ ?_
 rintro m vs S' hlen ⟨rfl, rfl, rfl⟩
 refine j_q (qs_geq rfl rfl) ?_
 refine j_cond rfl (fun hc0 => ?_) (fun hc0 => ?_)
 ·skip
  simp at hc0
 ·skip
  refine j_q (qs_conv U12 U123 rfl) ?_
  rw [show IntKind.u32.wrap (n : Int) = (n : Int) from wr32 (by omega)]
  refine j_q (qs_geq rfl rfl) ?_
  refine j_cond rfl (fun hc1 => ?_) (fun hc1 => ?_)
  ·skip
   simp at hc1
  ·skip
   refine j_q (qs_geq rfl rfl) ?_
   refine j_cond rfl (fun hc5 => ?_) (fun hc5 => ?_)
   ·skip
    refine j_q (qs_rem64 rfl rfl (by omega) (by decide)) ?_
    rw [show ((n : Nat) : Int) % 100 = ((n % 100 : Nat) : Int) from rfl]
    refine j_q (qs_mul rfl rfl) ?_
    rw [show IntKind.u32.wrap (((n % 100 : Nat) : Int) * 2) = ((n % 100 * 2 : Nat) : Int) from wr32 (n := n % 100 * 2) (by omega)]
    refine j_q (qs_quo rfl rfl (by decide)) ?_
    rw [show IntKind.u32.wrap (((n : Nat) : Int).tdiv 100) = ((n / 100 : Nat) : Int) from q32 (n) 100 (by omega)]
    refine j_mix [] (Le.of_sub (List.nil_sublist _)) ?_
    refine j_mq (qs_sub64 rfl rfl (by first | omega | (simp only [bnA] at *; omega))) ?_
    refine j_mq (qs_sub64 rfl rfl (by first | omega | (simp only [bnA] at *; omega))) ?_
    refine j_mq (qs_add rfl rfl) ?_
    rw [show IntKind.u32.wrap ((((n % 100) * 2 : Nat) : Int) + 1) = (((n % 100) * 2 + 1 : Nat) : Int) from wr32 (n := (n % 100) * 2 + 1) (by omega)]
    refine j_mq (qs_idx (l := SMD) U9 (by kernel_rfl) rfl (by rw [sm_len]; omega)) ?_
    rw [Int.toNat_natCast, sm1 (show (n % 100) < 100 by omega)]
    refine j_mq (qs_idx (l := SMD) U9 (by kernel_rfl) rfl (by rw [sm_len]; omega)) ?_
    rw [Int.toNat_natCast, sm0 (show (n % 100) < 100 by omega)]
    first
     | refine j_mq (qs_ixg U33 sz5 rfl rfl ⟨(by first | omega | (simp only [bnA] at *; omega)), (by first | omega | (simp only [bnA] at *; omega))⟩) ?_
     | refine j_mq (qs_ixl0 U33 sz5 rfl rfl ⟨(by first | omega | (simp only [bnA] at *; omega)), (by first | omega | (simp only [bnA] at *; omega))⟩) ?_
    refine j_storei 0 sz5 rfl rfl rfl (by simp) ?_
    refine j_mD0 (Le.of_sub (by repeat first | exact slR _ | exact slN _ | apply slC | apply slD)) ?_
    first
     | refine j_mq (qs_ixg U33 sz5 rfl rfl ⟨(by first | omega | (simp only [bnA] at *; omega)), (by first | omega | (simp only [bnA] at *; omega))⟩) ?_
     | refine j_mq (qs_ixl0 U33 sz5 rfl rfl ⟨(by first | omega | (simp only [bnA] at *; omega)), (by first | omega | (simp only [bnA] at *; omega))⟩) ?_
    refine j_storei 0 sz5 rfl rfl rfl (by simp) ?_
    refine j_mR _ (.refl _) ?_
    refine j_mend ?_
    refine j_q (qs_sub64 rfl rfl (by first | omega | (simp only [bnA] at *; omega))) ?_
    refine j_q (qs_gtr rfl rfl) ?_
    refine j_cond rfl (fun hc6 => ?_) (fun hc6 => ?_)
    ·skip
     refine j_q (qs_add rfl rfl) ?_
     rw [show IntKind.u32.wrap (48 + ((n / 100 : Nat) : Int)) = ((48 + n / 100 : Nat) : Int) from wr32 (n := 48 + n / 100) (by omega)]
     refine j_q (qs_conv8 U123 U5 rfl) ?_
     rw [by8_natN (by omega)]
     first
      | refine j_q (qs_ixg U33 sz5 rfl rfl ⟨(by first | omega | (simp only [bnA] at *; omega)), (by first | omega | (simp only [bnA] at *; omega))⟩) ?_
      | refine j_q (qs_ixl0 U33 sz5 rfl rfl ⟨(by first | omega | (simp only [bnA] at *; omega)), (by first | omega | (simp only [bnA] at *; omega))⟩) ?_
     refine j_storei 0 sz5 rfl rfl rfl (by simp) ?_
     refine j_ret_con (vs := []) (fun w' hw' => trivial) ?_
     refine ⟨rfl, ?_⟩
     rw [dec3 h1 h2, show n / 10 % 10 = n % 100 / 10 by omega, show n % 10 = n % 100 % 10 by omega]
     rfl
    ·skip
     simp at hc6
   ·skip
    simp at hc5
theorem fmt4_con (n g : Nat) (w : World) (h1 : 1000 ≤ n) (h2 : n < 10000) : Con Tryz.prog 113 [.slice (some ⟨g, 0, none⟩) 4 24, .int .u64 (n : Int)] w [(g, .cells (ints (List.replicate 24 0)).toArray 180 (0, 0))] fun v S' => v = .tuple #[] ∧ S' = [[(g, .cells (ints (dec n ++ List.replicate 20 0)).toArray 180 (0, 0))]] := by
 refine con_of_tree mix Tryz.func113 T113_ok (by kernel_rfl) ?_
 unfold T113
 refine j_q (qs_lenl U33 rfl) ?_
 refine j_loop (fun m vs S' => vs = [.int .u64 (n : Int), .int .i64 4] ∧ S' = [[(g, .cells (ints (List.replicate 24 0)).toArray 180 (0, 0))]] ∧ m = 0) ⟨_, rfl, rfl, rfl⟩ ?_
 rintro m vs S' hlen ⟨rfl, rfl, rfl⟩
 refine j_q (qs_geq rfl rfl) ?_
 refine j_cond rfl (fun hc0 => ?_) (fun hc0 => ?_)
 ·skip
  simp at hc0
 ·skip
  refine j_q (qs_conv U12 U123 rfl) ?_
  rw [show IntKind.u32.wrap (n : Int) = (n : Int) from wr32 (by omega)]
  refine j_q (qs_geq rfl rfl) ?_
  refine j_cond rfl (fun hc1 => ?_) (fun hc1 => ?_)
  ·skip
   refine j_q (qs_rem64 rfl rfl (by omega) (by decide)) ?_
   rw [show ((n : Nat) : Int) % 10000 = ((n % 10000 : Nat) : Int) from rfl]
   refine j_q (qs_quo rfl rfl (by decide)) ?_
   rw [show IntKind.u32.wrap (((n : Nat) : Int).tdiv 10000) = ((n / 10000 : Nat) : Int) from q32 (n) 10000 (by omega)]
   refine j_q (qs_quo rfl rfl (by decide)) ?_
   rw [show IntKind.u32.wrap (((n % 10000 : Nat) : Int).tdiv 100) = ((n % 10000 / 100 : Nat) : Int) from q32 (n % 10000) 100 (by omega)]
   refine j_q (qs_mul rfl rfl) ?_
   rw [show IntKind.u32.wrap (((n % 10000 / 100 : Nat) : Int) * 2) = ((n % 10000 / 100 * 2 : Nat) : Int) from wr32 (n := n % 10000 / 100 * 2) (by omega)]
   refine j_q (qs_rem64 rfl rfl (by omega) (by decide)) ?_
   rw [show ((n % 10000 : Nat) : Int) % 100 = ((n % 10000 % 100 : Nat) : Int) from rfl]
   refine j_q (qs_mul rfl rfl) ?_
   rw [show IntKind.u32.wrap (((n % 10000 % 100 : Nat) : Int) * 2) = ((n % 10000 % 100 * 2 : Nat) : Int) from wr32 (n := n % 10000 % 100 * 2) (by omega)]
   refine j_mix [] (Le.of_sub (List.nil_sublist _)) ?_
   refine j_mq (qs_sub64 rfl rfl (by first | omega | (simp only [bnA] at *; omega))) ?_
   refine j_mq (qs_sub64 rfl rfl (by first | omega | (simp only [bnA] at *; omega))) ?_
   refine j_mq (qs_add rfl rfl) ?_
   rw [show IntKind.u32.wrap ((((n % 10000 % 100) * 2 : Nat) : Int) + 1) = (((n % 10000 % 100) * 2 + 1 : Nat) : Int) from wr32 (n := (n % 10000 % 100) * 2 + 1) (by omega)]
   refine j_mq (qs_idx (l := SMD) U9 (by kernel_rfl) rfl (by rw [sm_len]; omega)) ?_
   rw [Int.toNat_natCast, sm1 (show (n % 10000 % 100) < 100 by omega)]
   refine j_mq (qs_idx (l := SMD) U9 (by kernel_rfl) rfl (by rw [sm_len]; omega)) ?_
   rw [Int.toNat_natCast, sm0 (show (n % 10000 % 100) < 100 by omega)]
   first
    | refine j_mq (qs_ixg U33 sz5 rfl rfl ⟨(by first | omega | (simp only [bnA] at *; omega)), (by first | omega | (simp only [bnA] at *; omega))⟩) ?_
    | refine j_mq (qs_ixl0 U33 sz5 rfl rfl ⟨(by first | omega | (simp only [bnA] at *; omega)), (by first | omega | (simp only [bnA] at *; omega))⟩) ?_
   refine j_storei 0 sz5 rfl rfl rfl (by simp) ?_
   refine j_mD0 (Le.of_sub (by repeat first | exact slR _ | exact slN _ | apply slC | apply slD)) ?_
   first
    | refine j_mq (qs_ixg U33 sz5 rfl rfl ⟨(by first | omega | (simp only [bnA] at *; omega)), (by first | omega | (simp only [bnA] at *; omega))⟩) ?_
    | refine j_mq (qs_ixl0 U33 sz5 rfl rfl ⟨(by first | omega | (simp only [bnA] at *; omega)), (by first | omega | (simp only [bnA] at *; omega))⟩) ?_
   refine j_storei 0 sz5 rfl rfl rfl (by simp) ?_
   refine j_mR _ (.refl _) ?_
   refine j_mend ?_
   refine j_mix [] (Le.of_sub (List.nil_sublist _)) ?_
   refine j_mq (qs_sub64 rfl rfl (by first | omega | (simp only [bnA] at *; omega))) ?_
   refine j_mq (qs_sub64 rfl rfl (by first | omega | (simp only [bnA] at *; omega))) ?_
   refine j_mq (qs_add rfl rfl) ?_
   rw [show IntKind.u32.wrap ((((n % 10000 / 100) * 2 : Nat) : Int) + 1) = (((n % 10000 / 100) * 2 + 1 : Nat) : Int) from wr32 (n := (n % 10000 / 100) * 2 + 1) (by omega)]
   refine j_mq (qs_idx (l := SMD) U9 (by kernel_rfl) rfl (by rw [sm_len]; omega)) ?_
   rw [Int.toNat_natCast, sm1 (show (n % 10000 / 100) < 100 by omega)]
   refine j_mq (qs_idx (l := SMD) U9 (by kernel_rfl) rfl (by rw [sm_len]; omega)) ?_
   rw [Int.toNat_natCast, sm0 (show (n % 10000 / 100) < 100 by omega)]
   first
    | refine j_mq (qs_ixg U33 sz5 rfl rfl ⟨(by first | omega | (simp only [bnA] at *; omega)), (by first | omega | (simp only [bnA] at *; omega))⟩) ?_
    | refine j_mq (qs_ixl0 U33 sz5 rfl rfl ⟨(by first | omega | (simp only [bnA] at *; omega)), (by first | omega | (simp only [bnA] at *; omega))⟩) ?_
   refine j_storei 0 sz5 rfl rfl rfl (by simp) ?_
   refine j_mD0 (Le.of_sub (by repeat first | exact slR _ | exact slN _ | apply slC | apply slD)) ?_
   first
    | refine j_mq (qs_ixg U33 sz5 rfl rfl ⟨(by first | omega | (simp only [bnA] at *; omega)), (by first | omega | (simp only [bnA] at *; omega))⟩) ?_
    | refine j_mq (qs_ixl0 U33 sz5 rfl rfl ⟨(by first | omega | (simp only [bnA] at *; omega)), (by first | omega | (simp only [bnA] at *; omega))⟩) ?_
   refine j_storei 0 sz5 rfl rfl rfl (by simp) ?_
   refine j_mR _ (.refl _) ?_
   refine j_mend ?_
   refine j_q (qs_sub64 rfl rfl (by first | omega | (simp only [bnA] at *; omega))) ?_
   refine j_q (qs_geq rfl rfl) ?_
   refine j_cond rfl (fun hc2 => ?_) (fun hc2 => ?_)
   ·skip
    simp at hc2
   ·skip
    refine j_q (qs_gtr rfl rfl) ?_
    refine j_cond rfl (fun hc4 => ?_) (fun hc4 => ?_)
    ·skip
     simp at hc4
    ·skip
     refine j_ret_con (vs := []) (fun w' hw' => trivial) ?_
     refine ⟨rfl, ?_⟩
     rw [dec4 h1 h2, show n / 1000 = n % 10000 / 100 / 10 by omega, show n / 100 % 10 = n % 10000 / 100 % 10 by omega, show n / 10 % 10 = n % 10000 % 100 / 10 by omega, show n % 10 = n % 10000 % 100 % 10 by omega]
     rfl
  ·skip
   simp at hc1
theorem fmt_con (d n g : Nat) (w : World) (hd : d = if n < 1000 then 3 else 4) (h1 : 100 ≤ n) (h2 : n < 10000) : Con Tryz.prog 113 [.slice (some ⟨g, 0, none⟩) d 24, .int .u64 (n : Int)] w [(g, .cells (ints (List.replicate 24 0)).toArray 180 (0, 0))] fun v S' => v = .tuple #[] ∧ (dec n).length = d ∧ S' = [[(g, .cells (ints (dec n ++ List.replicate (24 - d) 0)).toArray 180 (0, 0))]] := by
 subst hd
 by_cases h : n < 1000
 ·rw [if_pos h]
  exact (fmt3_con n g w h1 h).mono fun u S' hu => ⟨hu.1, by rw [dec3 h1 h]; rfl, hu.2⟩
 ·rw [if_neg h]
  exact (fmt4_con n g w (by omega) h2).mono fun u S' hu => ⟨hu.1, by rw [dec4 (by omega) h2]; rfl, hu.2⟩
end Go.Proofs.YtfebkkmmagbnlaaGreatDoor
/-! Jn2 -/
namespace Go.Proofs.YtfebkkmmagbnlaaGreatDoor
open Go Go.Sx
set_option maxRecDepth 100000
set_option maxHeartbeats 4000000
set_option linter.unusedVariables false
set_option linter.unusedSimpArgs false
attribute [local irreducible] J JQ QS Con W opW
theorem qs_strB {P : Program} {env : List Value} {ty : TypeId} {S : List SH} {t t' e : TypeId} {x : Operand} {xs : List UInt8} {w : World} {v : Value} (hs : P.underlying t = some (.slice e)) (he : P.underlying e = some (.int .u8)) (hd : P.underlying t' = some .string) (hx : ev env x = v) (h : BR w v xs) : QS P (O (.convert t t' x) ty) env ⟨w, dom []⟩ S (.string (bs xs)) := by
 rcases h with ⟨rfl, rfl⟩ | ⟨a, cap, rfl, _, _, h⟩
 ·exact qs_strn hs he hd hx
 ·exact qs_str hs he hd hx (rd_cells h (by simp))
def magic : List UInt8 := [112, 97, 110, 116, 114, 121, 32, 106, 111, 117, 114, 110, 97, 108, 32, 49, 10]
def headE (age : Nat) : List UInt8 := (magic ++ num age) ++ sum (magic ++ num age)
theorem magic_ints : ints magic = [.int .u8 112, .int .u8 97, .int .u8 110, .int .u8 116, .int .u8 114, .int .u8 121, .int .u8 32, .int .u8 106, .int .u8 111, .int .u8 117, .int .u8 114, .int .u8 110, .int .u8 97, .int .u8 108, .int .u8 32, .int .u8 49, .int .u8 10] := by
 unfold ints magic
 rfl
theorem headE_len (age : Nat) : (headE age).length = 17 + (num age).length + 32 := by
 unfold headE
 rw [List.length_append, List.length_append, sum_length]
 rfl
attribute [local irreducible] sum
theorem equal_con (xs ys : List UInt8) (v1 v2 : Value) (w : World) (h1 : BR w v1 xs) (h2 : BR w v2 ys) : Con Tryz.prog 59 [v1, v2] w [] fun u _ => u = .bool (xs == ys) := by
 refine con_of_tree mix Tryz.func59 T59_ok (by kernel_rfl) ?_
 unfold T59
 refine j_q (qs_ac) ?_
 refine j_q (qs_strB U33 U5 U9 rfl h1) ?_
 refine j_q (qs_strB U33 U5 U9 rfl h2) ?_
 refine j_q (qs_seql rfl rfl) ?_
 refine j_ret_con (vs := [_]) (fun w' hw' => ⟨rfl, trivial⟩) ?_
 rfl
theorem bprefix_con (p z : List UInt8) (v1 v2 : Value) (w : World) (h1 : BR w v1 (p ++ z)) (h2 : BR w v2 p) : Con Tryz.prog 84 [v1, v2] w [] fun u _ => u = .bool true := by
 refine con_of_tree mix Tryz.func84 T84_ok (by kernel_rfl) ?_
 unfold T84
 obtain ⟨A1, c1, hv1, hc1'⟩ := br_form h1
 obtain ⟨A2, c2, hv2, hc2'⟩ := br_form h2
 subst hv1 hv2
 have hll : (p ++ z).length = p.length + z.length := List.length_append
 refine j_q (qs_ac) ?_
 refine j_q (qs_lenl U33 rfl) ?_
 refine j_q (qs_lenl U33 rfl) ?_
 refine j_q (qs_geq rfl rfl) ?_
 rw [decide_eq_true (show ((p ++ z).length : Int) ≥ (p.length : Int) by omega)]
 refine j_gt rfl (qs_mt rfl) ?_
 refine j_gt rfl (qs_mt rfl) ?_
 refine j_gt rfl (qs_lenl U33 rfl) ?_
 refine j_gt rfl (qs_cutl (a := 0) (z := p.length) U33 sz5 rfl rfl ⟨.i64, rfl⟩ (by omega) (by omega)) ?_
 have hbs := br_sub h1 0 p.length (Nat.zero_le _) (by omega)
 rw [List.drop_zero, List.take_left] at hbs
 refine j_gt rfl (qs_mt rfl) ?_
 refine j_gt rfl (qs_call ent59 rfl rfl rfl (fun w' hw' => equal_con p p _ _ w' (br0 hbs hw') (br0 h2 hw'))) ?_
 rw [beq_self_eq_true]
 refine j_q (qs_and rfl rfl) ?_
 refine j_ret_con (vs := [_]) (fun w' hw' => ⟨rfl, trivial⟩) ?_
 rfl
theorem cutPrefix_con (p z : List UInt8) (A1 : Option Addr) (c1 : Nat) (v2 : Value) (w : World) (h1 : BR w (.slice A1 (p ++ z).length c1) (p ++ z)) (hc1' : (p ++ z).length ≤ c1) (h2 : BR w v2 p) : Con Tryz.prog 57 [.slice A1 (p ++ z).length c1, v2] w [] fun u _ => u = .tuple #[.slice (if c1 = p.length then A1 else A1.map (fun q : Addr => q.add (p.length * 1))) ((p ++ z).length - p.length) (c1 - p.length), .bool true] := by
 refine con_of_tree mix Tryz.func57 T57_ok (by kernel_rfl) ?_
 unfold T57
 obtain ⟨A2, c2, hv2, hc2'⟩ := br_form h2
 subst hv2
 have hll : (p ++ z).length = p.length + z.length := List.length_append
 refine j_q (qs_ac) ?_
 refine j_q (qs_ac) ?_
 refine j_q (qs_call ent84 rfl rfl rfl (fun w' hw' => bprefix_con p z _ _ w' (br0 h1 hw') (br0 h2 hw'))) ?_
 refine j_q (qs_not rfl) ?_
 refine j_cond rfl (fun hc0 => ?_) (fun hc0 => ?_)
 ·skip
  simp at hc0
 ·skip
  refine j_q (qs_lenl U33 rfl) ?_
  refine j_q (qs_cutl  U33 sz5 rfl ⟨_, rfl⟩ rfl (by first | omega | (simp only [bnA] at *; omega)) (by first | omega | (simp only [bnA] at *; omega))) ?_
  refine j_q (qs_ac) ?_
  refine j_ret_con (vs := [_, _]) (fun w' hw' => ⟨rfl, rfl, trivial⟩) ?_
  rfl
theorem sumB_con (xs : List UInt8) (v : Value) (w : World) (h : BR w v xs) (hne : xs ≠ []) (hl : xs.length ≤ 1000000000) : Con Tryz.prog 85 [v] w [] fun u _ => u = .agg (ints (sum xs)).toArray := by
 rcases h with ⟨_, h⟩ | ⟨a, c, rfl, hc, _, h⟩
 ·exact absurd h hne
 ·exact sum_con xs a c w (by omega) hc h
theorem head_con (age : Nat) (w : World) (hn : age < 268435456) : Con Tryz.prog 89 [.int .u64 (age : Int)] w [] fun u S' => ∃ c', S' = [c'] ∧ Sx.Own 5 1 (ints (headE age)) u c' := by
 refine con_of_tree mix Tryz.func89 T89_ok (by kernel_rfl) ?_
 unfold T89
 have hnl := num_len hn
 have hml : magic.length = 17 := rfl
 have hmn : (magic ++ num age).length = 17 + (num age).length := by rw [List.length_append]; rfl
 refine j_q (qs_ac) ?_
 refine j_lit (vs := [.int .u8 112, .int .u8 97, .int .u8 110, .int .u8 116, .int .u8 114, .int .u8 121, .int .u8 32, .int .u8 106, .int .u8 111, .int .u8 117, .int .u8 114, .int .u8 110, .int .u8 97, .int .u8 108, .int .u8 32, .int .u8 49, .int .u8 10]) U33 sz5 zero5 rfl (by simp [oneV]) ⟨rfl, by decide⟩ (fun g1 v1 c1 hv1 hc1 ho1 => ?_)
 subst hv1 hc1
 refine j_convsl 0 U33 U5 rfl rfl ?_
 have ho2 : Sx.Own 5 1 (ints magic) (.slice (some ⟨g1, 0, none⟩) 17 17) [(g1, .cells (ints magic).toArray 5 (17, 18))] := own_froz (xs := magic)
 refine j_subl (S' := [[(g1, .cells (ints magic).toArray 5 (17, 18))]]) (by rw [magic_ints]; exact List.Sublist.cons_cons _ (List.nil_sublist _)) ?_
 refine j_call 0 ent115 rfl rfl rfl rfl (fun w' hw' => appendNum_con magic age _ _ w' ho2 hn (by decide)) (fun u S2 hu => ?_)
 obtain ⟨c3, rfl, ho3⟩ := hu
 refine j_subl (S' := [c3]) (by repeat first | exact slR _ | exact slN _ | apply slC | apply slD) ?_
 refine j_q (qs_call ent85 rfl rfl rfl (fun w' hw' => sumB_con (magic ++ num age) _ w' (own_br ho3 0 rfl hw') (fun h => by rw [h] at hmn; simp at hmn; omega) (by omega))) ?_
 refine j_alloc zero158 (fun g5 hg5 hs5 => ?_)
 first
  | refine j_storew 0 sz158 rfl rfl (by first | (rw [ints_length]; exact sum_length _) | rfl) ints_one rfl (by first | (rw [ints_length]; exact sum_length _) | rfl) ?_
  | refine j_storew 1 sz158 rfl rfl (by first | (rw [ints_length]; exact sum_length _) | rfl) ints_one rfl (by first | (rw [ints_length]; exact sum_length _) | rfl) ?_
 refine j_q (qs_cuta  U158 sz5 rfl rfl rfl (by first | omega | (simp only [bnA] at *; omega)) (by first | omega | (simp only [bnA] at *; omega))) ?_
 refine j_append 1 U33 U33 (.inr ⟨_, rfl⟩) sb5 zero5 rfl ho3 rfl (src_sl (rd_own (off := 0) (n := (ints (sum (magic ++ num age))).length) 0 rfl (by rw [List.drop_zero, List.take_length])) (by rw [ints_length, sum_length])) ints_one ⟨(by simp only [ints_length, sum_length]; omega), (by decide)⟩ (fun v8 c8 ho8 => ?_)
 refine j_subl (S' := [c8]) (by repeat first | exact slR _ | exact slN _ | apply slC | apply slD) ?_
 refine j_ret_con (vs := [_]) (fun w' hw' => ⟨rfl, trivial⟩) ?_
 exact ⟨_, rfl, by rw [← ints_append] at ho8; exact ho8⟩
theorem readAge_con (age : Nat) (v : Value) (w : World) (h : BR w v (headE age)) (hn : age < 268435456) : Con Tryz.prog 63 [v] w [] fun u _ => u = .int .u64 (age : Int) := by
 refine con_of_tree mix Tryz.func63 T63_ok (by kernel_rfl) ?_
 unfold T63
 obtain ⟨A1, c1, hv1, hc1'⟩ := br_form h
 subst hv1
 have hnl := num_len hn
 have hnp := num_pos age
 have hhl := headE_len age
 have ha : headE age = magic ++ (num age ++ sum (magic ++ num age)) := by
  unfold headE
  rw [List.append_assoc]
 rw [ha] at h hc1' hhl
 rw [ha]
 obtain ⟨zz, hzz⟩ : ∃ zz, zz = num age ++ sum (magic ++ num age) := ⟨_, rfl⟩
 rw [← hzz] at h hc1' hhl ⊢
 have hml : magic.length = 17 := rfl
 have hbs := br_sub h magic.length (magic ++ zz).length (by rw [List.length_append]; omega) (Nat.le_refl _)
 rw [List.take_length, List.drop_left] at hbs
 have hzl : (num age ++ sum (magic ++ num age)).length = (num age).length + 32 := by rw [List.length_append, sum_length]
 refine j_q (qs_ac) ?_
 refine j_lit (vs := [.int .u8 112, .int .u8 97, .int .u8 110, .int .u8 116, .int .u8 114, .int .u8 121, .int .u8 32, .int .u8 106, .int .u8 111, .int .u8 117, .int .u8 114, .int .u8 110, .int .u8 97, .int .u8 108, .int .u8 32, .int .u8 49, .int .u8 10]) U33 sz5 zero5 rfl (by simp [oneV]) ⟨rfl, by decide⟩ (fun g1 v1 c1 hv1 hc1 ho1 => ?_)
 subst hv1 hc1
 refine j_convsl 0 U33 U5 rfl rfl ?_
 have ho2 : Sx.Own 5 1 (ints magic) (.slice (some ⟨g1, 0, none⟩) 17 17) [(g1, .cells (ints magic).toArray 5 (17, 18))] := own_froz (xs := magic)
 refine j_subl (S' := [[(g1, .cells (ints magic).toArray 5 (17, 18))]]) (by rw [magic_ints]; exact List.Sublist.cons_cons _ (List.nil_sublist _)) ?_
 refine j_q (qs_call ent57 rfl rfl rfl (fun w' hw' => cutPrefix_con magic zz A1 c1 _ w' (br0 h hw') hc1' (own_br ho2 0 rfl hw'))) ?_
 refine j_q (qs_ext rfl rfl) ?_
 refine j_q (qs_ext rfl rfl) ?_
 refine j_q (qs_call ent88 rfl rfl rfl (fun w' hw' => takeNum_con age (sum (magic ++ num age)) _ w' (by rw [← hzz]; exact br0 hbs hw') hn (by omega))) ?_
 refine j_q (qs_ext rfl rfl) ?_
 refine j_q (qs_ext rfl rfl) ?_
 refine j_q (qs_not rfl) ?_
 refine j_gt rfl (qs_mt rfl) ?_
 refine j_gt rfl (qs_leq rfl rfl) ?_
 rw [decide_eq_false (show ¬ ((num age).length : Int) ≤ 0 by omega)]
 refine j_q (qs_or rfl rfl) ?_
 refine j_gt rfl (qs_mt rfl) ?_
 refine j_gt rfl (qs_mt rfl) ?_
 refine j_ga rfl ?_
 refine j_call0 ent89 rfl rfl rfl (fun w' hw' => head_con age w' hn) (fun u S2 hu => ?_)
 obtain ⟨c15, rfl, ho15⟩ := hu
 refine j_gt rfl (qs_call ent59 rfl rfl rfl (fun w' hw' => equal_con (headE age) (headE age) _ _ w' (by rw [ha, ← hzz]; exact br0 h hw') (own_br ho15 0 rfl hw'))) ?_
 rw [beq_self_eq_true]
 refine j_gt rfl (qs_not rfl) ?_
 refine j_q (qs_or rfl rfl) ?_
 refine j_cond rfl (fun hc0 => ?_) (fun hc0 => ?_)
 ·skip
  simp at hc0
 ·skip
  refine j_subl (S' := [c15]) (by repeat first | exact slR _ | exact slN _ | apply slC | apply slD) ?_
  refine j_ret_con (vs := [_]) (fun w' hw' => ⟨rfl, trivial⟩) ?_
  rfl
end Go.Proofs.YtfebkkmmagbnlaaGreatDoor
/-! Jn3 -/
namespace Go.Proofs.YtfebkkmmagbnlaaGreatDoor
open Go Go.Sx
set_option maxRecDepth 100000
set_option maxHeartbeats 4000000
set_option linter.unusedVariables false
set_option linter.unusedSimpArgs false
attribute [local irreducible] J JQ QS Con W opW
def fileN (name : List UInt8) (age part : Nat) : List UInt8 := name ++ [46] ++ dec age ++ [46] ++ dec part
theorem fmtU0_con (n : Nat) (w : World) (hP : P10 w) (hn : n < 10000) : Con Tryz.prog 87 [.int .u64 (n : Int), .int .i64 10] w [] fun u _ => u = .string (bs (dec n)) := by
 refine con_of_tree mix Tryz.func87 T87_ok (by kernel_rfl) ?_
 unfold T87
 have hdl := dec_len hn
 refine j_q (qs_ac) ?_
 refine j_q (qs_eql rfl rfl) ?_
 refine j_cond rfl (fun hc0 => ?_) (fun hc0 => ?_)
 ·skip
  refine j_q (qs_lss rfl rfl) ?_
  refine j_cond rfl (fun hc1 => ?_) (fun hc1 => ?_)
  ·skip
   have h9 : n < 100 := by
    simp only [bnA] at *
    omega
   refine j_q (qs_conv U64 U3 rfl) ?_
   rw [IntWalk.i64_in _ (by omega)]
   refine j_q (qs_call ent111 rfl rfl rfl (fun w' hw' => small_con n w' h9)) ?_
   refine j_ret_con (vs := [_]) (fun w' hw' => ⟨rfl, trivial⟩) ?_
   rfl
  ·skip
   have h9 : 100 ≤ n := by
    simp only [bnA] at *
    omega
   refine j_alloc zero180 (fun g5 hg5 hs5 => ?_)
   refine j_q (qs_call ent112 rfl rfl rfl (fun w' hw' => numDigits_con n w' h9 hn (hP.keep hw' (by simp)))) ?_
   obtain ⟨d, hd⟩ : ∃ d, d = (if n < 1000 then 3 else 4) := ⟨_, rfl⟩
   rw [← hd]
   have hd2 : 3 ≤ d ∧ d ≤ 4 := by
    rw [hd]
    split <;> omega
   refine j_q (qs_cuta (a := 0) (z := d) U180 sz5 rfl rfl ⟨.i64, rfl⟩ (by omega) (by omega)) ?_
   rw [if_neg (show ¬ 24 = 0 by omega)]
   simp only [Nat.zero_mul, Nat.add_zero, Nat.sub_zero]
   refine j_call 0 ent113 rfl rfl rfl rfl (fun w' hw' => fmt_con d n g5 w' hd h9 hn) (fun u S2 hu => ?_)
   obtain ⟨rfl, hdd, rfl⟩ := hu
   refine j_q (qs_cuta (a := 0) (z := d) U180 sz5 rfl rfl ⟨.i64, rfl⟩ (by omega) (by omega)) ?_
   rw [if_neg (show ¬ 24 = 0 by omega)]
   simp only [Nat.zero_mul, Nat.add_zero, Nat.sub_zero]
   refine j_q (qs_str (l := dec n) (a := ⟨g5, 0, none⟩) (c := 24) U33 U5 U9 (by rw [hdd]; rfl) (rd_own (off := 0) (n := (ints (dec n)).length) 0 rfl (by rw [List.drop_zero, ints_append, List.take_left]))) ?_
   refine j_ret_con (vs := [_]) (fun w' hw' => ⟨rfl, trivial⟩) ?_
   rfl
 ·skip
  simp at hc0
theorem fmtU_con (n : Nat) (w : World) (hP : P10 w) (hn : n < 10000) : Con Tryz.prog 62 [.int .u64 (n : Int), .int .i64 10] w [] fun u _ => u = .string (bs (dec n)) := by
 refine con_of_tree mix Tryz.func62 T62_ok (by kernel_rfl) ?_
 unfold T62
 refine j_q (qs_ac) ?_
 refine j_q (qs_call ent87 rfl rfl rfl (fun w' hw' => fmtU0_con n w' (hP.keep hw' (by simp)) hn)) ?_
 refine j_ret_con (vs := [_]) (fun w' hw' => ⟨rfl, trivial⟩) ?_
 rfl
theorem fmtI_con (n : Nat) (w : World) (hn : n < 100) : Con Tryz.prog 110 [.int .i64 (n : Int), .int .i64 10] w [] fun u _ => u = .string (bs (dec n)) := by
 refine con_of_tree mix Tryz.func110 T110_ok (by kernel_rfl) ?_
 unfold T110
 refine j_q (qs_ac) ?_
 refine j_q (qs_eql rfl rfl) ?_
 refine j_cond rfl (fun hc0 => ?_) (fun hc0 => ?_)
 ·skip
  refine j_q (qs_leq rfl rfl) ?_
  rw [decide_eq_true (show (0 : Int) ≤ (n : Int) by omega)]
  refine j_gt rfl (qs_mt rfl) ?_
  refine j_gt rfl (qs_lss rfl rfl) ?_
  rw [decide_eq_true (show (n : Int) < 100 by omega)]
  refine j_q (qs_and rfl rfl) ?_
  refine j_cond rfl (fun hc1 => ?_) (fun hc1 => ?_)
  ·skip
   refine j_q (qs_call ent111 rfl rfl rfl (fun w' hw' => small_con n w' hn)) ?_
   refine j_ret_con (vs := [_]) (fun w' hw' => ⟨rfl, trivial⟩) ?_
   rfl
  ·skip
   simp at hc1
 ·skip
  simp at hc0
theorem itoa0_con (n : Nat) (w : World) (hn : n < 100) : Con Tryz.prog 86 [.int .i64 (n : Int)] w [] fun u _ => u = .string (bs (dec n)) := by
 refine con_of_tree mix Tryz.func86 T86_ok (by kernel_rfl) ?_
 unfold T86
 refine j_q (qs_ac) ?_
 refine j_q (qs_call ent110 rfl rfl rfl (fun w' hw' => fmtI_con n w' hn)) ?_
 refine j_ret_con (vs := [_]) (fun w' hw' => ⟨rfl, trivial⟩) ?_
 rfl
theorem itoa_con (n : Nat) (w : World) (hn : n < 100) : Con Tryz.prog 61 [.int .i64 (n : Int)] w [] fun u _ => u = .string (bs (dec n)) := by
 refine con_of_tree mix Tryz.func61 T61_ok (by kernel_rfl) ?_
 unfold T61
 refine j_q (qs_ac) ?_
 refine j_q (qs_call ent86 rfl rfl rfl (fun w' hw' => itoa0_con n w' hn)) ?_
 refine j_ret_con (vs := [_]) (fun w' hw' => ⟨rfl, trivial⟩) ?_
 rfl
theorem file_con (gj : Nat) (fp : Value) (name : List UInt8) (age part : Nat) (rest : List Value) (w : World) (hc : w.heap[gj]? = some (.cells (fp :: .string (bs name) :: .int .u64 (age : Int) :: rest).toArray 136 (0, 0))) (hP : P10 w) (ha : age < 10000) (hp : part < 100) (hl : name.length ≤ 1000) : Con Tryz.prog 64 [.pointer (some ⟨gj, 0, none⟩), .int .i64 (part : Int)] w [] fun u _ => u = .string (bs (fileN name age part)) := by
 refine con_of_tree mix Tryz.func64 T64_ok (by kernel_rfl) ?_
 unfold T64
 have hd0 : gj ∉ dom [] := by simp [dom]
 have hdl := dec_len ha
 have hdp := dec_len (show part < 10000 by omega)
 refine j_q (qs_ac) ?_
 refine j_draw ?_
 refine jq_q (qs_nil rfl) ?_
 refine jq_q (qs_field U136 rfl sz9 (by decide) rfl) ?_
 refine jq_q (qs_loadO (rdo_base hc hd0) U9 rfl rfl rfl) ?_
 refine jq_q (qs_sadd (l := name) (l' := [46]) rfl rfl (by simp only [List.length_append, List.length_cons, List.length_nil]; omega)) ?_
 refine jq_q (qs_nil rfl) ?_
 refine jq_q (qs_field U136 rfl sz64 (by decide) rfl) ?_
 refine jq_q (qs_loadO (rdo_base hc hd0) U64 rfl rfl rfl) ?_
 refine jq_q (qs_call ent62 rfl rfl rfl (fun w' hw' => fmtU_con age w' (hP.keep hw' (by simp)) ha)) ?_
 refine jq_q (qs_sadd (l := (name ++ [46])) (l' := (dec age)) rfl rfl (by simp only [List.length_append, List.length_cons, List.length_nil]; omega)) ?_
 refine jq_q (qs_sadd (l := (name ++ [46] ++ dec age)) (l' := [46]) rfl rfl (by simp only [List.length_append, List.length_cons, List.length_nil]; omega)) ?_
 refine jq_q (qs_call ent61 rfl rfl rfl (fun w' hw' => itoa_con part w' hp)) ?_
 refine jq_q (qs_sadd (l := (name ++ [46] ++ dec age ++ [46])) (l' := (dec part)) rfl rfl (by simp only [List.length_append, List.length_cons, List.length_nil]; omega)) ?_
 refine jq_nil ?_
 refine j_ret_con (vs := [_]) (fun w' hw' => ⟨rfl, trivial⟩) ?_
 rfl
theorem bload_con (g i : Nat) (l : List Value) (e : TypeId) (fz : Nat × Nat) (n : Int) (w : World) (hc : w.heap[g]? = some (.cells l.toArray e fz)) (hi : l[i]? = some (.int .u32 n)) : Con Tryz.prog 116 [.pointer (some ⟨g, i, none⟩)] w [] fun v _ => v = .bool (n != 0) := by
 refine con_of_tree mix Tryz.func116 T116_ok (by kernel_rfl) ?_
 unfold T116
 refine j_q (qs_ac) ?_
 refine j_q (qs_nil rfl) ?_
 refine j_q (qs_field U125 rfl sz123 (by decide) rfl) ?_
 refine j_q (qs_extw (f := 134) (fn := Tryz.f134) (e := fun _ => pure .nilIface) rfl rfl rfl (fun w' hw' => run_call_load Tryz.func134 (by kernel_rfl) (by kernel_rfl) (by kernel_rfl) .u32 (by kernel_rfl) (by rw [cell_of ((hw'.frame g (lt_of_get hc) (by simp)).trans hc)]; exact hi))) ?_
 refine j_q (qs_neq rfl rfl) ?_
 refine j_ret_con (vs := [_]) (fun w' hw' => ⟨rfl, trivial⟩) ?_
 rfl
end Go.Proofs.YtfebkkmmagbnlaaGreatDoor
/-! Do2 -/
namespace Go.Proofs.YtfebkkmmagbnlaaGreatDoor
open Go Go.Sx
set_option linter.unusedVariables false
set_option maxRecDepth 100000
theorem disable (w : World) : (callFunc 162 #[]).run Tryz.prog w = .ok (.value (.tuple #[])) w := run_call_mark0 Tryz.func162 (by kernel_rfl) (by kernel_rfl) (by kernel_rfl) .disable (by kernel_rfl) w
theorem enable (w : World) : (callFunc 164 #[]).run Tryz.prog w = .ok (.value (.tuple #[])) w := run_call_mark0 Tryz.func164 (by kernel_rfl) (by kernel_rfl) (by kernel_rfl) .enable (by kernel_rfl) w
theorem acquire (a : Addr) (w : World) : (callFunc 165 #[.pointer (some a)]).run Tryz.prog w = .ok (.value (.tuple #[])) w := run_call_marked Tryz.func165 (by kernel_rfl) (by kernel_rfl) (by kernel_rfl) .acquire (by kernel_rfl) a w
theorem releaseMerge (a : Addr) (w : World) : (callFunc 167 #[.pointer (some a)]).run Tryz.prog w = .ok (.value (.tuple #[])) w := run_call_marked Tryz.func167 (by kernel_rfl) (by kernel_rfl) (by kernel_rfl) .releaseMerge (by kernel_rfl) a w
theorem store_deferred (a : Addr) (x : Value) (u : FrameMode) (w : World) (hc : w.cell? a = some x) (hz : w.frozen? a = false) :
  CallsD Tryz.prog 120 #[.pointer (some a), .bool true] u w fun e u' w' => u' = u ∧ (e = .returned (.tuple #[]) ∧ w' = w.drew.setCell a (.int .u32 1)) := by
 have hc' : w.drew.cell? a = some x := by go_simp
 have hz' : w.drew.frozen? a = false := by go_simp
 have hst := run_call_store (P := Tryz.prog) Tryz.func136 (by kernel_rfl) (by kernel_rfl) (by kernel_rfl) (by kernel_rfl) (k := .u32) (y := 1) hc' hz'
 go_enter_d Tryz.func120, Tryz.ntmps120
 go_wp2
 go_region_calls
 all_goals (go_end0; exact ⟨rfl, rfl⟩)
theorem unlock_deferred (a : Addr) (u : FrameMode) (w : World) (hc : w.cell? a = some (.int .i32 1)) (hz : w.frozen? a = false) :
  CallsD Tryz.prog 152 #[.pointer (some a)] u w fun e u' w' => u' = u ∧ (e = .returned (.tuple #[]) ∧ w' = w.setCell a (.int .i32 0)) := by
 have hd := disable
 have he := enable
 have hr := releaseMerge
 have hadd := run_call_add (P := Tryz.prog) Tryz.func106 (by kernel_rfl) (by kernel_rfl) (by kernel_rfl) .i32 (by kernel_rfl) (y := -1) (s := 0) hc hz (by simp [go_sem]; rfl)
 have hcv := run_convert_to_unsafe (P := Tryz.prog) (src := 222) (dst := 225) U222 U225 (by kernel_rfl) hc
 go_enter_d Tryz.func152, Tryz.ntmps152
 go_wp2
 go_end0
 go_wp2
 go_end0
 exact ⟨rfl, rfl⟩
theorem lock_free (a : Addr) (w : World) (hc : w.cell? a = some (.int .i32 0)) (hz : w.frozen? a = false) :
  Calls Tryz.prog 151 #[.pointer (some a)] w fun e w' => e = .returned (.tuple #[]) ∧ w' = w.setCell a (.int .i32 1) := by
 have hd := disable
 have he := enable
 have ha := acquire
 have hcas := run_call_cas_hit (P := Tryz.prog) Tryz.func163 (by kernel_rfl) (by kernel_rfl) (by kernel_rfl) .i32 (by kernel_rfl) (y := 1) hc hz
 have hc' : (w.setCell a (.int .i32 1)).cell? a = some (.int .i32 1) := World.cell?_setCell_same w a _ hc
 have hcv := run_convert_to_unsafe (P := Tryz.prog) (src := 222) (dst := 225) U222 U225 (by kernel_rfl) hc'
 go_enter Tryz.func151, Tryz.ntmps151
 go_wp2
 first | go_end0 | (simp only [Exit.inBlock, Exit.then]; refine bodyPost_ret (results_none rfl _ _ _) rfl ?_) | refine bodyPost_ret (results_none rfl _ _ _) rfl ?_
 go_wp2
 go_end0
 exact ⟨rfl, rfl⟩
set_option maxRecDepth 100000 in
set_option maxHeartbeats 1600000 in
theorem slow_gen (b off : Nat) (f : FuncId) (cap : Array Value) (w : World) (K : World → Prop) (hen : Sx.Enters Tryz.prog f)
  (h0 : w.cell? ⟨b, off, none⟩ = some (.int .u32 0)) (h1 : w.cell? ⟨b, off + 1, none⟩ = some (.int .i32 0)) (f1 : w.frozen? ⟨b, off + 1, none⟩ = false)
  (hc : Calls Tryz.prog f cap (w.setCell ⟨b, off + 1, none⟩ (.int .i32 1)) fun e w' => e = .returned (.tuple #[]) ∧ K w' ∧ w'.cell? ⟨b, off, none⟩ = some (.int .u32 0) ∧ w'.frozen? ⟨b, off, none⟩ = false ∧ w'.cell? ⟨b, off + 1, none⟩ = some (.int .i32 1) ∧ w'.frozen? ⟨b, off + 1, none⟩ = false) :
  Calls Tryz.prog 135 #[.pointer (some ⟨b, off, none⟩), .func (.func f) #[] cap] w fun e w' => e = .returned (.tuple #[]) ∧ ∃ w1, K w1 ∧ w' = (w1.drew.setCell ⟨b, off, none⟩ (.int .u32 1)).setCell ⟨b, off + 1, none⟩ (.int .i32 0) := by
 have hcall : ∀ w, (callFunc f cap).run Tryz.prog w = .ok (.enter f cap) w := fun w => run_callFunc hen cap w
 have hl := run_call_load (P := Tryz.prog) Tryz.func134 (by kernel_rfl) (by kernel_rfl) (by kernel_rfl) .u32 (by kernel_rfl) (w := w.setCell ⟨b, off + 1, none⟩ (.int .i32 1)) (a := ⟨b, off, none⟩) (x := 0) ((World.cell?_setCell_other _ ⟨b, off + 1, none⟩ ⟨b, off, none⟩ _ (by simp)).trans h0)
 have hnot : ∀ (x : Bool) (w : World), (Op.unary .not (.bool x)).run Tryz.prog w = .ok (.bool (!x)) w := fun _ _ => rfl
 go_enter_defers Tryz.func135, Tryz.ntmps135
 go_wp2_with (go_at_call 151; refine (lock_free ⟨b, off + 1, none⟩ _ (by go_simp) (by go_simp)).mono ?_; rintro e w' ⟨rfl, rfl⟩)
 go_wp2
 refine hc.mono ?_
 rintro e w1 ⟨rfl, hK, c0, z0, c1, z1⟩
 simp only
 go_wp2
 refine leaves_cons (f := 120) (args := #[.pointer (some ⟨b, off, none⟩), .bool true]) (by simp) (by simp [go_sem]) ?_
 refine (store_deferred ⟨b, off, none⟩ (.int .u32 0) .returning _ c0 z0).mono ?_
 rintro e u' w'' ⟨rfl, rfl, rfl⟩
 refine leaves_cons (f := 152) (args := #[.pointer (some ⟨b, off + 1, none⟩)]) (by simp [settle]) (by simp [go_sem]) ?_
 refine (unlock_deferred ⟨b, off + 1, none⟩ _ _ ?_ (by simp [z1])).mono ?_
 ·refine (World.cell?_setCell_other _ ⟨b, off, none⟩ ⟨b, off + 1, none⟩ _ (by simp)).trans ?_
  rw [World.cell?_drew]
  exact c1
 rintro e u' w'' ⟨rfl, rfl, rfl⟩
 simp [Leaves, settle, results, Tryz.results135]
 exact ⟨w1, hK, rfl⟩
end Go.Proofs.YtfebkkmmagbnlaaGreatDoor
