/- Part 5. -/
import Derived.Test.YtfeabbeebkkhaaaGreatPB2
import Derived.Test.YtfeabbeebkkhaaaGreatPB3
import Derived.Test.YtfeabbeebkkhaaaGreatPB4
import Derived.ProofKit
import Derived.Carry
import Derived.ChangeSlices
import Derived.SizedLaws
import Derived.SliceStrings
import Derived.Laws.LoneSync
import Derived.Lib.Bytealg
import Derived.LaidEql
/-! Sha2 -/
namespace Go.Proofs.YtfeabbeebkkhaaaGreat
open Go Go.Sx
set_option maxRecDepth 100000
set_option maxHeartbeats 4000000
set_option linter.unusedVariables false
set_option linter.unusedSimpArgs false
attribute [local irreducible] J JQ QS Con W opW
theorem add_block (a : Addr) (n : Nat) : (a.add n).block = a.block := by unfold Addr.add; split <;> rfl
theorem add_add (a : Addr) (n j : Nat) : (a.add n).add j = a.add (n + j) := by
  obtain ⟨g, o, sp⟩ := a
  unfold Addr.add
  by_cases h1 : n = 0
  · subst h1; simp
  · by_cases h2 : j = 0
    · subst h2; simp
    · have h3 : n + j ≠ 0 := by omega
      simp [h1, h2, h3, Nat.add_assoc]
theorem cells_drop {w : World} {a : Addr} {vs : List Value} (h : Cells w a vs) (n : Nat) : Cells w (a.add n) (vs.drop n) := fun j u hu => by
  rw [add_add]
  exact h _ _ (by rwa [List.getElem?_drop] at hu)
theorem cells_take {w : World} {a : Addr} {vs : List Value} (h : Cells w a vs) (n : Nat) : Cells w a (vs.take n) := fun j u hu => by
  rw [List.getElem?_take] at hu
  split at hu
  · exact h _ _ hu
  · cases hu
theorem ints_drop (l : List UInt8) (n : Nat) : (ints l).drop n = ints (l.drop n) := by simp [ints, List.map_drop]
theorem ints_take (l : List UInt8) (n : Nat) : (ints l).take n = ints (l.take n) := by simp [ints, List.map_take]
theorem back_le {n i : Nat} (h : i < n) : n - (i + 1) < n - i := by omega
theorem block_con (s : List Int) (p : List UInt8) (a : Addr) (c gk : Nat) (w : World) (hs : s.length = 8) (hp : p.length = 64) (hpc : Cells w a (ints p)) (hk : Cells w ⟨gk, 0, none⟩ (ks .u32 kk64)) : Con Tryz.prog 113 [.agg (ks .u32 s).toArray, .slice (some a) 64 c, .pointer (some ⟨gk, 0, none⟩)] w [] fun v _ => v = .agg (ks .u32 (block p s)).toArray := by
  refine con_of_tree mix Tryz.func113 T113_ok (by kernel_rfl) ?_
  unfold T113
  have hkl : kk64.length = 64 := rfl
  refine j_box rfl (fun g0 hg0 hs0 => ?_)
  refine j_alloc zero146 (fun g1 hg1 hs1 => ?_)
  refine j_alloc zero162 (fun g2 hg2 hs2 => ?_)
  refine j_q (qs_ac) ?_
  refine j_loop (fun m vs S' => ∃ (i : Nat) (ws : List Int), vs = [.int .i64 i] ∧ S' = [[(g2, .cells (ks .u32 ws).toArray 162 (0, 0))], [(g1, .cells (ks .u32 (List.replicate 8 0)).toArray 146 (0, 0))], [(g0, .cells (ks .u32 s).toArray 146 (0, 0))], []] ∧ i ≤ 16 ∧ ws.length = 64 ∧ m = 16 - i ∧ ws.take i = sched p i) ⟨_, 0, _, rfl, rfl, by omega, by simp, rfl, rfl⟩ ?_
  rintro m vs S' hlen ⟨i, ws, rfl, rfl, hi, hwl, rfl, hws⟩
  refine j_q (qs_lss rfl rfl) ?_
  refine j_cond rfl (fun hc0 => ?_) (fun hc0 => ?_)
  · skip
    have hi1 : i < 16 := by
      simp only [bnA] at *
      omega
    refine j_draw ?_
    refine jq_q (qs_mul64 rfl rfl (by omega)) ?_
    refine jq_q (qs_ixl0 Tryz.underlying46 sz5 rfl rfl ⟨(by omega), (by omega)⟩) ?_
    refine jq_q (qs_loadr8 (rd_cells hpc (by simp)) Tryz.underlying5 rfl (by omega)) ?_
    refine jq_q (qs_conv Tryz.underlying5 Tryz.underlying145 rfl) ?_
    refine jq_q (qs_shl rfl rfl (by omega)) ?_
    refine jq_q (qs_mul64 rfl rfl (by omega)) ?_
    refine jq_q (qs_add64 rfl rfl (by omega)) ?_
    refine jq_q (qs_ixl0 Tryz.underlying46 sz5 rfl rfl ⟨(by omega), (by omega)⟩) ?_
    refine jq_q (qs_loadr8 (rd_cells hpc (by simp)) Tryz.underlying5 rfl (by omega)) ?_
    refine jq_q (qs_conv Tryz.underlying5 Tryz.underlying145 rfl) ?_
    refine jq_q (qs_shl rfl rfl (by omega)) ?_
    refine jq_q (qs_or_ rfl rfl) ?_
    refine jq_q (qs_mul64 rfl rfl (by omega)) ?_
    refine jq_q (qs_add64 rfl rfl (by omega)) ?_
    refine jq_q (qs_ixl0 Tryz.underlying46 sz5 rfl rfl ⟨(by omega), (by omega)⟩) ?_
    refine jq_q (qs_loadr8 (rd_cells hpc (by simp)) Tryz.underlying5 rfl (by omega)) ?_
    refine jq_q (qs_conv Tryz.underlying5 Tryz.underlying145 rfl) ?_
    refine jq_q (qs_shl rfl rfl (by omega)) ?_
    refine jq_q (qs_or_ rfl rfl) ?_
    refine jq_q (qs_mul64 rfl rfl (by omega)) ?_
    refine jq_q (qs_add64 rfl rfl (by omega)) ?_
    refine jq_q (qs_ixl0 Tryz.underlying46 sz5 rfl rfl ⟨(by omega), (by omega)⟩) ?_
    refine jq_q (qs_loadr8 (rd_cells hpc (by simp)) Tryz.underlying5 rfl (by omega)) ?_
    refine jq_q (qs_conv Tryz.underlying5 Tryz.underlying145 rfl) ?_
    refine jq_q (qs_or_ rfl rfl) ?_
    refine jq_q (qs_ix0 Tryz.underlying162 sz145 rfl rfl ⟨(by omega), (by omega)⟩) ?_
    refine jq_nil ?_
    refine j_storek 0 sz145 rfl rfl rfl (by omega) ?_
    refine j_q (qs_add64 rfl rfl (by omega)) ?_
    refine j_back rfl ?_
    exact ⟨_, back_le hi1, i + 1, _, rfl, rfl, by omega, by simpa using hwl, rfl, sched_word hws hi1 (by omega)⟩
  · skip
    have hi1 : i = 16 := by
      simp only [bnA] at *
      omega
    subst hi1
    refine j_q (qs_ac) ?_
    refine j_loop (fun m vs S' => ∃ (i : Nat) (ws : List Int), vs = [.int .i64 i] ∧ S' = [[(g2, .cells (ks .u32 ws).toArray 162 (0, 0))], [(g1, .cells (ks .u32 (List.replicate 8 0)).toArray 146 (0, 0))], [(g0, .cells (ks .u32 s).toArray 146 (0, 0))], []] ∧ 16 ≤ i ∧ i ≤ 64 ∧ ws.length = 64 ∧ m = 64 - i ∧ ws.take i = sched p i) ⟨_, 16, _, rfl, rfl, by omega, by omega, hwl, rfl, hws⟩ ?_
    rintro m vs S' hlen ⟨i, ws, rfl, rfl, hi0, hi, hwl, rfl, hws⟩
    refine j_q (qs_lss rfl rfl) ?_
    refine j_cond rfl (fun hc1 => ?_) (fun hc1 => ?_)
    · skip
      have hi1 : i < 64 := by
        simp only [bnA] at *
        omega
      refine j_q (qs_sub64 rfl rfl (by omega)) ?_
      refine j_q (qs_ix0 Tryz.underlying162 sz145 rfl rfl ⟨(by omega), (by omega)⟩) ?_
      refine j_q (qs_loadk 0 Tryz.underlying145 rfl rfl (by omega)) ?_
      refine j_q (qs_sub64 rfl rfl (by omega)) ?_
      refine j_q (qs_ix0 Tryz.underlying162 sz145 rfl rfl ⟨(by omega), (by omega)⟩) ?_
      refine j_q (qs_loadk 0 Tryz.underlying145 rfl rfl (by omega)) ?_
      refine j_draw ?_
      refine jq_q (qs_sub64 rfl rfl (by omega)) ?_
      refine jq_q (qs_ix0 Tryz.underlying162 sz145 rfl rfl ⟨(by omega), (by omega)⟩) ?_
      refine jq_q (qs_loadk 0 Tryz.underlying145 rfl rfl (by omega)) ?_
      refine jq_q (qs_call ent142 rfl rfl rfl (fun w' hw' => r_con _ _ w' (by decide) (by decide))) ?_
      refine jq_q (qs_call ent142 rfl rfl rfl (fun w' hw' => r_con _ _ w' (by decide) (by decide))) ?_
      refine jq_q (qs_xor_ rfl rfl) ?_
      refine jq_q (qs_shr rfl rfl (by omega)) ?_
      refine jq_q (qs_xor_ rfl rfl) ?_
      refine jq_q (qs_add rfl rfl) ?_
      refine jq_q (qs_sub64 rfl rfl (by omega)) ?_
      refine jq_q (qs_ix0 Tryz.underlying162 sz145 rfl rfl ⟨(by omega), (by omega)⟩) ?_
      refine jq_q (qs_loadk 0 Tryz.underlying145 rfl rfl (by omega)) ?_
      refine jq_q (qs_add rfl rfl) ?_
      refine jq_q (qs_call ent142 rfl rfl rfl (fun w' hw' => r_con _ _ w' (by decide) (by decide))) ?_
      refine jq_q (qs_call ent142 rfl rfl rfl (fun w' hw' => r_con _ _ w' (by decide) (by decide))) ?_
      refine jq_q (qs_xor_ rfl rfl) ?_
      refine jq_q (qs_shr rfl rfl (by omega)) ?_
      refine jq_q (qs_xor_ rfl rfl) ?_
      refine jq_q (qs_add rfl rfl) ?_
      refine jq_q (qs_ix0 Tryz.underlying162 sz145 rfl rfl ⟨(by omega), (by omega)⟩) ?_
      refine jq_nil ?_
      refine j_storek 0 sz145 rfl rfl rfl (by omega) ?_
      refine j_q (qs_add64 rfl rfl (by omega)) ?_
      refine j_back rfl ?_
      have e15 : ((i : Int) - 15).toNat = i - 15 := by omega
      have e2 : ((i : Int) - 2).toNat = i - 2 := by omega
      have e16 : ((i : Int) - 16).toNat = i - 16 := by omega
      have e7 : ((i : Int) - 7).toNat = i - 7 := by omega
      rw [e15, e2, e16, e7]
      exact ⟨_, back_le hi1, i + 1, _, rfl, rfl, by omega, by omega, by simpa using hwl, rfl, sched_next hws hi0 (by omega)⟩
    · skip
      have hi1 : i = 64 := by
        simp only [bnA] at *
        omega
      subst hi1
      have hws64 : ws = sched p 64 := by rw [← hws, List.take_of_length_le (by omega)]
      refine j_q (qs_loadw 2 Tryz.underlying146 rfl sz146 rfl rfl (by first | rfl | (simp only [ks_length]; first | omega | exact hs | exact hvl) | simp [ks_length])) ?_
      refine j_alloc zero146 (fun g64 hg64 hs64 => ?_)
      refine j_storew 0 sz146 rfl rfl (by first | rfl | (simp only [ks_length]; first | omega | exact hs | exact hvl) | simp [ks_length]) ks_one rfl (by first | rfl | (simp only [ks_length]; first | omega | exact hs | exact hvl) | simp [ks_length]) ?_
      refine j_q (qs_ac) ?_
      refine j_loop (fun m vs S' => ∃ (i : Nat) (v : List Int), vs = [.int .i64 i] ∧ S' = [[(g64, .cells (ks .u32 v).toArray 146 (0, 0))], [(g2, .cells (ks .u32 ws).toArray 162 (0, 0))], [(g1, .cells (ks .u32 (List.replicate 8 0)).toArray 146 (0, 0))], [(g0, .cells (ks .u32 s).toArray 146 (0, 0))], []] ∧ i ≤ 64 ∧ m = 64 - i ∧ v = rounds kk64 (sched p 64) s i) ⟨_, 0, _, rfl, rfl, by omega, rfl, rfl⟩ ?_
      rintro m vs S' hlen ⟨i, v, rfl, rfl, hi, rfl, hv⟩
      have hvl : v.length = 8 := by rw [hv]; exact rounds_length hs i
      clear hlen
      refine j_q (qs_lss rfl rfl) ?_
      refine j_cond rfl (fun hc2 => ?_) (fun hc2 => ?_)
      · skip
        have hi1 : i < 64 := by
          simp only [bnA] at *
          omega
        refine j_draw ?_
        refine jq_q (qs_ix0 Tryz.underlying146 sz145 rfl rfl ⟨(by omega), (by omega)⟩) ?_
        refine jq_q (qs_loadk 0 Tryz.underlying145 rfl rfl (by omega)) ?_
        refine jq_q (qs_ix0 Tryz.underlying146 sz145 rfl rfl ⟨(by omega), (by omega)⟩) ?_
        refine jq_q (qs_loadk 0 Tryz.underlying145 rfl rfl (by omega)) ?_
        refine jq_nil ?_
        refine j_draw ?_
        refine jq_q (qs_ix0 Tryz.underlying146 sz145 rfl rfl ⟨(by omega), (by omega)⟩) ?_
        refine jq_q (qs_loadk 0 Tryz.underlying145 rfl rfl (by omega)) ?_
        refine jq_q (qs_call ent142 rfl rfl rfl (fun w' hw' => r_con _ _ w' (by decide) (by decide))) ?_
        refine jq_q (qs_call ent142 rfl rfl rfl (fun w' hw' => r_con _ _ w' (by decide) (by decide))) ?_
        refine jq_q (qs_xor_ rfl rfl) ?_
        refine jq_q (qs_call ent142 rfl rfl rfl (fun w' hw' => r_con _ _ w' (by decide) (by decide))) ?_
        refine jq_q (qs_xor_ rfl rfl) ?_
        refine jq_q (qs_add rfl rfl) ?_
        refine jq_q (qs_ix0 Tryz.underlying146 sz145 rfl rfl ⟨(by omega), (by omega)⟩) ?_
        refine jq_q (qs_loadk 0 Tryz.underlying145 rfl rfl (by omega)) ?_
        refine jq_q (qs_and_ rfl rfl) ?_
        refine jq_q (qs_inv rfl) ?_
        refine jq_q (qs_ix0 Tryz.underlying146 sz145 rfl rfl ⟨(by omega), (by omega)⟩) ?_
        refine jq_q (qs_loadk 0 Tryz.underlying145 rfl rfl (by omega)) ?_
        refine jq_q (qs_and_ rfl rfl) ?_
        refine jq_q (qs_xor_ rfl rfl) ?_
        refine jq_q (qs_add rfl rfl) ?_
        refine jq_q (qs_nil rfl) ?_
        refine jq_q (qs_ix0 Tryz.underlying162 sz145 rfl rfl ⟨(by omega), (by omega)⟩) ?_
        refine jq_q (qs_loadro (rd_cells hk (by simp)) Tryz.underlying145 rfl (by omega)) ?_
        refine jq_q (qs_add rfl rfl) ?_
        refine jq_q (qs_ix0 Tryz.underlying162 sz145 rfl rfl ⟨(by omega), (by omega)⟩) ?_
        refine jq_q (qs_loadk 1 Tryz.underlying145 rfl rfl (by omega)) ?_
        refine jq_q (qs_add rfl rfl) ?_
        refine jq_nil ?_
        refine j_draw ?_
        refine jq_q (qs_call ent142 rfl rfl rfl (fun w' hw' => r_con _ _ w' (by decide) (by decide))) ?_
        refine jq_q (qs_call ent142 rfl rfl rfl (fun w' hw' => r_con _ _ w' (by decide) (by decide))) ?_
        refine jq_q (qs_xor_ rfl rfl) ?_
        refine jq_q (qs_call ent142 rfl rfl rfl (fun w' hw' => r_con _ _ w' (by decide) (by decide))) ?_
        refine jq_q (qs_xor_ rfl rfl) ?_
        refine jq_q (qs_ix0 Tryz.underlying146 sz145 rfl rfl ⟨(by omega), (by omega)⟩) ?_
        refine jq_q (qs_loadk 0 Tryz.underlying145 rfl rfl (by omega)) ?_
        refine jq_q (qs_and_ rfl rfl) ?_
        refine jq_q (qs_ix0 Tryz.underlying146 sz145 rfl rfl ⟨(by omega), (by omega)⟩) ?_
        refine jq_q (qs_loadk 0 Tryz.underlying145 rfl rfl (by omega)) ?_
        refine jq_q (qs_and_ rfl rfl) ?_
        refine jq_q (qs_xor_ rfl rfl) ?_
        refine jq_q (qs_ix0 Tryz.underlying146 sz145 rfl rfl ⟨(by omega), (by omega)⟩) ?_
        refine jq_q (qs_loadk 0 Tryz.underlying145 rfl rfl (by omega)) ?_
        refine jq_q (qs_ix0 Tryz.underlying146 sz145 rfl rfl ⟨(by omega), (by omega)⟩) ?_
        refine jq_q (qs_loadk 0 Tryz.underlying145 rfl rfl (by omega)) ?_
        refine jq_q (qs_and_ rfl rfl) ?_
        refine jq_q (qs_xor_ rfl rfl) ?_
        refine jq_q (qs_add rfl rfl) ?_
        refine jq_nil ?_
        refine j_q (qs_add rfl rfl) ?_
        refine j_q (qs_ix0 Tryz.underlying146 sz145 rfl rfl ⟨(by omega), (by omega)⟩) ?_
        refine j_q (qs_loadk 0 Tryz.underlying145 rfl rfl (by omega)) ?_
        refine j_q (qs_ix0 Tryz.underlying146 sz145 rfl rfl ⟨(by omega), (by omega)⟩) ?_
        refine j_q (qs_loadk 0 Tryz.underlying145 rfl rfl (by omega)) ?_
        refine j_q (qs_ix0 Tryz.underlying146 sz145 rfl rfl ⟨(by omega), (by omega)⟩) ?_
        refine j_q (qs_loadk 0 Tryz.underlying145 rfl rfl (by omega)) ?_
        refine j_q (qs_add rfl rfl) ?_
        refine j_q (qs_ix0 Tryz.underlying146 sz145 rfl rfl ⟨(by omega), (by omega)⟩) ?_
        refine j_q (qs_loadk 0 Tryz.underlying145 rfl rfl (by omega)) ?_
        refine j_q (qs_ix0 Tryz.underlying146 sz145 rfl rfl ⟨(by omega), (by omega)⟩) ?_
        refine j_q (qs_loadk 0 Tryz.underlying145 rfl rfl (by omega)) ?_
        refine j_q (qs_run (v := .agg (ks .u32 (rnd (kk64.getD i 0) (ws.getD i 0) v)).toArray) (fun w => by kernel_rfl)) ?_
        refine j_storew 0 sz146 rfl rfl (by first | rfl | (simp only [ks_length]; first | omega | exact hs | exact hvl) | simp [ks_length]) ks_one rfl (by first | rfl | (simp only [ks_length]; first | omega | exact hs | exact hvl) | simp [ks_length]) ?_
        refine j_q (qs_add64 rfl rfl (by omega)) ?_
        refine j_back rfl ?_
        refine ⟨_, back_le hi1, i + 1, _, rfl, rfl, by omega, rfl, ?_⟩
        rw [rounds, ← hv, ← hws64]
      · skip
        have hi1 : i = 64 := by
          simp only [bnA] at *
          omega
        subst hi1
        have hv64 : v = rounds kk64 (sched p 64) s 64 := hv
        refine j_q (qs_ac) ?_
        refine j_loop (fun m vs S' => ∃ (i : Nat) (s' : List Int), vs = [.int .i64 i] ∧ S' = [[(g64, .cells (ks .u32 (rounds kk64 (sched p 64) s 64)).toArray 146 (0, 0))], [(g2, .cells (ks .u32 ws).toArray 162 (0, 0))], [(g1, .cells (ks .u32 (List.replicate 8 0)).toArray 146 (0, 0))], [(g0, .cells (ks .u32 s').toArray 146 (0, 0))], []] ∧ i ≤ 8 ∧ m = 8 - i ∧ s' = adds s (rounds kk64 (sched p 64) s 64) i) ⟨_, 0, _, rfl, (by rw [← hv64]; rfl), by omega, rfl, rfl⟩ ?_
        rintro m vs S' hlen ⟨i, s', rfl, rfl, hi, rfl, hs'⟩
        have hsl : s'.length = 8 := by rw [hs', adds_length, hs]
        have hrl : (rounds kk64 (sched p 64) s 64).length = 8 := rounds_length hs 64
        refine j_q (qs_lss rfl rfl) ?_
        refine j_cond rfl (fun hc3 => ?_) (fun hc3 => ?_)
        · skip
          have hi1 : i < 8 := by
            simp only [bnA] at *
            omega
          refine j_draw ?_
          refine jq_q (qs_ix0 Tryz.underlying146 sz145 rfl rfl ⟨(by omega), (by omega)⟩) ?_
          refine jq_q (qs_loadk 3 Tryz.underlying145 rfl rfl (by omega)) ?_
          refine jq_q (qs_ix0 Tryz.underlying146 sz145 rfl rfl ⟨(by omega), (by omega)⟩) ?_
          refine jq_q (qs_loadk 0 Tryz.underlying145 rfl rfl (by omega)) ?_
          refine jq_q (qs_add rfl rfl) ?_
          refine jq_q (qs_ix0 Tryz.underlying146 sz145 rfl rfl ⟨(by omega), (by omega)⟩) ?_
          refine jq_nil ?_
          refine j_storek 3 sz145 rfl rfl rfl (by omega) ?_
          refine j_q (qs_add64 rfl rfl (by omega)) ?_
          refine j_back rfl ?_
          refine ⟨_, back_le hi1, i + 1, _, rfl, rfl, by omega, rfl, ?_⟩
          rw [adds, ← hs']
          rfl
        · skip
          have hi1 : i = 8 := by
            simp only [bnA] at *
            omega
          subst hi1
          refine j_q (qs_loadw 3 Tryz.underlying146 rfl sz146 rfl rfl (by first | rfl | (simp only [ks_length]; first | omega | exact hs | exact hvl) | simp [ks_length])) ?_
          refine j_storew 2 sz146 rfl rfl (by first | rfl | (simp only [ks_length]; first | omega | exact hs | exact hvl) | simp [ks_length]) ks_one rfl (by first | rfl | (simp only [ks_length]; first | omega | exact hs | exact hvl) | simp [ks_length]) ?_
          refine j_ret_con (vs := [_]) (fun w' hw' => ⟨rv_agg 2 Tryz.underlying146 rfl sz146 rfl rfl (by first | rfl | (simp only [ks_length]; first | omega | exact hs | exact hvl) | simp [ks_length]) hw', trivial⟩) ?_
          show Value.agg _ = _
          rw [hs']
          rfl
theorem take_con (s : List Int) (p : List UInt8) (a : Addr) (c gs : Nat) (e : TypeId) (w : World) (hs : s.length = 8) (hpm : p.length ≤ 140737488355328) (hc : p.length ≤ c) (hpc : Cells w a (ints p)) (hne : p ≠ [] → a.block ≠ gs) : Con Tryz.prog 101 [.pointer (some ⟨gs, 0, none⟩), .slice (some a) p.length c] w [(gs, .cells (ks .u32 s).toArray e (0, 0))] fun v S' => v = .tuple #[] ∧ S' = [[(gs, .cells (ks .u32 (blocks (p.length / 64) p s)).toArray e (0, 0))]] := by
  refine con_of_tree mix Tryz.func101 T101_ok (by kernel_rfl) ?_
  unfold T101
  have hkl : kk64.length = 64 := rfl
  refine j_q (qs_call ent133 rfl rfl rfl (fun w' hw' => numbers_con w')) ?_
  refine j_alloc zero162 (fun g1 hg1 hs1 => ?_)
  refine j_storew 0 sz162 rfl rfl (by first | rfl | (simp only [ks_length]; first | omega | exact hstl | exact hvl) | simp [ks_length]) ks_one rfl (by first | rfl | (simp only [ks_length]; first | omega | exact hstl | exact hvl) | simp [ks_length]) ?_
  refine j_alloc zero162 (fun g3 hg3 hs3 => ?_)
  refine j_loop (fun m vs S' => ∃ (n : Nat) (q : List UInt8) (a' : Addr) (c' : Nat) (st ws : List Int), vs = [.slice (some a') q.length c'] ∧ S' = [[(g3, .cells (ks .u32 ws).toArray 162 (0, 0))], [(g1, .cells (ks .u32 kk64).toArray 162 (0, 0))], [(gs, .cells (ks .u32 st).toArray e (0, 0))]] ∧ 64 * n ≤ p.length ∧ q = p.drop (64 * n) ∧ q.length ≤ c' ∧ Cells w a' (ints q) ∧ a'.block = a.block ∧ st = blocks n p s ∧ ws.length = 64 ∧ m = p.length - 64 * n) ⟨_, 0, p, a, c, s, _, rfl, rfl, by omega, rfl, hc, hpc, rfl, rfl, by simp, rfl⟩ ?_
  rintro m vs S' hlen ⟨n, q, a', c', st, ws0, rfl, rfl, hn, hq, hqc, hqm, hab, hst, hwl0, rfl⟩
  have hql : q.length = p.length - 64 * n := by rw [hq, List.length_drop]
  have hstl : st.length = 8 := by rw [hst]; exact blocks_length hs
  clear hlen hs1 hs3 hg1 hg3
  refine j_q (qs_lenl Tryz.underlying46 rfl) ?_
  refine j_q (qs_geq rfl rfl) ?_
  refine j_cond rfl (fun hc0 => ?_) (fun hc0 => ?_)
  · skip
    have hq64 : 64 ≤ q.length := by
      simp only [bnA] at *
      omega
    have hpne : p ≠ [] := by
      intro h0
      have := congrArg List.length h0
      simp only [List.length_nil] at this
      omega
    refine j_q (qs_mc) ?_
    refine j_loop (fun m vs S' => ∃ (i : Nat) (ws : List Int), vs = [.int .i64 i] ∧ S' = [[(g3, .cells (ks .u32 ws).toArray 162 (0, 0))], [(g1, .cells (ks .u32 kk64).toArray 162 (0, 0))], [(gs, .cells (ks .u32 st).toArray e (0, 0))]] ∧ i ≤ 16 ∧ ws.length = 64 ∧ m = 16 - i ∧ ws.take i = sched q i) ⟨_, 0, _, rfl, rfl, by omega, hwl0, rfl, rfl⟩ ?_
    rintro m vs S' hlen ⟨i, ws, rfl, rfl, hi, hwl, rfl, hws⟩
    clear hlen
    refine j_q (qs_lss rfl rfl) ?_
    refine j_cond rfl (fun hc1 => ?_) (fun hc1 => ?_)
    · skip
      have hi1 : i < 16 := by
        simp only [bnA] at *
        omega
      refine j_draw ?_
      refine jq_q (qs_mul64 rfl rfl (by omega)) ?_
      refine jq_q (qs_ixl0 Tryz.underlying46 sz5 rfl rfl ⟨(by omega), (by omega)⟩) ?_
      refine jq_q (qs_loadr8 (rd_cells hqm (by rw [hab]; simpa using hne hpne)) Tryz.underlying5 rfl (by omega)) ?_
      refine jq_q (qs_conv Tryz.underlying5 Tryz.underlying145 rfl) ?_
      refine jq_q (qs_shl rfl rfl (by omega)) ?_
      refine jq_q (qs_mul64 rfl rfl (by omega)) ?_
      refine jq_q (qs_add64 rfl rfl (by omega)) ?_
      refine jq_q (qs_ixl0 Tryz.underlying46 sz5 rfl rfl ⟨(by omega), (by omega)⟩) ?_
      refine jq_q (qs_loadr8 (rd_cells hqm (by rw [hab]; simpa using hne hpne)) Tryz.underlying5 rfl (by omega)) ?_
      refine jq_q (qs_conv Tryz.underlying5 Tryz.underlying145 rfl) ?_
      refine jq_q (qs_shl rfl rfl (by omega)) ?_
      refine jq_q (qs_or_ rfl rfl) ?_
      refine jq_q (qs_mul64 rfl rfl (by omega)) ?_
      refine jq_q (qs_add64 rfl rfl (by omega)) ?_
      refine jq_q (qs_ixl0 Tryz.underlying46 sz5 rfl rfl ⟨(by omega), (by omega)⟩) ?_
      refine jq_q (qs_loadr8 (rd_cells hqm (by rw [hab]; simpa using hne hpne)) Tryz.underlying5 rfl (by omega)) ?_
      refine jq_q (qs_conv Tryz.underlying5 Tryz.underlying145 rfl) ?_
      refine jq_q (qs_shl rfl rfl (by omega)) ?_
      refine jq_q (qs_or_ rfl rfl) ?_
      refine jq_q (qs_mul64 rfl rfl (by omega)) ?_
      refine jq_q (qs_add64 rfl rfl (by omega)) ?_
      refine jq_q (qs_ixl0 Tryz.underlying46 sz5 rfl rfl ⟨(by omega), (by omega)⟩) ?_
      refine jq_q (qs_loadr8 (rd_cells hqm (by rw [hab]; simpa using hne hpne)) Tryz.underlying5 rfl (by omega)) ?_
      refine jq_q (qs_conv Tryz.underlying5 Tryz.underlying145 rfl) ?_
      refine jq_q (qs_or_ rfl rfl) ?_
      refine jq_q (qs_ix0 Tryz.underlying162 sz145 rfl rfl ⟨(by omega), (by omega)⟩) ?_
      refine jq_nil ?_
      refine j_storek 0 sz145 rfl rfl rfl (by omega) ?_
      refine j_q (qs_add64 rfl rfl (by omega)) ?_
      refine j_back rfl ?_
      exact ⟨_, back_le hi1, i + 1, _, rfl, rfl, by omega, by simpa using hwl, rfl, sched_word hws hi1 (by omega)⟩
    · skip
      have hi1 : i = 16 := by
        simp only [bnA] at *
        omega
      subst hi1
      refine j_q (qs_ac) ?_
      refine j_loop (fun m vs S' => ∃ (i : Nat) (ws : List Int), vs = [.int .i64 i] ∧ S' = [[(g3, .cells (ks .u32 ws).toArray 162 (0, 0))], [(g1, .cells (ks .u32 kk64).toArray 162 (0, 0))], [(gs, .cells (ks .u32 st).toArray e (0, 0))]] ∧ 16 ≤ i ∧ i ≤ 64 ∧ ws.length = 64 ∧ m = 64 - i ∧ ws.take i = sched q i) ⟨_, 16, _, rfl, rfl, by omega, by omega, hwl, rfl, hws⟩ ?_
      rintro m vs S' hlen ⟨i, ws, rfl, rfl, hi0, hi, hwl, rfl, hws⟩
      clear hlen
      refine j_q (qs_lss rfl rfl) ?_
      refine j_cond rfl (fun hc2 => ?_) (fun hc2 => ?_)
      · skip
        have hi1 : i < 64 := by
          simp only [bnA] at *
          omega
        refine j_draw ?_
        refine jq_q (qs_sub64 rfl rfl (by omega)) ?_
        refine jq_q (qs_ix0 Tryz.underlying162 sz145 rfl rfl ⟨(by omega), (by omega)⟩) ?_
        refine jq_q (qs_loadk 0 Tryz.underlying145 rfl rfl (by omega)) ?_
        refine jq_q (qs_sub64 rfl rfl (by omega)) ?_
        refine jq_q (qs_ix0 Tryz.underlying162 sz145 rfl rfl ⟨(by omega), (by omega)⟩) ?_
        refine jq_q (qs_loadk 0 Tryz.underlying145 rfl rfl (by omega)) ?_
        refine jq_nil ?_
        refine j_q (qs_call ent134 rfl rfl rfl (fun w' hw' => turn_con _ _ w' (by decide) (by decide))) ?_
        refine j_q (qs_call ent134 rfl rfl rfl (fun w' hw' => turn_con _ _ w' (by decide) (by decide))) ?_
        refine j_q (qs_xor_ rfl rfl) ?_
        refine j_q (qs_shr rfl rfl (by omega)) ?_
        refine j_q (qs_xor_ rfl rfl) ?_
        refine j_q (qs_call ent134 rfl rfl rfl (fun w' hw' => turn_con _ _ w' (by decide) (by decide))) ?_
        refine j_q (qs_call ent134 rfl rfl rfl (fun w' hw' => turn_con _ _ w' (by decide) (by decide))) ?_
        refine j_q (qs_xor_ rfl rfl) ?_
        refine j_q (qs_shr rfl rfl (by omega)) ?_
        refine j_q (qs_xor_ rfl rfl) ?_
        refine j_draw ?_
        refine jq_q (qs_sub64 rfl rfl (by omega)) ?_
        refine jq_q (qs_ix0 Tryz.underlying162 sz145 rfl rfl ⟨(by omega), (by omega)⟩) ?_
        refine jq_q (qs_loadk 0 Tryz.underlying145 rfl rfl (by omega)) ?_
        refine jq_q (qs_add rfl rfl) ?_
        refine jq_q (qs_sub64 rfl rfl (by omega)) ?_
        refine jq_q (qs_ix0 Tryz.underlying162 sz145 rfl rfl ⟨(by omega), (by omega)⟩) ?_
        refine jq_q (qs_loadk 0 Tryz.underlying145 rfl rfl (by omega)) ?_
        refine jq_q (qs_add rfl rfl) ?_
        refine jq_q (qs_add rfl rfl) ?_
        refine jq_q (qs_ix0 Tryz.underlying162 sz145 rfl rfl ⟨(by omega), (by omega)⟩) ?_
        refine jq_nil ?_
        refine j_storek 0 sz145 rfl rfl rfl (by omega) ?_
        refine j_q (qs_add64 rfl rfl (by omega)) ?_
        refine j_back rfl ?_
        have e15 : ((i : Int) - 15).toNat = i - 15 := by omega
        have e2 : ((i : Int) - 2).toNat = i - 2 := by omega
        have e16 : ((i : Int) - 16).toNat = i - 16 := by omega
        have e7 : ((i : Int) - 7).toNat = i - 7 := by omega
        rw [e15, e2, e16, e7]
        exact ⟨_, back_le hi1, i + 1, _, rfl, rfl, by omega, by omega, by simpa using hwl, rfl, sched_next hws hi0 (by omega)⟩
      · skip
        have hi1 : i = 64 := by
          simp only [bnA] at *
          omega
        subst hi1
        have hws64 : ws = sched q 64 := by rw [← hws, List.take_of_length_le (by omega)]
        refine j_q (qs_nil rfl) ?_
        refine j_q (qs_loadw 2 Tryz.underlying147 rfl sz147 rfl rfl (by first | rfl | (simp only [ks_length]; first | omega | exact hstl | exact hvl) | simp [ks_length])) ?_
        refine j_alloc zero147 (fun g68 hg68 hs68 => ?_)
        refine j_storew 0 sz147 rfl rfl (by first | rfl | (simp only [ks_length]; first | omega | exact hstl | exact hvl) | simp [ks_length]) ks_one rfl (by first | rfl | (simp only [ks_length]; first | omega | exact hstl | exact hvl) | simp [ks_length]) ?_
        refine j_q (qs_mc) ?_
        refine j_loop (fun m vs S' => ∃ (i : Nat) (v : List Int), vs = [.int .i64 i] ∧ S' = [[(g68, .cells (ks .u32 v).toArray 147 (0, 0))], [(g3, .cells (ks .u32 ws).toArray 162 (0, 0))], [(g1, .cells (ks .u32 kk64).toArray 162 (0, 0))], [(gs, .cells (ks .u32 st).toArray e (0, 0))]] ∧ i ≤ 64 ∧ m = 64 - i ∧ v = rounds kk64 (sched q 64) st i) ⟨_, 0, _, rfl, rfl, by omega, rfl, rfl⟩ ?_
        rintro m vs S' hlen ⟨i, v, rfl, rfl, hi, rfl, hv⟩
        have hvl : v.length = 8 := by rw [hv]; exact rounds_length hstl i
        clear hlen
        refine j_q (qs_lss rfl rfl) ?_
        refine j_cond rfl (fun hc3 => ?_) (fun hc3 => ?_)
        · skip
          have hi1 : i < 64 := by
            simp only [bnA] at *
            omega
          refine j_draw ?_
          refine jq_q (qs_ix0 Tryz.underlying147 sz145 rfl rfl ⟨(by omega), (by omega)⟩) ?_
          refine jq_q (qs_loadk 0 Tryz.underlying145 rfl rfl (by omega)) ?_
          refine jq_q (qs_ix0 Tryz.underlying147 sz145 rfl rfl ⟨(by omega), (by omega)⟩) ?_
          refine jq_q (qs_loadk 0 Tryz.underlying145 rfl rfl (by omega)) ?_
          refine jq_nil ?_
          refine j_draw ?_
          refine jq_q (qs_ix0 Tryz.underlying147 sz145 rfl rfl ⟨(by omega), (by omega)⟩) ?_
          refine jq_q (qs_loadk 0 Tryz.underlying145 rfl rfl (by omega)) ?_
          refine jq_q (qs_call ent134 rfl rfl rfl (fun w' hw' => turn_con _ _ w' (by decide) (by decide))) ?_
          refine jq_q (qs_call ent134 rfl rfl rfl (fun w' hw' => turn_con _ _ w' (by decide) (by decide))) ?_
          refine jq_q (qs_xor_ rfl rfl) ?_
          refine jq_q (qs_call ent134 rfl rfl rfl (fun w' hw' => turn_con _ _ w' (by decide) (by decide))) ?_
          refine jq_q (qs_xor_ rfl rfl) ?_
          refine jq_q (qs_add rfl rfl) ?_
          refine jq_q (qs_ix0 Tryz.underlying147 sz145 rfl rfl ⟨(by omega), (by omega)⟩) ?_
          refine jq_q (qs_loadk 0 Tryz.underlying145 rfl rfl (by omega)) ?_
          refine jq_q (qs_and_ rfl rfl) ?_
          refine jq_q (qs_inv rfl) ?_
          refine jq_q (qs_ix0 Tryz.underlying147 sz145 rfl rfl ⟨(by omega), (by omega)⟩) ?_
          refine jq_q (qs_loadk 0 Tryz.underlying145 rfl rfl (by omega)) ?_
          refine jq_q (qs_and_ rfl rfl) ?_
          refine jq_q (qs_xor_ rfl rfl) ?_
          refine jq_q (qs_add rfl rfl) ?_
          refine jq_q (qs_ix0 Tryz.underlying162 sz145 rfl rfl ⟨(by omega), (by omega)⟩) ?_
          refine jq_q (qs_loadk 2 Tryz.underlying145 rfl rfl (by omega)) ?_
          refine jq_q (qs_add rfl rfl) ?_
          refine jq_q (qs_ix0 Tryz.underlying162 sz145 rfl rfl ⟨(by omega), (by omega)⟩) ?_
          refine jq_q (qs_loadk 1 Tryz.underlying145 rfl rfl (by omega)) ?_
          refine jq_q (qs_add rfl rfl) ?_
          refine jq_nil ?_
          refine j_draw ?_
          refine jq_q (qs_call ent134 rfl rfl rfl (fun w' hw' => turn_con _ _ w' (by decide) (by decide))) ?_
          refine jq_q (qs_call ent134 rfl rfl rfl (fun w' hw' => turn_con _ _ w' (by decide) (by decide))) ?_
          refine jq_q (qs_xor_ rfl rfl) ?_
          refine jq_q (qs_call ent134 rfl rfl rfl (fun w' hw' => turn_con _ _ w' (by decide) (by decide))) ?_
          refine jq_q (qs_xor_ rfl rfl) ?_
          refine jq_q (qs_ix0 Tryz.underlying147 sz145 rfl rfl ⟨(by omega), (by omega)⟩) ?_
          refine jq_q (qs_loadk 0 Tryz.underlying145 rfl rfl (by omega)) ?_
          refine jq_q (qs_and_ rfl rfl) ?_
          refine jq_q (qs_ix0 Tryz.underlying147 sz145 rfl rfl ⟨(by omega), (by omega)⟩) ?_
          refine jq_q (qs_loadk 0 Tryz.underlying145 rfl rfl (by omega)) ?_
          refine jq_q (qs_and_ rfl rfl) ?_
          refine jq_q (qs_xor_ rfl rfl) ?_
          refine jq_q (qs_ix0 Tryz.underlying147 sz145 rfl rfl ⟨(by omega), (by omega)⟩) ?_
          refine jq_q (qs_loadk 0 Tryz.underlying145 rfl rfl (by omega)) ?_
          refine jq_q (qs_ix0 Tryz.underlying147 sz145 rfl rfl ⟨(by omega), (by omega)⟩) ?_
          refine jq_q (qs_loadk 0 Tryz.underlying145 rfl rfl (by omega)) ?_
          refine jq_q (qs_and_ rfl rfl) ?_
          refine jq_q (qs_xor_ rfl rfl) ?_
          refine jq_q (qs_add rfl rfl) ?_
          refine jq_nil ?_
          refine j_q (qs_add rfl rfl) ?_
          refine j_q (qs_ix0 Tryz.underlying147 sz145 rfl rfl ⟨(by omega), (by omega)⟩) ?_
          refine j_q (qs_loadk 0 Tryz.underlying145 rfl rfl (by omega)) ?_
          refine j_q (qs_ix0 Tryz.underlying147 sz145 rfl rfl ⟨(by omega), (by omega)⟩) ?_
          refine j_q (qs_loadk 0 Tryz.underlying145 rfl rfl (by omega)) ?_
          refine j_q (qs_ix0 Tryz.underlying147 sz145 rfl rfl ⟨(by omega), (by omega)⟩) ?_
          refine j_q (qs_loadk 0 Tryz.underlying145 rfl rfl (by omega)) ?_
          refine j_q (qs_ix0 Tryz.underlying147 sz145 rfl rfl ⟨(by omega), (by omega)⟩) ?_
          refine j_q (qs_loadk 0 Tryz.underlying145 rfl rfl (by omega)) ?_
          refine j_q (qs_add rfl rfl) ?_
          refine j_q (qs_ix0 Tryz.underlying147 sz145 rfl rfl ⟨(by omega), (by omega)⟩) ?_
          refine j_q (qs_loadk 0 Tryz.underlying145 rfl rfl (by omega)) ?_
          refine j_q (qs_ix0 Tryz.underlying147 sz145 rfl rfl ⟨(by omega), (by omega)⟩) ?_
          refine j_q (qs_loadk 0 Tryz.underlying145 rfl rfl (by omega)) ?_
          refine j_q (qs_ix0 Tryz.underlying147 sz145 rfl rfl ⟨(by omega), (by omega)⟩) ?_
          refine j_q (qs_loadk 0 Tryz.underlying145 rfl rfl (by omega)) ?_
          refine j_q (qs_run (v := .agg (ks .u32 (rnd (kk64.getD i 0) (ws.getD i 0) v)).toArray) (fun w => by kernel_rfl)) ?_
          refine j_storew 0 sz147 rfl rfl (by first | rfl | (simp only [ks_length]; first | omega | exact hstl | exact hvl) | simp [ks_length]) ks_one rfl (by first | rfl | (simp only [ks_length]; first | omega | exact hstl | exact hvl) | simp [ks_length]) ?_
          refine j_q (qs_add64 rfl rfl (by omega)) ?_
          refine j_back rfl ?_
          refine ⟨_, back_le hi1, i + 1, _, rfl, rfl, by omega, rfl, ?_⟩
          rw [rounds, ← hv, ← hws64]
        · skip
          have hi1 : i = 64 := by
            simp only [bnA] at *
            omega
          subst hi1
          have hv64 : v = rounds kk64 (sched q 64) st 64 := hv
          refine j_q (qs_mc) ?_
          refine j_loop (fun m vs S' => ∃ (i : Nat) (s' : List Int), vs = [.int .i64 i] ∧ S' = [[(g68, .cells (ks .u32 (rounds kk64 (sched q 64) st 64)).toArray 147 (0, 0))], [(g3, .cells (ks .u32 ws).toArray 162 (0, 0))], [(g1, .cells (ks .u32 kk64).toArray 162 (0, 0))], [(gs, .cells (ks .u32 s').toArray e (0, 0))]] ∧ i ≤ 8 ∧ m = 8 - i ∧ s' = adds st (rounds kk64 (sched q 64) st 64) i) ⟨_, 0, _, rfl, (by rw [← hv64]; rfl), by omega, rfl, rfl⟩ ?_
          rintro m vs S' hlen ⟨i, s', rfl, rfl, hi, rfl, hs'⟩
          have hsl : s'.length = 8 := by rw [hs', adds_length, hstl]
          have hrl : (rounds kk64 (sched q 64) st 64).length = 8 := rounds_length hstl 64
          clear hlen
          refine j_q (qs_lss rfl rfl) ?_
          refine j_cond rfl (fun hc4 => ?_) (fun hc4 => ?_)
          · skip
            have hi1 : i < 8 := by
              simp only [bnA] at *
              omega
            refine j_draw ?_
            refine jq_q (qs_nil rfl) ?_
            refine jq_q (qs_ix0 Tryz.underlying147 sz145 rfl rfl ⟨(by omega), (by omega)⟩) ?_
            refine jq_q (qs_loadk 3 Tryz.underlying145 rfl rfl (by omega)) ?_
            refine jq_q (qs_ix0 Tryz.underlying147 sz145 rfl rfl ⟨(by omega), (by omega)⟩) ?_
            refine jq_q (qs_loadk 0 Tryz.underlying145 rfl rfl (by omega)) ?_
            refine jq_q (qs_add rfl rfl) ?_
            refine jq_q (qs_nil rfl) ?_
            refine jq_q (qs_ix0 Tryz.underlying147 sz145 rfl rfl ⟨(by omega), (by omega)⟩) ?_
            refine jq_nil ?_
            refine j_storek 3 sz145 rfl rfl rfl (by omega) ?_
            refine j_q (qs_add64 rfl rfl (by omega)) ?_
            refine j_back rfl ?_
            refine ⟨_, back_le hi1, i + 1, _, rfl, rfl, by omega, rfl, ?_⟩
            rw [adds, ← hs']
            rfl
          · skip
            have hi1 : i = 8 := by
              simp only [bnA] at *
              omega
            subst hi1
            refine j_q (qs_cutl (a := 64) (z := q.length) Tryz.underlying46 sz5 rfl ⟨_, rfl⟩ rfl (by omega) (by omega)) ?_
            refine j_sub (S' := [[(g3, .cells (ks .u32 ws).toArray 162 (0, 0))], [(g1, .cells (ks .u32 kk64).toArray 162 (0, 0))], [(gs, .cells (ks .u32 s').toArray e (0, 0))]]) (by exact List.sublist_cons_self _ _) ?_
            refine j_back rfl ?_
            have hcell : Cells w (if c' = 64 then a' else a'.add 64) (ints (q.drop 64)) := by
              split
              · have : q.drop 64 = [] := List.drop_of_length_le (by omega)
                rw [this]
                intro j u hu
                simp [ints] at hu
              · have := cells_drop hqm 64
                rwa [ints_drop] at this
            refine ⟨p.length - 64 * (n + 1), (by omega), n + 1, q.drop 64, if c' = 64 then a' else a'.add 64, c' - 64, s', ws, ?_, rfl, by omega, by rw [hq, List.drop_drop]; congr 1, by rw [List.length_drop]; omega, hcell, ?_, ?_, hwl, rfl⟩
            · show [Value.slice (if c' = 64 then some a' else some (a'.add 64)) (q.length - 64) (c' - 64)] = _
              rw [List.length_drop]
              split <;> rfl
            · split
              · exact hab
              · rw [add_block]; exact hab
            · rw [blocks_succ, ← hq, ← hst, hs']
              rfl
  · skip
    have hq64 : q.length < 64 := by
      simp only [bnA] at *
      omega
    refine j_sub (S' := [[(gs, .cells (ks .u32 st).toArray e (0, 0))]]) (by exact (List.sublist_cons_self _ _).trans (List.sublist_cons_self _ _)) ?_
    refine j_ret_con (vs := []) (fun w' hw' => trivial) ?_
    refine ⟨rfl, ?_⟩
    rw [hst]
    have : p.length / 64 = n := by omega
    rw [this]
end Go.Proofs.YtfeabbeebkkhaaaGreat
/-! Sha3 -/
namespace Go.Proofs.YtfeabbeebkkhaaaGreat
open Go Go.Sx
set_option maxRecDepth 100000
set_option maxHeartbeats 4000000
set_option linter.unusedVariables false
set_option linter.unusedSimpArgs false
attribute [local irreducible] J JQ QS Con W opW
theorem ho_len8 {e : TypeId} {q : List UInt8} {x : Int} {v : Value} {c : SH} (h : Sx.Own e 1 (ints q) v c) : Sx.Own e 1 (ints (q ++ len8 x 0)) v c := by simpa [len8] using h
theorem ne_own {a : Addr} {p : List UInt8} {g : Nat} {w : World} (h : Cells w a (ints p)) (hg : w.heap.size ≤ g) (hp : p ≠ []) : a.block ≠ g := by
  intro e
  have := h 0 _ (ints_get_lt (List.length_pos_iff.2 hp))
  rw [add_zero_] at this
  unfold World.cell? at this
  split at this
  · rename_i h1
    have := lt_of_get h1
    omega
  · cases this
theorem own128 {e : TypeId} {p : List UInt8} {v : Value} {c : SH} {l : List UInt8} (h : Sx.Own e 1 (ints p ++ ints l) v c) : Sx.Own e 1 (ints (p ++ l)) v c := by rwa [ints_append]
theorem rep_succ (p : List UInt8) (j : Nat) : p ++ List.replicate j (0 : UInt8) ++ [0] = p ++ List.replicate (j + 1) 0 := by
  rw [List.append_assoc, ← List.replicate_succ']
theorem outs_step {s : List Int} {h : List UInt8} {i : Nat} (ht : h.take i = outs s i) (hi : i < h.length) : (h.set i (by8 ((s.getD (i / 4) 0).fdiv (2 ^ (24 - 8 * (i % 4)))))).take (i + 1) = outs s (i + 1) := by
  rw [take_set_succ hi, ht, outs]
theorem len8_succ (p : List UInt8) (x : Int) (i : Nat) : p ++ len8 x i ++ [by8 (x.fdiv (2 ^ (56 - 8 * i)))] = p ++ len8 x (i + 1) := by
  rw [len8, List.append_assoc]
theorem sum_eq (p : List UInt8) : sum p = outs (blocks ((p.length + zc p.length + 9) / 64) (p ++ [128] ++ List.replicate (zc p.length) 0 ++ len8 (bits8 p.length) 8) init8) 32 := by
  unfold sum ended pad
  simp only [List.append_assoc]
theorem ended_eq (s : List Int) (p : List UInt8) (x : Int) : ended s p x = outs (blocks ((p.length + zc p.length + 9) / 64) (p ++ [128] ++ List.replicate (zc p.length) 0 ++ len8 x 8) s) 32 := by
  unfold ended pad
  simp only [List.append_assoc]
theorem shift24 (i : Nat) : min (24 - 8 * ((i : Int) % 4)).toNat IntKind.u32.bits = 24 - 8 * (i % 4) := by
  show min _ 32 = _
  omega
theorem shift56 (i : Nat) (h : i < 8) : min (56 - 8 * (i : Int)).toNat IntKind.u64.bits = 56 - 8 * i := by
  show min _ 64 = _
  omega
theorem div4 (i : Nat) : ((i : Int) / 4).toNat = i / 4 := by omega
theorem clone_con (p : List UInt8) (a : Addr) (c : Nat) (w : World) (hpm : p.length ≤ 35184372088832) (hpc : Cells w a (ints p)) : Con Tryz.prog 135 [.slice (some a) p.length c] w [] fun v S' => ∃ c', S' = [c'] ∧ Sx.Own 5 1 (ints p) v c' := by
  refine con_of_tree mix Tryz.func135 T135_ok (by kernel_rfl) ?_
  unfold T135
  refine j_q (qs_ac) ?_
  refine j_q (qs_slnil Tryz.underlying46 rfl) ?_
  refine j_cond rfl (fun hc0 => ?_) (fun hc0 => ?_)
  · skip
    cases hc0
  · skip
    refine j_lit (vs := []) Tryz.underlying46 sz5 zero5 rfl (by simp [oneV]) ⟨rfl, by decide⟩ (fun g3 v3 c3 hv3 hc3 ho3 => ?_)
    subst hv3 hc3
    refine j_append 0 Tryz.underlying46 Tryz.underlying46 (.inr ⟨_, rfl⟩) sb5 zero5 rfl ho3 rfl (src_sl (rd_cells hpc (by simp)) (by simp [ints_length])) ints_one ⟨(by simp [ints_length]; omega), (by decide)⟩ (fun v4 c4 ho4 => ?_)
    refine j_sub (S' := [c4]) (by simp) ?_
    refine j_ret_con (vs := [_]) (fun w' hw' => ⟨rfl, trivial⟩) ?_
    exact ⟨_, rfl, ho4⟩
theorem ended_con (s : List Int) (rest : List UInt8) (a : Addr) (c : Nat) (n0 x : Int) (w : World) (hs : s.length = 8) (hrm : rest.length ≤ 17592186044416) (hpc : Cells w a (ints rest)) (hx : x = IntKind.u64.wrap (n0 * 8)) : Con Tryz.prog 102 [.agg (ks .u32 s).toArray, .slice (some a) rest.length c, .int .u64 n0] w [] fun v _ => v = .agg (ints (ended s rest x)).toArray := by
  refine con_of_tree mix Tryz.func102 T102_ok (by kernel_rfl) ?_
  unfold T102
  have hz64 := zc_lt rest.length
  refine j_box rfl (fun g0 hg0 hs0 => ?_)
  refine j_alloc zero51 (fun g1 hg1 hs1 => ?_)
  refine j_call0 ent135 rfl rfl rfl (fun w' hw' => clone_con rest a c w' (by omega) (rd_w (rd_cells hpc (by simp)) hw')) (fun u S2 hu => ?_)
  obtain ⟨c2, rfl, ho2⟩ := hu
  refine j_lit (vs := [.int .u8 _]) Tryz.underlying46 sz5 zero5 rfl (by simp [oneV]) ⟨rfl, by decide⟩ (fun g3 v3 c3 hv3 hc3 ho3 => ?_)
  subst hv3 hc3
  refine j_append 1 Tryz.underlying46 Tryz.underlying46 (.inr ⟨_, rfl⟩) sb5 zero5 rfl ho2 rfl (src_sl (rd_own 0 rfl (n := 1) rfl) rfl) (by simp [oneV]) ⟨(by simp [ints_length]; omega), (by decide)⟩ (fun v4 c4 ho4 => ?_)
  have ho4' : Sx.Own 5 1 (ints (rest ++ [128] ++ List.replicate 0 0)) v4 c4 := by simpa using own128 (l := [128]) ho4
  refine j_loop (fun m vs S' => ∃ (j : Nat) (v : Value) (c : SH), vs = [v] ∧ S' = [[(g3, .cells [.int .u8 128].toArray 5 (0, 0))], c, [(g1, .cells (ints (List.replicate 32 0)).toArray 51 (0, 0))], [(g0, .cells (ks .u32 s).toArray 147 (0, 0))], []] ∧ Sx.Own 5 1 (ints (rest ++ [128] ++ List.replicate j 0)) v c ∧ j ≤ zc rest.length ∧ m = zc rest.length - j) ⟨_, 0, _, _, rfl, rfl, ho4', by omega, rfl⟩ ?_
  rintro m vs S' hlen ⟨j, v, c', rfl, rfl, ho, hj, rfl⟩
  obtain ⟨n, A, cap, rfl, hn⟩ := own_form ho (by decide)
  simp only [ints_length, List.length_append, List.length_replicate, List.length_cons, List.length_nil] at hn
  clear hlen
  refine j_q (qs_lenl Tryz.underlying46 rfl) ?_
  refine j_q (qs_rem64 rfl rfl (by omega) (by omega)) ?_
  refine j_q (qs_neq rfl rfl) ?_
  refine j_cond rfl (fun hc0 => ?_) (fun hc0 => ?_)
  · skip
    have hj1 : j < zc rest.length := by
      refine zc_back hj ?_
      simp only [bnA] at *
      omega
    refine j_lit (vs := [.int .u8 _]) Tryz.underlying46 sz5 zero5 rfl (by simp [oneV]) ⟨rfl, by decide⟩ (fun g8 v8 c8 hv8 hc8 ho8 => ?_)
    subst hv8 hc8
    refine j_append 2 Tryz.underlying46 Tryz.underlying46 (.inr ⟨_, rfl⟩) sb5 zero5 rfl ho rfl (src_sl (rd_own 0 rfl (n := 1) rfl) rfl) (by simp [oneV]) ⟨(by simp [ints_length]; omega), (by decide)⟩ (fun v9 c9 ho9 => ?_)
    have ho9' : Sx.Own 5 1 (ints (rest ++ [128] ++ List.replicate (j + 1) 0)) v9 c9 := by rw [← rep_succ]; exact own128 (l := [0]) ho9
    refine j_drop ?_
    refine j_back rfl ?_
    exact ⟨_, back_le hj1, j + 1, _, _, rfl, rfl, ho9', by omega, rfl⟩
  · skip
    have hje : j = zc rest.length := by
      refine zc_end hj ?_
      simp only [bnA] at *
      omega
    refine j_q (qs_mc) ?_
    refine j_loop (fun m vs S' => ∃ (i : Nat) (v : Value) (c : SH), vs = [v, .int .i64 i] ∧ S' = [[(g3, .cells [.int .u8 128].toArray 5 (0, 0))], c, [(g1, .cells (ints (List.replicate 32 0)).toArray 51 (0, 0))], [(g0, .cells (ks .u32 s).toArray 147 (0, 0))], []] ∧ Sx.Own 5 1 (ints (rest ++ [128] ++ List.replicate (zc rest.length) 0 ++ len8 x i)) v c ∧ i ≤ 8 ∧ m = 8 - i) ⟨_, 0, _, _, rfl, rfl, (ho_len8 (hje ▸ ho)), by omega, rfl⟩ ?_
    rintro m vs S' hlen ⟨i, v, c', rfl, rfl, ho, hi, rfl⟩
    clear hlen
    refine j_q (qs_lss rfl rfl) ?_
    refine j_cond rfl (fun hc1 => ?_) (fun hc1 => ?_)
    · skip
      have hi1 : i < 8 := by
        simp only [bnA] at *
        omega
      refine j_q (qs_shl rfl rfl (by omega)) ?_
      refine j_q (qs_mul64 rfl rfl (by omega)) ?_
      refine j_q (qs_sub64 rfl rfl (by omega)) ?_
      refine j_q (qs_shr rfl rfl (by omega)) ?_
      refine j_q (qs_conv8 Tryz.underlying151 Tryz.underlying5 rfl) ?_
      rw [show (n0 * 2 ^ min (Int.toNat 3) IntKind.u64.bits : Int) = n0 * 8 from rfl, ← hx, shift56 i hi1]
      refine j_lit (vs := [.int .u8 _]) Tryz.underlying46 sz5 zero5 rfl (by simp [oneV]) ⟨rfl, by decide⟩ (fun g17 v17 c17 hv17 hc17 ho17 => ?_)
      subst hv17 hc17
      refine j_append 2 Tryz.underlying46 Tryz.underlying46 (.inr ⟨_, rfl⟩) sb5 zero5 rfl ho rfl (src_sl (rd_own 0 rfl (n := 1) rfl) rfl) (by simp [oneV]) ⟨(by simp [ints_length, len8_length]; omega), (by decide)⟩ (fun v18 c18 ho18 => ?_)
      have ho18' : Sx.Own 5 1 (ints (rest ++ [128] ++ List.replicate (zc rest.length) 0 ++ len8 x (i + 1))) v18 c18 := by rw [← len8_succ]; exact own128 (l := [_]) ho18
      refine j_drop ?_
      refine j_q (qs_add64 rfl rfl (by omega)) ?_
      refine j_back rfl ?_
      exact ⟨_, back_le hi1, i + 1, _, _, rfl, rfl, ho18', by omega, rfl⟩
    · skip
      have hi1 : i = 8 := by
        simp only [bnA] at *
        omega
      subst hi1
      obtain ⟨g, n, cap, rfl⟩ := own_some ho (by simp [ints])
      obtain ⟨row, fz, hrow, hl1, hl2, hl3, hl4⟩ := own_row ho
      simp only [ints_length] at hl1
      have hmm : (rest ++ [128] ++ List.replicate (zc rest.length) 0 ++ len8 x 8).length = rest.length + zc rest.length + 9 := by simp [len8_length]; omega
      obtain rfl : n = (rest ++ [128] ++ List.replicate (zc rest.length) 0 ++ len8 x 8).length := by omega
      refine j_call 3 ent101 rfl rfl rfl rfl (fun w' hw' => take_con s (rest ++ [128] ++ List.replicate (zc rest.length) 0 ++ len8 x 8) ⟨g, 0, none⟩ cap g0 _ w' hs (by omega) hl3 (rd_w (own_rd ho 1 rfl) hw') (fun _ => by subst hrow; exact hw'.ne (i := 1) (j := 3) rfl rfl (by decide))) (fun u S2 hu => ?_)
      obtain ⟨rfl, rfl⟩ := hu
      rw [hmm]
      obtain ⟨s', hs'⟩ : ∃ s', s' = blocks ((rest.length + zc rest.length + 9) / 64) (rest ++ [128] ++ List.replicate (zc rest.length) 0 ++ len8 x 8) s := ⟨_, rfl⟩
      have hsl : s'.length = 8 := by rw [hs']; exact blocks_length hs
      rw [← hs']
      refine j_q (qs_mc) ?_
      refine j_loop (fun m vs S' => ∃ (i : Nat) (h : List UInt8), vs = [.int .i64 i] ∧ S' = [[(g0, .cells (ks .u32 s').toArray 147 (0, 0))], [(g3, .cells [.int .u8 128].toArray 5 (0, 0))], c', [(g1, .cells (ints h).toArray 51 (0, 0))], [], []] ∧ h.length = 32 ∧ h.take i = outs s' i ∧ i ≤ 32 ∧ m = 32 - i) ⟨_, 0, _, rfl, rfl, by simp, rfl, by omega, rfl⟩ ?_
      rintro m vs S' hlen ⟨i, h, rfl, rfl, hhl, ht, hi, rfl⟩
      clear hlen
      refine j_q (qs_lss rfl rfl) ?_
      refine j_cond rfl (fun hc2 => ?_) (fun hc2 => ?_)
      · skip
        have hi1 : i < 32 := by
          simp only [bnA] at *
          omega
        refine j_q (qs_quo64 rfl rfl (by omega) (by omega) (by omega)) ?_
        refine j_q (qs_ix0 Tryz.underlying147 sz145 rfl rfl ⟨(by omega), (by omega)⟩) ?_
        refine j_q (qs_loadk 0 Tryz.underlying145 rfl rfl (by omega)) ?_
        refine j_q (qs_rem64 rfl rfl (by omega) (by omega)) ?_
        refine j_q (qs_mul64 rfl rfl (by omega)) ?_
        refine j_q (qs_sub64 rfl rfl (by omega)) ?_
        refine j_q (qs_shr rfl rfl (by omega)) ?_
        refine j_q (qs_conv8 Tryz.underlying145 Tryz.underlying5 rfl) ?_
        rw [div4, shift24]
        refine j_q (qs_ix0 Tryz.underlying51 sz5 rfl rfl ⟨(by omega), (by omega)⟩) ?_
        refine j_storei 3 sz5 rfl rfl rfl (by omega) ?_
        refine j_q (qs_add64 rfl rfl (by omega)) ?_
        refine j_back rfl ?_
        exact ⟨_, back_le hi1, i + 1, _, rfl, rfl, by simpa using hhl, outs_step ht (by omega), by omega, rfl⟩
      · skip
        have hi1 : i = 32 := by
          simp only [bnA] at *
          omega
        subst hi1
        refine j_q (qs_loadw 3 Tryz.underlying51 rfl sz51 rfl rfl (by first | rfl | (rw [ints_length]; exact hhl))) ?_
        refine j_storew 3 sz51 rfl rfl (by first | rfl | (rw [ints_length]; exact hhl)) ints_one rfl (by first | rfl | (rw [ints_length]; exact hhl)) ?_
        refine j_ret_con (vs := [_]) (fun w' hw' => ⟨rv_agg 3 Tryz.underlying51 rfl sz51 rfl rfl (by first | rfl | (rw [ints_length]; exact hhl)) hw', trivial⟩) ?_
        show Value.agg _ = _
        rw [List.take_of_length_le (by omega)] at ht
        rw [ht, hs', ended_eq]
end Go.Proofs.YtfeabbeebkkhaaaGreat
/-! Sha4 -/
namespace Go.Proofs.YtfeabbeebkkhaaaGreat
open Go Go.Sx
set_option maxRecDepth 100000
set_option maxHeartbeats 4000000
set_option linter.unusedVariables false
set_option linter.unusedSimpArgs false
attribute [local irreducible] J JQ QS Con W opW
theorem sum_con (p : List UInt8) (a : Addr) (c : Nat) (w : World) (hpm : p.length ≤ 17592186044416) (hc : p.length ≤ c) (hpc : Cells w a (ints p)) : Con Tryz.prog 53 [.slice (some a) p.length c] w [] fun v _ => v = .agg (ints (sum p)).toArray := by
  refine con_of_tree mix Tryz.func53 T53_ok (by kernel_rfl) ?_
  unfold T53
  refine j_alloc zero51 (fun g0 hg0 hs0 => ?_)
  refine j_q (qs_call ent100 rfl rfl rfl (fun w' hw' => begun_con w')) ?_
  refine j_alloc zero147 (fun g2 hg2 hs2 => ?_)
  refine j_storew 0 sz147 rfl rfl (by first | (rw [ks_length]; exact blocks_length rfl) | (rw [ints_length]; exact outs_length _ _) | rfl) ks_one rfl (by first | (rw [ks_length]; exact blocks_length rfl) | (rw [ints_length]; exact outs_length _ _) | rfl) ?_
  refine j_call 0 ent101 rfl rfl rfl rfl (fun w' hw' => take_con init8 p a c g2 _ w' rfl (by omega) hc (rd_w (rd_cells hpc (by simp)) hw') (fun hp => ne_own hpc hg2 hp)) (fun u S2 hu => ?_)
  obtain ⟨rfl, rfl⟩ := hu
  refine j_draw ?_
  refine jq_q (qs_loadw 0 Tryz.underlying147 rfl sz147 rfl rfl (by first | (rw [ks_length]; exact blocks_length rfl) | (rw [ints_length]; exact outs_length _ _) | rfl)) ?_
  refine jq_q (qs_lenl Tryz.underlying46 rfl) ?_
  refine jq_q (qs_quo64 rfl rfl (by omega) (by omega) (by omega)) ?_
  refine jq_q (qs_mul64 rfl rfl (by omega)) ?_
  refine jq_q (qs_cutl (a := 64 * (p.length / 64)) (z := p.length) Tryz.underlying46 sz5 rfl ⟨.i64, by show Value.int _ _ = _; congr 1; omega⟩ rfl (by omega) (by omega)) ?_
  rw [show (if c = 64 * (p.length / 64) then some a else (some a).map (·.add (64 * (p.length / 64) * 1))) = some (if c = 64 * (p.length / 64) then a else a.add (64 * (p.length / 64))) by split <;> simp]
  have hcell : ∀ (S : List SH) w', Sig ⟨w, dom []⟩ S w' → Cells w' (if c = 64 * (p.length / 64) then a else a.add (64 * (p.length / 64))) ((ints p).drop (64 * (p.length / 64))) := by
    intro S w' hw'
    have h0 := rd_w (rd_cells hpc (by simp)) hw'
    split
    · rw [List.drop_of_length_le (by rw [ints_length]; omega)]
      intro j u hu
      simp at hu
    · exact cells_drop h0 _
  rw [show p.length - 64 * (p.length / 64) = (p.drop (64 * (p.length / 64))).length by rw [List.length_drop]]
  refine jq_q (qs_lenl Tryz.underlying46 rfl) ?_
  refine jq_q (qs_conv Tryz.underlying3 Tryz.underlying151 rfl) ?_
  refine jq_q (qs_call ent102 rfl rfl rfl (fun w' hw' => ended_con _ (p.drop (64 * (p.length / 64))) _ _ _ (bits8 p.length) w' (blocks_length rfl) (by rw [List.length_drop]; omega) (by rw [← ints_drop]; exact hcell _ w' hw') rfl)) ?_
  refine jq_nil ?_
  refine j_storew 2 sz51 rfl rfl (by first | (rw [ks_length]; exact blocks_length rfl) | (rw [ints_length]; exact outs_length _ _) | rfl) ints_one rfl (by first | (rw [ks_length]; exact blocks_length rfl) | (rw [ints_length]; exact outs_length _ _) | rfl) ?_
  refine j_ret_con (vs := [_]) (fun w' hw' => ⟨rv_agg 2 Tryz.underlying51 rfl sz51 rfl rfl (by first | (rw [ks_length]; exact blocks_length rfl) | (rw [ints_length]; exact outs_length _ _) | rfl) hw', trivial⟩) ?_
  show Value.agg _ = _
  rw [sum_split]
end Go.Proofs.YtfeabbeebkkhaaaGreat
/-! Sha5 -/
namespace Go.Proofs.YtfeabbeebkkhaaaGreat
open Go Go.Sx
set_option maxRecDepth 100000
set_option maxHeartbeats 4000000
set_option linter.unusedVariables false
set_option linter.unusedSimpArgs false
attribute [local irreducible] J JQ QS Con W opW
theorem shift56v (i : Nat) (h : i < 8) : min (8 * (7 - (i : Int))).toNat IntKind.u64.bits = 56 - 8 * i := by
  show min _ 64 = _
  omega
theorem rsum_con (p : List UInt8) (a : Addr) (c : Nat) (w : World) (hpm : p.length ≤ 17592186044416) (hpc : Cells w a (ints p)) : Con Tryz.prog 61 [.slice (some a) p.length c] w [] fun v _ => v = .agg (ints (sum p)).toArray := by
  refine con_of_tree mix Tryz.func61 T61_ok (by kernel_rfl) ?_
  unfold T61
  have hz64 := zc_lt p.length
  refine j_alloc zero51 (fun g0 hg0 hs0 => ?_)
  refine j_lit (vs := []) Tryz.underlying46 sz5 zero5 rfl (by simp [oneV]) ⟨rfl, by decide⟩ (fun g1 v1 c1 hv1 hc1 ho1 => ?_)
  subst hv1 hc1
  refine j_append 0 Tryz.underlying46 Tryz.underlying46 (.inr ⟨_, rfl⟩) sb5 zero5 rfl ho1 rfl (src_sl (rd_cells hpc (by simp)) (by simp [ints_length])) ints_one ⟨(by simp [ints_length]; omega), (by decide)⟩ (fun v2 c2 ho2 => ?_)
  refine j_lit (vs := [.int .u8 _]) Tryz.underlying46 sz5 zero5 rfl (by simp [oneV]) ⟨rfl, by decide⟩ (fun g3 v3 c3 hv3 hc3 ho3 => ?_)
  subst hv3 hc3
  refine j_append 1 Tryz.underlying46 Tryz.underlying46 (.inr ⟨_, rfl⟩) sb5 zero5 rfl ho2 rfl (src_sl (rd_own 0 rfl (n := 1) rfl) rfl) (by simp [oneV]) ⟨(by simp [ints_length, len8_length]; omega), (by decide)⟩ (fun v4 c4 ho4 => ?_)
  have ho4' : Sx.Own 5 1 (ints (p ++ [128] ++ List.replicate 0 0)) v4 c4 := by simpa using own128 (l := [128]) ho4
  refine j_drop ?_
  refine j_loop (fun m vs S' => ∃ (j : Nat) (v : Value) (c : SH), vs = [v] ∧ S' = [c, [(g0, .cells (ints (List.replicate 32 0)).toArray 51 (0, 0))], []] ∧ Sx.Own 5 1 (ints (p ++ [128] ++ List.replicate j 0)) v c ∧ j ≤ zc p.length ∧ m = zc p.length - j) ⟨_, 0, _, _, rfl, rfl, ho4', by omega, rfl⟩ ?_
  rintro m vs S' hlen ⟨j, v, c', rfl, rfl, ho, hj, rfl⟩
  obtain ⟨n, A, cap, rfl, hn⟩ := own_form ho (by decide)
  simp only [ints_length, List.length_append, List.length_replicate, List.length_cons, List.length_nil] at hn
  clear hlen
  refine j_q (qs_lenl Tryz.underlying46 rfl) ?_
  refine j_q (qs_rem64 rfl rfl (by omega) (by omega)) ?_
  refine j_q (qs_neq rfl rfl) ?_
  refine j_cond rfl (fun hc0 => ?_) (fun hc0 => ?_)
  · skip
    have hj1 : j < zc p.length := by
      refine zc_back hj ?_
      simp only [bnA] at *
      omega
    refine j_lit (vs := [.int .u8 _]) Tryz.underlying46 sz5 zero5 rfl (by simp [oneV]) ⟨rfl, by decide⟩ (fun g8 v8 c8 hv8 hc8 ho8 => ?_)
    subst hv8 hc8
    refine j_append 1 Tryz.underlying46 Tryz.underlying46 (.inr ⟨_, rfl⟩) sb5 zero5 rfl ho rfl (src_sl (rd_own 0 rfl (n := 1) rfl) rfl) (by simp [oneV]) ⟨(by simp [ints_length, len8_length]; omega), (by decide)⟩ (fun v9 c9 ho9 => ?_)
    have ho9' : Sx.Own 5 1 (ints (p ++ [128] ++ List.replicate (j + 1) 0)) v9 c9 := by rw [← rep_succ]; exact own128 (l := [0]) ho9
    refine j_drop ?_
    refine j_back rfl ?_
    exact ⟨_, back_le hj1, j + 1, _, _, rfl, rfl, ho9', by omega, rfl⟩
  · skip
    have hje : j = zc p.length := by
      refine zc_end hj ?_
      simp only [bnA] at *
      omega
    refine j_q (qs_lenl Tryz.underlying46 rfl) ?_
    refine j_q (qs_conv Tryz.underlying3 Tryz.underlying151 rfl) ?_
    refine j_q (qs_mul rfl rfl) ?_
    refine j_q (qs_ac) ?_
    refine j_loop (fun m vs S' => ∃ (i : Nat) (v : Value) (c : SH), vs = [v, .int .i64 (7 - (i : Int))] ∧ S' = [c, [(g0, .cells (ints (List.replicate 32 0)).toArray 51 (0, 0))], []] ∧ Sx.Own 5 1 (ints (p ++ [128] ++ List.replicate (zc p.length) 0 ++ len8 (bits8 p.length) i)) v c ∧ i ≤ 8 ∧ m = 8 - i) ⟨_, 0, _, _, rfl, rfl, ho_len8 (hje ▸ ho), by omega, rfl⟩ ?_
    rintro m vs S' hlen ⟨i, v, c', rfl, rfl, ho, hi, rfl⟩
    clear hlen
    refine j_q (qs_geq rfl rfl) ?_
    refine j_cond rfl (fun hc1 => ?_) (fun hc1 => ?_)
    · skip
      have hi1 : i < 8 := by
        simp only [bnA] at *
        omega
      refine j_q (qs_mul64 rfl rfl (by omega)) ?_
      refine j_q (qs_conv Tryz.underlying3 Tryz.underlying152 rfl) ?_
      rw [IntWalk.u64_in _ (by omega)]
      refine j_q (qs_shr rfl rfl (by omega)) ?_
      rw [shift56v i hi1]
      refine j_q (qs_conv8 Tryz.underlying151 Tryz.underlying5 rfl) ?_
      refine j_lit (vs := [.int .u8 _]) Tryz.underlying46 sz5 zero5 rfl (by simp [oneV]) ⟨rfl, by decide⟩ (fun g19 v19 c19 hv19 hc19 ho19 => ?_)
      subst hv19 hc19
      refine j_append 1 Tryz.underlying46 Tryz.underlying46 (.inr ⟨_, rfl⟩) sb5 zero5 rfl ho rfl (src_sl (rd_own 0 rfl (n := 1) rfl) rfl) (by simp [oneV]) ⟨(by simp [ints_length, len8_length]; omega), (by decide)⟩ (fun v20 c20 ho20 => ?_)
      have ho20' : Sx.Own 5 1 (ints (p ++ [128] ++ List.replicate (zc p.length) 0 ++ len8 (bits8 p.length) (i + 1))) v20 c20 := by rw [← len8_succ]; exact own128 (l := [_]) ho20
      refine j_drop ?_
      refine j_q (qs_sub64 rfl rfl (by omega)) ?_
      refine j_back rfl ?_
      exact ⟨_, back_le hi1, i + 1, _, _, by show [_, Value.int _ _] = _; congr 3; omega, rfl, ho20', by omega, rfl⟩
    · skip
      have hi1 : i = 8 := by
        simp only [bnA] at *
        omega
      subst hi1
      obtain ⟨g, n, cap, rfl⟩ := own_some ho (by simp [ints])
      obtain ⟨row, fz, hrow, hl1, hl2, hl3, hl4⟩ := own_row ho
      obtain ⟨mm, hmm⟩ : ∃ mm, mm = p ++ [128] ++ List.replicate (zc p.length) 0 ++ len8 (bits8 p.length) 8 := ⟨_, rfl⟩
      have hml : mm.length = p.length + zc p.length + 9 := by rw [hmm]; simp [len8_length]; omega
      rw [← hmm] at ho hl1
      simp only [ints_length] at hl1
      obtain rfl : n = mm.length := by omega
      have hm64 := zc_mod p.length
      refine j_q (qs_run (v := .agg (ks .u32 init8).toArray) (fun w => by kernel_rfl)) ?_
      refine j_alloc zero146 (fun g23 hg23 hs23 => ?_)
      refine j_storew 0 sz146 rfl rfl (by first | (rw [ks_length]; exact hsl) | (rw [ks_length]; exact block_length hsl) | (rw [ints_length]; exact hhl) | rfl) ks_one rfl (by first | (rw [ks_length]; exact hsl) | (rw [ks_length]; exact block_length hsl) | (rw [ints_length]; exact hhl) | rfl) ?_
      refine j_q (qs_call ent112 rfl rfl rfl (fun w' hw' => k_con w')) ?_
      refine j_alloc zero162 (fun g26 hg26 hs26 => ?_)
      refine j_storew 0 sz162 rfl rfl (by first | (rw [ks_length]; exact hsl) | (rw [ks_length]; exact block_length hsl) | (rw [ints_length]; exact hhl) | rfl) ks_one rfl (by first | (rw [ks_length]; exact hsl) | (rw [ks_length]; exact block_length hsl) | (rw [ints_length]; exact hhl) | rfl) ?_
      refine j_q (qs_ac) ?_
      refine j_loop (fun m vs S' => ∃ (t : Nat) (s : List Int), vs = [.int .i64 (64 * (t : Int))] ∧ S' = [[(g26, .cells (ks .u32 kk64).toArray 162 (0, 0))], [(g23, .cells (ks .u32 s).toArray 146 (0, 0))], c', [(g0, .cells (ints (List.replicate 32 0)).toArray 51 (0, 0))], []] ∧ s = blocks t mm init8 ∧ 64 * t ≤ mm.length ∧ m = mm.length - 64 * t) ⟨_, 0, _, rfl, rfl, rfl, by omega, rfl⟩ ?_
      rintro m vs S' hlen ⟨t, s, rfl, rfl, hs, ht, rfl⟩
      have hsl : s.length = 8 := by rw [hs]; exact blocks_length rfl
      clear hlen
      refine j_q (qs_lenl Tryz.underlying46 rfl) ?_
      refine j_q (qs_lss rfl rfl) ?_
      refine j_cond rfl (fun hc2 => ?_) (fun hc2 => ?_)
      · skip
        have ht1 : 64 * t + 64 ≤ mm.length := by
          simp only [bnA] at *
          omega
        refine j_draw ?_
        refine jq_q (qs_loadw 1 Tryz.underlying146 rfl sz146 rfl rfl (by first | (rw [ks_length]; exact hsl) | (rw [ks_length]; exact block_length hsl) | (rw [ints_length]; exact hhl) | rfl)) ?_
        refine jq_q (qs_add64 rfl rfl (by omega)) ?_
        refine jq_q (qs_cutl (a := 64 * t) (z := 64 * t + 64) Tryz.underlying46 sz5 rfl ⟨.i64, by show Value.int _ _ = _; congr 1⟩ ⟨.i64, by show Value.int _ _ = _; congr 1⟩ (by omega) (by omega)) ?_
        rw [if_neg (by omega : ¬ cap = 64 * t), show 64 * t + 64 - 64 * t = 64 by omega, Nat.mul_one]
        refine jq_q (qs_call ent113 rfl rfl rfl (fun w' hw' => block_con s ((mm.drop (64 * t)).take 64) _ _ g26 w' hsl (by rw [List.length_take, List.length_drop]; omega) (by rw [← ints_take, ← ints_drop]; exact cells_take (cells_drop (rd_w (own_rd ho 2 rfl) hw') _) _) (rd_w (rd_own 0 rfl (n := 64) rfl) hw'))) ?_
        refine jq_nil ?_
        refine j_storew 1 sz146 rfl rfl (by first | (rw [ks_length]; exact hsl) | (rw [ks_length]; exact block_length hsl) | (rw [ints_length]; exact hhl) | rfl) ks_one rfl (by first | (rw [ks_length]; exact hsl) | (rw [ks_length]; exact block_length hsl) | (rw [ints_length]; exact hhl) | rfl) ?_
        refine j_q (qs_add64 rfl rfl (by omega)) ?_
        refine j_back rfl ?_
        refine ⟨_, (by omega : mm.length - 64 * (t + 1) < mm.length - 64 * t), t + 1, _, by first | rfl | (show [Value.int _ _] = _; congr 2; omega), rfl, ?_, by omega, rfl⟩
        rw [blocks_succ, ← hs]
        refine block_congr (fun j hj => ?_) _
        rw [List.getD_eq_getElem?_getD, List.getElem?_take_of_lt hj, ← List.getD_eq_getElem?_getD]
      · skip
        have ht1 : t = (p.length + zc p.length + 9) / 64 := by
          simp only [bnA] at *
          omega
        refine j_alloc zero51 (fun g37 hg37 hs37 => ?_)
        refine j_q (qs_ac) ?_
        refine j_loop (fun m vs S' => ∃ (i : Nat) (h : List UInt8), vs = [.int .i64 i] ∧ S' = [[(g37, .cells (ints h).toArray 51 (0, 0))], [(g26, .cells (ks .u32 kk64).toArray 162 (0, 0))], [(g23, .cells (ks .u32 s).toArray 146 (0, 0))], c', [(g0, .cells (ints (List.replicate 32 0)).toArray 51 (0, 0))], []] ∧ h.length = 32 ∧ h.take i = outs s i ∧ i ≤ 32 ∧ m = 32 - i) ⟨_, 0, _, rfl, rfl, by simp, rfl, by omega, rfl⟩ ?_
        rintro m vs S' hlen ⟨i, h, rfl, rfl, hhl, ht, hi, rfl⟩
        clear hlen
        refine j_q (qs_lss rfl rfl) ?_
        refine j_cond rfl (fun hc3 => ?_) (fun hc3 => ?_)
        · skip
          have hi1 : i < 32 := by
            simp only [bnA] at *
            omega
          refine j_q (qs_quo64 rfl rfl (by omega) (by omega) (by omega)) ?_
          refine j_q (qs_ix0 Tryz.underlying146 sz145 rfl rfl ⟨(by omega), (by omega)⟩) ?_
          refine j_q (qs_loadk 2 Tryz.underlying145 rfl rfl (by omega)) ?_
          refine j_q (qs_rem64 rfl rfl (by omega) (by omega)) ?_
          refine j_q (qs_mul64 rfl rfl (by omega)) ?_
          refine j_q (qs_sub64 rfl rfl (by omega)) ?_
          refine j_q (qs_conv Tryz.underlying3 Tryz.underlying152 rfl) ?_
          rw [IntWalk.u64_in _ (by omega)]
          refine j_q (qs_shr rfl rfl (by omega)) ?_
          refine j_q (qs_conv8 Tryz.underlying145 Tryz.underlying5 rfl) ?_
          rw [div4, shift24]
          refine j_q (qs_ix0 Tryz.underlying51 sz5 rfl rfl ⟨(by omega), (by omega)⟩) ?_
          refine j_storei 0 sz5 rfl rfl rfl (by omega) ?_
          refine j_q (qs_add64 rfl rfl (by omega)) ?_
          refine j_back rfl ?_
          exact ⟨_, back_le hi1, i + 1, _, rfl, rfl, by simpa using hhl, outs_step ht (by omega), by omega, rfl⟩
        · skip
          have hi1 : i = 32 := by
            simp only [bnA] at *
            omega
          subst hi1
          refine j_q (qs_loadw 0 Tryz.underlying51 rfl sz51 rfl rfl (by first | (rw [ks_length]; exact hsl) | (rw [ks_length]; exact block_length hsl) | (rw [ints_length]; exact hhl) | rfl)) ?_
          refine j_storew 4 sz51 rfl rfl (by first | (rw [ks_length]; exact hsl) | (rw [ks_length]; exact block_length hsl) | (rw [ints_length]; exact hhl) | rfl) ints_one rfl (by first | (rw [ks_length]; exact hsl) | (rw [ks_length]; exact block_length hsl) | (rw [ints_length]; exact hhl) | rfl) ?_
          refine j_ret_con (vs := [_]) (fun w' hw' => ⟨rv_agg 4 Tryz.underlying51 rfl sz51 rfl rfl (by first | (rw [ks_length]; exact hsl) | (rw [ks_length]; exact block_length hsl) | (rw [ints_length]; exact hhl) | rfl) hw', trivial⟩) ?_
          show Value.agg _ = _
          rw [List.take_of_length_le (by omega)] at ht
          rw [ht, hs, ht1, sum_eq, ← hmm]
theorem fold_con (h : List UInt8) (w : World) (hh : h.length = 32) : Con Tryz.prog 131 [.agg (ints h).toArray] w [] fun v _ => v = .agg (ints (fold h)).toArray := by
  refine con_of_tree mix Tryz.func131 T131_ok (by kernel_rfl) ?_
  unfold T131
  refine j_box rfl (fun g0 hg0 hs0 => ?_)
  refine j_alloc zero155 (fun g1 hg1 hs1 => ?_)
  refine j_q (qs_loadw 1 Tryz.underlying51 rfl sz51 rfl rfl (by first | (rw [ints_length]; exact hh) | (rw [ints_length]; exact hfl) | exact hh | rfl)) ?_
  refine j_q (qs_mc) ?_
  refine j_loop (fun m vs S' => ∃ (i : Nat) (f : List UInt8), vs = [.int .i64 i] ∧ S' = [[(g1, .cells (ints f).toArray 155 (0, 0))], [(g0, .cells (ints h).toArray 51 (0, 0))], []] ∧ f = foldN h i ∧ i ≤ 32 ∧ m = 32 - i) ⟨_, 0, _, rfl, rfl, rfl, by omega, rfl⟩ ?_
  rintro m vs S' hlen ⟨i, f, rfl, rfl, hf, hi, rfl⟩
  have hfl : f.length = 20 := by rw [hf]; exact foldN_length h i
  clear hlen
  refine j_q (qs_lss rfl rfl) ?_
  refine j_cond rfl (fun hc0 => ?_) (fun hc0 => ?_)
  · skip
    have hi1 : i < 32 := by
      simp only [bnA] at *
      omega
    have hi2 : ((i : Int) % 20).toNat = i % 20 := by omega
    have hi3 : i % 20 < 20 := by omega
    refine j_q (qs_ixvi Tryz.underlying51 Tryz.underlying5 sz5 rfl rfl ⟨(by omega), (by omega)⟩ (by first | (rw [ints_length]; exact hh) | (rw [ints_length]; exact hfl) | exact hh | rfl)) ?_
    refine j_q (qs_rem64 rfl rfl (by omega) (by omega)) ?_
    refine j_q (qs_ix0 Tryz.underlying155 sz5 rfl rfl ⟨(by omega), (by omega)⟩) ?_
    refine j_q (qs_loadi 0 Tryz.underlying5 rfl rfl (by omega)) ?_
    refine j_q (qs_xor_ rfl rfl) ?_
    rw [hi2, bw_by8]
    refine j_q (qs_ix0 Tryz.underlying155 sz5 rfl rfl ⟨(by omega), (by omega)⟩) ?_
    refine j_storei 0 sz5 rfl rfl rfl (by omega) ?_
    refine j_q (qs_add64 rfl rfl (by omega)) ?_
    refine j_back rfl ?_
    refine ⟨_, back_le hi1, i + 1, _, rfl, rfl, ?_, by omega, rfl⟩
    rw [foldN, ← hf, hi2]
    rfl
  · skip
    have hi1 : i = 32 := by
      simp only [bnA] at *
      omega
    subst hi1
    refine j_q (qs_loadw 0 Tryz.underlying155 rfl sz155 rfl rfl (by first | (rw [ints_length]; exact hh) | (rw [ints_length]; exact hfl) | exact hh | rfl)) ?_
    refine j_storew 0 sz155 rfl rfl (by first | (rw [ints_length]; exact hh) | (rw [ints_length]; exact hfl) | exact hh | rfl) ints_one rfl (by first | (rw [ints_length]; exact hh) | (rw [ints_length]; exact hfl) | exact hh | rfl) ?_
    refine j_ret_con (vs := [_]) (fun w' hw' => ⟨rv_agg 0 Tryz.underlying155 rfl sz155 rfl rfl (by first | (rw [ints_length]; exact hh) | (rw [ints_length]; exact hfl) | exact hh | rfl) hw', trivial⟩) ?_
    show Value.agg _ = _
    rw [hf]
    rfl
theorem rfold_con (h : List UInt8) (w : World) (hh : h.length = 32) : Con Tryz.prog 104 [.agg (ints h).toArray] w [] fun v _ => v = .agg (ints (fold h)).toArray := by
  refine con_of_tree mix Tryz.func104 T104_ok (by kernel_rfl) ?_
  unfold T104
  refine j_box rfl (fun g0 hg0 hs0 => ?_)
  refine j_alloc zero155 (fun g1 hg1 hs1 => ?_)
  refine j_alloc zero155 (fun g2 hg2 hs2 => ?_)
  refine j_q (qs_ac) ?_
  refine j_loop (fun m vs S' => ∃ (i : Nat) (f : List UInt8), vs = [.int .i64 i] ∧ S' = [[(g2, .cells (ints f).toArray 155 (0, 0))], [(g1, .cells (ints (List.replicate 20 0)).toArray 155 (0, 0))], [(g0, .cells (ints h).toArray 51 (0, 0))], []] ∧ f = foldN h i ∧ i ≤ 32 ∧ m = 32 - i) ⟨_, 0, _, rfl, rfl, rfl, by omega, rfl⟩ ?_
  rintro m vs S' hlen ⟨i, f, rfl, rfl, hf, hi, rfl⟩
  have hfl : f.length = 20 := by rw [hf]; exact foldN_length h i
  clear hlen
  refine j_q (qs_lss rfl rfl) ?_
  refine j_cond rfl (fun hc0 => ?_) (fun hc0 => ?_)
  · skip
    have hi1 : i < 32 := by
      simp only [bnA] at *
      omega
    have hi2 : ((i : Int) % 20).toNat = i % 20 := by omega
    have hi3 : i % 20 < 20 := by omega
    refine j_draw ?_
    refine jq_q (qs_rem64 rfl rfl (by omega) (by omega)) ?_
    refine jq_q (qs_rem64 rfl rfl (by omega) (by omega)) ?_
    refine jq_q (qs_ix0 Tryz.underlying155 sz5 rfl rfl ⟨(by omega), (by omega)⟩) ?_
    refine jq_q (qs_loadi 0 Tryz.underlying5 rfl rfl (by omega)) ?_
    refine jq_q (qs_ix0 Tryz.underlying51 sz5 rfl rfl ⟨(by omega), (by omega)⟩) ?_
    refine jq_q (qs_loadi 2 Tryz.underlying5 rfl rfl (by omega)) ?_
    refine jq_q (qs_xor_ rfl rfl) ?_
    rw [hi2, bw_by8]
    refine jq_q (qs_ix0 Tryz.underlying155 sz5 rfl rfl ⟨(by omega), (by omega)⟩) ?_
    refine jq_nil ?_
    refine j_storei 0 sz5 rfl rfl rfl (by omega) ?_
    refine j_q (qs_add64 rfl rfl (by omega)) ?_
    refine j_back rfl ?_
    refine ⟨_, back_le hi1, i + 1, _, rfl, rfl, ?_, by omega, rfl⟩
    rw [foldN, ← hf, hi2]
    rfl
  · skip
    have hi1 : i = 32 := by
      simp only [bnA] at *
      omega
    subst hi1
    refine j_q (qs_loadw 0 Tryz.underlying155 rfl sz155 rfl rfl (by first | (rw [ints_length]; exact hh) | (rw [ints_length]; exact hfl) | exact hh | rfl)) ?_
    refine j_storew 1 sz155 rfl rfl (by first | (rw [ints_length]; exact hh) | (rw [ints_length]; exact hfl) | exact hh | rfl) ints_one rfl (by first | (rw [ints_length]; exact hh) | (rw [ints_length]; exact hfl) | exact hh | rfl) ?_
    refine j_ret_con (vs := [_]) (fun w' hw' => ⟨rv_agg 1 Tryz.underlying155 rfl sz155 rfl rfl (by first | (rw [ints_length]; exact hh) | (rw [ints_length]; exact hfl) | exact hh | rfl) hw', trivial⟩) ?_
    show Value.agg _ = _
    rw [hf]
    rfl
end Go.Proofs.YtfeabbeebkkhaaaGreat
/-! Path2 -/
namespace Go.Proofs.YtfeabbeebkkhaaaGreat
open Go Go.Sx
set_option maxRecDepth 100000
set_option maxHeartbeats 4000000
set_option linter.unusedVariables false
set_option linter.unusedSimpArgs false
attribute [local irreducible] J JQ QS Con W opW
def pathOf (kind h name : List UInt8) : List UInt8 := text32 (fold (sum (kind ++ [58] ++ hex h ++ [58] ++ name))) ++ [45] ++ name
theorem fold_length (h : List UInt8) : (fold h).length = 20 := foldN_length h 32
theorem hex_length (h : List UInt8) : (hex h).length = 64 := hexN_length h 32
theorem text_fold (h : List UInt8) : (text32 (fold h)).length = 32 := by rw [text32_length, fold_length]; rfl
def mk (kind h name : List UInt8) : Value := if isName name then .tuple #[.string (bs (pathOf kind h name)), .int .i64 0] else .tuple #[.string (bs []), .int .i64 9]
attribute [local irreducible] fold sum hex text32 pathOf
theorem make_con (kind h name : List UInt8) (w : World) (hh : h.length = 32) (hk : kind.length + name.length ≤ 1099511627776) : Con Tryz.prog 99 [.string (bs kind), .agg (ints h).toArray, .string (bs name)] w [] fun v _ => v = mk kind h name := by
  refine con_of_tree mix Tryz.func99 T99_ok (by kernel_rfl) ?_
  unfold T99
  refine j_box rfl (fun g0 hg0 hs0 => ?_)
  refine j_q (qs_ac) ?_
  refine j_q (qs_ac) ?_
  refine j_q (qs_call ent38 rfl rfl rfl (fun w' hw' => isName_con name w' (by omega))) ?_
  refine j_q (qs_not rfl) ?_
  refine j_cond rfl (fun hc0 => ?_) (fun hc0 => ?_)
  · skip
    have hnm : isName name = false := by
      simp only [bnA] at *
      exact hc0
    refine j_q (qs_ac) ?_
    refine j_q (qs_ac) ?_
    refine j_ret_con (vs := [_, _]) (fun w' hw' => ⟨rfl, rfl, trivial⟩) ?_
    show Value.tuple #[_, _] = _
    rw [mk, if_neg (by rw [hnm]; decide)]
    rfl
  · skip
    have hnm : isName name = true := by
      simp only [bnA] at *
      exact hc0
    refine j_q (qs_sadd rfl rfl (by simp; omega)) ?_
    refine j_q (qs_loadw 0 Tryz.underlying51 rfl sz51 rfl rfl (by first | (rw [ints_length]; exact fold_length _) | (rw [ints_length]; exact hh) | rfl)) ?_
    refine j_q (qs_call ent54 rfl rfl rfl (fun w' hw' => hex_con h w' hh)) ?_
    refine j_q (qs_sadd rfl rfl (by simp [hex_length]; omega)) ?_
    refine j_q (qs_sadd rfl rfl (by simp [hex_length]; omega)) ?_
    refine j_q (qs_sadd rfl rfl (by simp [hex_length]; omega)) ?_
    refine j_bytes Tryz.underlying9 Tryz.underlying46 Tryz.underlying5 rfl (fun v13 c13 ho13 hv13 => ?_)
    obtain ⟨g13, cap13, rfl⟩ := hv13
    obtain ⟨row, fz, hrow, hl1, hl2, hl3, hl4⟩ := own_row ho13
    refine j_q (qs_call ent53 rfl rfl rfl (fun w' hw' => sum_con (kind ++ [58] ++ hex h ++ [58] ++ name) _ _ w' (by simp [hex_length]; omega) hl3 (rd_w (own_rd ho13 0 rfl) hw'))) ?_
    refine j_q (qs_call ent131 rfl rfl rfl (fun w' hw' => fold_con _ w' (sum_length _))) ?_
    refine j_alloc zero155 (fun g16 hg16 hs16 => ?_)
    refine j_storew 0 sz155 rfl rfl (by first | (rw [ints_length]; exact fold_length _) | (rw [ints_length]; exact hh) | rfl) ints_one rfl (by first | (rw [ints_length]; exact fold_length _) | (rw [ints_length]; exact hh) | rfl) ?_
    refine j_q (qs_cuta  Tryz.underlying155 sz5 rfl rfl rfl (by omega) (by omega)) ?_
    show J _ _ _ (Value.slice (some ⟨g16, 0, none⟩) 20 20 :: _) _ _ _
    have e20 : Value.slice (some ⟨g16, 0, none⟩) 20 20 = Value.slice (some ⟨g16, 0, none⟩) (fold (sum (kind ++ [58] ++ hex h ++ [58] ++ name))).length 20 := by rw [fold_length]
    rw [e20]
    refine j_q (qs_call ent132 rfl rfl rfl (fun w' hw' => text_con _ _ _ w' (by rw [fold_length]; decide) (rd_w (rd_own 0 rfl (n := 20) (by rw [List.drop_zero, List.take_of_length_le (by rw [ints_length, fold_length]; exact Nat.le_refl _)])) hw'))) ?_
    refine j_q (qs_sadd rfl rfl (by simp [text_fold])) ?_
    refine j_q (qs_sadd rfl rfl (by simp [text_fold]; omega)) ?_
    refine j_q (qs_ac) ?_
    refine j_ret_con (vs := [_, _]) (fun w' hw' => ⟨rfl, rfl, trivial⟩) ?_
    show Value.tuple #[_, _] = _
    rw [mk, if_pos hnm, pathOf]
    rfl
theorem rmake_con (kind h name : List UInt8) (w : World) (hh : h.length = 32) (hk : kind.length + name.length ≤ 1099511627776) : Con Tryz.prog 55 [.string (bs kind), .agg (ints h).toArray, .string (bs name)] w [] fun v _ => v = mk kind h name := by
  refine con_of_tree mix Tryz.func55 T55_ok (by kernel_rfl) ?_
  unfold T55
  refine j_box rfl (fun g0 hg0 hs0 => ?_)
  refine j_q (qs_ac) ?_
  refine j_q (qs_ac) ?_
  refine j_q (qs_call ent59 rfl rfl rfl (fun w' hw' => risName_con name w' (by omega))) ?_
  refine j_q (qs_not rfl) ?_
  refine j_cond rfl (fun hc0 => ?_) (fun hc0 => ?_)
  · skip
    have hnm : isName name = false := by
      simp only [bnA] at *
      exact hc0
    refine j_q (qs_ac) ?_
    refine j_q (qs_ac) ?_
    refine j_ret_con (vs := [_, _]) (fun w' hw' => ⟨rfl, rfl, trivial⟩) ?_
    show Value.tuple #[_, _] = _
    rw [mk, if_neg (by rw [hnm]; decide)]
    rfl
  · skip
    have hnm : isName name = true := by
      simp only [bnA] at *
      exact hc0
    refine j_q (qs_sadd rfl rfl (by simp; omega)) ?_
    refine j_q (qs_loadw 0 Tryz.underlying51 rfl sz51 rfl rfl (by first | (rw [ints_length]; exact fold_length _) | (rw [ints_length]; exact hh) | rfl)) ?_
    refine j_q (qs_call ent62 rfl rfl rfl (fun w' hw' => rhex_con h w' hh)) ?_
    refine j_q (qs_sadd rfl rfl (by simp [hex_length]; omega)) ?_
    refine j_q (qs_sadd rfl rfl (by simp [hex_length]; omega)) ?_
    refine j_q (qs_sadd rfl rfl (by simp [hex_length]; omega)) ?_
    refine j_bytes Tryz.underlying9 Tryz.underlying46 Tryz.underlying5 rfl (fun v13 c13 ho13 hv13 => ?_)
    obtain ⟨g13, cap13, rfl⟩ := hv13
    obtain ⟨row, fz, hrow, hl1, hl2, hl3, hl4⟩ := own_row ho13
    refine j_q (qs_call ent61 rfl rfl rfl (fun w' hw' => rsum_con (kind ++ [58] ++ hex h ++ [58] ++ name) _ _ w' (by simp [hex_length]; omega) (rd_w (own_rd ho13 0 rfl) hw'))) ?_
    refine j_q (qs_call ent104 rfl rfl rfl (fun w' hw' => rfold_con _ w' (sum_length _))) ?_
    refine j_alloc zero155 (fun g16 hg16 hs16 => ?_)
    refine j_storew 0 sz155 rfl rfl (by first | (rw [ints_length]; exact fold_length _) | (rw [ints_length]; exact hh) | rfl) ints_one rfl (by first | (rw [ints_length]; exact fold_length _) | (rw [ints_length]; exact hh) | rfl) ?_
    refine j_q (qs_cuta  Tryz.underlying155 sz5 rfl rfl rfl (by omega) (by omega)) ?_
    show J _ _ _ (Value.slice (some ⟨g16, 0, none⟩) 20 20 :: _) _ _ _
    have e20 : Value.slice (some ⟨g16, 0, none⟩) 20 20 = Value.slice (some ⟨g16, 0, none⟩) (fold (sum (kind ++ [58] ++ hex h ++ [58] ++ name))).length 20 := by rw [fold_length]
    rw [e20]
    refine j_q (qs_call ent105 rfl rfl rfl (fun w' hw' => rtext_con _ _ _ w' (by rw [fold_length]; decide) (rd_w (rd_own 0 rfl (n := 20) (by rw [List.drop_zero, List.take_of_length_le (by rw [ints_length, fold_length]; exact Nat.le_refl _)])) hw'))) ?_
    refine j_q (qs_sadd rfl rfl (by simp [text_fold])) ?_
    refine j_q (qs_sadd rfl rfl (by simp [text_fold]; omega)) ?_
    refine j_q (qs_ac) ?_
    refine j_ret_con (vs := [_, _]) (fun w' hw' => ⟨rfl, rfl, trivial⟩) ?_
    show Value.tuple #[_, _] = _
    rw [mk, if_pos hnm, pathOf]
    rfl
end Go.Proofs.YtfeabbeebkkhaaaGreat
/-! Path5 -/
namespace Go.Proofs.YtfeabbeebkkhaaaGreat
open Go Go.Sx
set_option maxRecDepth 100000
set_option maxHeartbeats 4000000
set_option linter.unusedVariables false
set_option linter.unusedSimpArgs false
attribute [local irreducible] J JQ QS Con W opW
def mkP (kind h name : List UInt8) : List UInt8 := if isName name then pathOf kind h name else []
def mkE (name : List UInt8) : Int := if isName name then 0 else 9
theorem mk_eq (kind h name : List UInt8) : mk kind h name = .tuple #[.string (bs (mkP kind h name)), .int .i64 (mkE name)] := by
  unfold mk mkP mkE
  split <;> rfl
attribute [local irreducible] fold sum hex text32 pathOf allDig isName mkP spA spB
end Go.Proofs.YtfeabbeebkkhaaaGreat
/-! Path6 -/
namespace Go.Proofs.YtfeabbeebkkhaaaGreat
open Go Go.Sx
set_option maxRecDepth 100000
set_option maxHeartbeats 4000000
set_option linter.unusedVariables false
set_option linter.unusedSimpArgs false
attribute [local irreducible] J JQ QS Con W opW
attribute [local irreducible] fold sum hex text32 pathOf allDig isName isPath spA spB spE
end Go.Proofs.YtfeabbeebkkhaaaGreat
/-! Path7 -/
namespace Go.Proofs.YtfeabbeebkkhaaaGreat
open Go Go.Sx
set_option maxRecDepth 100000
set_option maxHeartbeats 4000000
set_option linter.unusedVariables false
set_option linter.unusedSimpArgs false
attribute [local irreducible] J JQ QS Con W opW
attribute [local irreducible] fold sum hex text32 pathOf allDig isName isPath spA spB spE mkP mkE
def kFixed : List UInt8 := [102, 105, 120, 101, 100]
def kOutput : List UInt8 := [111, 117, 116, 112, 117, 116, 58]
def kOut : List UInt8 := [111, 117, 116]
def whole (out name : List UInt8) : List UInt8 := if out = kOut then name else name ++ ([45] ++ out)
def outP (h out name : List UInt8) : List UInt8 := if isName out && isName name then mkP (kOutput ++ out) h (whole out name) else []
def outE (out name : List UInt8) : Int := if isName out && isName name then mkE (whole out name) else 9
theorem out_no {h out name : List UInt8} (hn : (isName out && isName name) = false) : outP h out name = [] ∧ outE out name = 9 := by
  unfold outP outE
  rw [hn]
  exact ⟨rfl, rfl⟩
theorem out_yes {h out name : List UInt8} (hn : (isName out && isName name) = true) : outP h out name = mkP (kOutput ++ out) h (whole out name) ∧ outE out name = mkE (whole out name) := by
  unfold outP outE
  rw [hn]
  exact ⟨rfl, rfl⟩
theorem mk_bad {k h name : List UInt8} (hn : isName name = false) : mkP k h name = [] ∧ mkE name = 9 := by
  unfold mkP mkE
  rw [hn]
  exact ⟨rfl, rfl⟩
theorem whole_len (out name : List UInt8) : (whole out name).length ≤ name.length + 1 + out.length := by
  unfold whole
  split
  · omega
  · simp; omega
attribute [local irreducible] outP outE
theorem fixed_con (h name : List UInt8) (w : World) (hh : h.length = 32) (hnm : name.length ≤ 1099511000000) : Con Tryz.prog 52 [.agg (ints h).toArray, .string (bs name)] w [] fun u _ => u = .tuple #[.string (bs (mkP kFixed h name)), .int .i64 (mkE name)] := by
  refine con_of_tree mix Tryz.func52 T52_ok (by kernel_rfl) ?_
  unfold T52
  refine j_box rfl (fun g0 hg0 hs0 => ?_)
  refine j_q (qs_ac) ?_
  refine j_q (qs_ac) ?_
  refine j_q (qs_loadw 0 Tryz.underlying51 rfl sz51 rfl rfl (by first | (rw [ints_length]; exact hh) | rfl)) ?_
  refine j_q (qs_call ent99 rfl rfl rfl (fun w' hw' => make_con kFixed h name w' hh (by have : kFixed.length = 5 := rfl; omega))) ?_
  rw [mk_eq]
  refine j_q (qs_ext (vs := [.string (bs (mkP kFixed h name)), .int .i64 (mkE name)]) rfl rfl) ?_
  refine j_q (qs_ext (vs := [.string (bs (mkP kFixed h name)), .int .i64 (mkE name)]) rfl rfl) ?_
  refine j_ret_con (vs := [_, _]) (fun w' hw' => ⟨rfl, rfl, trivial⟩) ?_
  show Value.tuple #[_, _] = _
  rfl
theorem rfixed_con (h name : List UInt8) (w : World) (hh : h.length = 32) (hnm : name.length ≤ 1099511000000) : Con Tryz.prog 23 [.agg (ints h).toArray, .string (bs name)] w [] fun u _ => u = .tuple #[.string (bs (mkP kFixed h name)), .int .i64 (mkE name)] := by
  refine con_of_tree mix Tryz.func23 T23_ok (by kernel_rfl) ?_
  unfold T23
  refine j_box rfl (fun g0 hg0 hs0 => ?_)
  refine j_q (qs_ac) ?_
  refine j_q (qs_ac) ?_
  refine j_q (qs_loadw 0 Tryz.underlying51 rfl sz51 rfl rfl (by first | (rw [ints_length]; exact hh) | rfl)) ?_
  refine j_q (qs_call ent55 rfl rfl rfl (fun w' hw' => rmake_con kFixed h name w' hh (by have : kFixed.length = 5 := rfl; omega))) ?_
  rw [mk_eq]
  refine j_q (qs_ext (vs := [.string (bs (mkP kFixed h name)), .int .i64 (mkE name)]) rfl rfl) ?_
  refine j_q (qs_ext (vs := [.string (bs (mkP kFixed h name)), .int .i64 (mkE name)]) rfl rfl) ?_
  refine j_ret_con (vs := [_, _]) (fun w' hw' => ⟨rfl, rfl, trivial⟩) ?_
  show Value.tuple #[_, _] = _
  rfl
theorem output_con (h out name : List UInt8) (w : World) (hh : h.length = 32) (ho : out.length ≤ 100000000) (hnm : name.length ≤ 100000000) : Con Tryz.prog 51 [.agg (ints h).toArray, .string (bs out), .string (bs name)] w [] fun u _ => u = .tuple #[.string (bs (outP h out name)), .int .i64 (outE out name)] := by
  refine con_of_tree mix Tryz.func51 T51_ok (by kernel_rfl) ?_
  unfold T51
  have hwl := whole_len out name
  have hkl : kOutput.length = 7 := rfl
  refine j_box rfl (fun g0 hg0 hs0 => ?_)
  refine j_q (qs_ac) ?_
  refine j_q (qs_ac) ?_
  refine j_q (qs_sneq rfl rfl) ?_
  refine j_cond rfl (fun hc0 => ?_) (fun hc0 => ?_)
  · skip
    have hw : whole out name = name ++ ([45] ++ out) := by
      unfold whole
      rw [if_neg (by intro h; rw [h] at hc0; simp [kOut] at hc0)]
    refine j_q (qs_sadd (l := [45]) rfl rfl (by simp; omega)) ?_
    refine j_q (qs_sadd rfl rfl (by simp; omega)) ?_
    rw [← hw]
    refine j_q (qs_call ent38 rfl rfl rfl (fun w' hw' => isName_con out w' (by omega))) ?_
    refine j_q (qs_not rfl) ?_
    refine j_g rfl (fun hb => qs_mt rfl) ?_
    refine j_g rfl (fun hb => qs_call ent38 rfl rfl (args1 (gd_eq hb)) (fun w' hw' => isName_con name w' (by omega))) ?_
    refine j_g rfl (fun hb => qs_not (gd_eq hb)) ?_
    refine j_q (qs_or rfl rfl) ?_
    refine j_g rfl (fun hb => qs_mt rfl) ?_
    refine j_g rfl (fun hb => qs_call ent38 rfl rfl (args1 (gd_eq hb)) (fun w' hw' => isName_con (whole out name) w' (by omega))) ?_
    refine j_g rfl (fun hb => qs_not (gd_eq hb)) ?_
    refine j_q (qs_or rfl rfl) ?_
    refine j_cond rfl (fun hc1 => ?_) (fun hc1 => ?_)
    · skip
      have hno : (isName out && isName name) = false ∨ isName (whole out name) = false := by
        cases h1 : isName out <;> cases h2 : isName name <;> cases h3 : isName (whole out name) <;> simp [h1, h2, h3] at hc1 ⊢
      refine j_q (qs_ac) ?_
      refine j_q (qs_ac) ?_
      refine j_ret_con (vs := [_, _]) (fun w' hw' => ⟨rfl, rfl, trivial⟩) ?_
      show Value.tuple #[_, _] = _
      rcases hno with hno | hno
      · rw [(out_no (h := h) hno).1, (out_no (h := h) hno).2]
        rfl
      · cases hx : (isName out && isName name)
        · rw [(out_no (h := h) hx).1, (out_no (h := h) hx).2]
          rfl
        · rw [(out_yes (h := h) hx).1, (out_yes (h := h) hx).2, (mk_bad (k := kOutput ++ out) (h := h) hno).1, (mk_bad (k := kOutput ++ out) (h := h) hno).2]
          rfl
    · skip
      have hyes : (isName out && isName name) = true := by
        cases h1 : isName out <;> cases h2 : isName name <;> cases h3 : isName (whole out name) <;> simp [h1, h2, h3] at hc1 ⊢
      refine j_q (qs_sadd (l := kOutput) rfl rfl (by omega)) ?_
      refine j_q (qs_loadw 0 Tryz.underlying51 rfl sz51 rfl rfl (by first | (rw [ints_length]; exact hh) | rfl)) ?_
      refine j_q (qs_call ent99 rfl rfl rfl (fun w' hw' => make_con (kOutput ++ out) h (whole out name) w' hh (by simp only [List.length_append]; omega))) ?_
      rw [mk_eq]
      refine j_q (qs_ext (vs := [.string (bs (mkP (kOutput ++ out) h (whole out name))), .int .i64 (mkE (whole out name))]) rfl rfl) ?_
      refine j_q (qs_ext (vs := [.string (bs (mkP (kOutput ++ out) h (whole out name))), .int .i64 (mkE (whole out name))]) rfl rfl) ?_
      refine j_ret_con (vs := [_, _]) (fun w' hw' => ⟨rfl, rfl, trivial⟩) ?_
      show Value.tuple #[_, _] = _
      rw [(out_yes (h := h) hyes).1, (out_yes (h := h) hyes).2]
      rfl
  · skip
    have hw : whole out name = name := by
      unfold whole
      rw [if_pos (by simpa [kOut] using hc0)]
    refine j_q (qs_call ent38 rfl rfl rfl (fun w' hw' => isName_con out w' (by omega))) ?_
    refine j_q (qs_not rfl) ?_
    refine j_g rfl (fun hb => qs_mt rfl) ?_
    refine j_g rfl (fun hb => qs_call ent38 rfl rfl (args1 (gd_eq hb)) (fun w' hw' => isName_con name w' (by omega))) ?_
    refine j_g rfl (fun hb => qs_not (gd_eq hb)) ?_
    refine j_q (qs_or rfl rfl) ?_
    refine j_g rfl (fun hb => qs_mt rfl) ?_
    refine j_g rfl (fun hb => qs_call ent38 rfl rfl (args1 (gd_eq hb)) (fun w' hw' => (by rw [hw]; exact isName_con name w' (by omega) : Con Tryz.prog 38 [.string (bs name)] w' [] fun v _ => v = .bool (isName (whole out name))))) ?_
    refine j_g rfl (fun hb => qs_not (gd_eq hb)) ?_
    refine j_q (qs_or rfl rfl) ?_
    refine j_cond rfl (fun hc2 => ?_) (fun hc2 => ?_)
    · skip
      have hno : (isName out && isName name) = false ∨ isName (whole out name) = false := by
        cases h1 : isName out <;> cases h2 : isName name <;> cases h3 : isName (whole out name) <;> simp [h1, h2, h3] at hc2 ⊢
      refine j_q (qs_ac) ?_
      refine j_q (qs_ac) ?_
      refine j_ret_con (vs := [_, _]) (fun w' hw' => ⟨rfl, rfl, trivial⟩) ?_
      show Value.tuple #[_, _] = _
      rcases hno with hno | hno
      · rw [(out_no (h := h) hno).1, (out_no (h := h) hno).2]
        rfl
      · cases hx : (isName out && isName name)
        · rw [(out_no (h := h) hx).1, (out_no (h := h) hx).2]
          rfl
        · rw [(out_yes (h := h) hx).1, (out_yes (h := h) hx).2, (mk_bad (k := kOutput ++ out) (h := h) hno).1, (mk_bad (k := kOutput ++ out) (h := h) hno).2]
          rfl
    · skip
      have hyes : (isName out && isName name) = true := by
        cases h1 : isName out <;> cases h2 : isName name <;> cases h3 : isName (whole out name) <;> simp [h1, h2, h3] at hc2 ⊢
      refine j_q (qs_sadd (l := kOutput) rfl rfl (by omega)) ?_
      refine j_q (qs_loadw 0 Tryz.underlying51 rfl sz51 rfl rfl (by first | (rw [ints_length]; exact hh) | rfl)) ?_
      refine j_q (qs_call ent99 rfl rfl rfl (fun w' hw' => (by rw [hw]; exact make_con (kOutput ++ out) h name w' hh (by simp only [List.length_append]; omega) : Con Tryz.prog 99 [.string (bs (kOutput ++ out)), .agg (ints h).toArray, .string (bs name)] w' [] fun v _ => v = mk (kOutput ++ out) h (whole out name)))) ?_
      rw [mk_eq]
      refine j_q (qs_ext (vs := [.string (bs (mkP (kOutput ++ out) h (whole out name))), .int .i64 (mkE (whole out name))]) rfl rfl) ?_
      refine j_q (qs_ext (vs := [.string (bs (mkP (kOutput ++ out) h (whole out name))), .int .i64 (mkE (whole out name))]) rfl rfl) ?_
      refine j_ret_con (vs := [_, _]) (fun w' hw' => ⟨rfl, rfl, trivial⟩) ?_
      show Value.tuple #[_, _] = _
      rw [(out_yes (h := h) hyes).1, (out_yes (h := h) hyes).2]
      rfl
end Go.Proofs.YtfeabbeebkkhaaaGreat
/-! SxR -/
namespace Go.Sx
open Go Go.ChangeShapes Go.WideShapes Go.ChangeAt Go.RowKit
set_option linter.unusedVariables false
theorem trodAll_stays {H : Type} {enc : TypeId × Value → H} {P : Program} (hl : laidOutB P = true) {W W' : World} (hb : Below W.heap.size W W') : ∀ {ts : List TypeId} {vs : List Value} {ds : List (DataW H)} {ps : List MemPlace},
    (∀ t ∈ ts, P.readableRec t = true ∧ t < P.types.size) → DataW.TrodAll enc P W 0 (fun _ => true) true ts vs ds ps → (∀ x ∈ ps, x.block < W.heap.size) → DataW.TrodAll enc P W' 0 (fun b => decide (b < W.heap.size)) true ts vs ds ps
  | [], vs, ds, ps, _, h, _ => by
    obtain ⟨rfl, rfl, rfl⟩ := trodAll_nil h
    rfl
  | t :: ts, vs, ds, ps, ht, h, hlt => by
    obtain ⟨v, vs1, d, ds1, a, b, rfl, rfl, rfl, h1, h2⟩ := trodAll_cons h
    have h0 := ht t (by simp)
    exact ⟨a, b, Below.trod hl h0.1 h0.2 h1 hb (fun x hx => hlt x (List.mem_append_left _ hx)), trodAll_stays hl hb (fun t h => ht t (by simp [h])) h2 (fun x hx => hlt x (List.mem_append_right _ hx)), rfl⟩
theorem post_law {H : Type} {enc : TypeId × Value → H} {P : Program} {f : Func} {s : ChangeSpec} {apart fresh handsOn : Bool} {W W' : World} {args : Array Value} {ds : List (DataW H)} {before : List MemPlace} {tb : TypeId}
    (hW : DataW.Whole enc P f.params.toList s.vars apart W args.toList ds [] before) (hv : s.vars = []) (hs : s.fn H (ds ++ []) = { results := [.lit (.bool true)], args := ds }) (hl : laidOutB P = true)
    (hp : ∀ t ∈ f.params.toList, P.readableRec t = true ∧ t < P.types.size) (hr : f.resultTypes = #[tb]) (hb : P.underlying tb = some .bool) (hB : Below W.heap.size W W') : s.post enc P f apart fresh handsOn false W args (.bool true) W' := by
  have hlt := hW.lt
  obtain ⟨p, q, hA, hV, rfl, hfz, hnd⟩ := id hW
  have hq : q = [] := by
    rw [hv] at hV
    exact (trodVars_none hV).2
  subst hq
  have hres : ∀ (b : Nat) (sp : Nat → Bool) (hd : Bool), DataW.TrodAll enc P W' b sp hd f.resultTypes.toList ((Value.bool true).resultList f.resultTypes.size) (s.fn H (ds ++ [])).results [] := fun b sp hd => by
    rw [hs, hr]
    exact trodAll_mk1 (shut_bool hb true)
  have hargs : DataW.TrodAll enc P W' 0 (fun b => decide (b < W.heap.size)) true f.params.toList args.toList (s.fn H (ds ++ [])).args p := by
    rw [hs]
    exact trodAll_stays hl hB hp hA (fun x hx => hlt x (List.mem_append_left _ hx))
  refine ⟨ds, [], p ++ [], [], p, [], hW, hres _ _ _, hargs, ?_, World.keptBut_mono (fun x hx => ⟨hx, ?_⟩) (hB.frame (· ∈ p ++ [])), fun h => absurd h (by decide)⟩
  · rw [hs, hv]
    rfl
  · rw [List.mem_append] at hx
    exact Or.inr hx
theorem below_of_sig {w w' : World} {S : List SH} (h : Sig ⟨w, dom []⟩ S w') : Below w.heap.size w w' := ⟨h.os, h.tape, h.output, h.size, fun k hk => h.frame k hk (by simp)⟩
theorem open_bytes {P : Program} {w : World} {r : Reach} {base : Nat} {t e : TypeId} {n : Nat} {v : Value} (ht : P.underlying t = some (.array n e)) (he : P.underlying e = some (.int .u8)) (hct : P.cellTypes P.depth t = some (List.replicate n e)) (hcells : P.cellsOf t = n)
    (h : Value.okWide P w r base t v) : ∃ l : List UInt8, v = .agg (ints l).toArray ∧ l.length = n := by
  unfold Value.okWide at h
  simp only [ht] at h
  obtain ⟨cs, rfl, hsz, ts, hts, _, hall⟩ := h
  rw [hct] at hts
  injection hts with hts
  subst hts
  rw [hcells] at hsz
  refine ⟨cs.toList.map (fun v => match v with | .int _ m => by8 m | _ => 0), ?_, by simp [hsz]⟩
  congr 1
  apply Array.ext_getElem?
  intro i
  by_cases hi : i < cs.size
  · obtain ⟨u, hu, hc⟩ := hall i cs[i] (by simp [hi])
    have hmod : i % (List.replicate n e).length = i := by rw [List.length_replicate]; exact Nat.mod_eq_of_lt (by omega)
    rw [hmod, List.getElem?_replicate, if_pos (by omega)] at hu
    injection hu with hu
    subst hu
    unfold Cell.okWide at hc
    simp only [he] at hc
    unfold Cell.ok at hc
    simp only [he] at hc
    have hget : cs[i]? = some cs[i] := by simp [hi]
    generalize hx : cs[i] = x at *
    cases x <;> simp only at hc
    case int k m =>
      obtain ⟨rfl, hm⟩ := hc
      have hr : 0 ≤ m ∧ m ≤ 255 := by
        simp only [IntKind.has] at hm
        have h1 : IntKind.u8.min = 0 := rfl
        have h2 : IntKind.u8.max = 255 := rfl
        rw [h1, h2] at hm
        simpa using hm
      have hw : IntKind.u8.wrap m = m := by rw [IntKind.wrap_u8]; omega
      rw [hget]
      simp only [List.getElem?_toArray, ints_get, List.getElem?_map, Array.getElem?_toList, hget, Option.map_some]
      rw [← wrap_by8, hw]
    all_goals exact hc.elim
  · have h1 : cs[i]? = none := by simp; omega
    rw [h1]
    symm
    rw [List.getElem?_toArray, List.getElem?_eq_none]
    rw [ints_length, List.length_map, Array.length_toList]
    omega
end Go.Sx
/-! Sx16 -/
namespace Go.Sx
open Go Go.ChangeShapes Go.WideShapes Go.ChangeAt Go.RowKit
set_option linter.unusedVariables false
variable {P : Program} {R : Ending → World → Prop} {env : Env} {b : Base} {S : List SH} {B : JB} {T : Tree} {v : Value} {ty : TypeId}
theorem cells_stay {w w' : World} {a : Addr} {vs : List Value} {D : List Nat} (h : Cells w a vs) (hs : Sig ⟨w, D⟩ S w') (hD : a.block ∉ D) : Cells w' a vs := rd_w (rd_cells (b := ⟨w, D⟩) h hD) hs
theorem ints_take (l : List UInt8) (n : Nat) : (ints l).take n = ints (l.take n) := by simp [ints]
theorem ints_drop (l : List UInt8) (n : Nat) : (ints l).drop n = ints (l.drop n) := by simp [ints]
end Go.Sx
/-! Sx17 -/
namespace Go.Sx
open Go Go.MapKept Go.WideMaps Go.Maps
set_option linter.unusedVariables false
set_option linter.unusedSimpArgs false
set_option linter.unusedSectionVars false
variable {P : Program} {R : Ending → World → Prop} {env : Env} {b : Base} {S : List SH} {B : JB} {T : Tree} {v : Value} {ty : TypeId}
def RdO (b : Base) (S : List SH) (g : Nat) (o : Obj) : Prop := ∀ w, Sig b S w → w.heap[g]? = some o
theorem rdo_base {g : Nat} {o : Obj} (h : b.w0.heap[g]? = some o) (hD : g ∉ b.D) : RdO b S g o := fun w hw => (hw.frame g (lt_of_get h) hD).trans h
theorem rd_rdo {g off n : Nat} {l vs : List Value} {e : TypeId} {fz : Nat × Nat} (hr : RdO b S g (.cells l.toArray e fz)) (h : (l.drop off).take n = vs) : Rd b S ⟨g, off, none⟩ vs := fun w hw j u hu => by
  subst h
  rw [add_off, cell_of (hr w hw)]
  rw [List.getElem?_take] at hu
  split at hu
  · rwa [List.getElem?_drop] at hu
  · cases hu
theorem qs_loadO {t : TypeId} {d : TypeDesc} {x : Operand} {g i : Nat} {l : List Value} {e : TypeId} {fz : Nat × Nat} {u : Value} (hr : RdO b S g (.cells l.toArray e fz)) (hu : P.underlying t = some d) (hd : flat d = true) (hx : ev env x = .pointer (some ⟨g, i, none⟩)) (hi : l[i]? = some u) :
    QS P (O (.load t x) ty) env b S u := by
  refine qs_loadR (vs := l) (a := ⟨g, 0, none⟩) (i := i) (rd_rdo (n := l.length) hr (by simp)) hu hd (by rw [add_off, Nat.zero_add]; exact hx) hi
section
variable {κ : Type} [DecidableEq κ] {enc : κ → Value} {ok : κ → Prop} {es : Array MapEntry} {clock : Nat} {m : List (κ × Value)} {kt : TypeId}
theorem qs_lookup2R (KE : KeyE P kt enc ok) {t vt : TypeId} {x y : Operand} {g : Nat} {key : κ} {z : Value} (hr : RdO b S g (.map es clock)) (ht : P.underlying t = some (.map kt vt)) (hz : (P.info? vt).bind (·.zero) = some z) (hx : ev env x = .map (some g)) (hy : ev env y = enc key) (hm : MapOk enc ok es clock m) (hok : ok key) :
    QS P (O (.lookup t x y true) ty) env b S (.tuple #[(mlook m key).getD z, .bool (mlook m key).isSome]) := qs_val fun w hw => by
  simp only [O, execOp, hx, hy, Sem.run_bind, run_lookup_ok KE ht hz hm hok (hr w hw) true, Result.andThen_ok, Sem.run_pure]
  rfl
end
theorem j_litw {t e : TypeId} {x : Operand} {vs z : List Value} {sz : Nat} (ht : P.underlying t = some (.slice e)) (hz : (P.info? e).map (·.size) = some sz) (h0 : zeroL P e = some z) (hzl : z.length = sz) (hx : ev env x = .agg vs.toArray) (hl : vs.length = sz ∧ 0 < sz ∧ sz ≤ 1000)
    (h : ∀ g, b.w0.heap.size ≤ g → Own e sz vs (.slice (some ⟨g, 0, none⟩) 1 1) [(g, .cells vs.toArray e (0, 0))] → J P R T (.slice (some ⟨g, 0, none⟩) 1 1 :: env) ([(g, .cells vs.toArray e (0, 0))] :: S) b B) : J P R (.op (O (.buildSlice t 1 #[(0, x)]) ty) T) env S b B := fun w hw => by
  obtain ⟨zv, hzv, hrunz⟩ := run_zero_ok h0
  obtain ⟨hl, hs0, hs1⟩ := hl
  have hrun : (execOp (ev env) (O (.buildSlice t 1 #[(0, x)]) ty)).run P w = .ok (.value (.slice (some ⟨w.heap.size, 0, none⟩) 1 1)) (w.alloc (.cells vs.toArray e)) := by
    have hgt : ¬ (1 * sz > 2 ^ 24) := by omega
    have hne : ¬ (1 * sz = 0) := by omega
    have hf : ∀ zs : Array Value, zs.size = 1 * sz → Instr.fill (fun i => some (i * sz, sz)) zs [(0, Value.agg vs.toArray)] = some vs.toArray := by
      intro zs hzs
      have := fill_put (place := fun i => some (i * sz, sz)) [(0, Value.agg vs.toArray)] [(0, vs)] zs.toList rfl fun j p q hp hq => by
        cases j with
        | zero =>
          simp only [List.getElem?_cons_zero, Option.some.injEq] at hp hq
          subst hp hq
          refine ⟨by rw [hl, Nat.zero_mul], rfl, by show 0 + vs.length ≤ zs.size; rw [hzs, hl]; omega⟩
        | succ j => simp at hp
      simp only [Array.toArray_toList] at this
      rw [this]
      congr 2
      simp only [List.foldl_cons, List.foldl_nil]
      unfold putAt
      rw [List.take_zero, List.nil_append, Nat.zero_add, List.drop_of_length_le (by rw [Array.length_toList, hzs, hl]; omega), List.append_nil]
    have hp : (#[(0, x)].map fun p : Nat × Operand => (p.1, ev env p.2)).toList = [(0, Value.agg vs.toArray)] := by simp [hx]
    simp only [O, execOp, Instr.buildSlice, Sem.run_bind, run_underlying_ok ht, Result.andThen_ok, run_sizeOf_ok hz, if_neg hgt, if_neg hne, hrunz, Sem.run_pure]
    rw [hp, hf _ (by simp)]
    rfl
  show opW _ _ _ _ _ _
  unfold opW
  rw [hrun]
  obtain ⟨h1, h2, h3⟩ := hw.new (o := .cells vs.toArray e) (w' := w.alloc (.cells vs.toArray e)) rfl rfl rfl rfl
  exact h w.heap.size h3 (.inr ⟨w.heap.size, 1, 1, [], (0, 0), rfl, by simp, by omega, by simp; omega, Nat.le_refl _, fun _ _ h => by omega⟩) _ h1
theorem qs_mkfunc {f : FuncId} {xs ys : Array Operand} : QS P (O (.makeFunc (.func f) xs ys) ty) env b S (.func (.func f) (xs.map (ev env)) (ys.map (ev env))) := qs_run fun w => by
  simp only [O, execOp, Instr.makeFunc, Sem.run_bind, Sem.run_pure, Result.andThen_ok]
theorem qs_callf {o : Oper} {v : Value} {f : FuncId} {xs : Array Operand} {tys : Array TypeId} {g : Operand} {args : List Value} {first cap : Array Value} (h : Enters P f) (ho : o.op = .call ⟨.value g, xs, tys⟩) (hg : ev env g = .func (.func f) first cap) (ha : first.toList ++ xs.toList.map (ev env) ++ cap.toList = args)
    (hc : ∀ w, Sig b S w → Con P f args w [] fun u _ => u = v) : QS P o env b S v := fun w hw => by
  unfold qAt
  rw [run_call h g ho hg w]
  have e : (first ++ xs.map (ev env) ++ cap : Array Value) = args.toArray := by
    rw [← ha]; apply Array.ext'; simp
  rw [e]
  refine ⟨rfl, (hc w hw (by simp) (by simp)).mono ?_⟩
  rintro e w' ⟨u, S', rfl, rfl, hS⟩
  refine ⟨rfl, ?_⟩
  have := Sig.call (Fp := []) (Fr := S.flatten) (S2 := S'.flatten :: S) hw (by simp) hS (by simp)
  exact this.sub (by simp)
end Go.Sx
/-! Sx18 -/
namespace Go.Sx
open Go Go.ChangeShapes Go.WideShapes Go.ChangeAt Go.RowKit
set_option linter.unusedVariables false
def RSlN (n : Nat) (w : World) (v : Value) (vs : List Value) (len : Nat) : Prop :=
  vs.length = len * n ∧ ((v = .slice none 0 0 ∧ len = 0) ∨ ∃ g off cap, v = .slice (some ⟨g, off, none⟩) len cap ∧ g < w.heap.size ∧ len ≤ cap ∧ Cells w ⟨g, off, none⟩ vs)
theorem rsln_form {n : Nat} {w : World} {v : Value} {vs : List Value} {len : Nat} (h : RSlN n w v vs len) : ∃ A cap g off, v = .slice A len cap ∧ len ≤ cap ∧ (0 < len → A = some ⟨g, off, none⟩ ∧ g < w.heap.size ∧ Cells w ⟨g, off, none⟩ vs) := by
  rcases h with ⟨_, ⟨rfl, rfl⟩ | ⟨g, off, cap, rfl, h1, h2, h3⟩⟩
  · exact ⟨none, 0, 0, 0, rfl, Nat.le_refl _, fun h => by omega⟩
  · exact ⟨_, cap, g, off, rfl, h2, fun _ => ⟨rfl, h1, h3⟩⟩
theorem rsln_keep {n : Nat} {w w' : World} {v : Value} {vs : List Value} {len : Nat} (h : RSlN n w v vs len) {S : List SH} (hs : Sig ⟨w, dom []⟩ S w') : RSlN n w' v vs len := by
  obtain ⟨h0, h | ⟨g, off, cap, rfl, h1, h2, h3⟩⟩ := h
  · exact ⟨h0, .inl h⟩
  · exact ⟨h0, .inr ⟨g, off, cap, rfl, Nat.lt_of_lt_of_le h1 hs.size, h2, cells_stay h3 hs (by simp)⟩⟩
section
variable {α : Type}
theorem flat_len {encA : α → List Value} {n : Nat} (hl : ∀ a, (encA a).length = n) (rs : List α) : (rs.map encA).flatten.length = rs.length * n := by
  induction rs with
  | nil => simp
  | cons a rs ih => simp only [List.map_cons, List.flatten_cons, List.length_append, hl, ih, List.length_cons, Nat.add_mul, Nat.one_mul]; omega
theorem flat_get {encA : α → List Value} {n : Nat} (hl : ∀ a, (encA a).length = n) : ∀ (rs : List α) (i k : Nat), k < n → (rs.map encA).flatten[i * n + k]? = (rs[i]?).bind fun a => (encA a)[k]?
  | [], i, k, hk => by simp
  | a :: rs, 0, k, hk => by
    rw [List.map_cons, List.flatten_cons, Nat.zero_mul, Nat.zero_add, List.getElem?_append_left (by rw [hl]; exact hk)]
    rfl
  | a :: rs, i + 1, k, hk => by
    have ih := flat_get hl rs i k hk
    rw [List.map_cons, List.flatten_cons, List.getElem?_append_right (by rw [hl, Nat.add_mul, Nat.one_mul]; omega), hl, show (i + 1) * n + k - n = i * n + k by rw [Nat.add_mul, Nat.one_mul]; omega, ih]
    rfl
theorem list_of {Q : Nat → α → Prop} : ∀ (len : Nat), (∀ i, i < len → ∃ a, Q i a) → ∃ rs : List α, rs.length = len ∧ ∀ i a, rs[i]? = some a → Q i a
  | 0, _ => ⟨[], rfl, fun i a h => by simp at h⟩
  | len + 1, h => by
    obtain ⟨rs, h1, h2⟩ := list_of len fun i hi => h i (by omega)
    obtain ⟨a, ha⟩ := h len (by omega)
    refine ⟨rs ++ [a], by simp [h1], fun i b hb => ?_⟩
    rcases Nat.lt_or_ge i rs.length with hi | hi
    · rw [List.getElem?_append_left hi] at hb
      exact h2 i b hb
    · rw [List.getElem?_append_right hi] at hb
      have : i - rs.length = 0 := by
        have := (List.getElem?_eq_some_iff.1 hb).1
        simp at this
        omega
      rw [this] at hb
      simp at hb
      subst hb
      obtain rfl : i = len := by omega
      exact ha
theorem open_sln {H : Type} {enc : TypeId × Value → H} {P : Program} {w : World} {r : Reach} {base b0 : Nat} {sp : Nat → Bool} {held : Bool} {t e : TypeId} {v : Value} {x : DataW H × List MemPlace} {n : Nat} (encA : α → List Value) (ok : α → Prop) (hl : ∀ a, (encA a).length = n) (hn : 0 < n) (ht : P.underlying t = some (.slice e)) (hc : P.cellsOf e = n) (hv : Value.okWide P w r base t v)
    (hE : ∀ fuel cs y, DataW.trod enc P w b0 sp held fuel e cs = some y → (y.1.weights P e).all (· ≤ reachBytes) = true → ∃ a, ok a ∧ cs = encA a) (h : ∃ fuel, DataW.trod enc P w b0 sp held fuel t v.cells.toList = some x) (hw : (x.1.weights P t).all (· ≤ reachBytes) = true) :
    ∃ rs : List α, RSlN n w v (rs.map encA).flatten rs.length ∧ (∀ a ∈ rs, ok a) ∧ rs.length * P.bytesOf e ≤ reachBytes := by
  obtain ⟨a0, len, cap, rfl⟩ := okWide_slice ht hv
  obtain ⟨fuel, hf⟩ := h
  have hcells : (Value.slice a0 len cap).cells.toList = [Value.slice a0 len cap] := rfl
  rcases DataW.trod_slice ht hf with ⟨hcs, _⟩ | ⟨a, len', cap', elems, rest, m, rfl, hcs, hx, hb, hlc, hm, hel, hall, _, _⟩
  · rw [hcells] at hcs
    injection hcs with hcs
    rw [hcs]
    exact ⟨[], ⟨by simp, .inl ⟨rfl, rfl⟩⟩, (fun a ha => by cases ha), by simp⟩
  · rw [hcells] at hcs
    injection hcs with hcs
    injection hcs with h1 h2 h3
    subst h1 h2 h3
    simp only [Value.okWide, ht, Cell.okWide, Cell.ok] at hv
    obtain ⟨_, _, _, hspot, row, cells, hshape, _⟩ := hv
    obtain ⟨g, off, spot⟩ := a
    simp only at hspot hshape
    subst hspot
    have hg : g < w.heap.size := by
      unfold World.shape? at hshape
      split at hshape
      · rename_i hh; exact (Array.getElem?_eq_some_iff.1 hh).1
      · cases hshape
    rw [hx] at hw
    unfold DataW.weights at hw
    simp only [ht, List.all_cons, Bool.and_eq_true, decide_eq_true_eq, List.all_append] at hw
    obtain ⟨hw1, hw2, _⟩ := hw
    have hwe : ∀ (l : List (DataW H)), (DataW.weightsAll P e l).all (· ≤ reachBytes) = true → ∀ d ∈ l, (d.weights P e).all (· ≤ reachBytes) = true := by
      intro l
      induction l with
      | nil => intro _ d hd; cases hd
      | cons d l ih =>
        intro hh d' hd'
        unfold DataW.weightsAll at hh
        rw [List.all_append, Bool.and_eq_true] at hh
        rcases List.mem_cons.1 hd' with rfl | hd'
        · exact hh.1
        · exact ih hh.2 d' hd'
    obtain ⟨rs, hr1, hr2⟩ := list_of (Q := fun i (a : α) => ok a ∧ w.cells? b0 ((⟨g, off, none⟩ : Addr).add (i * n)) n = some (encA a)) len fun i hi => by
      have h4 := hall i hi
      obtain ⟨y, hy⟩ : ∃ y, elems[i]? = some y := ⟨_, List.getElem?_eq_getElem (by omega)⟩
      rw [hy, hc] at h4
      obtain ⟨cs, h5, h6⟩ := Option.bind_eq_some_iff.1 h4
      obtain ⟨a, ha1, ha2⟩ := hE _ _ _ h6 (hwe _ hw2 y.1 (List.mem_map.2 ⟨y, List.mem_of_getElem? hy, rfl⟩))
      exact ⟨a, ha1, by rw [h5, ha2]⟩
    refine ⟨rs, ⟨flat_len hl rs, .inr ⟨g, off, cap, by rw [hr1], hg, by rw [hr1]; exact hlc, fun j u hu => ?_⟩⟩, fun a ha => ?_, ?_⟩
    · have hj : j = j / n * n + j % n := by have := Nat.div_add_mod j n; rw [Nat.mul_comm]; omega
      have hk : j % n < n := Nat.mod_lt _ hn
      rw [hj, flat_get hl rs _ _ hk] at hu
      obtain ⟨a, ha, hu⟩ := Option.bind_eq_some_iff.1 hu
      obtain ⟨_, hcs⟩ := hr2 _ _ ha
      obtain ⟨_, _, h7⟩ := World.cells?_some hcs
      have h8 := h7 (j % n) hk
      rw [hu] at h8
      rw [hj]
      rw [add_off] at h8 ⊢
      rw [add_off] at h8
      rw [← h8]
      congr 2
      omega
    · obtain ⟨i, hi⟩ := List.mem_iff_getElem?.1 ha
      exact (hr2 i a hi).1
    · rw [hr1]
      refine Nat.le_trans (Nat.mul_le_mul_right _ ?_) hw1
      simp only [List.length_map]
      omega
end
end Go.Sx
/-! Sx19 -/
namespace Go.Sx
open Go Go.MapKept Go.WideMaps Go.Maps
set_option linter.unusedVariables false
set_option linter.unusedSimpArgs false
set_option linter.unusedSectionVars false
variable {P : Program} {R : Ending → World → Prop} {env : Env} {b : Base} {S : List SH} {B : JB} {T : Tree} {v : Value} {ty : TypeId}
theorem qs_ixn {t e : TypeId} {x y : Operand} {n c sz g off i : Nat} {k : IntKind} (ht : P.underlying t = some (.slice e)) (hz : (P.info? e).map (·.size) = some sz) (hx : ev env x = .slice (some ⟨g, off, none⟩) n c) (hy : ev env y = .int k (i : Int)) (h : i < n) :
    QS P (O (.indexAddr t x y) ty) env b S (.pointer (some ⟨g, off + i * sz, none⟩)) := by
  have := qs_ixl (P := P) (env := env) (b := b) (S := S) (ty := ty) (x := x) (y := y) ht hz hx hy (by omega) (by omega)
  rw [add_off, Int.toNat_natCast] at this
  exact this
theorem qs_loadrec {α : Type} {encA : α → List Value} {n : Nat} {rs : List α} {d : α} {t : TypeId} {dd : TypeDesc} {x : Operand} {g off i fo : Nat} (hl : ∀ a, (encA a).length = n) (hr : Rd b S ⟨g, off, none⟩ (rs.map encA).flatten) (hi : i < rs.length) (hu : P.underlying t = some dd) (hd : flat dd = true)
    (hx : ev env x = .pointer (some ⟨g, off + i * n + fo, none⟩)) (hv : (encA (rs.getD i d))[fo]? = some v) : QS P (O (.load t x) ty) env b S v := by
  refine qs_loadR (a := ⟨g, off, none⟩) (i := i * n + fo) hr hu hd (by rw [add_off, ← Nat.add_assoc]; exact hx) ?_
  have hk : fo < n := by
    have := (List.getElem?_eq_some_iff.1 hv).1
    rwa [hl] at this
  rw [flat_get hl rs i fo hk, List.getElem?_eq_getElem hi]
  rw [List.getD_eq_getElem?_getD, List.getElem?_eq_getElem hi] at hv
  exact hv
theorem qs_loadrecw {α : Type} {encA : α → List Value} {n : Nat} {rs : List α} {d : α} {t : TypeId} {dd : TypeDesc} {x : Operand} {g off i : Nat} (hl : ∀ a, (encA a).length = n) (hr : Rd b S ⟨g, off, none⟩ (rs.map encA).flatten) (hi : i < rs.length) (hu : P.underlying t = some dd) (hd : flat dd = false) (hz : (P.info? t).map (·.size) = some n)
    (hx : ev env x = .pointer (some ⟨g, off + i * n, none⟩)) : QS P (O (.load t x) ty) env b S (.agg (encA (rs.getD i d)).toArray) := by
  refine qs_loadwR (g := g) (off := off + i * n) (n := n) (vs := encA (rs.getD i d)) (fun w hw j u hj => ?_) hu hd hz hx (hl _)
  have hk : j < n := by
    have := (List.getElem?_eq_some_iff.1 hj).1
    rwa [hl] at this
  have h := hr w hw (i * n + j) u (by
    rw [flat_get hl rs i j hk, List.getElem?_eq_getElem hi]
    rw [List.getD_eq_getElem?_getD, List.getElem?_eq_getElem hi] at hj
    exact hj)
  rw [add_off] at h ⊢
  rw [Nat.add_assoc]
  exact h
theorem qs_extw {f : FuncId} {fn : Func} {e : Array Value → Sem Value} {xs : Array Operand} {tys : Array TypeId} {g : Operand} {args : List Value} {o : Oper} (ho : o.op = .call ⟨.value g, xs, tys⟩) (hg : ev env g = .func (.func f) #[] #[]) (ha : xs.toList.map (ev env) = args) (hr : ∀ w, Sig b S w → (callFunc f args.toArray).run P w = .ok (.value v) w) : QS P o env b S v := qs_val fun w hw => by
  have e1 : (#[] ++ xs.map (ev env) ++ #[] : Array Value) = args.toArray := by
    rw [← ha]; apply Array.ext'; simp
  simp only [execOp, ho, resolve, hg, Deferred.ofValue, invoke, Sem.run_bind, Sem.run_pure, Result.andThen_ok, e1, hr w hw]
theorem setCell_same {w : World} {g i : Nat} {l : List Value} {e : TypeId} {fz : Nat × Nat} {u : Value} (h : w.heap[g]? = some (.cells l.toArray e fz)) : (w.setCell ⟨g, i, none⟩ u).heap[g]? = some (.cells (l.set i u).toArray e fz) := by
  unfold World.setCell
  simp [Array.getElem?_modify, h]
theorem setCell_other {w : World} {g i j : Nat} {u : Value} (h : j ≠ g) : (w.setCell ⟨g, i, none⟩ u).heap[j]? = w.heap[j]? := by
  unfold World.setCell
  simp only [Array.getElem?_modify, if_neg (fun e => h (Eq.symm e))]
theorem qs_mkiface {t : TypeId} {x : Operand} {u : Value} {d : TypeDesc} (ht : P.underlying t = some d) (hd : ∀ ms, d ≠ .interface ms) (hx : ev env x = u) : QS P (O (.makeInterface t x) ty) env b S (.iface t u) := qs_run fun w => by
  simp only [O, execOp, hx, Instr.makeInterface, Sem.run_bind, run_underlying_ok ht, Result.andThen_ok]
  cases d <;> first | rfl | exact absurd rfl (hd _)
end Go.Sx
/-! Dv0 -/
namespace Go.Proofs.YtfeabbeebkkhaaaGreat
open Go Go.Sx
set_option linter.unusedVariables false
set_option linter.unusedSimpArgs false
abbrev Bs := List UInt8
theorem hexL (h : List UInt8) : (hex h).length = 64 := hexN_length h 32
def esc (c : UInt8) : Bs := if c = 34 then [92, 34] else if c = 92 then [92, 92] else if c = 10 then [92, 110] else if c = 13 then [92, 114] else if c = 9 then [92, 116] else [c]
def es (s : Bs) : Bs := (s.map esc).flatten
def qt (s : Bs) : Bs := [34] ++ es s ++ [34]
def cms (l : List Bs) : Bs := (l.map fun x => 44 :: x).flatten.drop 1
def lst (o : Bs) (l : List Bs) (c : Bs) : Bs := o ++ cms l ++ c
theorem es_snoc (s : Bs) (c : UInt8) : es (s ++ [c]) = es s ++ esc c := by simp [es]
theorem esc_len (c : UInt8) : 1 ≤ (esc c).length ∧ (esc c).length ≤ 2 := by
  unfold esc
  repeat' split
  all_goals simp
theorem es_len (s : Bs) : s.length ≤ (es s).length ∧ (es s).length ≤ 2 * s.length := by
  induction s with
  | nil => simp [es]
  | cons c s ih =>
    have h := esc_len c
    have e : es (c :: s) = esc c ++ es s := by simp [es]
    rw [e, List.length_append, List.length_cons]
    omega
theorem qt_len (s : Bs) : (qt s).length = (es s).length + 2 := by simp [qt]
theorem cms_snoc (l : List Bs) (x : Bs) : cms (l ++ [x]) = if l = [] then x else cms l ++ (44 :: x) := by
  unfold cms
  rw [List.map_append, List.flatten_append]
  cases l with
  | nil => simp
  | cons y l =>
    rw [if_neg (by simp), List.map_cons, List.flatten_cons, List.cons_append, List.cons_append, List.drop_succ_cons, List.drop_succ_cons, List.drop_zero, List.drop_zero]
    simp
theorem cms_len (l : List Bs) : (cms l).length ≤ (l.map List.length).sum + l.length := by
  unfold cms
  rw [List.length_drop, List.length_flatten, List.map_map]
  have : (l.map (List.length ∘ fun x => 44 :: x)).sum = (l.map List.length).sum + l.length := by
    induction l with
    | nil => rfl
    | cons a l ih => simp only [List.map_cons, List.sum_cons, Function.comp, List.length_cons] at ih ⊢; omega
  omega
abbrev Hsh := { l : Bs // l.length = 32 }
structure PO where
  name : Bs
  path : Bs
  fixed : Bool
  hash : Hsh
structure PI where
  drv : Bs
  outs : List Bs
structure PV where
  name : Bs
  val : Bs
structure PD where
  name : Bs
  sys : Bs
  bld : Bs
  args : List Bs
  env : List PV
  ins : List PI
  srcs : List Bs
  outs : List PO
abbrev sSha : Bs := [115, 104, 97, 50, 53, 54]
abbrev sDrv : Bs := [46, 100, 114, 118]
abbrev sOut : Bs := [111, 117, 116]
abbrev sDerive : Bs := [68, 101, 114, 105, 118, 101]
def tup (l : List Bs) : Bs := lst [40] l [41]
def tO (o : PO) : Bs := tup [qt o.name, qt o.path, qt (if o.fixed then sSha else []), qt (if o.fixed then hex o.hash.1 else [])]
def tTs (l : List Bs) : Bs := lst [91] (l.map qt) [93]
def tI (x : PI) : Bs := tup [qt x.drv, tTs x.outs]
def tV (v : PV) : Bs := tup [qt v.name, qt v.val]
def dtext (d : PD) : Bs := sDerive ++ tup [qt d.name, lst [91] (d.outs.map tO) [93], lst [91] (d.ins.map tI) [93], tTs d.srcs, qt d.sys, qt d.bld, tTs d.args, lst [91] (d.env.map tV) [93]]
def firstE (f : Nat → Int) : Nat → Int
  | 0 => 0
  | n + 1 => if firstE f n ≠ 0 then firstE f n else f n
theorem firstE_zero {f : Nat → Int} {n : Nat} (h : ∀ j < n, f j = 0) : firstE f n = 0 := by
  induction n with
  | zero => rfl
  | succ n ih =>
    have := ih fun j hj => h j (by omega)
    rw [firstE, if_neg (by omega)]
    exact h n (by omega)
theorem firstE_at {f : Nat → Int} {n i : Nat} (h : ∀ j < i, f j = 0) (hi : i < n) (he : f i ≠ 0) : firstE f n = f i := by
  induction n with
  | zero => omega
  | succ n ih =>
    rw [firstE]
    by_cases hin : i = n
    · subst hin
      rw [if_neg (by rw [firstE_zero h]; decide)]
    · have := ih (by omega)
      rw [if_pos (by rw [this]; exact he)]
      exact this
theorem firstE_all {f : Nat → Int} {n : Nat} (h : firstE f n = 0) : ∀ j < n, f j = 0 := by
  intro j hj
  induction n with
  | zero => omega
  | succ n ih =>
    rw [firstE] at h
    by_cases h0 : firstE f n = 0
    · rw [if_neg (by omega)] at h
      by_cases hjn : j = n
      · rw [hjn]; exact h
      · exact ih h0 (by omega)
    · rw [if_pos h0] at h
      exact absurd h h0
theorem zero_snoc {f : Nat → Int} {i : Nat} (h : ∀ j < i, f j = 0) (hi : f i = 0) : ∀ j < i + 1, f j = 0 := fun j hj => by
  by_cases hji : j = i
  · rw [hji]; exact hi
  · exact h j (by omega)
def leB (a b : Bs) : Bool := Op.bytesLess a b || a == b
abbrev zHash : Hsh := ⟨List.replicate 32 0, rfl⟩
abbrev o0 : PO := ⟨[], [], false, zHash⟩
abbrev i0 : PI := ⟨[], []⟩
abbrev v0 : PV := ⟨[], []⟩
def isDrvP (p : Bs) : Bool := isPath p && decide (4 < (p.drop 33).length) && ((p.drop 33).drop ((p.drop 33).length - 4) == sDrv)
def badO (l : List PO) (i : Nat) : Bool := (decide (0 < i) && leB (l.getD i o0).name (l.getD (i - 1) o0).name) || ((!((l.getD i o0).path == [])) && !isPath (l.getD i o0).path) || ((l.getD i o0).fixed && (decide (1 < l.length) || !((l.getD i o0).name == sOut))) || (!(l.getD i o0).fixed && !((l.getD i o0).hash.1 == List.replicate 32 0))
def chkO (l : List PO) (i : Nat) : Int := if isName (l.getD i o0).name then (if badO l i then 3 else 0) else 9
def chkOuts (l : List PO) : Int := if l.length < 1 ∨ 16 < l.length then 1 else firstE (chkO l) l.length
def chkN (l : List Bs) (i : Nat) : Int := if isName (l.getD i []) then (if decide (0 < i) && leB (l.getD i []) (l.getD (i - 1) []) then 3 else 0) else 9
def chkI (l : List PI) (i : Nat) : Int := if !isDrvP (l.getD i i0).drv || (decide (0 < i) && leB (l.getD i i0).drv (l.getD (i - 1) i0).drv) || (l.getD i i0).outs.length == 0 then 3 else firstE (chkN (l.getD i i0).outs) (l.getD i i0).outs.length
def chkIns (l : List PI) : Int := firstE (chkI l) l.length
def chkS (l : List Bs) (i : Nat) : Int := if !isPath (l.getD i []) || (decide (0 < i) && leB (l.getD i []) (l.getD (i - 1) [])) then 3 else 0
def chkV (l : List PV) (i : Nat) : Int := if (l.getD i v0).name == [] || (decide (0 < i) && leB (l.getD i v0).name (l.getD (i - 1) v0).name) then 3 else 0
def orE (a b : Int) : Int := if a = 0 then b else a
def chk0 (d : PD) : Int := if isName d.name && isName (d.name ++ sDrv) then orE (chkOuts d.outs) (orE (chkIns d.ins) (orE (firstE (chkS d.srcs) d.srcs.length) (firstE (chkV d.env) d.env.length))) else 9
def chk (d : PD) : Int := orE (chk0 d) (if 262144 < (dtext d).length then 5 else 0)
theorem orE_zero {a b : Int} : orE a b = 0 ↔ a = 0 ∧ b = 0 := by
  unfold orE
  split <;> simp_all
def sl (l : List Bs) : Nat := (l.map List.length).sum
def big1 (d : PD) : Nat := d.name.length + d.sys.length + d.bld.length + 10 * (d.outs.length + d.ins.length + d.srcs.length + d.env.length + d.args.length)
def big2 (d : PD) : Nat := big1 d + (d.env.map fun v => v.name.length + v.val.length).sum + sl d.args + (d.ins.map fun x => x.drv.length + 10 * x.outs.length).sum + (d.outs.map fun o => o.name.length + o.path.length).sum + sl d.srcs
def heavyP (d : PD) : Bool := decide (4000 < big1 d) || decide (16000 < big2 d)
theorem sl_map_le {α : Type} (f g : α → Nat) (k : Nat) (l : List α) (h : ∀ x ∈ l, f x ≤ 2 * g x + k) : (l.map f).sum ≤ 2 * (l.map g).sum + k * l.length := by
  induction l with
  | nil => simp
  | cons a l ih =>
    have h1 := h a (by simp)
    have h2 := ih fun x hx => h x (by simp [hx])
    simp only [List.map_cons, List.sum_cons, List.length_cons, Nat.mul_add, Nat.mul_one]
    omega
theorem qt_le (s : Bs) : (qt s).length ≤ 2 * s.length + 2 := by
  have := es_len s
  rw [qt_len]
  omega
theorem tTs_le (l : List Bs) : (tTs l).length ≤ 2 * sl l + 3 * l.length + 2 := by
  have h := cms_len (l.map qt)
  have h2 : ((l.map qt).map List.length).sum ≤ 2 * sl l + 2 * l.length := by
    rw [List.map_map]
    exact sl_map_le _ _ 2 l fun x _ => qt_le x
  rw [List.length_map] at h
  simp only [tTs, lst, List.length_append, List.length_cons, List.length_nil]
  omega
theorem lst_le {α : Type} (f : α → Bs) (g : α → Nat) (k : Nat) (l : List α) (h : ∀ x ∈ l, (f x).length ≤ 2 * g x + k) (o c : UInt8) : (lst [o] (l.map f) [c]).length ≤ 2 * (l.map g).sum + (k + 1) * l.length + 2 := by
  have h1 := cms_len (l.map f)
  have h2 : ((l.map f).map List.length).sum ≤ 2 * (l.map g).sum + k * l.length := by
    rw [List.map_map]
    exact sl_map_le _ _ k l h
  rw [List.length_map] at h1
  simp only [lst, List.length_append, List.length_cons, List.length_nil, Nat.add_mul, Nat.one_mul]
  omega
theorem tup_le (l : List Bs) : (tup l).length ≤ sl l + l.length + 2 := by
  have h1 := cms_len l
  simp only [tup, lst, List.length_append, List.length_cons, List.length_nil, sl]
  omega
theorem tO_le (o : PO) : (tO o).length ≤ 2 * (o.name.length + o.path.length) + 170 := by
  have h := tup_le [qt o.name, qt o.path, qt (if o.fixed then sSha else []), qt (if o.fixed then hex o.hash.1 else [])]
  have h1 := qt_le o.name
  have h2 := qt_le o.path
  have h3 := qt_le (if o.fixed then sSha else [])
  have h4 := qt_le (if o.fixed then hex o.hash.1 else [])
  have hh : (hex o.hash.1).length ≤ 64 := by rw [hexL]; exact Nat.le_refl _
  have h5 : (if o.fixed then sSha else []).length ≤ 6 := by split <;> simp
  have h6 : (if o.fixed then hex o.hash.1 else []).length ≤ 64 := by split <;> simp [hh]
  simp only [sl, List.map_cons, List.map_nil, List.sum_cons, List.sum_nil, List.length_cons, List.length_nil] at h
  unfold tO
  omega
theorem tV_le (v : PV) : (tV v).length ≤ 2 * (v.name.length + v.val.length) + 10 := by
  have h := tup_le [qt v.name, qt v.val]
  have h1 := qt_le v.name
  have h2 := qt_le v.val
  simp only [sl, List.map_cons, List.map_nil, List.sum_cons, List.sum_nil, List.length_cons, List.length_nil] at h
  unfold tV
  omega
theorem sl_le80 {l : List Bs} (h : ∀ x ∈ l, x.length ≤ 80) : sl l ≤ 80 * l.length := by
  induction l with
  | nil => simp [sl]
  | cons a l ih =>
    have h1 := h a (by simp)
    have h2 := ih fun x hx => h x (by simp [hx])
    simp only [sl, List.map_cons, List.sum_cons, List.length_cons, Nat.mul_add, Nat.mul_one] at h2 ⊢
    omega
theorem tI_le (x : PI) (h : ∀ o ∈ x.outs, o.length ≤ 80) : (tI x).length ≤ 2 * (100 * (x.drv.length + 10 * x.outs.length)) + 10 := by
  have h0 := tup_le [qt x.drv, tTs x.outs]
  have h1 := qt_le x.drv
  have h2 := tTs_le x.outs
  have h3 := sl_le80 h
  simp only [sl, List.map_cons, List.map_nil, List.sum_cons, List.sum_nil, List.length_cons, List.length_nil] at h0
  unfold tI
  unfold sl at h2 h3
  omega
theorem chkN_len {l : List Bs} (h : firstE (chkN l) l.length = 0) : ∀ o ∈ l, o.length ≤ 80 := fun o ho => by
  obtain ⟨i, hi, rfl⟩ := List.getElem_of_mem ho
  have := firstE_all h i hi
  unfold chkN at this
  have hg : l.getD i [] = l[i] := by rw [List.getD_eq_getElem?_getD, List.getElem?_eq_getElem hi]; rfl
  split at this
  · rename_i hn
    rw [hg] at hn
    exact (isName_len hn).2
  · cases this
theorem chkI_outs {l : List PI} (h : chkIns l = 0) : ∀ x ∈ l, ∀ o ∈ x.outs, o.length ≤ 80 := fun x hx => by
  obtain ⟨i, hi, rfl⟩ := List.getElem_of_mem hx
  have := firstE_all h i hi
  unfold chkI at this
  have hg : l.getD i i0 = l[i] := by rw [List.getD_eq_getElem?_getD, List.getElem?_eq_getElem hi]; rfl
  rw [hg] at this
  split at this
  · cases this
  · exact chkN_len this
theorem chk0_parts {d : PD} (h : chk0 d = 0) : isName d.name = true ∧ isName (d.name ++ sDrv) = true ∧ chkOuts d.outs = 0 ∧ chkIns d.ins = 0 ∧ firstE (chkS d.srcs) d.srcs.length = 0 ∧ firstE (chkV d.env) d.env.length = 0 := by
  unfold chk0 at h
  split at h
  · rename_i hn
    rw [Bool.and_eq_true] at hn
    rw [orE_zero, orE_zero, orE_zero] at h
    exact ⟨hn.1, hn.2, h.1, h.2.1, h.2.2.1, h.2.2.2⟩
  · cases h
theorem sum_mul {α : Type} (g : α → Nat) (k : Nat) (l : List α) : (l.map fun x => k * g x).sum = k * (l.map g).sum := by
  induction l with
  | nil => simp
  | cons a l ih => simp only [List.map_cons, List.sum_cons, ih, Nat.mul_add]
structure TB (d : PD) : Prop where
  o : (lst [91] (d.outs.map tO) [93]).length ≤ 100000000
  i : (lst [91] (d.ins.map tI) [93]).length ≤ 1000000000
  e : (lst [91] (d.env.map tV) [93]).length ≤ 100000000
  s : (tTs d.srcs).length ≤ 100000000
  a : (tTs d.args).length ≤ 100000000
  sm : big2 d ≤ 200000
  out : ∀ x ∈ d.ins, ∀ o ∈ x.outs, o.length ≤ 80
theorem tb_of {d : PD} (h : chkIns d.ins = 0) (hb : big2 d ≤ 200000) : TB d := by
  have h1 := lst_le tO (fun o : PO => o.name.length + o.path.length) 170 d.outs (fun x hx => tO_le x) 91 93
  have h2 := lst_le tI (fun x : PI => 100 * (x.drv.length + 10 * x.outs.length)) 10 d.ins (fun x hx => tI_le x (chkI_outs h x hx)) 91 93
  rw [sum_mul] at h2
  have h3 := lst_le tV (fun v : PV => v.name.length + v.val.length) 10 d.env (fun x _ => tV_le x) 91 93
  have h4 := tTs_le d.srcs
  have h5 := tTs_le d.args
  have hb' := hb
  unfold big2 big1 at hb
  generalize (d.env.map fun v => v.name.length + v.val.length).sum = n1 at *
  generalize (d.ins.map fun x => x.drv.length + 10 * x.outs.length).sum = n2 at *
  generalize (d.outs.map fun o => o.name.length + o.path.length).sum = n3 at *
  exact ⟨by omega, by omega, by omega, by omega, by omega, hb', chkI_outs h⟩
theorem dtext_le {d : PD} (h : TB d) : (dtext d).length ≤ 2000000000 := by
  have h0 := tup_le [qt d.name, lst [91] (d.outs.map tO) [93], lst [91] (d.ins.map tI) [93], tTs d.srcs, qt d.sys, qt d.bld, tTs d.args, lst [91] (d.env.map tV) [93]]
  have h1 := qt_le d.name
  have h2 := qt_le d.sys
  have h3 := qt_le d.bld
  obtain ⟨a1, a2, a3, a4, a5, a6, _⟩ := h
  unfold big2 big1 at a6
  simp only [sl, List.map_cons, List.map_nil, List.sum_cons, List.sum_nil, List.length_cons, List.length_nil] at h0
  unfold dtext
  rw [List.length_append]
  simp only [List.length_cons, List.length_nil]
  omega
end Go.Proofs.YtfeabbeebkkhaaaGreat
/-! Sx21 -/
namespace Go.Sx
open Go
set_option linter.unusedVariables false
variable {P : Program} {R : Ending → World → Prop} {env : Env} {b : Base} {S : List SH} {B : JB} {T : Tree} {v : Value} {ty : TypeId}
theorem run_meth {f : FuncId} {name : String} {x : Operand} {xs : Array Operand} {tys : Array TypeId} {o : Oper} {args args2 : List Value} (ho : o.op = .call ⟨.invoke x name, xs, tys⟩) (ha : ev env x :: xs.toList.map (ev env) = args)
    (hi : ∀ w, (invoke (.fn (.method name) #[]) args.toArray).run P w = .ok (.enter f args2.toArray) w) (w : World) : (execOp (ev env) o).run P w = .ok (.enter f args2.toArray) w := by
  simp only [execOp, ho, resolve, Sem.run_bind, Sem.run_pure, Result.andThen_ok]
  have e : (#[ev env x] ++ xs.map (ev env) : Array Value) = args.toArray := by
    rw [← ha]; apply Array.ext'; simp
  rw [e]
  exact hi w
theorem qs_meth {o : Oper} {f : FuncId} {name : String} {x : Operand} {xs : Array Operand} {tys : Array TypeId} {args args2 : List Value} (ho : o.op = .call ⟨.invoke x name, xs, tys⟩) (ha : ev env x :: xs.toList.map (ev env) = args)
    (hi : ∀ w, (invoke (.fn (.method name) #[]) args.toArray).run P w = .ok (.enter f args2.toArray) w)
    (hc : ∀ w, Sig b S w → Con P f args2 w [] fun u _ => u = v) : QS P o env b S v := fun w hw => by
  unfold qAt
  rw [run_meth ho ha hi w]
  refine ⟨rfl, (hc w hw (by simp) (by simp)).mono ?_⟩
  rintro e w' ⟨u, S', rfl, rfl, hS⟩
  refine ⟨rfl, ?_⟩
  have := Sig.call (Fp := []) (Fr := S.flatten) (S2 := S'.flatten :: S) hw (by simp) hS (by simp)
  exact this.sub (by simp)
theorem qs_mkfuncF {f : FuncId} {x : Operand} {v : Value} (hx : ev env x = v) : QS P (O (.makeFunc (.func f) #[x] #[]) ty) env b S (.func (.func f) #[v] #[]) := by
  have := qs_mkfunc (P := P) (env := env) (b := b) (S := S) (ty := ty) (f := f) (xs := #[x]) (ys := #[])
  simpa [hx] using this
end Go.Sx
/-! Sx20 -/
namespace Go.Sx
open Go Go.MapKept Go.WideMaps Go.Maps
set_option linter.unusedVariables false
set_option linter.unusedSimpArgs false
set_option linter.unusedSectionVars false
variable {P : Program} {R : Ending → World → Prop} {env : Env} {b : Base} {S : List SH} {B : JB} {T : Tree} {v : Value} {ty : TypeId}
end Go.Sx
