/- Part 6. -/
import Derived.Test.YtfeabbeebkkhaaaGreatPN3
import Derived.Test.YtfeabbeebkkhaaaGreatPN4
import Derived.Test.YtfeabbeebkkhaaaGreatPN5
import Derived.RangeFuncBox
import Derived.RangeFuncLeaves
import Derived.Shelf.Abstract
import Derived.WalkKit
import Derived.OwnWalkIn
import Derived.TacticsInMore
import Derived.LoopNIn
import Derived.LoopIn
import Derived.Sort.EncStr
import Derived.Test.YtfeabbeebkkhaaaGreatProg
import Derived.Maps.AppendAt
/-! Srk -/
namespace Go.Proofs.YtfeabbeebkkhaaaGreat
open Go Go.Sx
set_option maxRecDepth 100000
set_option maxHeartbeats 4000000
set_option linter.unusedVariables false
set_option linter.unusedSimpArgs false
attribute [local irreducible] J JQ QS Con W opW
open Go.MapKept Go.WideMaps Go.Maps Go.RowKit Go.Shelf Go.Sort
abbrev strEnc : List UInt8 → Value := fun l => .string (bs l)
abbrev strOk : List UInt8 → Prop := fun l => l.length ≤ 9223372036854775807
theorem sortedKeys_at {H : Type} (Bs b nn : Nat) (D0 : DataW H) (R : Value → Option (DataW H × List MemPlace)) (W : World) (hBs : Bs < W.heap.size) (hc : W.cell? ⟨Bs, 0, none⟩ = some (.map (some b))) (hown : W.ownsMap Tryz.prog 49 R b nn D0) (hmax : Maps.size D0 ≤ maxLen) (hbytes : Maps.size D0 * 16 ≤ 140737488355328) :
  CallsIn Fence.wide 5 Tryz.prog 56 #[.func (.func 108) #[] #[.pointer (some ⟨Bs, 0, none⟩)]] W fun e w' => ∃ (v : Value) (ss : List (List UInt8)), e = .returned v ∧ ss.Perm (strKeys D0) ∧
   w'.ownsRow W.heap.size 49 1 v ss.length ((ss.mergeSort (fun x y => decide (x ≤ y))).map encStr) ∧ (v = .slice none 0 0 ↔ ss = []) ∧ Go.RowKit.Below W.heap.size W w' :=
 AnyZ.sorted_in Tryz.sorted56 Fence.wide 5 trivial trivial trivial trivial rfl (by omega) (Tryz.sorts56 _) (enters_of Tryz.func107 (by kernel_rfl) rfl) 108 #[.pointer (some ⟨Bs, 0, none⟩)] trivial (enters_of Tryz.func108 (by kernel_rfl) rfl) _ _ hmax hbytes _
  (AnyZ.keys_gives (ρ := Tryz.keys57_ren) { Tryz.keys57 with } Fence.wide _ trivial rfl (by omega) Bs b nn D0 W hBs hc hown)
theorem sortedKeys_con (Bs b : Nat) {es : Array MapEntry} {clock : Nat} {m : List (List UInt8 × Value)} (w : World) (hBs : Bs < w.heap.size) (hc : w.cell? ⟨Bs, 0, none⟩ = some (.map (some b))) (hb : w.heap[b]? = some (.map es clock)) (hm : MapOk strEnc strOk es clock m) (hsz : m.length ≤ 1000000000) :
  Con Tryz.prog 56 [.func (.func 108) #[] #[.pointer (some ⟨Bs, 0, none⟩)]] w [] fun v S' => ∃ c zs, S' = [c] ∧ Sx.Own 49 1 (strs zs) v c ∧ Strict zs ∧ ∀ x, x ∈ zs ↔ x ∈ m.map Prod.fst := by
 let R : Value → Option (DataW Unit × List MemPlace) := fun _ => some (.lit (.bool true), [])
 have hkey : ∀ l : List UInt8, l.length ≤ 9223372036854775807 → keyOf Tryz.prog 49 (.string (bs l)) = some (.string l) := fun l hl => by
  have : (bs l).size ≤ maxLen := hl
  simp [keyOf, U49, mapKey, this, bs_data]
 have hrd : ∀ x ∈ es.toList, ∃ p ∈ m, x.key = strEnc p.1 := fun x hx => by
  have : (x.key, x.val) ∈ m.map (fun p => (strEnc p.1, p.2)) := by rw [← hm.ents]; exact List.mem_map_of_mem (f := fun e : MapEntry => (e.key, e.val)) hx
  obtain ⟨p, hp, e1⟩ := List.mem_map.1 this
  injection e1 with e1 e2
  exact ⟨p, hp, e1.symm⟩
 have hrg : es.toList.map (WideElems.rg Tryz.prog 49 R) = m.map fun p => (Lit.string p.1, DataW.lit (.bool true)) := by
  have e1 : es.toList.map (WideElems.rg Tryz.prog 49 R) = (es.toList.map (fun e => (e.key, e.val))).map fun q => ((keyOf Tryz.prog 49 q.1).map fun k => (k, (DataW.lit (.bool true) : DataW Unit))).getD (.bool false, .nil) := by
   rw [List.map_map]
   refine List.map_congr_left fun x _ => ?_
   simp only [Function.comp, WideElems.rg, WideElems.rd, R, Option.map_some]
   cases keyOf Tryz.prog 49 x.key <;> rfl
  rw [e1, hm.ents, List.map_map]
  refine List.map_congr_left fun p hp => ?_
  simp only [Function.comp, strEnc, hkey p.1 (hm.keys p hp), Option.map_some, Option.getD_some]
 have hfit : WideElems.Fit Tryz.prog 49 R es clock := ⟨by rw [hm.size]; simp only [maxLen]; omega, hm.stamped, fun x hx => by
  obtain ⟨p, hp, e1⟩ := hrd x hx
  exact ⟨(.string p.1, .lit (.bool true)), by simp only [WideElems.rd, e1, strEnc, hkey p.1 (hm.keys p hp), Option.bind_some, R, Option.map_some]⟩⟩
 have hown : w.ownsMap Tryz.prog 49 R b es.size (.map ((es.toList.map (WideElems.rg Tryz.prog 49 R)).foldr DataW.insert [])) := ⟨es, clock, hb, hfit, Nat.le_refl _, rfl⟩
 have hperm := Go.WideShapes.sorted_perm (H := Unit) (es.toList.map (WideElems.rg Tryz.prog 49 R))
 have hsk : (strKeys (DataW.map ((es.toList.map (WideElems.rg Tryz.prog 49 R)).foldr DataW.insert []))).Perm (m.map Prod.fst) := by
  refine (hperm.map _).trans ?_
  rw [hrg, List.map_map]
  exact .of_eq (List.map_congr_left fun p _ => rfl)
 have hsize : Maps.size (DataW.map ((es.toList.map (WideElems.rg Tryz.prog 49 R)).foldr DataW.insert [])) = m.length := by
  have h1 := hperm.length_eq
  have h2 : es.toList.length = m.length := by rw [Array.length_toList, hm.size]
  rw [List.length_map, h2] at h1
  exact h1
 have h := (callsIn_wide (n := 5)).1 (sortedKeys_at Bs b es.size _ R w hBs hc hown (by rw [hsize]; simp only [maxLen]; omega) (by rw [hsize]; omega))
 have hc2 : Con Tryz.prog 56 [.func (.func 108) #[] #[.pointer (some ⟨Bs, 0, none⟩)]] w [] fun v S' => ∃ c, S' = [c] ∧ Sx.Own 49 1 (strs (sortS (m.map Prod.fst))) v c := by
  refine con_of_own (n := (m.map Prod.fst).length) (h.mono ?_)
  rintro e w' ⟨v, ss, rfl, hp, hrow, _, hB⟩
  have hpp := hp.trans hsk
  refine ⟨v, rfl, ?_, hB⟩
  rw [hpp.length_eq, mergeSort_of_perm hpp] at hrow
  unfold sortS
  exact hrow
 refine hc2.mono ?_
 rintro v S' ⟨c, rfl, ho⟩
 refine ⟨c, _, rfl, ho, ?_, fun x => ?_⟩
 ·have hs := sortS_sorted (m.map Prod.fst)
  have hnd : (sortS (m.map Prod.fst)).Nodup := by
   unfold sortS
   exact (List.mergeSort_perm _ _).nodup_iff.2 hm.nodup
  unfold Strict
  unfold List.Nodup at hnd
  exact (hs.and hnd).imp fun h => lt_of_le_ne h.1 h.2
 ·unfold sortS
  exact List.mem_mergeSort
theorem keys_con (mb : Option Nat) (w : World) : Con Tryz.prog 57 [.map mb] w [] fun v S' => ∃ g, v = .func (.func 108) #[] #[.pointer (some ⟨g, 0, none⟩)] ∧ S' = [[(g, .cells [.map mb].toArray 106 (0, 0))]] := con_calls <| by
 refine ((callsIn_wide (n := 5)).1 (Tryz.maps_Keys_57 mb w)).mono ?_
 rintro e w' ⟨rfl, rfl⟩
 refine ⟨_, _, rfl, ⟨_, rfl, rfl⟩, ?_⟩
 have hs : Sig ⟨w, dom []⟩ [[]] w := ⟨rfl, rfl, rfl, Nat.le_refl _, by simp, by simp, by simp, fun _ _ _ => rfl⟩
 exact (hs.new (o := .cells [.map mb].toArray 106 (0, 0)) (w' := w.alloc (.cells #[.map mb] 106)) rfl rfl rfl rfl).1.sub (by simp)
end Go.Proofs.YtfeabbeebkkhaaaGreat
/-! Val -/
namespace Go.Proofs
open Go.RowKit Go.Shelf
attribute [local go_sem] Oper.semAt_some
def sv_upto {α : Type} (f : Nat → α) (k : Nat) : List α := (List.range k).map f
theorem sv_upto_succ {α : Type} (f : Nat → α) (k : Nat) : sv_upto f (k + 1) = sv_upto f k ++ [f k] := by simp [sv_upto, List.range_succ]
theorem sv_upto_length {α : Type} (f : Nat → α) (k : Nat) : (sv_upto f k).length = k := by simp [sv_upto]
theorem sv_upto_all (zs : List (List UInt8)) : sv_upto (fun j => zs[j]?.getD []) zs.length = zs := by
 apply List.ext_getElem
 ·simp [sv_upto]
 ·intro i h1 h2
  simp [sv_upto, h2]
set_option maxRecDepth 100000 in
set_option maxHeartbeats 2000000 in
theorem sv_values1_in (F : Fence) (n : Nat) (h7 : F.fn 163) (hro : F.round = none) (hn : 1 ≤ n) (l Bs n₀ b off len cap : Nat) (zs : List (List UInt8)) (hreach : len * 16 ≤ 140737488351232) (hb : b < n₀) (J Jx : List (List UInt8) → World → Prop)
  (hY : ∀ pre x W, J pre W → pre.length < len → YieldAt F (n - 1) Tryz.prog l #[encStr x] W fun e W' =>
   (e = .returned (.bool true) ∧ J (pre ++ [x]) W' ∧ Below n₀ W W') ∨ (e = .returned (.bool false) ∧ Jx (pre ++ [x]) W'))
  (W : World) (hBs : W.cell? ⟨Bs, 0, none⟩ = some (.slice (some ⟨b, off, none⟩) len cap)) (hc : ∀ j, j < len → W.cell? ⟨b, off + j, none⟩ = some (encStr (zs[j]?.getD []))) (h0 : J [] W) :
  CallsIn F n Tryz.prog 163 #[.func (.yield l) #[] #[], .pointer (some ⟨Bs, 0, none⟩)] W fun e W' => (∃ v, e = .returned v) ∧
   ((∃ ys, ys = sv_upto (fun j => zs[j]?.getD []) len ∧ J ys W') ∨ (∃ pre, (∃ k, k ≤ len ∧ pre = sv_upto (fun j => zs[j]?.getD []) k) ∧ Jx pre W')) := by
 refine callsIn_of_wp Tryz.func163 rfl h7 ?_ hro
 simp only [Tryz.ntmps163, List.size_toArray, List.length_cons, List.length_nil, Nat.reduceAdd, Nat.reduceSub, Array.replicate_succ, Array.replicate_zero, List.push_toArray, List.append_toArray, List.nil_append, List.cons_append]
 gi_wp2
 gi_loopw [7] (fun i wr => ∃ k : Nat, k ≤ len ∧ i = .int .i64 k ∧ J (sv_upto (fun j => zs[j]?.getD []) k) wr ∧ Below n₀ W wr)
  (fun i _ => len - (intOf i).toNat)
 case atStart => exact ⟨0, Nat.zero_le _, rfl, h0, Below.refl _ _⟩
 case round =>
  obtain ⟨k, hk, rfl, hJs, hnx⟩ := hrel
  have hcx : k < len → wr.cell? ⟨b, off + k, none⟩ = some (encStr (zs[k]?.getD [])) := fun h => (hnx.cell (p := ⟨b, off + k, none⟩) hb).trans (hc k h)
  by_cases hlt : k < len
  ·obtain ⟨fn, tmps, assign, body, hy, hR⟩ := hY _ (zs[k]?.getD []) wr hJs (by rw [sv_upto_length]; exact hlt)
   have hcx' := hcx hlt
   gi_wp2
   refine hR.mono ?_
   rintro e W3 (⟨rfl, hJ3, hk3⟩ | ⟨rfl, hJx3⟩)
   ·-- THE ROUND GOES ON
    gi_wp2
    go_roundw
    case rel => exact ⟨k + 1, by omega, by simp, by rw [sv_upto_succ]; exact hJ3, hnx.trans hk3⟩
    case measure => simp [intOf]; omega
   ·gi_wp2
    refine bodyPost_ret (results_none rfl _ _ _) rfl ?_
    exact ⟨⟨_, rfl⟩, .inr ⟨_, ⟨k + 1, by omega, (sv_upto_succ _ _).symm⟩, hJx3⟩⟩
  ·obtain rfl : k = len := by omega
   gi_wp2
   go_end0
   exact ⟨⟨_, rfl⟩, .inl ⟨_, rfl, hJs⟩⟩
theorem sv_upto_take (zs : List (List UInt8)) {k : Nat} (hk : k ≤ zs.length) : sv_upto (fun j => zs[j]?.getD []) k = zs.take k := by
 apply List.ext_getElem
 ·simp [sv_upto, hk]
 ·intro i h1 h2
  have : i < zs.length := by simp [sv_upto] at h1; omega
  simp [sv_upto, this]
def SVals (n₀ : Nat) (W : World) (sv : Value) (zs : List (List UInt8)) : Prop :=
 (sv = .slice none 0 0 ∧ zs = []) ∨ ∃ b off cap, sv = .slice (some ⟨b, off, none⟩) zs.length cap ∧ b < n₀ ∧ ∀ j, j < zs.length → W.cell? ⟨b, off + j, none⟩ = some (encStr (zs[j]?.getD []))
theorem SVals.below {n₀ : Nat} {A B : World} (h : Below n₀ A B) {sv : Value} {zs : List (List UInt8)} : SVals n₀ A sv zs → SVals n₀ B sv zs
 | .inl e => .inl e
 | .inr ⟨b, off, cap, e, hb, hc⟩ => .inr ⟨b, off, cap, e, hb, fun j hj => (h.cell (p := ⟨b, off + j, none⟩) hb).trans (hc j hj)⟩
set_option maxRecDepth 100000 in
set_option maxHeartbeats 1000000 in
theorem sv_values1_nil_in (F : Fence) (n : Nat) (h7 : F.fn 163) (hro : F.round = none) (l Bs : Nat) (J : List (List UInt8) → World → Prop) (W : World) (hBs : W.cell? ⟨Bs, 0, none⟩ = some (.slice none 0 0)) (h0 : J [] W) :
  CallsIn F n Tryz.prog 163 #[.func (.yield l) #[] #[], .pointer (some ⟨Bs, 0, none⟩)] W fun e W' => (∃ v, e = .returned v) ∧ J [] W' := by
 refine callsIn_of_wp Tryz.func163 rfl h7 ?_ hro
 simp only [Tryz.ntmps163, List.size_toArray, List.length_cons, List.length_nil, Nat.reduceAdd, Nat.reduceSub, Array.replicate_succ, Array.replicate_zero, List.push_toArray, List.append_toArray, List.nil_append, List.cons_append]
 gi_wp2
 gi_loopw [7] (fun i wr => i = .int .i64 0 ∧ J [] wr) (fun _ _ => 0)
 case atStart => exact ⟨rfl, h0⟩
 case round =>
  obtain ⟨rfl, hJs⟩ := hrel
  gi_wp2
  go_end0
  exact ⟨⟨_, rfl⟩, hJs⟩
theorem sv_values_stops (F : Fence) (n : Nat) (h7 : F.fn 163) (hro : F.round = none) (hn : 1 ≤ n) (Bs n₀ : Nat) (sv : Value) (zs : List (List UInt8)) (hreach : zs.length * 16 ≤ 140737488351232) (w : World) (hBs : Bs < w.heap.size) (hn₀ : n₀ ≤ w.heap.size)
  (hc : w.cell? ⟨Bs, 0, none⟩ = some sv) (hI : SVals n₀ w sv zs) :
  SeqStopsK F n Tryz.prog 163 #[.pointer (some ⟨Bs, 0, none⟩)] (fun x : List UInt8 => #[encStr x]) (Below n₀) (fun ys => ys = zs) (fun pre => pre <+: zs) zs.length w := fun l J Jx W hW _ _ hY h0 => by
 have hc' := (hW.cell (p := ⟨Bs, 0, none⟩) hBs).trans hc
 rcases hI.below (hW.mono hn₀) with ⟨rfl, rfl⟩ | ⟨b, off, cap, rfl, hb, hcs⟩
 ·exact (sv_values1_nil_in F n h7 hro l Bs J W hc' h0).mono fun e W' ⟨he, hj⟩ => ⟨he, .inl ⟨_, rfl, hj⟩⟩
 ·refine (sv_values1_in F n h7 hro hn l Bs n₀ b off zs.length cap zs hreach hb J Jx hY W hc' hcs h0).mono ?_
  rintro e W' ⟨he, ⟨ys, rfl, hj⟩ | ⟨pre, ⟨k, hk, rfl⟩, hj⟩⟩
  ·exact ⟨he, .inl ⟨_, sv_upto_all zs, hj⟩⟩
  ·exact ⟨he, .inr ⟨_, by rw [sv_upto_take zs hk]; exact List.take_prefix _ _, hj⟩⟩
end Go.Proofs
/-! Col -/
namespace Go.Proofs
open Go.RowKit Go.Shelf
attribute [local go_sem] Oper.semAt_some
theorem Tryz.info49s : (Tryz.prog.info? 49).map (fun i => (i.zero, i.size, i.bytes)) = some (some (.string ⟨#[]⟩), 1, 16) := by kernel_rfl
set_option maxRecDepth 100000 in
set_option maxHeartbeats 4000000 in
theorem appendSeq_in (F : Fence) (n : Nat) (h137 : F.fn 137) (h163 : F.fn 163) (hro : F.round = none) (hn : 2 ≤ n) (Bs : Nat) (sv : Value) (zs : List (List UInt8)) (hreach : zs.length * 16 ≤ 140737488351232) (w : World) (hBs : Bs < w.heap.size)
  (hcs : w.cell? ⟨Bs, 0, none⟩ = some sv) (hI : SVals w.heap.size w sv zs) :
  CallsIn F n Tryz.prog 137 #[.slice none 0 0, .func (.func 163) #[] #[.pointer (some ⟨Bs, 0, none⟩)]] w fun e W' => ∃ v, e = .returned v ∧ W'.ownsRow w.heap.size 49 1 v zs.length (zs.map encStr) ∧ Below w.heap.size w W' := by
 have h1 : 1 ≤ n := by omega
 obtain ⟨i0, hi, hz0, hz1, hz2⟩ := info_parts Tryz.info49s
 refine callsIn_of_wp_marks Tryz.func137 rfl h137 ?_ hro
 simp only [Tryz.ntmps137, List.size_toArray, List.length_cons, List.length_nil, Nat.reduceAdd, Nat.reduceSub, Array.replicate_succ, Array.replicate_zero, List.push_toArray, List.append_toArray, List.nil_append, List.cons_append]
 gi_wp2
 have bO := Boxed.new w 25 (.slice none 0 0)
 have hB0 : Below w.heap.size w (w.alloc (.cells #[.slice none 0 0] 25)) := (Below.refl _ w).alloc (Nat.le_refl _) _
 refine wpIn_rangeFunc_ownG hro h1 (gf := 163) (lb := #[.pointer (some ⟨Bs, 0, none⟩)]) rfl h163 (enters_of Tryz.func163 (by kernel_rfl) rfl)
  (sv_values_stops F (n - 1) h163 hro (by omega) Bs w.heap.size sv zs hreach _ (by simp; omega) (by simp) ((hB0.cell (p := ⟨Bs, 0, none⟩) hBs).trans hcs) (hI.below hB0)) belowK_t (belowK_b (by simp)) (Below.refl _ _) (fun _ => rfl)
  (fun pre W => (∃ v, Boxed W w.heap.size 25 v ∧ W.ownsRow w.heap.size 49 1 v pre.length (pre.map encStr) ∧ (v = .slice none 0 0 ↔ pre = [])) ∧ Below w.heap.size w W)
  (fun _ _ _ => False)
  (OwnFrom.and (Own.from (holdsRow_own w.heap.size w.heap.size 25 49 1 (fun pre => pre.length) (fun pre => pre.map encStr) (fun pre v => v = .slice none 0 0 ↔ pre = [])) _) (ownFrom_below (Nat.le_refl _) (by simp)))
  (fun _ _ _ _ _ hs _ _ => hs)
  ⟨⟨_, bO, World.ownsRow_nil _ _ _ _, by simp⟩, hB0⟩
  (fun x => { tmps := #[.slice none 0 0, .func (.func 163) #[] #[.pointer (some ⟨Bs, 0, none⟩)], .pointer (some ⟨w.heap.size, 0, none⟩), undef, .slice none 0 0, encStr x, .func (.func 163) #[] #[.pointer (some ⟨Bs, 0, none⟩)], encStr x, undef, undef, undef, undef, undef], defers := [] }) ?assign ?body ?done ?stop
 case assign =>
  intro l x W K hK
  gi_wp2
  exact hK
 case body =>
  rintro l pre x W ⟨⟨v, hv, hrow, hnil⟩, hB⟩ hlt
  have hc := hv.cell
  gi_wp2_with (gi_at_builtin; refine wpListIn_append_own _ rfl _ _ 25 rfl w.heap.size 49 i0 (.string ⟨#[]⟩) 1 16 Tryz.underlying25 hi hz0 hz1 hz2 rfl (by decide) _ _ _ rfl (hrow.alloc _) ⟨W.heap.size, 0, none⟩ 1 1 [encStr x] rfl rfl (cell_one_new _ _ _) (by simp [Value.oneCell']) (by simp only [maxLen]; omega) (by omega) (by have := hB.size; simp; omega) ?_; intro v' w1 hown' hgrow _; obtain ⟨g', cap', rfl⟩ := ownsRow_succ hown'; obtain ⟨hv1, hv2, hr2, hk2, hb2⟩ := hv.appended (by decide) hrow hB.size (Nat.le_refl _) hown' hgrow; have hc1 := hv1.cell; have hf1 := hv1.frozen)
  exact ⟨hk2.from _, hb2, ⟨_, hv2, by simpa using hr2, by simp⟩, hB.trans hb2⟩
 case done =>
  rintro D ys W hD rfl ⟨⟨v, hv, hrow, hnil⟩, hB⟩ hK
  have hc := hv.cell
  gi_wp2
  refine ⟨by simp, .inl ⟨_, _, rfl, run_takeDeferred hK, ?_⟩⟩
  exact ⟨_, results_tmp rfl _ _ _, v, rfl, ownsRow_putObj hrow _ hK rfl, hB.trans (belowK_b (w := w) (Nat.le_refl _) W D _ _ (by simp at hD; omega) hK rfl rfl)⟩
 case stop =>
  rintro D c pre W _ _ h _
  exact h.elim
end Go.Proofs
/-! SrtB -/
namespace Go.Proofs.YtfeabbeebkkhaaaGreat
open Go Go.Sx
set_option maxRecDepth 100000
set_option maxHeartbeats 4000000
set_option linter.unusedVariables false
set_option linter.unusedSimpArgs false
attribute [local irreducible] J JQ QS Con W opW
theorem svals_sig {w w' : World} {S : List SH} {sv : Value} {zs : List (List UInt8)} (hI : SVals w.heap.size w sv zs) (h : Sig ⟨w, dom []⟩ S w') : SVals w'.heap.size w' sv zs := by
 rcases hI with ⟨rfl, rfl⟩ | ⟨b, off, cap, rfl, hb, hc⟩
 ·exact .inl ⟨rfl, rfl⟩
 ·exact .inr ⟨b, off, cap, rfl, Nat.lt_of_lt_of_le hb h.size, fun j hj => h.ro (a := ⟨b, off + j, none⟩) (hc j hj) (by simp)⟩
theorem appendSeq_con (Bs : Nat) (sv : Value) (zs : List (List UInt8)) (w : World) (hreach : zs.length * 16 ≤ 140737488351232) (hBs : Bs < w.heap.size) (hcs : w.cell? ⟨Bs, 0, none⟩ = some sv) (hI : SVals w.heap.size w sv zs) : Con Tryz.prog 137 [.slice none 0 0, .func (.func 163) #[] #[.pointer (some ⟨Bs, 0, none⟩)]] w [] fun v S' => ∃ c, S' = [c] ∧ Sx.Own 49 1 (strs zs) v c :=
 con_of_own (n := zs.length) (xs := strs zs) ((callsIn_wide (n := 6)).1 (appendSeq_in Fence.wide 6 trivial trivial rfl (by omega) Bs sv zs hreach w hBs hcs hI))
theorem sort_con {e : TypeId} {ss : List (List UInt8)} {v : Value} {c : SH} (ho : Sx.Own e 1 (strs ss) v c) (hsz : ss.length < 4611686018427387904) (w : World) : Con Tryz.prog 107 [v] w c fun u S' => u = .tuple #[] ∧ ∃ c', S' = [c'] ∧ Sx.Own e 1 (strs (sortS ss)) v c' :=
 con_sort_own (fun blk off cap ss w hH hblk hsz => AnyM.slices_Sort_string Tryz.sort107 blk off cap ss w hH hblk hsz) (fun p cap w => AnyM.slices_Sort_string_none Tryz.sort107 p cap w) ho hsz w
theorem values_con (A : Option Addr) (n c : Nat) (w : World) : Con Tryz.prog 141 [.slice A n c] w [] fun v S' => ∃ g, v = .func (.func 163) #[] #[.pointer (some ⟨g, 0, none⟩)] ∧ S' = [[(g, .cells [.slice A n c].toArray 25 (0, 0))]] := by
 refine con_of_tree mix Tryz.func141 T141_ok (by kernel_rfl) ?_
 unfold T141
 refine j_box (l := [.slice A n c]) rfl (fun g0 hg0 hs0 => ?_)
 refine j_q (qs_ac) ?_
 refine j_q (qs_makefunc (fv := []) (cv := [.pointer (some ⟨g0, 0, none⟩)]) rfl rfl) ?_
 refine j_sub (S' := [[(g0, .cells [.slice A n c].toArray 25 (0, 0))]]) (by simp) ?_
 refine j_ret_con (vs := [_]) (fun w' hw' => ⟨rfl, trivial⟩) ?_
 exact ⟨_, rfl, rfl⟩
theorem collect_con (Bs : Nat) (sv : Value) (zs : List (List UInt8)) (w : World) (hreach : zs.length * 16 ≤ 140737488351232) (hBs : Bs < w.heap.size) (hcs : w.cell? ⟨Bs, 0, none⟩ = some sv) (hI : SVals w.heap.size w sv zs) : Con Tryz.prog 106 [.func (.func 163) #[] #[.pointer (some ⟨Bs, 0, none⟩)]] w [] fun v S' => ∃ c, S' = [c] ∧ Sx.Own 49 1 (strs zs) v c := by
 refine con_of_tree mix Tryz.func106 T106_ok (by kernel_rfl) ?_
 unfold T106
 refine j_q (qs_ac) ?_
 refine j_call0 ent137 rfl rfl rfl (fun w' hw' => appendSeq_con Bs sv zs w' hreach (Nat.lt_of_lt_of_le hBs hw'.size) (hw'.ro (a := ⟨Bs, 0, none⟩) hcs (by simp)) (svals_sig hI hw')) (fun u S2 hu => ?_)
 obtain ⟨c1, rfl, ho1⟩ := hu
 refine j_sub (S' := [c1]) (by simp) ?_
 refine j_ret_con (vs := [_]) (fun w' hw' => ⟨rfl, trivial⟩) ?_
 exact ⟨_, rfl, ho1⟩
theorem sorted_con (Bs : Nat) (sv : Value) (zs : List (List UInt8)) (w : World) (hreach : zs.length * 16 ≤ 140737488351232) (hBs : Bs < w.heap.size) (hcs : w.cell? ⟨Bs, 0, none⟩ = some sv) (hI : SVals w.heap.size w sv zs) : Con Tryz.prog 56 [.func (.func 163) #[] #[.pointer (some ⟨Bs, 0, none⟩)]] w [] fun v S' => ∃ c, S' = [c] ∧ Sx.Own 49 1 (strs (sortS zs)) v c := by
 refine con_of_tree mix Tryz.func56 T56_ok (by kernel_rfl) ?_
 unfold T56
 refine j_q (qs_ac) ?_
 refine j_call0 ent106 rfl rfl rfl (fun w' hw' => collect_con Bs sv zs w' hreach (Nat.lt_of_lt_of_le hBs hw'.size) (hw'.ro (a := ⟨Bs, 0, none⟩) hcs (by simp)) (svals_sig hI hw')) (fun u S2 hu => ?_)
 obtain ⟨c1, rfl, ho1⟩ := hu
 refine j_call 0 ent107 rfl rfl rfl rfl (fun w' hw' => sort_con ho1 (by omega) w') (fun u2 S2 hu => ?_)
 obtain ⟨rfl, c2, rfl, ho2⟩ := hu
 refine j_sub (S' := [c2]) (by simp) ?_
 refine j_ret_con (vs := [_]) (fun w' hw' => ⟨rfl, trivial⟩) ?_
 exact ⟨_, rfl, ho2⟩
end Go.Proofs.YtfeabbeebkkhaaaGreat
/-! Sha1 -/
namespace Go.Proofs.YtfeabbeebkkhaaaGreat
open Go Go.Sx
set_option maxRecDepth 100000
set_option maxHeartbeats 4000000
set_option linter.unusedVariables false
set_option linter.unusedSimpArgs false
attribute [local irreducible] J JQ QS Con W opW
theorem bw_or_comm (k : IntKind) (m n : Int) : bw .or k m n = bw .or k n m := by
 unfold bw
 rw [BitVec.or_comm]
theorem and31 (n : Int) (h0 : 0 < n) (h1 : n < 32) : bw .and .u64 (IntKind.u64.wrap (-n)) 31 = 32 - n := by
 have : ∀ k : Fin 32, 0 < k.val → bw .and .u64 (IntKind.u64.wrap (-(k.val : Int))) 31 = 32 - (k.val : Int) := by decide +kernel
 have := this ⟨n.toNat, by omega⟩ (by show 0 < n.toNat; omega)
 simp only [Int.toNat_of_nonneg (Int.le_of_lt h0)] at this
 exact this
theorem rot_con (a n : Int) (w : World) (h0 : 0 < n) (h1 : n < 32) : Con Tryz.prog 151 [.int .u32 a, .int .i64 (-n)] w [] fun v _ => v = .int .u32 (rotr a n) := by
 refine con_of_tree mix Tryz.func151 T151_ok (by kernel_rfl) ?_
 unfold T151
 refine j_q (qs_ac) ?_
 refine j_q (qs_conv U3 U152 rfl) ?_
 refine j_q (qs_and_ rfl rfl) ?_
 rw [and31 n h0 h1]
 refine j_q (qs_shl rfl rfl (by omega)) ?_
 refine j_q (qs_sub rfl rfl) ?_
 rw [IntWalk.u64_in _ (by omega)]
 have e32 : 32 - (32 - n) = n := by omega
 rw [e32]
 refine j_q (qs_shr rfl rfl (by omega)) ?_
 refine j_q (qs_or_ rfl rfl) ?_
 refine j_ret_con (vs := [_]) (fun w' hw' => ⟨rfl, trivial⟩) ?_
 rfl
theorem turn_con (a n : Int) (w : World) (h0 : 0 < n) (h1 : n < 32) : Con Tryz.prog 134 [.int .u32 a, .int .i64 n] w [] fun v _ => v = .int .u32 (rotr a n) := by
 refine con_of_tree mix Tryz.func134 T134_ok (by kernel_rfl) ?_
 unfold T134
 refine j_q (qs_ac) ?_
 refine j_q (qs_neg rfl) ?_
 rw [IntWalk.i64_in _ (by omega), Int.zero_sub]
 refine j_q (qs_call ent151 rfl rfl rfl (fun w' hw' => rot_con a n w' h0 h1)) ?_
 refine j_ret_con (vs := [_]) (fun w' hw' => ⟨rfl, trivial⟩) ?_
 rfl
theorem r_con (a n : Int) (w : World) (h0 : 0 < n) (h1 : n < 32) : Con Tryz.prog 142 [.int .u32 a, .int .u64 n] w [] fun v _ => v = .int .u32 (rotr a n) := by
 refine con_of_tree mix Tryz.func142 T142_ok (by kernel_rfl) ?_
 unfold T142
 refine j_q (qs_ac) ?_
 refine j_q (qs_shr rfl rfl (by omega)) ?_
 refine j_q (qs_sub rfl rfl) ?_
 rw [IntWalk.u64_in _ (by omega)]
 refine j_q (qs_shl rfl rfl (by omega)) ?_
 refine j_q (qs_or_ rfl rfl) ?_
 refine j_ret_con (vs := [_]) (fun w' hw' => ⟨rfl, trivial⟩) ?_
 show Value.int _ _ = _
 congr 1
 exact bw_or_comm _ _ _
theorem numbers_con (w : World) : Con Tryz.prog 133 [] w [] fun v _ => v = .agg (ks .u32 kk64).toArray := by
 refine con_of_tree mix Tryz.func133 T133_ok (by kernel_rfl) ?_
 unfold T133
 refine j_alloc zero162 (fun g0 hg0 hs0 => ?_)
 refine j_q (qs_run (v := .agg (ks .u32 kk64).toArray) (fun w => by kernel_rfl)) ?_
 refine j_storew 0 sz162 rfl rfl rfl ks_one rfl rfl ?_
 refine j_ret_con (vs := [_]) (fun w' hw' => ⟨rv_agg 0 U162 rfl sz162 rfl rfl rfl hw', trivial⟩) ?_
 rfl
theorem k_con (w : World) : Con Tryz.prog 112 [] w [] fun v _ => v = .agg (ks .u32 kk64).toArray := by
 refine con_of_tree mix Tryz.func112 T112_ok (by kernel_rfl) ?_
 unfold T112
 refine j_alloc zero162 (fun g0 hg0 hs0 => ?_)
 refine j_q (qs_run (v := .agg (ks .u32 kk64).toArray) (fun w => by kernel_rfl)) ?_
 refine j_storew 0 sz162 rfl rfl rfl ks_one rfl rfl ?_
 refine j_ret_con (vs := [_]) (fun w' hw' => ⟨rv_agg 0 U162 rfl sz162 rfl rfl rfl hw', trivial⟩) ?_
 rfl
theorem begun_con (w : World) : Con Tryz.prog 100 [] w [] fun v _ => v = .agg (ks .u32 init8).toArray := by
 refine con_of_tree mix Tryz.func100 T100_ok (by kernel_rfl) ?_
 unfold T100
 refine j_alloc zero147 (fun g0 hg0 hs0 => ?_)
 refine j_q (qs_run (v := .agg (ks .u32 init8).toArray) (fun w => by kernel_rfl)) ?_
 refine j_storew 0 sz147 rfl rfl rfl ks_one rfl rfl ?_
 refine j_ret_con (vs := [_]) (fun w' hw' => ⟨rv_agg 0 U147 rfl sz147 rfl rfl rfl hw', trivial⟩) ?_
 rfl
end Go.Proofs.YtfeabbeebkkhaaaGreat
/-! Sha2 -/
namespace Go.Proofs.YtfeabbeebkkhaaaGreat
open Go Go.Sx
set_option maxRecDepth 100000
set_option maxHeartbeats 4000000
set_option linter.unusedVariables false
set_option linter.unusedSimpArgs false
attribute [local irreducible] J JQ QS Con W opW
theorem add_block (a : Addr) (n : Nat) : (a.add n).block = a.block := by unfold Addr.add; split <;> rfl
theorem add_add (a : Addr) (n j : Nat) : (a.add n).add j = a.add (n + j) := by
 obtain ⟨g, o, sp⟩ := a
 unfold Addr.add
 by_cases h1 : n = 0
 ·subst h1; simp
 ·by_cases h2 : j = 0
  ·subst h2; simp
  ·have h3 : n + j ≠ 0 := by omega
   simp [h1, h2, h3, Nat.add_assoc]
theorem cells_drop {w : World} {a : Addr} {vs : List Value} (h : Cells w a vs) (n : Nat) : Cells w (a.add n) (vs.drop n) := fun j u hu => by
 rw [add_add]
 exact h _ _ (by rwa [List.getElem?_drop] at hu)
theorem cells_take {w : World} {a : Addr} {vs : List Value} (h : Cells w a vs) (n : Nat) : Cells w a (vs.take n) := fun j u hu => by
 rw [List.getElem?_take] at hu
 split at hu
 ·exact h _ _ hu
 ·cases hu
theorem ints_drop (l : List UInt8) (n : Nat) : (ints l).drop n = ints (l.drop n) := by simp [ints, List.map_drop]
theorem ints_take (l : List UInt8) (n : Nat) : (ints l).take n = ints (l.take n) := by simp [ints, List.map_take]
theorem back_le {n i : Nat} (h : i < n) : n - (i + 1) < n - i := by omega
theorem block_con (s : List Int) (p : List UInt8) (a : Addr) (c gk : Nat) (w : World) (hs : s.length = 8) (hp : p.length = 64) (hpc : Cells w a (ints p)) (hk : Cells w ⟨gk, 0, none⟩ (ks .u32 kk64)) : Con Tryz.prog 113 [.agg (ks .u32 s).toArray, .slice (some a) 64 c, .pointer (some ⟨gk, 0, none⟩)] w [] fun v _ => v = .agg (ks .u32 (block p s)).toArray := by
 refine con_of_tree mix Tryz.func113 T113_ok (by kernel_rfl) ?_
 unfold T113
 have hkl : kk64.length = 64 := rfl
 refine j_box rfl (fun g0 hg0 hs0 => ?_)
 refine j_alloc zero146 (fun g1 hg1 hs1 => ?_)
 refine j_alloc zero162 (fun g2 hg2 hs2 => ?_)
 refine j_q (qs_ac) ?_
 refine j_loop (fun m vs S' => ∃ (i : Nat) (ws : List Int), vs = [.int .i64 i] ∧ S' = [[(g2, .cells (ks .u32 ws).toArray 162 (0, 0))], [(g1, .cells (ks .u32 (List.replicate 8 0)).toArray 146 (0, 0))], [(g0, .cells (ks .u32 s).toArray 146 (0, 0))], []] ∧ i ≤ 16 ∧ ws.length = 64 ∧ m = 16 - i ∧ ws.take i = sched p i) ⟨_, 0, _, rfl, rfl, by omega, by simp, rfl, rfl⟩ ?_
 rintro m vs S' hlen ⟨i, ws, rfl, rfl, hi, hwl, rfl, hws⟩
 refine j_q (qs_lss rfl rfl) ?_
 refine j_cond rfl (fun hc0 => ?_) (fun hc0 => ?_)
 ·skip
  have hi1 : i < 16 := by
   simp only [bnA] at *
   omega
  refine j_draw ?_
  refine jq_q (qs_mul64 rfl rfl (by omega)) ?_
  refine jq_q (qs_ixl0 U46 sz5 rfl rfl ⟨(by omega), (by omega)⟩) ?_
  refine jq_q (qs_loadr8 (rd_cells hpc (by simp)) U5 rfl (by omega)) ?_
  refine jq_q (qs_conv U5 U145 rfl) ?_
  refine jq_q (qs_shl rfl rfl (by omega)) ?_
  refine jq_q (qs_mul64 rfl rfl (by omega)) ?_
  refine jq_q (qs_add64 rfl rfl (by omega)) ?_
  refine jq_q (qs_ixl0 U46 sz5 rfl rfl ⟨(by omega), (by omega)⟩) ?_
  refine jq_q (qs_loadr8 (rd_cells hpc (by simp)) U5 rfl (by omega)) ?_
  refine jq_q (qs_conv U5 U145 rfl) ?_
  refine jq_q (qs_shl rfl rfl (by omega)) ?_
  refine jq_q (qs_or_ rfl rfl) ?_
  refine jq_q (qs_mul64 rfl rfl (by omega)) ?_
  refine jq_q (qs_add64 rfl rfl (by omega)) ?_
  refine jq_q (qs_ixl0 U46 sz5 rfl rfl ⟨(by omega), (by omega)⟩) ?_
  refine jq_q (qs_loadr8 (rd_cells hpc (by simp)) U5 rfl (by omega)) ?_
  refine jq_q (qs_conv U5 U145 rfl) ?_
  refine jq_q (qs_shl rfl rfl (by omega)) ?_
  refine jq_q (qs_or_ rfl rfl) ?_
  refine jq_q (qs_mul64 rfl rfl (by omega)) ?_
  refine jq_q (qs_add64 rfl rfl (by omega)) ?_
  refine jq_q (qs_ixl0 U46 sz5 rfl rfl ⟨(by omega), (by omega)⟩) ?_
  refine jq_q (qs_loadr8 (rd_cells hpc (by simp)) U5 rfl (by omega)) ?_
  refine jq_q (qs_conv U5 U145 rfl) ?_
  refine jq_q (qs_or_ rfl rfl) ?_
  refine jq_q (qs_ix0 U162 sz145 rfl rfl ⟨(by omega), (by omega)⟩) ?_
  refine jq_nil ?_
  refine j_storek 0 sz145 rfl rfl rfl (by omega) ?_
  refine j_q (qs_add64 rfl rfl (by omega)) ?_
  refine j_back rfl ?_
  exact ⟨_, back_le hi1, i + 1, _, rfl, rfl, by omega, by simpa using hwl, rfl, sched_word hws hi1 (by omega)⟩
 ·skip
  have hi1 : i = 16 := by
   simp only [bnA] at *
   omega
  subst hi1
  refine j_q (qs_ac) ?_
  refine j_loop (fun m vs S' => ∃ (i : Nat) (ws : List Int), vs = [.int .i64 i] ∧ S' = [[(g2, .cells (ks .u32 ws).toArray 162 (0, 0))], [(g1, .cells (ks .u32 (List.replicate 8 0)).toArray 146 (0, 0))], [(g0, .cells (ks .u32 s).toArray 146 (0, 0))], []] ∧ 16 ≤ i ∧ i ≤ 64 ∧ ws.length = 64 ∧ m = 64 - i ∧ ws.take i = sched p i) ⟨_, 16, _, rfl, rfl, by omega, by omega, hwl, rfl, hws⟩ ?_
  rintro m vs S' hlen ⟨i, ws, rfl, rfl, hi0, hi, hwl, rfl, hws⟩
  refine j_q (qs_lss rfl rfl) ?_
  refine j_cond rfl (fun hc1 => ?_) (fun hc1 => ?_)
  ·skip
   have hi1 : i < 64 := by
    simp only [bnA] at *
    omega
   refine j_q (qs_sub64 rfl rfl (by omega)) ?_
   refine j_q (qs_ix0 U162 sz145 rfl rfl ⟨(by omega), (by omega)⟩) ?_
   refine j_q (qs_loadk 0 U145 rfl rfl (by omega)) ?_
   refine j_q (qs_sub64 rfl rfl (by omega)) ?_
   refine j_q (qs_ix0 U162 sz145 rfl rfl ⟨(by omega), (by omega)⟩) ?_
   refine j_q (qs_loadk 0 U145 rfl rfl (by omega)) ?_
   refine j_draw ?_
   refine jq_q (qs_sub64 rfl rfl (by omega)) ?_
   refine jq_q (qs_ix0 U162 sz145 rfl rfl ⟨(by omega), (by omega)⟩) ?_
   refine jq_q (qs_loadk 0 U145 rfl rfl (by omega)) ?_
   refine jq_q (qs_call ent142 rfl rfl rfl (fun w' hw' => r_con _ _ w' (by decide) (by decide))) ?_
   refine jq_q (qs_call ent142 rfl rfl rfl (fun w' hw' => r_con _ _ w' (by decide) (by decide))) ?_
   refine jq_q (qs_xor_ rfl rfl) ?_
   refine jq_q (qs_shr rfl rfl (by omega)) ?_
   refine jq_q (qs_xor_ rfl rfl) ?_
   refine jq_q (qs_add rfl rfl) ?_
   refine jq_q (qs_sub64 rfl rfl (by omega)) ?_
   refine jq_q (qs_ix0 U162 sz145 rfl rfl ⟨(by omega), (by omega)⟩) ?_
   refine jq_q (qs_loadk 0 U145 rfl rfl (by omega)) ?_
   refine jq_q (qs_add rfl rfl) ?_
   refine jq_q (qs_call ent142 rfl rfl rfl (fun w' hw' => r_con _ _ w' (by decide) (by decide))) ?_
   refine jq_q (qs_call ent142 rfl rfl rfl (fun w' hw' => r_con _ _ w' (by decide) (by decide))) ?_
   refine jq_q (qs_xor_ rfl rfl) ?_
   refine jq_q (qs_shr rfl rfl (by omega)) ?_
   refine jq_q (qs_xor_ rfl rfl) ?_
   refine jq_q (qs_add rfl rfl) ?_
   refine jq_q (qs_ix0 U162 sz145 rfl rfl ⟨(by omega), (by omega)⟩) ?_
   refine jq_nil ?_
   refine j_storek 0 sz145 rfl rfl rfl (by omega) ?_
   refine j_q (qs_add64 rfl rfl (by omega)) ?_
   refine j_back rfl ?_
   have e15 : ((i : Int) - 15).toNat = i - 15 := by omega
   have e2 : ((i : Int) - 2).toNat = i - 2 := by omega
   have e16 : ((i : Int) - 16).toNat = i - 16 := by omega
   have e7 : ((i : Int) - 7).toNat = i - 7 := by omega
   rw [e15, e2, e16, e7]
   exact ⟨_, back_le hi1, i + 1, _, rfl, rfl, by omega, by omega, by simpa using hwl, rfl, sched_next hws hi0 (by omega)⟩
  ·skip
   have hi1 : i = 64 := by
    simp only [bnA] at *
    omega
   subst hi1
   have hws64 : ws = sched p 64 := by rw [← hws, List.take_of_length_le (by omega)]
   refine j_q (qs_loadw 2 U146 rfl sz146 rfl rfl (by first | rfl | (simp only [ks_length]; first | omega | exact hs | exact hvl) | simp [ks_length])) ?_
   refine j_alloc zero146 (fun g64 hg64 hs64 => ?_)
   refine j_storew 0 sz146 rfl rfl (by first | rfl | (simp only [ks_length]; first | omega | exact hs | exact hvl) | simp [ks_length]) ks_one rfl (by first | rfl | (simp only [ks_length]; first | omega | exact hs | exact hvl) | simp [ks_length]) ?_
   refine j_q (qs_ac) ?_
   refine j_loop (fun m vs S' => ∃ (i : Nat) (v : List Int), vs = [.int .i64 i] ∧ S' = [[(g64, .cells (ks .u32 v).toArray 146 (0, 0))], [(g2, .cells (ks .u32 ws).toArray 162 (0, 0))], [(g1, .cells (ks .u32 (List.replicate 8 0)).toArray 146 (0, 0))], [(g0, .cells (ks .u32 s).toArray 146 (0, 0))], []] ∧ i ≤ 64 ∧ m = 64 - i ∧ v = rounds kk64 (sched p 64) s i) ⟨_, 0, _, rfl, rfl, by omega, rfl, rfl⟩ ?_
   rintro m vs S' hlen ⟨i, v, rfl, rfl, hi, rfl, hv⟩
   have hvl : v.length = 8 := by rw [hv]; exact rounds_length hs i
   clear hlen
   refine j_q (qs_lss rfl rfl) ?_
   refine j_cond rfl (fun hc2 => ?_) (fun hc2 => ?_)
   ·skip
    have hi1 : i < 64 := by
     simp only [bnA] at *
     omega
    refine j_draw ?_
    refine jq_q (qs_ix0 U146 sz145 rfl rfl ⟨(by omega), (by omega)⟩) ?_
    refine jq_q (qs_loadk 0 U145 rfl rfl (by omega)) ?_
    refine jq_q (qs_ix0 U146 sz145 rfl rfl ⟨(by omega), (by omega)⟩) ?_
    refine jq_q (qs_loadk 0 U145 rfl rfl (by omega)) ?_
    refine jq_nil ?_
    refine j_draw ?_
    refine jq_q (qs_ix0 U146 sz145 rfl rfl ⟨(by omega), (by omega)⟩) ?_
    refine jq_q (qs_loadk 0 U145 rfl rfl (by omega)) ?_
    refine jq_q (qs_call ent142 rfl rfl rfl (fun w' hw' => r_con _ _ w' (by decide) (by decide))) ?_
    refine jq_q (qs_call ent142 rfl rfl rfl (fun w' hw' => r_con _ _ w' (by decide) (by decide))) ?_
    refine jq_q (qs_xor_ rfl rfl) ?_
    refine jq_q (qs_call ent142 rfl rfl rfl (fun w' hw' => r_con _ _ w' (by decide) (by decide))) ?_
    refine jq_q (qs_xor_ rfl rfl) ?_
    refine jq_q (qs_add rfl rfl) ?_
    refine jq_q (qs_ix0 U146 sz145 rfl rfl ⟨(by omega), (by omega)⟩) ?_
    refine jq_q (qs_loadk 0 U145 rfl rfl (by omega)) ?_
    refine jq_q (qs_and_ rfl rfl) ?_
    refine jq_q (qs_inv rfl) ?_
    refine jq_q (qs_ix0 U146 sz145 rfl rfl ⟨(by omega), (by omega)⟩) ?_
    refine jq_q (qs_loadk 0 U145 rfl rfl (by omega)) ?_
    refine jq_q (qs_and_ rfl rfl) ?_
    refine jq_q (qs_xor_ rfl rfl) ?_
    refine jq_q (qs_add rfl rfl) ?_
    refine jq_q (qs_nil rfl) ?_
    refine jq_q (qs_ix0 U162 sz145 rfl rfl ⟨(by omega), (by omega)⟩) ?_
    refine jq_q (qs_loadro (rd_cells hk (by simp)) U145 rfl (by omega)) ?_
    refine jq_q (qs_add rfl rfl) ?_
    refine jq_q (qs_ix0 U162 sz145 rfl rfl ⟨(by omega), (by omega)⟩) ?_
    refine jq_q (qs_loadk 1 U145 rfl rfl (by omega)) ?_
    refine jq_q (qs_add rfl rfl) ?_
    refine jq_nil ?_
    refine j_draw ?_
    refine jq_q (qs_call ent142 rfl rfl rfl (fun w' hw' => r_con _ _ w' (by decide) (by decide))) ?_
    refine jq_q (qs_call ent142 rfl rfl rfl (fun w' hw' => r_con _ _ w' (by decide) (by decide))) ?_
    refine jq_q (qs_xor_ rfl rfl) ?_
    refine jq_q (qs_call ent142 rfl rfl rfl (fun w' hw' => r_con _ _ w' (by decide) (by decide))) ?_
    refine jq_q (qs_xor_ rfl rfl) ?_
    refine jq_q (qs_ix0 U146 sz145 rfl rfl ⟨(by omega), (by omega)⟩) ?_
    refine jq_q (qs_loadk 0 U145 rfl rfl (by omega)) ?_
    refine jq_q (qs_and_ rfl rfl) ?_
    refine jq_q (qs_ix0 U146 sz145 rfl rfl ⟨(by omega), (by omega)⟩) ?_
    refine jq_q (qs_loadk 0 U145 rfl rfl (by omega)) ?_
    refine jq_q (qs_and_ rfl rfl) ?_
    refine jq_q (qs_xor_ rfl rfl) ?_
    refine jq_q (qs_ix0 U146 sz145 rfl rfl ⟨(by omega), (by omega)⟩) ?_
    refine jq_q (qs_loadk 0 U145 rfl rfl (by omega)) ?_
    refine jq_q (qs_ix0 U146 sz145 rfl rfl ⟨(by omega), (by omega)⟩) ?_
    refine jq_q (qs_loadk 0 U145 rfl rfl (by omega)) ?_
    refine jq_q (qs_and_ rfl rfl) ?_
    refine jq_q (qs_xor_ rfl rfl) ?_
    refine jq_q (qs_add rfl rfl) ?_
    refine jq_nil ?_
    refine j_q (qs_add rfl rfl) ?_
    refine j_q (qs_ix0 U146 sz145 rfl rfl ⟨(by omega), (by omega)⟩) ?_
    refine j_q (qs_loadk 0 U145 rfl rfl (by omega)) ?_
    refine j_q (qs_ix0 U146 sz145 rfl rfl ⟨(by omega), (by omega)⟩) ?_
    refine j_q (qs_loadk 0 U145 rfl rfl (by omega)) ?_
    refine j_q (qs_ix0 U146 sz145 rfl rfl ⟨(by omega), (by omega)⟩) ?_
    refine j_q (qs_loadk 0 U145 rfl rfl (by omega)) ?_
    refine j_q (qs_add rfl rfl) ?_
    refine j_q (qs_ix0 U146 sz145 rfl rfl ⟨(by omega), (by omega)⟩) ?_
    refine j_q (qs_loadk 0 U145 rfl rfl (by omega)) ?_
    refine j_q (qs_ix0 U146 sz145 rfl rfl ⟨(by omega), (by omega)⟩) ?_
    refine j_q (qs_loadk 0 U145 rfl rfl (by omega)) ?_
    refine j_q (qs_run (v := .agg (ks .u32 (rnd (kk64.getD i 0) (ws.getD i 0) v)).toArray) (fun w => by kernel_rfl)) ?_
    refine j_storew 0 sz146 rfl rfl (by first | rfl | (simp only [ks_length]; first | omega | exact hs | exact hvl) | simp [ks_length]) ks_one rfl (by first | rfl | (simp only [ks_length]; first | omega | exact hs | exact hvl) | simp [ks_length]) ?_
    refine j_q (qs_add64 rfl rfl (by omega)) ?_
    refine j_back rfl ?_
    refine ⟨_, back_le hi1, i + 1, _, rfl, rfl, by omega, rfl, ?_⟩
    rw [rounds, ← hv, ← hws64]
   ·skip
    have hi1 : i = 64 := by
     simp only [bnA] at *
     omega
    subst hi1
    have hv64 : v = rounds kk64 (sched p 64) s 64 := hv
    refine j_q (qs_ac) ?_
    refine j_loop (fun m vs S' => ∃ (i : Nat) (s' : List Int), vs = [.int .i64 i] ∧ S' = [[(g64, .cells (ks .u32 (rounds kk64 (sched p 64) s 64)).toArray 146 (0, 0))], [(g2, .cells (ks .u32 ws).toArray 162 (0, 0))], [(g1, .cells (ks .u32 (List.replicate 8 0)).toArray 146 (0, 0))], [(g0, .cells (ks .u32 s').toArray 146 (0, 0))], []] ∧ i ≤ 8 ∧ m = 8 - i ∧ s' = adds s (rounds kk64 (sched p 64) s 64) i) ⟨_, 0, _, rfl, (by rw [← hv64]; rfl), by omega, rfl, rfl⟩ ?_
    rintro m vs S' hlen ⟨i, s', rfl, rfl, hi, rfl, hs'⟩
    have hsl : s'.length = 8 := by rw [hs', adds_length, hs]
    have hrl : (rounds kk64 (sched p 64) s 64).length = 8 := rounds_length hs 64
    refine j_q (qs_lss rfl rfl) ?_
    refine j_cond rfl (fun hc3 => ?_) (fun hc3 => ?_)
    ·skip
     have hi1 : i < 8 := by
      simp only [bnA] at *
      omega
     refine j_draw ?_
     refine jq_q (qs_ix0 U146 sz145 rfl rfl ⟨(by omega), (by omega)⟩) ?_
     refine jq_q (qs_loadk 3 U145 rfl rfl (by omega)) ?_
     refine jq_q (qs_ix0 U146 sz145 rfl rfl ⟨(by omega), (by omega)⟩) ?_
     refine jq_q (qs_loadk 0 U145 rfl rfl (by omega)) ?_
     refine jq_q (qs_add rfl rfl) ?_
     refine jq_q (qs_ix0 U146 sz145 rfl rfl ⟨(by omega), (by omega)⟩) ?_
     refine jq_nil ?_
     refine j_storek 3 sz145 rfl rfl rfl (by omega) ?_
     refine j_q (qs_add64 rfl rfl (by omega)) ?_
     refine j_back rfl ?_
     refine ⟨_, back_le hi1, i + 1, _, rfl, rfl, by omega, rfl, ?_⟩
     rw [adds, ← hs']
     rfl
    ·skip
     have hi1 : i = 8 := by
      simp only [bnA] at *
      omega
     subst hi1
     refine j_q (qs_loadw 3 U146 rfl sz146 rfl rfl (by first | rfl | (simp only [ks_length]; first | omega | exact hs | exact hvl) | simp [ks_length])) ?_
     refine j_storew 2 sz146 rfl rfl (by first | rfl | (simp only [ks_length]; first | omega | exact hs | exact hvl) | simp [ks_length]) ks_one rfl (by first | rfl | (simp only [ks_length]; first | omega | exact hs | exact hvl) | simp [ks_length]) ?_
     refine j_ret_con (vs := [_]) (fun w' hw' => ⟨rv_agg 2 U146 rfl sz146 rfl rfl (by first | rfl | (simp only [ks_length]; first | omega | exact hs | exact hvl) | simp [ks_length]) hw', trivial⟩) ?_
     show Value.agg _ = _
     rw [hs']
     rfl
theorem take_con (s : List Int) (p : List UInt8) (a : Addr) (c gs : Nat) (e : TypeId) (w : World) (hs : s.length = 8) (hpm : p.length ≤ 140737488355328) (hc : p.length ≤ c) (hpc : Cells w a (ints p)) (hne : p ≠ [] → a.block ≠ gs) : Con Tryz.prog 101 [.pointer (some ⟨gs, 0, none⟩), .slice (some a) p.length c] w [(gs, .cells (ks .u32 s).toArray e (0, 0))] fun v S' => v = .tuple #[] ∧ S' = [[(gs, .cells (ks .u32 (blocks (p.length / 64) p s)).toArray e (0, 0))]] := by
 refine con_of_tree mix Tryz.func101 T101_ok (by kernel_rfl) ?_
 unfold T101
 have hkl : kk64.length = 64 := rfl
 refine j_q (qs_call ent133 rfl rfl rfl (fun w' hw' => numbers_con w')) ?_
 refine j_alloc zero162 (fun g1 hg1 hs1 => ?_)
 refine j_storew 0 sz162 rfl rfl (by first | rfl | (simp only [ks_length]; first | omega | exact hstl | exact hvl) | simp [ks_length]) ks_one rfl (by first | rfl | (simp only [ks_length]; first | omega | exact hstl | exact hvl) | simp [ks_length]) ?_
 refine j_alloc zero162 (fun g3 hg3 hs3 => ?_)
 refine j_loop (fun m vs S' => ∃ (n : Nat) (q : List UInt8) (a' : Addr) (c' : Nat) (st ws : List Int), vs = [.slice (some a') q.length c'] ∧ S' = [[(g3, .cells (ks .u32 ws).toArray 162 (0, 0))], [(g1, .cells (ks .u32 kk64).toArray 162 (0, 0))], [(gs, .cells (ks .u32 st).toArray e (0, 0))]] ∧ 64 * n ≤ p.length ∧ q = p.drop (64 * n) ∧ q.length ≤ c' ∧ Cells w a' (ints q) ∧ a'.block = a.block ∧ st = blocks n p s ∧ ws.length = 64 ∧ m = p.length - 64 * n) ⟨_, 0, p, a, c, s, _, rfl, rfl, by omega, rfl, hc, hpc, rfl, rfl, by simp, rfl⟩ ?_
 rintro m vs S' hlen ⟨n, q, a', c', st, ws0, rfl, rfl, hn, hq, hqc, hqm, hab, hst, hwl0, rfl⟩
 have hql : q.length = p.length - 64 * n := by rw [hq, List.length_drop]
 have hstl : st.length = 8 := by rw [hst]; exact blocks_length hs
 clear hlen hs1 hs3 hg1 hg3
 refine j_q (qs_lenl U46 rfl) ?_
 refine j_q (qs_geq rfl rfl) ?_
 refine j_cond rfl (fun hc0 => ?_) (fun hc0 => ?_)
 ·skip
  have hq64 : 64 ≤ q.length := by
   simp only [bnA] at *
   omega
  have hpne : p ≠ [] := by
   intro h0
   have := congrArg List.length h0
   simp only [List.length_nil] at this
   omega
  refine j_q (qs_mc) ?_
  refine j_loop (fun m vs S' => ∃ (i : Nat) (ws : List Int), vs = [.int .i64 i] ∧ S' = [[(g3, .cells (ks .u32 ws).toArray 162 (0, 0))], [(g1, .cells (ks .u32 kk64).toArray 162 (0, 0))], [(gs, .cells (ks .u32 st).toArray e (0, 0))]] ∧ i ≤ 16 ∧ ws.length = 64 ∧ m = 16 - i ∧ ws.take i = sched q i) ⟨_, 0, _, rfl, rfl, by omega, hwl0, rfl, rfl⟩ ?_
  rintro m vs S' hlen ⟨i, ws, rfl, rfl, hi, hwl, rfl, hws⟩
  clear hlen
  refine j_q (qs_lss rfl rfl) ?_
  refine j_cond rfl (fun hc1 => ?_) (fun hc1 => ?_)
  ·skip
   have hi1 : i < 16 := by
    simp only [bnA] at *
    omega
   refine j_draw ?_
   refine jq_q (qs_mul64 rfl rfl (by omega)) ?_
   refine jq_q (qs_ixl0 U46 sz5 rfl rfl ⟨(by omega), (by omega)⟩) ?_
   refine jq_q (qs_loadr8 (rd_cells hqm (by rw [hab]; simpa using hne hpne)) U5 rfl (by omega)) ?_
   refine jq_q (qs_conv U5 U145 rfl) ?_
   refine jq_q (qs_shl rfl rfl (by omega)) ?_
   refine jq_q (qs_mul64 rfl rfl (by omega)) ?_
   refine jq_q (qs_add64 rfl rfl (by omega)) ?_
   refine jq_q (qs_ixl0 U46 sz5 rfl rfl ⟨(by omega), (by omega)⟩) ?_
   refine jq_q (qs_loadr8 (rd_cells hqm (by rw [hab]; simpa using hne hpne)) U5 rfl (by omega)) ?_
   refine jq_q (qs_conv U5 U145 rfl) ?_
   refine jq_q (qs_shl rfl rfl (by omega)) ?_
   refine jq_q (qs_or_ rfl rfl) ?_
   refine jq_q (qs_mul64 rfl rfl (by omega)) ?_
   refine jq_q (qs_add64 rfl rfl (by omega)) ?_
   refine jq_q (qs_ixl0 U46 sz5 rfl rfl ⟨(by omega), (by omega)⟩) ?_
   refine jq_q (qs_loadr8 (rd_cells hqm (by rw [hab]; simpa using hne hpne)) U5 rfl (by omega)) ?_
   refine jq_q (qs_conv U5 U145 rfl) ?_
   refine jq_q (qs_shl rfl rfl (by omega)) ?_
   refine jq_q (qs_or_ rfl rfl) ?_
   refine jq_q (qs_mul64 rfl rfl (by omega)) ?_
   refine jq_q (qs_add64 rfl rfl (by omega)) ?_
   refine jq_q (qs_ixl0 U46 sz5 rfl rfl ⟨(by omega), (by omega)⟩) ?_
   refine jq_q (qs_loadr8 (rd_cells hqm (by rw [hab]; simpa using hne hpne)) U5 rfl (by omega)) ?_
   refine jq_q (qs_conv U5 U145 rfl) ?_
   refine jq_q (qs_or_ rfl rfl) ?_
   refine jq_q (qs_ix0 U162 sz145 rfl rfl ⟨(by omega), (by omega)⟩) ?_
   refine jq_nil ?_
   refine j_storek 0 sz145 rfl rfl rfl (by omega) ?_
   refine j_q (qs_add64 rfl rfl (by omega)) ?_
   refine j_back rfl ?_
   exact ⟨_, back_le hi1, i + 1, _, rfl, rfl, by omega, by simpa using hwl, rfl, sched_word hws hi1 (by omega)⟩
  ·skip
   have hi1 : i = 16 := by
    simp only [bnA] at *
    omega
   subst hi1
   refine j_q (qs_ac) ?_
   refine j_loop (fun m vs S' => ∃ (i : Nat) (ws : List Int), vs = [.int .i64 i] ∧ S' = [[(g3, .cells (ks .u32 ws).toArray 162 (0, 0))], [(g1, .cells (ks .u32 kk64).toArray 162 (0, 0))], [(gs, .cells (ks .u32 st).toArray e (0, 0))]] ∧ 16 ≤ i ∧ i ≤ 64 ∧ ws.length = 64 ∧ m = 64 - i ∧ ws.take i = sched q i) ⟨_, 16, _, rfl, rfl, by omega, by omega, hwl, rfl, hws⟩ ?_
   rintro m vs S' hlen ⟨i, ws, rfl, rfl, hi0, hi, hwl, rfl, hws⟩
   clear hlen
   refine j_q (qs_lss rfl rfl) ?_
   refine j_cond rfl (fun hc2 => ?_) (fun hc2 => ?_)
   ·skip
    have hi1 : i < 64 := by
     simp only [bnA] at *
     omega
    refine j_draw ?_
    refine jq_q (qs_sub64 rfl rfl (by omega)) ?_
    refine jq_q (qs_ix0 U162 sz145 rfl rfl ⟨(by omega), (by omega)⟩) ?_
    refine jq_q (qs_loadk 0 U145 rfl rfl (by omega)) ?_
    refine jq_q (qs_sub64 rfl rfl (by omega)) ?_
    refine jq_q (qs_ix0 U162 sz145 rfl rfl ⟨(by omega), (by omega)⟩) ?_
    refine jq_q (qs_loadk 0 U145 rfl rfl (by omega)) ?_
    refine jq_nil ?_
    refine j_q (qs_call ent134 rfl rfl rfl (fun w' hw' => turn_con _ _ w' (by decide) (by decide))) ?_
    refine j_q (qs_call ent134 rfl rfl rfl (fun w' hw' => turn_con _ _ w' (by decide) (by decide))) ?_
    refine j_q (qs_xor_ rfl rfl) ?_
    refine j_q (qs_shr rfl rfl (by omega)) ?_
    refine j_q (qs_xor_ rfl rfl) ?_
    refine j_q (qs_call ent134 rfl rfl rfl (fun w' hw' => turn_con _ _ w' (by decide) (by decide))) ?_
    refine j_q (qs_call ent134 rfl rfl rfl (fun w' hw' => turn_con _ _ w' (by decide) (by decide))) ?_
    refine j_q (qs_xor_ rfl rfl) ?_
    refine j_q (qs_shr rfl rfl (by omega)) ?_
    refine j_q (qs_xor_ rfl rfl) ?_
    refine j_draw ?_
    refine jq_q (qs_sub64 rfl rfl (by omega)) ?_
    refine jq_q (qs_ix0 U162 sz145 rfl rfl ⟨(by omega), (by omega)⟩) ?_
    refine jq_q (qs_loadk 0 U145 rfl rfl (by omega)) ?_
    refine jq_q (qs_add rfl rfl) ?_
    refine jq_q (qs_sub64 rfl rfl (by omega)) ?_
    refine jq_q (qs_ix0 U162 sz145 rfl rfl ⟨(by omega), (by omega)⟩) ?_
    refine jq_q (qs_loadk 0 U145 rfl rfl (by omega)) ?_
    refine jq_q (qs_add rfl rfl) ?_
    refine jq_q (qs_add rfl rfl) ?_
    refine jq_q (qs_ix0 U162 sz145 rfl rfl ⟨(by omega), (by omega)⟩) ?_
    refine jq_nil ?_
    refine j_storek 0 sz145 rfl rfl rfl (by omega) ?_
    refine j_q (qs_add64 rfl rfl (by omega)) ?_
    refine j_back rfl ?_
    have e15 : ((i : Int) - 15).toNat = i - 15 := by omega
    have e2 : ((i : Int) - 2).toNat = i - 2 := by omega
    have e16 : ((i : Int) - 16).toNat = i - 16 := by omega
    have e7 : ((i : Int) - 7).toNat = i - 7 := by omega
    rw [e15, e2, e16, e7]
    exact ⟨_, back_le hi1, i + 1, _, rfl, rfl, by omega, by omega, by simpa using hwl, rfl, sched_next hws hi0 (by omega)⟩
   ·skip
    have hi1 : i = 64 := by
     simp only [bnA] at *
     omega
    subst hi1
    have hws64 : ws = sched q 64 := by rw [← hws, List.take_of_length_le (by omega)]
    refine j_q (qs_nil rfl) ?_
    refine j_q (qs_loadw 2 U147 rfl sz147 rfl rfl (by first | rfl | (simp only [ks_length]; first | omega | exact hstl | exact hvl) | simp [ks_length])) ?_
    refine j_alloc zero147 (fun g68 hg68 hs68 => ?_)
    refine j_storew 0 sz147 rfl rfl (by first | rfl | (simp only [ks_length]; first | omega | exact hstl | exact hvl) | simp [ks_length]) ks_one rfl (by first | rfl | (simp only [ks_length]; first | omega | exact hstl | exact hvl) | simp [ks_length]) ?_
    refine j_q (qs_mc) ?_
    refine j_loop (fun m vs S' => ∃ (i : Nat) (v : List Int), vs = [.int .i64 i] ∧ S' = [[(g68, .cells (ks .u32 v).toArray 147 (0, 0))], [(g3, .cells (ks .u32 ws).toArray 162 (0, 0))], [(g1, .cells (ks .u32 kk64).toArray 162 (0, 0))], [(gs, .cells (ks .u32 st).toArray e (0, 0))]] ∧ i ≤ 64 ∧ m = 64 - i ∧ v = rounds kk64 (sched q 64) st i) ⟨_, 0, _, rfl, rfl, by omega, rfl, rfl⟩ ?_
    rintro m vs S' hlen ⟨i, v, rfl, rfl, hi, rfl, hv⟩
    have hvl : v.length = 8 := by rw [hv]; exact rounds_length hstl i
    clear hlen
    refine j_q (qs_lss rfl rfl) ?_
    refine j_cond rfl (fun hc3 => ?_) (fun hc3 => ?_)
    ·skip
     have hi1 : i < 64 := by
      simp only [bnA] at *
      omega
     refine j_draw ?_
     refine jq_q (qs_ix0 U147 sz145 rfl rfl ⟨(by omega), (by omega)⟩) ?_
     refine jq_q (qs_loadk 0 U145 rfl rfl (by omega)) ?_
     refine jq_q (qs_ix0 U147 sz145 rfl rfl ⟨(by omega), (by omega)⟩) ?_
     refine jq_q (qs_loadk 0 U145 rfl rfl (by omega)) ?_
     refine jq_nil ?_
     refine j_draw ?_
     refine jq_q (qs_ix0 U147 sz145 rfl rfl ⟨(by omega), (by omega)⟩) ?_
     refine jq_q (qs_loadk 0 U145 rfl rfl (by omega)) ?_
     refine jq_q (qs_call ent134 rfl rfl rfl (fun w' hw' => turn_con _ _ w' (by decide) (by decide))) ?_
     refine jq_q (qs_call ent134 rfl rfl rfl (fun w' hw' => turn_con _ _ w' (by decide) (by decide))) ?_
     refine jq_q (qs_xor_ rfl rfl) ?_
     refine jq_q (qs_call ent134 rfl rfl rfl (fun w' hw' => turn_con _ _ w' (by decide) (by decide))) ?_
     refine jq_q (qs_xor_ rfl rfl) ?_
     refine jq_q (qs_add rfl rfl) ?_
     refine jq_q (qs_ix0 U147 sz145 rfl rfl ⟨(by omega), (by omega)⟩) ?_
     refine jq_q (qs_loadk 0 U145 rfl rfl (by omega)) ?_
     refine jq_q (qs_and_ rfl rfl) ?_
     refine jq_q (qs_inv rfl) ?_
     refine jq_q (qs_ix0 U147 sz145 rfl rfl ⟨(by omega), (by omega)⟩) ?_
     refine jq_q (qs_loadk 0 U145 rfl rfl (by omega)) ?_
     refine jq_q (qs_and_ rfl rfl) ?_
     refine jq_q (qs_xor_ rfl rfl) ?_
     refine jq_q (qs_add rfl rfl) ?_
     refine jq_q (qs_ix0 U162 sz145 rfl rfl ⟨(by omega), (by omega)⟩) ?_
     refine jq_q (qs_loadk 2 U145 rfl rfl (by omega)) ?_
     refine jq_q (qs_add rfl rfl) ?_
     refine jq_q (qs_ix0 U162 sz145 rfl rfl ⟨(by omega), (by omega)⟩) ?_
     refine jq_q (qs_loadk 1 U145 rfl rfl (by omega)) ?_
     refine jq_q (qs_add rfl rfl) ?_
     refine jq_nil ?_
     refine j_draw ?_
     refine jq_q (qs_call ent134 rfl rfl rfl (fun w' hw' => turn_con _ _ w' (by decide) (by decide))) ?_
     refine jq_q (qs_call ent134 rfl rfl rfl (fun w' hw' => turn_con _ _ w' (by decide) (by decide))) ?_
     refine jq_q (qs_xor_ rfl rfl) ?_
     refine jq_q (qs_call ent134 rfl rfl rfl (fun w' hw' => turn_con _ _ w' (by decide) (by decide))) ?_
     refine jq_q (qs_xor_ rfl rfl) ?_
     refine jq_q (qs_ix0 U147 sz145 rfl rfl ⟨(by omega), (by omega)⟩) ?_
     refine jq_q (qs_loadk 0 U145 rfl rfl (by omega)) ?_
     refine jq_q (qs_and_ rfl rfl) ?_
     refine jq_q (qs_ix0 U147 sz145 rfl rfl ⟨(by omega), (by omega)⟩) ?_
     refine jq_q (qs_loadk 0 U145 rfl rfl (by omega)) ?_
     refine jq_q (qs_and_ rfl rfl) ?_
     refine jq_q (qs_xor_ rfl rfl) ?_
     refine jq_q (qs_ix0 U147 sz145 rfl rfl ⟨(by omega), (by omega)⟩) ?_
     refine jq_q (qs_loadk 0 U145 rfl rfl (by omega)) ?_
     refine jq_q (qs_ix0 U147 sz145 rfl rfl ⟨(by omega), (by omega)⟩) ?_
     refine jq_q (qs_loadk 0 U145 rfl rfl (by omega)) ?_
     refine jq_q (qs_and_ rfl rfl) ?_
     refine jq_q (qs_xor_ rfl rfl) ?_
     refine jq_q (qs_add rfl rfl) ?_
     refine jq_nil ?_
     refine j_q (qs_add rfl rfl) ?_
     refine j_q (qs_ix0 U147 sz145 rfl rfl ⟨(by omega), (by omega)⟩) ?_
     refine j_q (qs_loadk 0 U145 rfl rfl (by omega)) ?_
     refine j_q (qs_ix0 U147 sz145 rfl rfl ⟨(by omega), (by omega)⟩) ?_
     refine j_q (qs_loadk 0 U145 rfl rfl (by omega)) ?_
     refine j_q (qs_ix0 U147 sz145 rfl rfl ⟨(by omega), (by omega)⟩) ?_
     refine j_q (qs_loadk 0 U145 rfl rfl (by omega)) ?_
     refine j_q (qs_ix0 U147 sz145 rfl rfl ⟨(by omega), (by omega)⟩) ?_
     refine j_q (qs_loadk 0 U145 rfl rfl (by omega)) ?_
     refine j_q (qs_add rfl rfl) ?_
     refine j_q (qs_ix0 U147 sz145 rfl rfl ⟨(by omega), (by omega)⟩) ?_
     refine j_q (qs_loadk 0 U145 rfl rfl (by omega)) ?_
     refine j_q (qs_ix0 U147 sz145 rfl rfl ⟨(by omega), (by omega)⟩) ?_
     refine j_q (qs_loadk 0 U145 rfl rfl (by omega)) ?_
     refine j_q (qs_ix0 U147 sz145 rfl rfl ⟨(by omega), (by omega)⟩) ?_
     refine j_q (qs_loadk 0 U145 rfl rfl (by omega)) ?_
     refine j_q (qs_run (v := .agg (ks .u32 (rnd (kk64.getD i 0) (ws.getD i 0) v)).toArray) (fun w => by kernel_rfl)) ?_
     refine j_storew 0 sz147 rfl rfl (by first | rfl | (simp only [ks_length]; first | omega | exact hstl | exact hvl) | simp [ks_length]) ks_one rfl (by first | rfl | (simp only [ks_length]; first | omega | exact hstl | exact hvl) | simp [ks_length]) ?_
     refine j_q (qs_add64 rfl rfl (by omega)) ?_
     refine j_back rfl ?_
     refine ⟨_, back_le hi1, i + 1, _, rfl, rfl, by omega, rfl, ?_⟩
     rw [rounds, ← hv, ← hws64]
    ·skip
     have hi1 : i = 64 := by
      simp only [bnA] at *
      omega
     subst hi1
     have hv64 : v = rounds kk64 (sched q 64) st 64 := hv
     refine j_q (qs_mc) ?_
     refine j_loop (fun m vs S' => ∃ (i : Nat) (s' : List Int), vs = [.int .i64 i] ∧ S' = [[(g68, .cells (ks .u32 (rounds kk64 (sched q 64) st 64)).toArray 147 (0, 0))], [(g3, .cells (ks .u32 ws).toArray 162 (0, 0))], [(g1, .cells (ks .u32 kk64).toArray 162 (0, 0))], [(gs, .cells (ks .u32 s').toArray e (0, 0))]] ∧ i ≤ 8 ∧ m = 8 - i ∧ s' = adds st (rounds kk64 (sched q 64) st 64) i) ⟨_, 0, _, rfl, (by rw [← hv64]; rfl), by omega, rfl, rfl⟩ ?_
     rintro m vs S' hlen ⟨i, s', rfl, rfl, hi, rfl, hs'⟩
     have hsl : s'.length = 8 := by rw [hs', adds_length, hstl]
     have hrl : (rounds kk64 (sched q 64) st 64).length = 8 := rounds_length hstl 64
     clear hlen
     refine j_q (qs_lss rfl rfl) ?_
     refine j_cond rfl (fun hc4 => ?_) (fun hc4 => ?_)
     ·skip
      have hi1 : i < 8 := by
       simp only [bnA] at *
       omega
      refine j_draw ?_
      refine jq_q (qs_nil rfl) ?_
      refine jq_q (qs_ix0 U147 sz145 rfl rfl ⟨(by omega), (by omega)⟩) ?_
      refine jq_q (qs_loadk 3 U145 rfl rfl (by omega)) ?_
      refine jq_q (qs_ix0 U147 sz145 rfl rfl ⟨(by omega), (by omega)⟩) ?_
      refine jq_q (qs_loadk 0 U145 rfl rfl (by omega)) ?_
      refine jq_q (qs_add rfl rfl) ?_
      refine jq_q (qs_nil rfl) ?_
      refine jq_q (qs_ix0 U147 sz145 rfl rfl ⟨(by omega), (by omega)⟩) ?_
      refine jq_nil ?_
      refine j_storek 3 sz145 rfl rfl rfl (by omega) ?_
      refine j_q (qs_add64 rfl rfl (by omega)) ?_
      refine j_back rfl ?_
      refine ⟨_, back_le hi1, i + 1, _, rfl, rfl, by omega, rfl, ?_⟩
      rw [adds, ← hs']
      rfl
     ·skip
      have hi1 : i = 8 := by
       simp only [bnA] at *
       omega
      subst hi1
      refine j_q (qs_cutl (a := 64) (z := q.length) U46 sz5 rfl ⟨_, rfl⟩ rfl (by omega) (by omega)) ?_
      refine j_sub (S' := [[(g3, .cells (ks .u32 ws).toArray 162 (0, 0))], [(g1, .cells (ks .u32 kk64).toArray 162 (0, 0))], [(gs, .cells (ks .u32 s').toArray e (0, 0))]]) (by exact List.sublist_cons_self _ _) ?_
      refine j_back rfl ?_
      have hcell : Cells w (if c' = 64 then a' else a'.add 64) (ints (q.drop 64)) := by
       split
       ·have : q.drop 64 = [] := List.drop_of_length_le (by omega)
        rw [this]
        intro j u hu
        simp [ints] at hu
       ·have := cells_drop hqm 64
        rwa [ints_drop] at this
      refine ⟨p.length - 64 * (n + 1), (by omega), n + 1, q.drop 64, if c' = 64 then a' else a'.add 64, c' - 64, s', ws, ?_, rfl, by omega, by rw [hq, List.drop_drop]; congr 1, by rw [List.length_drop]; omega, hcell, ?_, ?_, hwl, rfl⟩
      ·show [Value.slice (if c' = 64 then some a' else some (a'.add 64)) (q.length - 64) (c' - 64)] = _
       rw [List.length_drop]
       split <;> rfl
      ·split
       ·exact hab
       ·rw [add_block]; exact hab
      ·rw [blocks_succ, ← hq, ← hst, hs']
       rfl
 ·skip
  have hq64 : q.length < 64 := by
   simp only [bnA] at *
   omega
  refine j_sub (S' := [[(gs, .cells (ks .u32 st).toArray e (0, 0))]]) (by exact (List.sublist_cons_self _ _).trans (List.sublist_cons_self _ _)) ?_
  refine j_ret_con (vs := []) (fun w' hw' => trivial) ?_
  refine ⟨rfl, ?_⟩
  rw [hst]
  have : p.length / 64 = n := by omega
  rw [this]
end Go.Proofs.YtfeabbeebkkhaaaGreat
/-! Sha3 -/
namespace Go.Proofs.YtfeabbeebkkhaaaGreat
open Go Go.Sx
set_option maxRecDepth 100000
set_option maxHeartbeats 4000000
set_option linter.unusedVariables false
set_option linter.unusedSimpArgs false
attribute [local irreducible] J JQ QS Con W opW
theorem ho_len8 {e : TypeId} {q : List UInt8} {x : Int} {v : Value} {c : SH} (h : Sx.Own e 1 (ints q) v c) : Sx.Own e 1 (ints (q ++ len8 x 0)) v c := by simpa [len8] using h
theorem ne_own {a : Addr} {p : List UInt8} {g : Nat} {w : World} (h : Cells w a (ints p)) (hg : w.heap.size ≤ g) (hp : p ≠ []) : a.block ≠ g := by
 intro e
 have := h 0 _ (ints_get_lt (List.length_pos_iff.2 hp))
 rw [add_zero_] at this
 unfold World.cell? at this
 split at this
 ·rename_i h1
  have := lt_of_get h1
  omega
 ·cases this
theorem own128 {e : TypeId} {p : List UInt8} {v : Value} {c : SH} {l : List UInt8} (h : Sx.Own e 1 (ints p ++ ints l) v c) : Sx.Own e 1 (ints (p ++ l)) v c := by rwa [ints_append]
theorem rep_succ (p : List UInt8) (j : Nat) : p ++ List.replicate j (0 : UInt8) ++ [0] = p ++ List.replicate (j + 1) 0 := by
 rw [List.append_assoc, ← List.replicate_succ']
theorem outs_step {s : List Int} {h : List UInt8} {i : Nat} (ht : h.take i = outs s i) (hi : i < h.length) : (h.set i (by8 ((s.getD (i / 4) 0).fdiv (2 ^ (24 - 8 * (i % 4)))))).take (i + 1) = outs s (i + 1) := by
 rw [take_set_succ hi, ht, outs]
theorem len8_succ (p : List UInt8) (x : Int) (i : Nat) : p ++ len8 x i ++ [by8 (x.fdiv (2 ^ (56 - 8 * i)))] = p ++ len8 x (i + 1) := by
 rw [len8, List.append_assoc]
theorem sum_eq (p : List UInt8) : sum p = outs (blocks ((p.length + zc p.length + 9) / 64) (p ++ [128] ++ List.replicate (zc p.length) 0 ++ len8 (bits8 p.length) 8) init8) 32 := by
 unfold sum ended pad
 simp only [List.append_assoc]
theorem ended_eq (s : List Int) (p : List UInt8) (x : Int) : ended s p x = outs (blocks ((p.length + zc p.length + 9) / 64) (p ++ [128] ++ List.replicate (zc p.length) 0 ++ len8 x 8) s) 32 := by
 unfold ended pad
 simp only [List.append_assoc]
theorem shift24 (i : Nat) : min (24 - 8 * ((i : Int) % 4)).toNat IntKind.u32.bits = 24 - 8 * (i % 4) := by
 show min _ 32 = _
 omega
theorem shift56 (i : Nat) (h : i < 8) : min (56 - 8 * (i : Int)).toNat IntKind.u64.bits = 56 - 8 * i := by
 show min _ 64 = _
 omega
theorem div4 (i : Nat) : ((i : Int) / 4).toNat = i / 4 := by omega
theorem clone_con (p : List UInt8) (a : Addr) (c : Nat) (w : World) (hpm : p.length ≤ 35184372088832) (hpc : Cells w a (ints p)) : Con Tryz.prog 135 [.slice (some a) p.length c] w [] fun v S' => ∃ c', S' = [c'] ∧ Sx.Own 5 1 (ints p) v c' := by
 refine con_of_tree mix Tryz.func135 T135_ok (by kernel_rfl) ?_
 unfold T135
 refine j_q (qs_ac) ?_
 refine j_q (qs_slnil U46 rfl) ?_
 refine j_cond rfl (fun hc0 => ?_) (fun hc0 => ?_)
 ·skip
  cases hc0
 ·skip
  refine j_lit (vs := []) U46 sz5 zero5 rfl (by simp [oneV]) ⟨rfl, by decide⟩ (fun g3 v3 c3 hv3 hc3 ho3 => ?_)
  subst hv3 hc3
  refine j_append 0 U46 U46 (.inr ⟨_, rfl⟩) sb5 zero5 rfl ho3 rfl (src_sl (rd_cells hpc (by simp)) (by simp [ints_length])) ints_one ⟨(by simp [ints_length]; omega), (by decide)⟩ (fun v4 c4 ho4 => ?_)
  refine j_sub (S' := [c4]) (by simp) ?_
  refine j_ret_con (vs := [_]) (fun w' hw' => ⟨rfl, trivial⟩) ?_
  exact ⟨_, rfl, ho4⟩
theorem ended_con (s : List Int) (rest : List UInt8) (a : Addr) (c : Nat) (n0 x : Int) (w : World) (hs : s.length = 8) (hrm : rest.length ≤ 17592186044416) (hpc : Cells w a (ints rest)) (hx : x = IntKind.u64.wrap (n0 * 8)) : Con Tryz.prog 102 [.agg (ks .u32 s).toArray, .slice (some a) rest.length c, .int .u64 n0] w [] fun v _ => v = .agg (ints (ended s rest x)).toArray := by
 refine con_of_tree mix Tryz.func102 T102_ok (by kernel_rfl) ?_
 unfold T102
 have hz64 := zc_lt rest.length
 refine j_box rfl (fun g0 hg0 hs0 => ?_)
 refine j_alloc zero51 (fun g1 hg1 hs1 => ?_)
 refine j_call0 ent135 rfl rfl rfl (fun w' hw' => clone_con rest a c w' (by omega) (rd_w (rd_cells hpc (by simp)) hw')) (fun u S2 hu => ?_)
 obtain ⟨c2, rfl, ho2⟩ := hu
 refine j_lit (vs := [.int .u8 _]) U46 sz5 zero5 rfl (by simp [oneV]) ⟨rfl, by decide⟩ (fun g3 v3 c3 hv3 hc3 ho3 => ?_)
 subst hv3 hc3
 refine j_append 1 U46 U46 (.inr ⟨_, rfl⟩) sb5 zero5 rfl ho2 rfl (src_sl (rd_own 0 rfl (n := 1) rfl) rfl) (by simp [oneV]) ⟨(by simp [ints_length]; omega), (by decide)⟩ (fun v4 c4 ho4 => ?_)
 have ho4' : Sx.Own 5 1 (ints (rest ++ [128] ++ List.replicate 0 0)) v4 c4 := by simpa using own128 (l := [128]) ho4
 refine j_loop (fun m vs S' => ∃ (j : Nat) (v : Value) (c : SH), vs = [v] ∧ S' = [[(g3, .cells [.int .u8 128].toArray 5 (0, 0))], c, [(g1, .cells (ints (List.replicate 32 0)).toArray 51 (0, 0))], [(g0, .cells (ks .u32 s).toArray 147 (0, 0))], []] ∧ Sx.Own 5 1 (ints (rest ++ [128] ++ List.replicate j 0)) v c ∧ j ≤ zc rest.length ∧ m = zc rest.length - j) ⟨_, 0, _, _, rfl, rfl, ho4', by omega, rfl⟩ ?_
 rintro m vs S' hlen ⟨j, v, c', rfl, rfl, ho, hj, rfl⟩
 obtain ⟨n, A, cap, rfl, hn⟩ := own_form ho (by decide)
 simp only [ints_length, List.length_append, List.length_replicate, List.length_cons, List.length_nil] at hn
 clear hlen
 refine j_q (qs_lenl U46 rfl) ?_
 refine j_q (qs_rem64 rfl rfl (by omega) (by omega)) ?_
 refine j_q (qs_neq rfl rfl) ?_
 refine j_cond rfl (fun hc0 => ?_) (fun hc0 => ?_)
 ·skip
  have hj1 : j < zc rest.length := by
   refine zc_back hj ?_
   simp only [bnA] at *
   omega
  refine j_lit (vs := [.int .u8 _]) U46 sz5 zero5 rfl (by simp [oneV]) ⟨rfl, by decide⟩ (fun g8 v8 c8 hv8 hc8 ho8 => ?_)
  subst hv8 hc8
  refine j_append 2 U46 U46 (.inr ⟨_, rfl⟩) sb5 zero5 rfl ho rfl (src_sl (rd_own 0 rfl (n := 1) rfl) rfl) (by simp [oneV]) ⟨(by simp [ints_length]; omega), (by decide)⟩ (fun v9 c9 ho9 => ?_)
  have ho9' : Sx.Own 5 1 (ints (rest ++ [128] ++ List.replicate (j + 1) 0)) v9 c9 := by rw [← rep_succ]; exact own128 (l := [0]) ho9
  refine j_drop ?_
  refine j_back rfl ?_
  exact ⟨_, back_le hj1, j + 1, _, _, rfl, rfl, ho9', by omega, rfl⟩
 ·skip
  have hje : j = zc rest.length := by
   refine zc_end hj ?_
   simp only [bnA] at *
   omega
  refine j_q (qs_mc) ?_
  refine j_loop (fun m vs S' => ∃ (i : Nat) (v : Value) (c : SH), vs = [v, .int .i64 i] ∧ S' = [[(g3, .cells [.int .u8 128].toArray 5 (0, 0))], c, [(g1, .cells (ints (List.replicate 32 0)).toArray 51 (0, 0))], [(g0, .cells (ks .u32 s).toArray 147 (0, 0))], []] ∧ Sx.Own 5 1 (ints (rest ++ [128] ++ List.replicate (zc rest.length) 0 ++ len8 x i)) v c ∧ i ≤ 8 ∧ m = 8 - i) ⟨_, 0, _, _, rfl, rfl, (ho_len8 (hje ▸ ho)), by omega, rfl⟩ ?_
  rintro m vs S' hlen ⟨i, v, c', rfl, rfl, ho, hi, rfl⟩
  clear hlen
  refine j_q (qs_lss rfl rfl) ?_
  refine j_cond rfl (fun hc1 => ?_) (fun hc1 => ?_)
  ·skip
   have hi1 : i < 8 := by
    simp only [bnA] at *
    omega
   refine j_q (qs_shl rfl rfl (by omega)) ?_
   refine j_q (qs_mul64 rfl rfl (by omega)) ?_
   refine j_q (qs_sub64 rfl rfl (by omega)) ?_
   refine j_q (qs_shr rfl rfl (by omega)) ?_
   refine j_q (qs_conv8 U151 U5 rfl) ?_
   rw [show (n0 * 2 ^ min (Int.toNat 3) IntKind.u64.bits : Int) = n0 * 8 from rfl, ← hx, shift56 i hi1]
   refine j_lit (vs := [.int .u8 _]) U46 sz5 zero5 rfl (by simp [oneV]) ⟨rfl, by decide⟩ (fun g17 v17 c17 hv17 hc17 ho17 => ?_)
   subst hv17 hc17
   refine j_append 2 U46 U46 (.inr ⟨_, rfl⟩) sb5 zero5 rfl ho rfl (src_sl (rd_own 0 rfl (n := 1) rfl) rfl) (by simp [oneV]) ⟨(by simp [ints_length, len8_length]; omega), (by decide)⟩ (fun v18 c18 ho18 => ?_)
   have ho18' : Sx.Own 5 1 (ints (rest ++ [128] ++ List.replicate (zc rest.length) 0 ++ len8 x (i + 1))) v18 c18 := by rw [← len8_succ]; exact own128 (l := [_]) ho18
   refine j_drop ?_
   refine j_q (qs_add64 rfl rfl (by omega)) ?_
   refine j_back rfl ?_
   exact ⟨_, back_le hi1, i + 1, _, _, rfl, rfl, ho18', by omega, rfl⟩
  ·skip
   have hi1 : i = 8 := by
    simp only [bnA] at *
    omega
   subst hi1
   obtain ⟨g, n, cap, rfl⟩ := own_some ho (by simp [ints])
   obtain ⟨row, fz, hrow, hl1, hl2, hl3, hl4⟩ := own_row ho
   simp only [ints_length] at hl1
   have hmm : (rest ++ [128] ++ List.replicate (zc rest.length) 0 ++ len8 x 8).length = rest.length + zc rest.length + 9 := by simp [len8_length]; omega
   obtain rfl : n = (rest ++ [128] ++ List.replicate (zc rest.length) 0 ++ len8 x 8).length := by omega
   refine j_call 3 ent101 rfl rfl rfl rfl (fun w' hw' => take_con s (rest ++ [128] ++ List.replicate (zc rest.length) 0 ++ len8 x 8) ⟨g, 0, none⟩ cap g0 _ w' hs (by omega) hl3 (rd_w (own_rd ho 1 rfl) hw') (fun _ => by subst hrow; exact hw'.ne (i := 1) (j := 3) rfl rfl (by decide))) (fun u S2 hu => ?_)
   obtain ⟨rfl, rfl⟩ := hu
   rw [hmm]
   obtain ⟨s', hs'⟩ : ∃ s', s' = blocks ((rest.length + zc rest.length + 9) / 64) (rest ++ [128] ++ List.replicate (zc rest.length) 0 ++ len8 x 8) s := ⟨_, rfl⟩
   have hsl : s'.length = 8 := by rw [hs']; exact blocks_length hs
   rw [← hs']
   refine j_q (qs_mc) ?_
   refine j_loop (fun m vs S' => ∃ (i : Nat) (h : List UInt8), vs = [.int .i64 i] ∧ S' = [[(g0, .cells (ks .u32 s').toArray 147 (0, 0))], [(g3, .cells [.int .u8 128].toArray 5 (0, 0))], c', [(g1, .cells (ints h).toArray 51 (0, 0))], [], []] ∧ h.length = 32 ∧ h.take i = outs s' i ∧ i ≤ 32 ∧ m = 32 - i) ⟨_, 0, _, rfl, rfl, by simp, rfl, by omega, rfl⟩ ?_
   rintro m vs S' hlen ⟨i, h, rfl, rfl, hhl, ht, hi, rfl⟩
   clear hlen
   refine j_q (qs_lss rfl rfl) ?_
   refine j_cond rfl (fun hc2 => ?_) (fun hc2 => ?_)
   ·skip
    have hi1 : i < 32 := by
     simp only [bnA] at *
     omega
    refine j_q (qs_quo64 rfl rfl (by omega) (by omega) (by omega)) ?_
    refine j_q (qs_ix0 U147 sz145 rfl rfl ⟨(by omega), (by omega)⟩) ?_
    refine j_q (qs_loadk 0 U145 rfl rfl (by omega)) ?_
    refine j_q (qs_rem64 rfl rfl (by omega) (by omega)) ?_
    refine j_q (qs_mul64 rfl rfl (by omega)) ?_
    refine j_q (qs_sub64 rfl rfl (by omega)) ?_
    refine j_q (qs_shr rfl rfl (by omega)) ?_
    refine j_q (qs_conv8 U145 U5 rfl) ?_
    rw [div4, shift24]
    refine j_q (qs_ix0 U51 sz5 rfl rfl ⟨(by omega), (by omega)⟩) ?_
    refine j_storei 3 sz5 rfl rfl rfl (by omega) ?_
    refine j_q (qs_add64 rfl rfl (by omega)) ?_
    refine j_back rfl ?_
    exact ⟨_, back_le hi1, i + 1, _, rfl, rfl, by simpa using hhl, outs_step ht (by omega), by omega, rfl⟩
   ·skip
    have hi1 : i = 32 := by
     simp only [bnA] at *
     omega
    subst hi1
    refine j_q (qs_loadw 3 U51 rfl sz51 rfl rfl (by first | rfl | (rw [ints_length]; exact hhl))) ?_
    refine j_storew 3 sz51 rfl rfl (by first | rfl | (rw [ints_length]; exact hhl)) ints_one rfl (by first | rfl | (rw [ints_length]; exact hhl)) ?_
    refine j_ret_con (vs := [_]) (fun w' hw' => ⟨rv_agg 3 U51 rfl sz51 rfl rfl (by first | rfl | (rw [ints_length]; exact hhl)) hw', trivial⟩) ?_
    show Value.agg _ = _
    rw [List.take_of_length_le (by omega)] at ht
    rw [ht, hs', ended_eq]
end Go.Proofs.YtfeabbeebkkhaaaGreat
/-! Sha4 -/
namespace Go.Proofs.YtfeabbeebkkhaaaGreat
open Go Go.Sx
set_option maxRecDepth 100000
set_option maxHeartbeats 4000000
set_option linter.unusedVariables false
set_option linter.unusedSimpArgs false
attribute [local irreducible] J JQ QS Con W opW
theorem sum_con (p : List UInt8) (a : Addr) (c : Nat) (w : World) (hpm : p.length ≤ 17592186044416) (hc : p.length ≤ c) (hpc : Cells w a (ints p)) : Con Tryz.prog 53 [.slice (some a) p.length c] w [] fun v _ => v = .agg (ints (sum p)).toArray := by
 refine con_of_tree mix Tryz.func53 T53_ok (by kernel_rfl) ?_
 unfold T53
 refine j_alloc zero51 (fun g0 hg0 hs0 => ?_)
 refine j_q (qs_call ent100 rfl rfl rfl (fun w' hw' => begun_con w')) ?_
 refine j_alloc zero147 (fun g2 hg2 hs2 => ?_)
 refine j_storew 0 sz147 rfl rfl (by first | (rw [ks_length]; exact blocks_length rfl) | (rw [ints_length]; exact outs_length _ _) | rfl) ks_one rfl (by first | (rw [ks_length]; exact blocks_length rfl) | (rw [ints_length]; exact outs_length _ _) | rfl) ?_
 refine j_call 0 ent101 rfl rfl rfl rfl (fun w' hw' => take_con init8 p a c g2 _ w' rfl (by omega) hc (rd_w (rd_cells hpc (by simp)) hw') (fun hp => ne_own hpc hg2 hp)) (fun u S2 hu => ?_)
 obtain ⟨rfl, rfl⟩ := hu
 refine j_draw ?_
 refine jq_q (qs_loadw 0 U147 rfl sz147 rfl rfl (by first | (rw [ks_length]; exact blocks_length rfl) | (rw [ints_length]; exact outs_length _ _) | rfl)) ?_
 refine jq_q (qs_lenl U46 rfl) ?_
 refine jq_q (qs_quo64 rfl rfl (by omega) (by omega) (by omega)) ?_
 refine jq_q (qs_mul64 rfl rfl (by omega)) ?_
 refine jq_q (qs_cutl (a := 64 * (p.length / 64)) (z := p.length) U46 sz5 rfl ⟨.i64, by show Value.int _ _ = _; congr 1; omega⟩ rfl (by omega) (by omega)) ?_
 rw [show (if c = 64 * (p.length / 64) then some a else (some a).map (·.add (64 * (p.length / 64) * 1))) = some (if c = 64 * (p.length / 64) then a else a.add (64 * (p.length / 64))) by split <;> simp]
 have hcell : ∀ (S : List SH) w', Sig ⟨w, dom []⟩ S w' → Cells w' (if c = 64 * (p.length / 64) then a else a.add (64 * (p.length / 64))) ((ints p).drop (64 * (p.length / 64))) := by
  intro S w' hw'
  have h0 := rd_w (rd_cells hpc (by simp)) hw'
  split
  ·rw [List.drop_of_length_le (by rw [ints_length]; omega)]
   intro j u hu
   simp at hu
  ·exact cells_drop h0 _
 rw [show p.length - 64 * (p.length / 64) = (p.drop (64 * (p.length / 64))).length by rw [List.length_drop]]
 refine jq_q (qs_lenl U46 rfl) ?_
 refine jq_q (qs_conv U3 U151 rfl) ?_
 refine jq_q (qs_call ent102 rfl rfl rfl (fun w' hw' => ended_con _ (p.drop (64 * (p.length / 64))) _ _ _ (bits8 p.length) w' (blocks_length rfl) (by rw [List.length_drop]; omega) (by rw [← ints_drop]; exact hcell _ w' hw') rfl)) ?_
 refine jq_nil ?_
 refine j_storew 2 sz51 rfl rfl (by first | (rw [ks_length]; exact blocks_length rfl) | (rw [ints_length]; exact outs_length _ _) | rfl) ints_one rfl (by first | (rw [ks_length]; exact blocks_length rfl) | (rw [ints_length]; exact outs_length _ _) | rfl) ?_
 refine j_ret_con (vs := [_]) (fun w' hw' => ⟨rv_agg 2 U51 rfl sz51 rfl rfl (by first | (rw [ks_length]; exact blocks_length rfl) | (rw [ints_length]; exact outs_length _ _) | rfl) hw', trivial⟩) ?_
 show Value.agg _ = _
 rw [sum_split]
end Go.Proofs.YtfeabbeebkkhaaaGreat
/-! Sha5 -/
namespace Go.Proofs.YtfeabbeebkkhaaaGreat
open Go Go.Sx
set_option maxRecDepth 100000
set_option maxHeartbeats 4000000
set_option linter.unusedVariables false
set_option linter.unusedSimpArgs false
attribute [local irreducible] J JQ QS Con W opW
theorem shift56v (i : Nat) (h : i < 8) : min (8 * (7 - (i : Int))).toNat IntKind.u64.bits = 56 - 8 * i := by
 show min _ 64 = _
 omega
theorem rsum_con (p : List UInt8) (a : Addr) (c : Nat) (w : World) (hpm : p.length ≤ 17592186044416) (hpc : Cells w a (ints p)) : Con Tryz.prog 61 [.slice (some a) p.length c] w [] fun v _ => v = .agg (ints (sum p)).toArray := by
 refine con_of_tree mix Tryz.func61 T61_ok (by kernel_rfl) ?_
 unfold T61
 have hz64 := zc_lt p.length
 refine j_alloc zero51 (fun g0 hg0 hs0 => ?_)
 refine j_lit (vs := []) U46 sz5 zero5 rfl (by simp [oneV]) ⟨rfl, by decide⟩ (fun g1 v1 c1 hv1 hc1 ho1 => ?_)
 subst hv1 hc1
 refine j_append 0 U46 U46 (.inr ⟨_, rfl⟩) sb5 zero5 rfl ho1 rfl (src_sl (rd_cells hpc (by simp)) (by simp [ints_length])) ints_one ⟨(by simp [ints_length]; omega), (by decide)⟩ (fun v2 c2 ho2 => ?_)
 refine j_lit (vs := [.int .u8 _]) U46 sz5 zero5 rfl (by simp [oneV]) ⟨rfl, by decide⟩ (fun g3 v3 c3 hv3 hc3 ho3 => ?_)
 subst hv3 hc3
 refine j_append 1 U46 U46 (.inr ⟨_, rfl⟩) sb5 zero5 rfl ho2 rfl (src_sl (rd_own 0 rfl (n := 1) rfl) rfl) (by simp [oneV]) ⟨(by simp [ints_length, len8_length]; omega), (by decide)⟩ (fun v4 c4 ho4 => ?_)
 have ho4' : Sx.Own 5 1 (ints (p ++ [128] ++ List.replicate 0 0)) v4 c4 := by simpa using own128 (l := [128]) ho4
 refine j_drop ?_
 refine j_loop (fun m vs S' => ∃ (j : Nat) (v : Value) (c : SH), vs = [v] ∧ S' = [c, [(g0, .cells (ints (List.replicate 32 0)).toArray 51 (0, 0))], []] ∧ Sx.Own 5 1 (ints (p ++ [128] ++ List.replicate j 0)) v c ∧ j ≤ zc p.length ∧ m = zc p.length - j) ⟨_, 0, _, _, rfl, rfl, ho4', by omega, rfl⟩ ?_
 rintro m vs S' hlen ⟨j, v, c', rfl, rfl, ho, hj, rfl⟩
 obtain ⟨n, A, cap, rfl, hn⟩ := own_form ho (by decide)
 simp only [ints_length, List.length_append, List.length_replicate, List.length_cons, List.length_nil] at hn
 clear hlen
 refine j_q (qs_lenl U46 rfl) ?_
 refine j_q (qs_rem64 rfl rfl (by omega) (by omega)) ?_
 refine j_q (qs_neq rfl rfl) ?_
 refine j_cond rfl (fun hc0 => ?_) (fun hc0 => ?_)
 ·skip
  have hj1 : j < zc p.length := by
   refine zc_back hj ?_
   simp only [bnA] at *
   omega
  refine j_lit (vs := [.int .u8 _]) U46 sz5 zero5 rfl (by simp [oneV]) ⟨rfl, by decide⟩ (fun g8 v8 c8 hv8 hc8 ho8 => ?_)
  subst hv8 hc8
  refine j_append 1 U46 U46 (.inr ⟨_, rfl⟩) sb5 zero5 rfl ho rfl (src_sl (rd_own 0 rfl (n := 1) rfl) rfl) (by simp [oneV]) ⟨(by simp [ints_length, len8_length]; omega), (by decide)⟩ (fun v9 c9 ho9 => ?_)
  have ho9' : Sx.Own 5 1 (ints (p ++ [128] ++ List.replicate (j + 1) 0)) v9 c9 := by rw [← rep_succ]; exact own128 (l := [0]) ho9
  refine j_drop ?_
  refine j_back rfl ?_
  exact ⟨_, back_le hj1, j + 1, _, _, rfl, rfl, ho9', by omega, rfl⟩
 ·skip
  have hje : j = zc p.length := by
   refine zc_end hj ?_
   simp only [bnA] at *
   omega
  refine j_q (qs_lenl U46 rfl) ?_
  refine j_q (qs_conv U3 U151 rfl) ?_
  refine j_q (qs_mul rfl rfl) ?_
  refine j_q (qs_ac) ?_
  refine j_loop (fun m vs S' => ∃ (i : Nat) (v : Value) (c : SH), vs = [v, .int .i64 (7 - (i : Int))] ∧ S' = [c, [(g0, .cells (ints (List.replicate 32 0)).toArray 51 (0, 0))], []] ∧ Sx.Own 5 1 (ints (p ++ [128] ++ List.replicate (zc p.length) 0 ++ len8 (bits8 p.length) i)) v c ∧ i ≤ 8 ∧ m = 8 - i) ⟨_, 0, _, _, rfl, rfl, ho_len8 (hje ▸ ho), by omega, rfl⟩ ?_
  rintro m vs S' hlen ⟨i, v, c', rfl, rfl, ho, hi, rfl⟩
  clear hlen
  refine j_q (qs_geq rfl rfl) ?_
  refine j_cond rfl (fun hc1 => ?_) (fun hc1 => ?_)
  ·skip
   have hi1 : i < 8 := by
    simp only [bnA] at *
    omega
   refine j_q (qs_mul64 rfl rfl (by omega)) ?_
   refine j_q (qs_conv U3 U152 rfl) ?_
   rw [IntWalk.u64_in _ (by omega)]
   refine j_q (qs_shr rfl rfl (by omega)) ?_
   rw [shift56v i hi1]
   refine j_q (qs_conv8 U151 U5 rfl) ?_
   refine j_lit (vs := [.int .u8 _]) U46 sz5 zero5 rfl (by simp [oneV]) ⟨rfl, by decide⟩ (fun g19 v19 c19 hv19 hc19 ho19 => ?_)
   subst hv19 hc19
   refine j_append 1 U46 U46 (.inr ⟨_, rfl⟩) sb5 zero5 rfl ho rfl (src_sl (rd_own 0 rfl (n := 1) rfl) rfl) (by simp [oneV]) ⟨(by simp [ints_length, len8_length]; omega), (by decide)⟩ (fun v20 c20 ho20 => ?_)
   have ho20' : Sx.Own 5 1 (ints (p ++ [128] ++ List.replicate (zc p.length) 0 ++ len8 (bits8 p.length) (i + 1))) v20 c20 := by rw [← len8_succ]; exact own128 (l := [_]) ho20
   refine j_drop ?_
   refine j_q (qs_sub64 rfl rfl (by omega)) ?_
   refine j_back rfl ?_
   exact ⟨_, back_le hi1, i + 1, _, _, by show [_, Value.int _ _] = _; congr 3; omega, rfl, ho20', by omega, rfl⟩
  ·skip
   have hi1 : i = 8 := by
    simp only [bnA] at *
    omega
   subst hi1
   obtain ⟨g, n, cap, rfl⟩ := own_some ho (by simp [ints])
   obtain ⟨row, fz, hrow, hl1, hl2, hl3, hl4⟩ := own_row ho
   obtain ⟨mm, hmm⟩ : ∃ mm, mm = p ++ [128] ++ List.replicate (zc p.length) 0 ++ len8 (bits8 p.length) 8 := ⟨_, rfl⟩
   have hml : mm.length = p.length + zc p.length + 9 := by rw [hmm]; simp [len8_length]; omega
   rw [← hmm] at ho hl1
   simp only [ints_length] at hl1
   obtain rfl : n = mm.length := by omega
   have hm64 := zc_mod p.length
   refine j_q (qs_run (v := .agg (ks .u32 init8).toArray) (fun w => by kernel_rfl)) ?_
   refine j_alloc zero146 (fun g23 hg23 hs23 => ?_)
   refine j_storew 0 sz146 rfl rfl (by first | (rw [ks_length]; exact hsl) | (rw [ks_length]; exact block_length hsl) | (rw [ints_length]; exact hhl) | rfl) ks_one rfl (by first | (rw [ks_length]; exact hsl) | (rw [ks_length]; exact block_length hsl) | (rw [ints_length]; exact hhl) | rfl) ?_
   refine j_q (qs_call ent112 rfl rfl rfl (fun w' hw' => k_con w')) ?_
   refine j_alloc zero162 (fun g26 hg26 hs26 => ?_)
   refine j_storew 0 sz162 rfl rfl (by first | (rw [ks_length]; exact hsl) | (rw [ks_length]; exact block_length hsl) | (rw [ints_length]; exact hhl) | rfl) ks_one rfl (by first | (rw [ks_length]; exact hsl) | (rw [ks_length]; exact block_length hsl) | (rw [ints_length]; exact hhl) | rfl) ?_
   refine j_q (qs_ac) ?_
   refine j_loop (fun m vs S' => ∃ (t : Nat) (s : List Int), vs = [.int .i64 (64 * (t : Int))] ∧ S' = [[(g26, .cells (ks .u32 kk64).toArray 162 (0, 0))], [(g23, .cells (ks .u32 s).toArray 146 (0, 0))], c', [(g0, .cells (ints (List.replicate 32 0)).toArray 51 (0, 0))], []] ∧ s = blocks t mm init8 ∧ 64 * t ≤ mm.length ∧ m = mm.length - 64 * t) ⟨_, 0, _, rfl, rfl, rfl, by omega, rfl⟩ ?_
   rintro m vs S' hlen ⟨t, s, rfl, rfl, hs, ht, rfl⟩
   have hsl : s.length = 8 := by rw [hs]; exact blocks_length rfl
   clear hlen
   refine j_q (qs_lenl U46 rfl) ?_
   refine j_q (qs_lss rfl rfl) ?_
   refine j_cond rfl (fun hc2 => ?_) (fun hc2 => ?_)
   ·skip
    have ht1 : 64 * t + 64 ≤ mm.length := by
     simp only [bnA] at *
     omega
    refine j_draw ?_
    refine jq_q (qs_loadw 1 U146 rfl sz146 rfl rfl (by first | (rw [ks_length]; exact hsl) | (rw [ks_length]; exact block_length hsl) | (rw [ints_length]; exact hhl) | rfl)) ?_
    refine jq_q (qs_add64 rfl rfl (by omega)) ?_
    refine jq_q (qs_cutl (a := 64 * t) (z := 64 * t + 64) U46 sz5 rfl ⟨.i64, by show Value.int _ _ = _; congr 1⟩ ⟨.i64, by show Value.int _ _ = _; congr 1⟩ (by omega) (by omega)) ?_
    rw [if_neg (by omega : ¬ cap = 64 * t), show 64 * t + 64 - 64 * t = 64 by omega, Nat.mul_one]
    refine jq_q (qs_call ent113 rfl rfl rfl (fun w' hw' => block_con s ((mm.drop (64 * t)).take 64) _ _ g26 w' hsl (by rw [List.length_take, List.length_drop]; omega) (by rw [← ints_take, ← ints_drop]; exact cells_take (cells_drop (rd_w (own_rd ho 2 rfl) hw') _) _) (rd_w (rd_own 0 rfl (n := 64) rfl) hw'))) ?_
    refine jq_nil ?_
    refine j_storew 1 sz146 rfl rfl (by first | (rw [ks_length]; exact hsl) | (rw [ks_length]; exact block_length hsl) | (rw [ints_length]; exact hhl) | rfl) ks_one rfl (by first | (rw [ks_length]; exact hsl) | (rw [ks_length]; exact block_length hsl) | (rw [ints_length]; exact hhl) | rfl) ?_
    refine j_q (qs_add64 rfl rfl (by omega)) ?_
    refine j_back rfl ?_
    refine ⟨_, (by omega : mm.length - 64 * (t + 1) < mm.length - 64 * t), t + 1, _, by first | rfl | (show [Value.int _ _] = _; congr 2; omega), rfl, ?_, by omega, rfl⟩
    rw [blocks_succ, ← hs]
    refine block_congr (fun j hj => ?_) _
    rw [List.getD_eq_getElem?_getD, List.getElem?_take_of_lt hj, ← List.getD_eq_getElem?_getD]
   ·skip
    have ht1 : t = (p.length + zc p.length + 9) / 64 := by
     simp only [bnA] at *
     omega
    refine j_alloc zero51 (fun g37 hg37 hs37 => ?_)
    refine j_q (qs_ac) ?_
    refine j_loop (fun m vs S' => ∃ (i : Nat) (h : List UInt8), vs = [.int .i64 i] ∧ S' = [[(g37, .cells (ints h).toArray 51 (0, 0))], [(g26, .cells (ks .u32 kk64).toArray 162 (0, 0))], [(g23, .cells (ks .u32 s).toArray 146 (0, 0))], c', [(g0, .cells (ints (List.replicate 32 0)).toArray 51 (0, 0))], []] ∧ h.length = 32 ∧ h.take i = outs s i ∧ i ≤ 32 ∧ m = 32 - i) ⟨_, 0, _, rfl, rfl, by simp, rfl, by omega, rfl⟩ ?_
    rintro m vs S' hlen ⟨i, h, rfl, rfl, hhl, ht, hi, rfl⟩
    clear hlen
    refine j_q (qs_lss rfl rfl) ?_
    refine j_cond rfl (fun hc3 => ?_) (fun hc3 => ?_)
    ·skip
     have hi1 : i < 32 := by
      simp only [bnA] at *
      omega
     refine j_q (qs_quo64 rfl rfl (by omega) (by omega) (by omega)) ?_
     refine j_q (qs_ix0 U146 sz145 rfl rfl ⟨(by omega), (by omega)⟩) ?_
     refine j_q (qs_loadk 2 U145 rfl rfl (by omega)) ?_
     refine j_q (qs_rem64 rfl rfl (by omega) (by omega)) ?_
     refine j_q (qs_mul64 rfl rfl (by omega)) ?_
     refine j_q (qs_sub64 rfl rfl (by omega)) ?_
     refine j_q (qs_conv U3 U152 rfl) ?_
     rw [IntWalk.u64_in _ (by omega)]
     refine j_q (qs_shr rfl rfl (by omega)) ?_
     refine j_q (qs_conv8 U145 U5 rfl) ?_
     rw [div4, shift24]
     refine j_q (qs_ix0 U51 sz5 rfl rfl ⟨(by omega), (by omega)⟩) ?_
     refine j_storei 0 sz5 rfl rfl rfl (by omega) ?_
     refine j_q (qs_add64 rfl rfl (by omega)) ?_
     refine j_back rfl ?_
     exact ⟨_, back_le hi1, i + 1, _, rfl, rfl, by simpa using hhl, outs_step ht (by omega), by omega, rfl⟩
    ·skip
     have hi1 : i = 32 := by
      simp only [bnA] at *
      omega
     subst hi1
     refine j_q (qs_loadw 0 U51 rfl sz51 rfl rfl (by first | (rw [ks_length]; exact hsl) | (rw [ks_length]; exact block_length hsl) | (rw [ints_length]; exact hhl) | rfl)) ?_
     refine j_storew 4 sz51 rfl rfl (by first | (rw [ks_length]; exact hsl) | (rw [ks_length]; exact block_length hsl) | (rw [ints_length]; exact hhl) | rfl) ints_one rfl (by first | (rw [ks_length]; exact hsl) | (rw [ks_length]; exact block_length hsl) | (rw [ints_length]; exact hhl) | rfl) ?_
     refine j_ret_con (vs := [_]) (fun w' hw' => ⟨rv_agg 4 U51 rfl sz51 rfl rfl (by first | (rw [ks_length]; exact hsl) | (rw [ks_length]; exact block_length hsl) | (rw [ints_length]; exact hhl) | rfl) hw', trivial⟩) ?_
     show Value.agg _ = _
     rw [List.take_of_length_le (by omega)] at ht
     rw [ht, hs, ht1, sum_eq, ← hmm]
theorem fold_con (h : List UInt8) (w : World) (hh : h.length = 32) : Con Tryz.prog 131 [.agg (ints h).toArray] w [] fun v _ => v = .agg (ints (fold h)).toArray := by
 refine con_of_tree mix Tryz.func131 T131_ok (by kernel_rfl) ?_
 unfold T131
 refine j_box rfl (fun g0 hg0 hs0 => ?_)
 refine j_alloc zero155 (fun g1 hg1 hs1 => ?_)
 refine j_q (qs_loadw 1 U51 rfl sz51 rfl rfl (by first | (rw [ints_length]; exact hh) | (rw [ints_length]; exact hfl) | exact hh | rfl)) ?_
 refine j_q (qs_mc) ?_
 refine j_loop (fun m vs S' => ∃ (i : Nat) (f : List UInt8), vs = [.int .i64 i] ∧ S' = [[(g1, .cells (ints f).toArray 155 (0, 0))], [(g0, .cells (ints h).toArray 51 (0, 0))], []] ∧ f = foldN h i ∧ i ≤ 32 ∧ m = 32 - i) ⟨_, 0, _, rfl, rfl, rfl, by omega, rfl⟩ ?_
 rintro m vs S' hlen ⟨i, f, rfl, rfl, hf, hi, rfl⟩
 have hfl : f.length = 20 := by rw [hf]; exact foldN_length h i
 clear hlen
 refine j_q (qs_lss rfl rfl) ?_
 refine j_cond rfl (fun hc0 => ?_) (fun hc0 => ?_)
 ·skip
  have hi1 : i < 32 := by
   simp only [bnA] at *
   omega
  have hi2 : ((i : Int) % 20).toNat = i % 20 := by omega
  have hi3 : i % 20 < 20 := by omega
  refine j_q (qs_ixvi U51 U5 sz5 rfl rfl ⟨(by omega), (by omega)⟩ (by first | (rw [ints_length]; exact hh) | (rw [ints_length]; exact hfl) | exact hh | rfl)) ?_
  refine j_q (qs_rem64 rfl rfl (by omega) (by omega)) ?_
  refine j_q (qs_ix0 U155 sz5 rfl rfl ⟨(by omega), (by omega)⟩) ?_
  refine j_q (qs_loadi 0 U5 rfl rfl (by omega)) ?_
  refine j_q (qs_xor_ rfl rfl) ?_
  rw [hi2, bw_by8]
  refine j_q (qs_ix0 U155 sz5 rfl rfl ⟨(by omega), (by omega)⟩) ?_
  refine j_storei 0 sz5 rfl rfl rfl (by omega) ?_
  refine j_q (qs_add64 rfl rfl (by omega)) ?_
  refine j_back rfl ?_
  refine ⟨_, back_le hi1, i + 1, _, rfl, rfl, ?_, by omega, rfl⟩
  rw [foldN, ← hf, hi2]
  rfl
 ·skip
  have hi1 : i = 32 := by
   simp only [bnA] at *
   omega
  subst hi1
  refine j_q (qs_loadw 0 U155 rfl sz155 rfl rfl (by first | (rw [ints_length]; exact hh) | (rw [ints_length]; exact hfl) | exact hh | rfl)) ?_
  refine j_storew 0 sz155 rfl rfl (by first | (rw [ints_length]; exact hh) | (rw [ints_length]; exact hfl) | exact hh | rfl) ints_one rfl (by first | (rw [ints_length]; exact hh) | (rw [ints_length]; exact hfl) | exact hh | rfl) ?_
  refine j_ret_con (vs := [_]) (fun w' hw' => ⟨rv_agg 0 U155 rfl sz155 rfl rfl (by first | (rw [ints_length]; exact hh) | (rw [ints_length]; exact hfl) | exact hh | rfl) hw', trivial⟩) ?_
  show Value.agg _ = _
  rw [hf]
  rfl
theorem rfold_con (h : List UInt8) (w : World) (hh : h.length = 32) : Con Tryz.prog 104 [.agg (ints h).toArray] w [] fun v _ => v = .agg (ints (fold h)).toArray := by
 refine con_of_tree mix Tryz.func104 T104_ok (by kernel_rfl) ?_
 unfold T104
 refine j_box rfl (fun g0 hg0 hs0 => ?_)
 refine j_alloc zero155 (fun g1 hg1 hs1 => ?_)
 refine j_alloc zero155 (fun g2 hg2 hs2 => ?_)
 refine j_q (qs_ac) ?_
 refine j_loop (fun m vs S' => ∃ (i : Nat) (f : List UInt8), vs = [.int .i64 i] ∧ S' = [[(g2, .cells (ints f).toArray 155 (0, 0))], [(g1, .cells (ints (List.replicate 20 0)).toArray 155 (0, 0))], [(g0, .cells (ints h).toArray 51 (0, 0))], []] ∧ f = foldN h i ∧ i ≤ 32 ∧ m = 32 - i) ⟨_, 0, _, rfl, rfl, rfl, by omega, rfl⟩ ?_
 rintro m vs S' hlen ⟨i, f, rfl, rfl, hf, hi, rfl⟩
 have hfl : f.length = 20 := by rw [hf]; exact foldN_length h i
 clear hlen
 refine j_q (qs_lss rfl rfl) ?_
 refine j_cond rfl (fun hc0 => ?_) (fun hc0 => ?_)
 ·skip
  have hi1 : i < 32 := by
   simp only [bnA] at *
   omega
  have hi2 : ((i : Int) % 20).toNat = i % 20 := by omega
  have hi3 : i % 20 < 20 := by omega
  refine j_draw ?_
  refine jq_q (qs_rem64 rfl rfl (by omega) (by omega)) ?_
  refine jq_q (qs_rem64 rfl rfl (by omega) (by omega)) ?_
  refine jq_q (qs_ix0 U155 sz5 rfl rfl ⟨(by omega), (by omega)⟩) ?_
  refine jq_q (qs_loadi 0 U5 rfl rfl (by omega)) ?_
  refine jq_q (qs_ix0 U51 sz5 rfl rfl ⟨(by omega), (by omega)⟩) ?_
  refine jq_q (qs_loadi 2 U5 rfl rfl (by omega)) ?_
  refine jq_q (qs_xor_ rfl rfl) ?_
  rw [hi2, bw_by8]
  refine jq_q (qs_ix0 U155 sz5 rfl rfl ⟨(by omega), (by omega)⟩) ?_
  refine jq_nil ?_
  refine j_storei 0 sz5 rfl rfl rfl (by omega) ?_
  refine j_q (qs_add64 rfl rfl (by omega)) ?_
  refine j_back rfl ?_
  refine ⟨_, back_le hi1, i + 1, _, rfl, rfl, ?_, by omega, rfl⟩
  rw [foldN, ← hf, hi2]
  rfl
 ·skip
  have hi1 : i = 32 := by
   simp only [bnA] at *
   omega
  subst hi1
  refine j_q (qs_loadw 0 U155 rfl sz155 rfl rfl (by first | (rw [ints_length]; exact hh) | (rw [ints_length]; exact hfl) | exact hh | rfl)) ?_
  refine j_storew 1 sz155 rfl rfl (by first | (rw [ints_length]; exact hh) | (rw [ints_length]; exact hfl) | exact hh | rfl) ints_one rfl (by first | (rw [ints_length]; exact hh) | (rw [ints_length]; exact hfl) | exact hh | rfl) ?_
  refine j_ret_con (vs := [_]) (fun w' hw' => ⟨rv_agg 1 U155 rfl sz155 rfl rfl (by first | (rw [ints_length]; exact hh) | (rw [ints_length]; exact hfl) | exact hh | rfl) hw', trivial⟩) ?_
  show Value.agg _ = _
  rw [hf]
  rfl
end Go.Proofs.YtfeabbeebkkhaaaGreat
/-! Path2 -/
namespace Go.Proofs.YtfeabbeebkkhaaaGreat
open Go Go.Sx
set_option maxRecDepth 100000
set_option maxHeartbeats 4000000
set_option linter.unusedVariables false
set_option linter.unusedSimpArgs false
attribute [local irreducible] J JQ QS Con W opW
def pathOf (kind h name : List UInt8) : List UInt8 := text32 (fold (sum (kind ++ [58] ++ hex h ++ [58] ++ name))) ++ [45] ++ name
theorem fold_length (h : List UInt8) : (fold h).length = 20 := foldN_length h 32
theorem hex_length (h : List UInt8) : (hex h).length = 64 := hexN_length h 32
theorem text_fold (h : List UInt8) : (text32 (fold h)).length = 32 := by rw [text32_length, fold_length]; rfl
theorem pathOf_length (kind h name : List UInt8) : (pathOf kind h name).length = 33 + name.length := by
 unfold pathOf
 simp only [List.length_append, text_fold, List.length_cons, List.length_nil]
def mk (kind h name : List UInt8) : Value := if isName name then .tuple #[.string (bs (pathOf kind h name)), .int .i64 0] else .tuple #[.string (bs []), .int .i64 9]
attribute [local irreducible] fold sum hex text32 pathOf
theorem make_con (kind h name : List UInt8) (w : World) (hh : h.length = 32) (hk : kind.length + name.length ≤ 1099511627776) : Con Tryz.prog 99 [.string (bs kind), .agg (ints h).toArray, .string (bs name)] w [] fun v _ => v = mk kind h name := by
 refine con_of_tree mix Tryz.func99 T99_ok (by kernel_rfl) ?_
 unfold T99
 refine j_box rfl (fun g0 hg0 hs0 => ?_)
 refine j_q (qs_ac) ?_
 refine j_q (qs_ac) ?_
 refine j_q (qs_call ent38 rfl rfl rfl (fun w' hw' => isName_con name w' (by omega))) ?_
 refine j_q (qs_not rfl) ?_
 refine j_cond rfl (fun hc0 => ?_) (fun hc0 => ?_)
 ·skip
  have hnm : isName name = false := by
   simp only [bnA] at *
   exact hc0
  refine j_q (qs_ac) ?_
  refine j_q (qs_ac) ?_
  refine j_ret_con (vs := [_, _]) (fun w' hw' => ⟨rfl, rfl, trivial⟩) ?_
  show Value.tuple #[_, _] = _
  rw [mk, if_neg (by rw [hnm]; decide)]
  rfl
 ·skip
  have hnm : isName name = true := by
   simp only [bnA] at *
   exact hc0
  refine j_q (qs_sadd rfl rfl (by simp; omega)) ?_
  refine j_q (qs_loadw 0 U51 rfl sz51 rfl rfl (by first | (rw [ints_length]; exact fold_length _) | (rw [ints_length]; exact hh) | rfl)) ?_
  refine j_q (qs_call ent54 rfl rfl rfl (fun w' hw' => hex_con h w' hh)) ?_
  refine j_q (qs_sadd rfl rfl (by simp [hex_length]; omega)) ?_
  refine j_q (qs_sadd rfl rfl (by simp [hex_length]; omega)) ?_
  refine j_q (qs_sadd rfl rfl (by simp [hex_length]; omega)) ?_
  refine j_bytes U9 U46 U5 rfl (fun v13 c13 ho13 hv13 => ?_)
  obtain ⟨g13, cap13, rfl⟩ := hv13
  obtain ⟨row, fz, hrow, hl1, hl2, hl3, hl4⟩ := own_row ho13
  refine j_q (qs_call ent53 rfl rfl rfl (fun w' hw' => sum_con (kind ++ [58] ++ hex h ++ [58] ++ name) _ _ w' (by simp [hex_length]; omega) hl3 (rd_w (own_rd ho13 0 rfl) hw'))) ?_
  refine j_q (qs_call ent131 rfl rfl rfl (fun w' hw' => fold_con _ w' (sum_length _))) ?_
  refine j_alloc zero155 (fun g16 hg16 hs16 => ?_)
  refine j_storew 0 sz155 rfl rfl (by first | (rw [ints_length]; exact fold_length _) | (rw [ints_length]; exact hh) | rfl) ints_one rfl (by first | (rw [ints_length]; exact fold_length _) | (rw [ints_length]; exact hh) | rfl) ?_
  refine j_q (qs_cuta  U155 sz5 rfl rfl rfl (by omega) (by omega)) ?_
  show J _ _ _ (Value.slice (some ⟨g16, 0, none⟩) 20 20 :: _) _ _ _
  have e20 : Value.slice (some ⟨g16, 0, none⟩) 20 20 = Value.slice (some ⟨g16, 0, none⟩) (fold (sum (kind ++ [58] ++ hex h ++ [58] ++ name))).length 20 := by rw [fold_length]
  rw [e20]
  refine j_q (qs_call ent132 rfl rfl rfl (fun w' hw' => text_con _ _ _ w' (by rw [fold_length]; decide) (rd_w (rd_own 0 rfl (n := 20) (by rw [List.drop_zero, List.take_of_length_le (by rw [ints_length, fold_length]; exact Nat.le_refl _)])) hw'))) ?_
  refine j_q (qs_sadd rfl rfl (by simp [text_fold])) ?_
  refine j_q (qs_sadd rfl rfl (by simp [text_fold]; omega)) ?_
  refine j_q (qs_ac) ?_
  refine j_ret_con (vs := [_, _]) (fun w' hw' => ⟨rfl, rfl, trivial⟩) ?_
  show Value.tuple #[_, _] = _
  rw [mk, if_pos hnm, pathOf]
  rfl
theorem rmake_con (kind h name : List UInt8) (w : World) (hh : h.length = 32) (hk : kind.length + name.length ≤ 1099511627776) : Con Tryz.prog 55 [.string (bs kind), .agg (ints h).toArray, .string (bs name)] w [] fun v _ => v = mk kind h name := by
 refine con_of_tree mix Tryz.func55 T55_ok (by kernel_rfl) ?_
 unfold T55
 refine j_box rfl (fun g0 hg0 hs0 => ?_)
 refine j_q (qs_ac) ?_
 refine j_q (qs_ac) ?_
 refine j_q (qs_call ent59 rfl rfl rfl (fun w' hw' => risName_con name w' (by omega))) ?_
 refine j_q (qs_not rfl) ?_
 refine j_cond rfl (fun hc0 => ?_) (fun hc0 => ?_)
 ·skip
  have hnm : isName name = false := by
   simp only [bnA] at *
   exact hc0
  refine j_q (qs_ac) ?_
  refine j_q (qs_ac) ?_
  refine j_ret_con (vs := [_, _]) (fun w' hw' => ⟨rfl, rfl, trivial⟩) ?_
  show Value.tuple #[_, _] = _
  rw [mk, if_neg (by rw [hnm]; decide)]
  rfl
 ·skip
  have hnm : isName name = true := by
   simp only [bnA] at *
   exact hc0
  refine j_q (qs_sadd rfl rfl (by simp; omega)) ?_
  refine j_q (qs_loadw 0 U51 rfl sz51 rfl rfl (by first | (rw [ints_length]; exact fold_length _) | (rw [ints_length]; exact hh) | rfl)) ?_
  refine j_q (qs_call ent62 rfl rfl rfl (fun w' hw' => rhex_con h w' hh)) ?_
  refine j_q (qs_sadd rfl rfl (by simp [hex_length]; omega)) ?_
  refine j_q (qs_sadd rfl rfl (by simp [hex_length]; omega)) ?_
  refine j_q (qs_sadd rfl rfl (by simp [hex_length]; omega)) ?_
  refine j_bytes U9 U46 U5 rfl (fun v13 c13 ho13 hv13 => ?_)
  obtain ⟨g13, cap13, rfl⟩ := hv13
  obtain ⟨row, fz, hrow, hl1, hl2, hl3, hl4⟩ := own_row ho13
  refine j_q (qs_call ent61 rfl rfl rfl (fun w' hw' => rsum_con (kind ++ [58] ++ hex h ++ [58] ++ name) _ _ w' (by simp [hex_length]; omega) (rd_w (own_rd ho13 0 rfl) hw'))) ?_
  refine j_q (qs_call ent104 rfl rfl rfl (fun w' hw' => rfold_con _ w' (sum_length _))) ?_
  refine j_alloc zero155 (fun g16 hg16 hs16 => ?_)
  refine j_storew 0 sz155 rfl rfl (by first | (rw [ints_length]; exact fold_length _) | (rw [ints_length]; exact hh) | rfl) ints_one rfl (by first | (rw [ints_length]; exact fold_length _) | (rw [ints_length]; exact hh) | rfl) ?_
  refine j_q (qs_cuta  U155 sz5 rfl rfl rfl (by omega) (by omega)) ?_
  show J _ _ _ (Value.slice (some ⟨g16, 0, none⟩) 20 20 :: _) _ _ _
  have e20 : Value.slice (some ⟨g16, 0, none⟩) 20 20 = Value.slice (some ⟨g16, 0, none⟩) (fold (sum (kind ++ [58] ++ hex h ++ [58] ++ name))).length 20 := by rw [fold_length]
  rw [e20]
  refine j_q (qs_call ent105 rfl rfl rfl (fun w' hw' => rtext_con _ _ _ w' (by rw [fold_length]; decide) (rd_w (rd_own 0 rfl (n := 20) (by rw [List.drop_zero, List.take_of_length_le (by rw [ints_length, fold_length]; exact Nat.le_refl _)])) hw'))) ?_
  refine j_q (qs_sadd rfl rfl (by simp [text_fold])) ?_
  refine j_q (qs_sadd rfl rfl (by simp [text_fold]; omega)) ?_
  refine j_q (qs_ac) ?_
  refine j_ret_con (vs := [_, _]) (fun w' hw' => ⟨rfl, rfl, trivial⟩) ?_
  show Value.tuple #[_, _] = _
  rw [mk, if_pos hnm, pathOf]
  rfl
end Go.Proofs.YtfeabbeebkkhaaaGreat
/-! Path5 -/
namespace Go.Proofs.YtfeabbeebkkhaaaGreat
open Go Go.Sx
set_option maxRecDepth 100000
set_option maxHeartbeats 4000000
set_option linter.unusedVariables false
set_option linter.unusedSimpArgs false
attribute [local irreducible] J JQ QS Con W opW
def mkP (kind h name : List UInt8) : List UInt8 := if isName name then pathOf kind h name else []
def mkE (name : List UInt8) : Int := if isName name then 0 else 9
theorem mk_eq (kind h name : List UInt8) : mk kind h name = .tuple #[.string (bs (mkP kind h name)), .int .i64 (mkE name)] := by
 unfold mk mkP mkE
 split <;> rfl
attribute [local irreducible] fold sum hex text32 pathOf allDig isName mkP spA spB
end Go.Proofs.YtfeabbeebkkhaaaGreat
/-! Path6 -/
namespace Go.Proofs.YtfeabbeebkkhaaaGreat
open Go Go.Sx
set_option maxRecDepth 100000
set_option maxHeartbeats 4000000
set_option linter.unusedVariables false
set_option linter.unusedSimpArgs false
attribute [local irreducible] J JQ QS Con W opW
attribute [local irreducible] fold sum hex text32 pathOf allDig isName isPath spA spB spE cp sortS rise
def refsOf (l : List (List UInt8)) : List UInt8 := l.flatMap fun p => 58 :: p
def withP (kind h : List UInt8) (rs : List (List UInt8)) (name : List UInt8) : List UInt8 := if isName name && (rs.all isPath && decide (rs.length ≤ 1024)) then pathOf (kind ++ refsOf (rise rs)) h name else []
def withE (rs : List (List UInt8)) (name : List UInt8) : Int := if isName name then if rs.all isPath then if rs.length ≤ 1024 then 0 else 5 else 3 else 9
def withV (kind h : List UInt8) (rs : List (List UInt8)) (name : List UInt8) : Value := .tuple #[.string (bs (withP kind h rs name)), .int .i64 (withE rs name)]
theorem refs_snoc (l : List (List UInt8)) (p : List UInt8) : refsOf (l ++ [p]) = refsOf l ++ ([58] ++ p) := by simp [refsOf]
theorem refs_len {l : List (List UInt8)} (h : ∀ p ∈ l, p.length ≤ 113) : (refsOf l).length ≤ 114 * l.length := by
 induction l with
 | nil => simp [refsOf]
 | cons a l ih =>
  have h1 := h a (by simp)
  have h2 := ih fun p hp => h p (by simp [hp])
  have : refsOf (a :: l) = 58 :: a ++ refsOf l := by simp [refsOf]
  rw [this]
  simp only [List.length_append, List.length_cons]
  omega
theorem path_len {l : List UInt8} (h : isPath l = true) : l.length ≤ 113 := by
 unfold isPath at h
 simp only [Bool.and_eq_true] at h
 have := isName_len h.1.2
 rw [List.length_drop] at this
 omega
theorem all_get {rs : List (List UInt8)} (h : rs.all isPath = true) {x : List UInt8} (hx : x ∈ rs) : isPath x = true := List.all_eq_true.1 h x hx
theorem all_snoc {rs : List (List UInt8)} {i : Nat} (hi : i < rs.length) (h : (rs.take i).all isPath = true) (h2 : isPath (rs.getD i []) = true) : (rs.take (i + 1)).all isPath = true := by
 rw [take_snoc hi, List.all_append, h]
 simpa using h2
theorem all_not {rs : List (List UInt8)} {i : Nat} (hi : i < rs.length) (h2 : isPath (rs.getD i []) = false) : rs.all isPath = false := by
 cases h : rs.all isPath
 ·rfl
 ·rw [all_get h (x := rs.getD i []) (by rw [List.getD_eq_getElem?_getD, List.getElem?_eq_getElem hi]; exact List.getElem_mem hi)] at h2
  cases h2
theorem kind_len {rs : List (List UInt8)} (h : rs.all isPath = true) (hn : rs.length ≤ 1024) (i : Nat) : (refsOf ((rise rs).take i)).length ≤ 116736 := by
 have h1 : (refsOf ((rise rs).take i)).length ≤ 114 * ((rise rs).take i).length := refs_len fun p hp => path_len (all_get h ((rise_mem rs p).1 (List.mem_of_mem_take hp)))
 have h2 := rise_len rs
 rw [List.length_take] at h1
 omega
theorem rise_get_len {rs : List (List UInt8)} (h : rs.all isPath = true) {i : Nat} (hi : i < (rise rs).length) : ((rise rs).getD i []).length ≤ 113 := by
 refine path_len (all_get h ((rise_mem rs _).1 ?_))
 rw [List.getD_eq_getElem?_getD, List.getElem?_eq_getElem hi]
 exact List.getElem_mem hi
theorem get_len {rs : List (List UInt8)} {M : Nat} (h : ∀ r ∈ rs, r.length ≤ M) {i : Nat} (hi : i < rs.length) : (rs.getD i []).length ≤ M := by
 refine h _ ?_
 rw [List.getD_eq_getElem?_getD, List.getElem?_eq_getElem hi]
 exact List.getElem_mem hi
theorem spE_yes {l : List UInt8} (h : isPath l = true) : spE l = 0 := by unfold spE; rw [if_pos h]
theorem spE_no {l : List UInt8} (h : isPath l = false) : spE l = 3 := by unfold spE; rw [if_neg (by rw [h]; decide)]
theorem withV_no {kind h : List UInt8} {rs : List (List UInt8)} {name : List UInt8} (hn : isName name = false) : withV kind h rs name = .tuple #[.string (bs []), .int .i64 9] := by simp [withV, withP, withE, hn]
theorem withV_form {kind h : List UInt8} {rs : List (List UInt8)} {name : List UInt8} (hn : isName name = true) (ha : rs.all isPath = false) : withV kind h rs name = .tuple #[.string (bs []), .int .i64 3] := by simp only [withV, withP, withE, hn, ha]; rfl
theorem withV_long {kind h : List UInt8} {rs : List (List UInt8)} {name : List UInt8} (hn : isName name = true) (ha : rs.all isPath = true) (hl : ¬ rs.length ≤ 1024) : withV kind h rs name = .tuple #[.string (bs []), .int .i64 5] := by simp only [withV, withP, withE, hn, ha, hl]; rfl
theorem withV_ok {kind h : List UInt8} {rs : List (List UInt8)} {name : List UInt8} (hn : isName name = true) (ha : rs.all isPath = true) (hl : rs.length ≤ 1024) : withV kind h rs name = .tuple #[.string (bs (pathOf (kind ++ refsOf (rise rs)) h name)), .int .i64 0] := by simp only [withV, withP, withE, hn, ha, hl]; rfl
theorem svals_of {w : World} {v : Value} {rs : List (List UInt8)} (h : StrSl w v rs) : SVals w.heap.size w v rs := by
 rcases h with ⟨rfl, rfl⟩ | ⟨g, off, cap, rfl, h1, h2, h3⟩
 ·exact .inl ⟨rfl, rfl⟩
 ·refine .inr ⟨g, off, cap, rfl, h1, fun j hj => ?_⟩
  have := h3 j _ (strs_get hj)
  rw [add_off] at this
  rw [this]
  simp only [encStr]
  rfl
attribute [local irreducible] refsOf
theorem rising_con (rs : List (List UInt8)) (v : Value) (w : World) (hv : StrSl w v rs) (hn : rs.length ≤ 90000) : Con Tryz.prog 31 [v] w [] fun u S' => ∃ c', S' = [c'] ∧ Sx.Own 49 1 (strs (rise rs)) u c' := by
 refine con_of_tree mix Tryz.func31 T31_ok (by kernel_rfl) ?_
 unfold T31
 obtain ⟨A, cap, rfl, hcap⟩ := strsl_form hv
 refine j_q (qs_ac) ?_
 refine j_q (qs_ac) ?_
 refine j_q (qs_ac) ?_
 refine j_loop (fun m vs S' => ∃ (i : Nat) (zs : List (List UInt8)) (ov : Value) (c : SH), vs = [ov, .int .i64 (i : Int)] ∧ S' = [c] ∧ Sx.Own 49 1 (strs zs) ov c ∧ Strict zs ∧ (∀ x, x ∈ zs ↔ x ∈ rs.take i) ∧ zs.length ≤ i ∧ i ≤ rs.length ∧ m = rs.length - i) ⟨_, 0, [], _, [], rfl, rfl, own_nil, List.Pairwise.nil, by simp, Nat.zero_le _, Nat.zero_le _, rfl⟩ ?_
 rintro m vs S' hlen ⟨i, zs, ov, c, rfl, rfl, ho, hst, hmem, hzl, hin, rfl⟩
 refine j_q (qs_lenl U25 rfl) ?_
 refine j_q (qs_lss rfl rfl) ?_
 refine j_cond rfl (fun hc0 => ?_) (fun hc0 => ?_)
 ·skip
  have hi : i < rs.length := by
   simp only [bnA] at *
   omega
  obtain ⟨ga, off, rfl, hga, hcells⟩ := strsl_addr hv (by omega)
  refine j_q (qs_ixl0 U25 sz49 rfl rfl ⟨(by omega), (by omega)⟩) ?_
  refine j_q (qs_loadrs (rd_cells hcells (by simp)) U49 rfl (by simp only [Int.toNat_natCast]; omega)) ?_
  simp only [Int.toNat_natCast]
  refine j_call 0 ent25 rfl rfl rfl rfl (fun w' hw' => lay_con zs _ ov c ho hst (by omega) w') (fun u S2 hu => ?_)
  obtain ⟨zs2, c2, rfl, ho2, hst2, hmem2, hl2⟩ := hu
  refine j_subl (S' := [c2]) (by repeat first | exact slR _ | exact slN _ | apply slC | apply slD) ?_
  refine j_q (qs_add64 rfl rfl (by omega)) ?_
  refine j_back rfl ?_
  exact ⟨rs.length - (i + 1), by omega, i + 1, zs2, _, c2, rfl, rfl, ho2, hst2, fun x => by rw [hmem2, take_snoc hi, List.mem_append, List.mem_singleton, hmem], by omega, by omega, rfl⟩
 ·skip
  obtain rfl : i = rs.length := by
   simp only [bnA] at *
   omega
  refine j_ret_con (vs := [_]) (fun w' hw' => ⟨rfl, trivial⟩) ?_
  refine ⟨c, rfl, ?_⟩
  rw [← rise_eq hst (fun x => by rw [hmem, List.take_of_length_le (Nat.le_refl _)])]
  exact ho
theorem with_con (kind h : List UInt8) (rs : List (List UInt8)) (name : List UInt8) (v : Value) (w : World) (hv : StrSl w v rs) (hk0 : kind ≠ []) (hk : kind.length ≤ 1000) (hh : h.length = 32) (hn : rs.length ≤ 90000) (hl : ∀ r ∈ rs, r.length ≤ 9223372036854775807) (hnm : name.length ≤ 1099511000000) : Con Tryz.prog 109 [.string (bs kind), .agg (ints h).toArray, v, .string (bs name)] w [] fun u _ => u = withV kind h rs name := by
 refine con_of_tree mix Tryz.func109 T109_ok (by kernel_rfl) ?_
 unfold T109
 obtain ⟨A, cap, rfl, hcap⟩ := strsl_form hv
 refine j_box rfl (fun g0 hg0 hs0 => ?_)
 refine j_q (qs_ac) ?_
 refine j_q (qs_ac) ?_
 refine j_q (qs_call ent38 rfl rfl rfl (fun w' hw' => isName_con name w' (by omega))) ?_
 refine j_q (qs_not rfl) ?_
 refine j_cond rfl (fun hc0 => ?_) (fun hc0 => ?_)
 ·skip
  have hno : isName name = false := by
   simp only [bnA] at *
   exact hc0
  refine j_q (qs_ac) ?_
  refine j_q (qs_ac) ?_
  refine j_ret_con (vs := [_, _]) (fun w' hw' => ⟨rfl, rfl, trivial⟩) ?_
  show Value.tuple #[_, _] = _
  rw [withV_no hno]
  rfl
 ·skip
  have hyes : isName name = true := by
   simp only [bnA] at *
   exact hc0
  refine j_q (qs_lenl U25 rfl) ?_
  refine j_q (qs_mc) ?_
  refine j_loop (fun m vs S' => ∃ i : Nat, vs = [.int .i64 (i : Int)] ∧ S' = [[(g0, .cells (ints h).toArray 51 (0, 0))], []] ∧ i ≤ rs.length ∧ (rs.take i).all isPath = true ∧ m = rs.length - i) ⟨_, 0, rfl, rfl, Nat.zero_le _, by simp, rfl⟩ ?_
  rintro m vs S' hlen ⟨i, rfl, rfl, hin, hall, rfl⟩
  refine j_q (qs_lss rfl rfl) ?_
  refine j_cond rfl (fun hc1 => ?_) (fun hc1 => ?_)
  ·skip
   have hi : i < rs.length := by
    simp only [bnA] at *
    omega
   obtain ⟨ga, off, rfl, hga, hcells⟩ := strsl_addr hv (by omega)
   refine j_q (qs_ixl0 U25 sz49 rfl rfl ⟨(by omega), (by omega)⟩) ?_
   refine j_q (qs_loadrs (rd_cells hcells (by simp)) U49 rfl (by simp only [Int.toNat_natCast]; omega)) ?_
   simp only [Int.toNat_natCast]
   refine j_q (qs_call ent79 rfl rfl rfl (fun w' hw' => split_con (rs.getD i []) w' (get_len hl hi))) ?_
   unfold spl
   refine j_q (qs_ext (vs := [.string (bs (spA (rs.getD i []))), .string (bs (spB (rs.getD i []))), .int .i64 (spE (rs.getD i []))]) rfl rfl) ?_
   refine j_q (qs_ext (vs := [.string (bs (spA (rs.getD i []))), .string (bs (spB (rs.getD i []))), .int .i64 (spE (rs.getD i []))]) rfl rfl) ?_
   refine j_q (qs_ext (vs := [.string (bs (spA (rs.getD i []))), .string (bs (spB (rs.getD i []))), .int .i64 (spE (rs.getD i []))]) rfl rfl) ?_
   refine j_q (qs_neq rfl rfl) ?_
   refine j_cond rfl (fun hc2 => ?_) (fun hc2 => ?_)
   ·skip
    have hbad : isPath (rs.getD i []) = false := by
     cases hx : isPath (rs.getD i [])
     ·rfl
     ·rw [spE_yes hx] at hc2; exact absurd hc2 (by decide)
    refine j_q (qs_ac) ?_
    refine j_ret_con (vs := [_, _]) (fun w' hw' => ⟨rfl, rfl, trivial⟩) ?_
    show Value.tuple #[_, _] = _
    rw [withV_form hyes (all_not hi hbad), spE_no hbad]
    rfl
   ·skip
    have hok : isPath (rs.getD i []) = true := by
     cases hx : isPath (rs.getD i [])
     ·rw [spE_no hx] at hc2; exact absurd hc2 (by decide)
     ·rfl
    refine j_q (qs_add64 rfl rfl (by omega)) ?_
    refine j_back rfl ?_
    exact ⟨rs.length - (i + 1), by omega, i + 1, rfl, rfl, by omega, all_snoc hi hall hok, rfl⟩
  ·skip
   obtain rfl : i = rs.length := by
    simp only [bnA] at *
    omega
   rw [List.take_of_length_le (Nat.le_refl _)] at hall
   refine j_subl (S' := [[(g0, .cells (ints h).toArray 51 (0, 0))]]) (by repeat first | exact slR _ | exact slN _ | apply slC | apply slD) ?_
   refine j_q (qs_lenl U25 rfl) ?_
   refine j_q (qs_gtr rfl rfl) ?_
   refine j_cond rfl (fun hc3 => ?_) (fun hc3 => ?_)
   ·skip
    have hn1 : ¬ rs.length ≤ 1024 := by
     simp only [bnA] at *
     omega
    refine j_q (qs_ac) ?_
    refine j_q (qs_ac) ?_
    refine j_ret_con (vs := [_, _]) (fun w' hw' => ⟨rfl, rfl, trivial⟩) ?_
    show Value.tuple #[_, _] = _
    rw [withV_long hyes hall hn1]
    rfl
   ·skip
    have hn1 : rs.length ≤ 1024 := by
     simp only [bnA] at *
     omega
    refine j_alloc zero169 (fun g23 hg23 hs23 => ?_)
    refine j_call 0 ent115 rfl rfl rfl rfl (fun w' hw' => writeString_con g23 none (.inl rfl) (.slice none 0 0) [] [] kind own_nil (by simp; omega) w') (fun u S2 hu => ?_)
    obtain ⟨rfl, bv, cb, rfl, hob⟩ := hu
    rw [List.nil_append] at hob
    refine j_call0 ent141 rfl rfl rfl (fun w' hw' => values_con _ _ _ w') (fun u S2 hu => ?_)
    obtain ⟨gs, rfl, rfl⟩ := hu
    refine j_call0 ent56 rfl rfl rfl (fun w' hw' => sorted_con gs (.slice A rs.length cap) rs w' (by omega) (lt_of_get (hw'.at_ (k := 0) rfl)) (by rw [cell_of (hw'.at_ (k := 0) rfl)]; rfl) (svals_of (strsl_keep hv hw'))) (fun u S2 hu => ?_)
    obtain ⟨c1, rfl, ho1⟩ := hu
    refine j_call 0 ent140 rfl rfl rfl rfl (fun w' hw' => compact_con (sortS rs) _ c1 ho1 (by rw [sortS_length]; omega) w') (fun u S2 hu => ?_)
    obtain ⟨c2, rfl, ho2⟩ := hu
    rw [← rise] at ho2
    obtain ⟨nr, A2, cap2, rfl, hnr⟩ := own_form ho2 (by decide)
    rw [strs_length, Nat.mul_one] at hnr
    subst hnr
    refine j_subl (S' := [c2, (g23, .cells [.pointer (some ⟨g23, 0, none⟩), bv].toArray 169 (0, 0)) :: cb, [(g0, .cells (ints h).toArray 51 (0, 0))]]) (by repeat first | exact slR _ | exact slN _ | apply slC | apply slD) ?_
    refine j_swap ?_
    refine j_q (qs_lenl U25 rfl) ?_
    refine j_q (qs_mc) ?_
    refine j_loop (fun m vs S' => ∃ (i : Nat) (bv : Value) (cb : SH), vs = [.int .i64 (i : Int)] ∧ S' = [(g23, .cells [.pointer (some ⟨g23, 0, none⟩), bv].toArray 169 (0, 0)) :: cb, c2, [(g0, .cells (ints h).toArray 51 (0, 0))]] ∧ Sx.Own 5 1 (ints (kind ++ refsOf ((rise rs).take i))) bv cb ∧ i ≤ (rise rs).length ∧ m = (rise rs).length - i) ⟨_, 0, bv, cb, rfl, rfl, by rw [show refsOf ((rise rs).take 0) = [] by rw [refsOf]; rfl, List.append_nil]; exact hob, Nat.zero_le _, rfl⟩ ?_
    rintro m vs S' hlen ⟨i, bv, cb, rfl, rfl, hob, hin, rfl⟩
    refine j_q (qs_lss rfl rfl) ?_
    refine j_cond rfl (fun hc4 => ?_) (fun hc4 => ?_)
    ·skip
     have hi : i < (rise rs).length := by
      simp only [bnA] at *
      omega
     obtain ⟨ga, rfl⟩ := own_addr ho2 (by rw [strs_length]; omega)
     have hgl := rise_get_len hall hi
     have hrl := rise_len rs
     have hkl := kind_len hall hn1 i
     refine j_q (qs_ixl0 U25 sz49 rfl rfl ⟨(by omega), (by omega)⟩) ?_
     refine j_q (qs_loadrs (own_rd ho2 1 rfl) U49 rfl (by simp only [Int.toNat_natCast]; omega)) ?_
     simp only [Int.toNat_natCast]
     refine j_q (qs_sadd (l := [58]) rfl rfl (by simp only [List.length_append, List.length_cons, List.length_nil]; omega)) ?_
     refine j_call 0 ent115 rfl rfl rfl rfl (fun w' hw' => writeString_con g23 (some ⟨g23, 0, none⟩) (.inr rfl) bv cb _ _ hob (by simp only [List.length_append, List.length_singleton]; omega) w') (fun u S2 hu => ?_)
     obtain ⟨rfl, bv2, cb2, rfl, hob2⟩ := hu
     rw [List.append_assoc, ← refs_snoc, ← take_snoc hi] at hob2
     refine j_subl (S' := [(g23, .cells [.pointer (some ⟨g23, 0, none⟩), bv2].toArray 169 (0, 0)) :: cb2, c2, [(g0, .cells (ints h).toArray 51 (0, 0))]]) (by repeat first | exact slR _ | exact slN _ | apply slC | apply slD) ?_
     refine j_q (qs_add64 rfl rfl (by omega)) ?_
     refine j_back rfl ?_
     exact ⟨(rise rs).length - (i + 1), by omega, i + 1, bv2, cb2, rfl, rfl, hob2, by omega, rfl⟩
    ·skip
     obtain rfl : i = (rise rs).length := by
      simp only [bnA] at *
      omega
     have hkl := kind_len hall hn1 (rise rs).length
     rw [List.take_of_length_le (Nat.le_refl _)] at hob hkl
     refine j_mix [[(g0, .cells (ints h).toArray 51 (0, 0))]] (Le.of_sub (by repeat first | exact slR _ | exact slN _ | apply slC | apply slD)) ?_
     refine j_mq (qs_loadw 0 U51 rfl sz51 rfl rfl (by first | (rw [ints_length]; exact hh) | rfl)) ?_
     refine j_call 0 ent117 rfl rfl rfl rfl (fun w' hw' => string_con g23 _ bv cb (kind ++ refsOf (rise rs)) (by simp [hk0]) (by simp only [List.length_append]; omega) hob w') (fun u S2 hu => ?_)
     obtain ⟨rfl, rfl⟩ := hu
     refine j_mD0 (Le.of_sub (by repeat first | exact slR _ | exact slN _ | apply slC | apply slD)) ?_
     refine j_q (qs_call ent99 rfl rfl rfl (fun w' hw' => make_con (kind ++ refsOf (rise rs)) h name w' hh (by have := kind_len hall hn1 (rise rs).length; rw [List.take_of_length_le (Nat.le_refl _)] at this; simp only [List.length_append]; omega))) ?_
     rw [mk, if_pos hyes]
     refine j_mR _ (.refl _) ?_
     refine j_mq (qs_ext (vs := [.string (bs (pathOf (kind ++ refsOf (rise rs)) h name)), .int .i64 0]) rfl rfl) ?_
     refine j_mq (qs_ext (vs := [.string (bs (pathOf (kind ++ refsOf (rise rs)) h name)), .int .i64 0]) rfl rfl) ?_
     refine j_mend ?_
     refine j_ret_con (vs := [_, _]) (fun w' hw' => ⟨rfl, rfl, trivial⟩) ?_
     show Value.tuple #[_, _] = _
     rw [withV_ok hyes hall hn1]
     rfl
theorem rwith_con (kind h : List UInt8) (rs : List (List UInt8)) (name : List UInt8) (v : Value) (w : World) (hv : StrSl w v rs) (hk0 : kind ≠ []) (hk : kind.length ≤ 1000) (hh : h.length = 32) (hn : rs.length ≤ 90000) (hl : ∀ r ∈ rs, r.length ≤ 9223372036854775807) (hnm : name.length ≤ 1099511000000) : Con Tryz.prog 114 [.string (bs kind), .agg (ints h).toArray, v, .string (bs name)] w [] fun u _ => u = withV kind h rs name := by
 refine con_of_tree mix Tryz.func114 T114_ok (by kernel_rfl) ?_
 unfold T114
 obtain ⟨A, cap, rfl, hcap⟩ := strsl_form hv
 refine j_box rfl (fun g0 hg0 hs0 => ?_)
 refine j_q (qs_ac) ?_
 refine j_q (qs_ac) ?_
 refine j_q (qs_call ent59 rfl rfl rfl (fun w' hw' => risName_con name w' (by omega))) ?_
 refine j_q (qs_not rfl) ?_
 refine j_cond rfl (fun hc0 => ?_) (fun hc0 => ?_)
 ·skip
  have hno : isName name = false := by
   simp only [bnA] at *
   exact hc0
  refine j_q (qs_ac) ?_
  refine j_q (qs_ac) ?_
  refine j_ret_con (vs := [_, _]) (fun w' hw' => ⟨rfl, rfl, trivial⟩) ?_
  show Value.tuple #[_, _] = _
  rw [withV_no hno]
  rfl
 ·skip
  have hyes : isName name = true := by
   simp only [bnA] at *
   exact hc0
  refine j_q (qs_ac) ?_
  refine j_loop (fun m vs S' => ∃ i : Nat, vs = [.int .i64 (i : Int)] ∧ S' = [[(g0, .cells (ints h).toArray 51 (0, 0))], []] ∧ i ≤ rs.length ∧ (rs.take i).all isPath = true ∧ m = rs.length - i) ⟨_, 0, rfl, rfl, Nat.zero_le _, by simp, rfl⟩ ?_
  rintro m vs S' hlen ⟨i, rfl, rfl, hin, hall, rfl⟩
  refine j_q (qs_lenl U25 rfl) ?_
  refine j_q (qs_lss rfl rfl) ?_
  refine j_cond rfl (fun hc1 => ?_) (fun hc1 => ?_)
  ·skip
   have hi : i < rs.length := by
    simp only [bnA] at *
    omega
   obtain ⟨ga, off, rfl, hga, hcells⟩ := strsl_addr hv (by omega)
   refine j_q (qs_ixl0 U25 sz49 rfl rfl ⟨(by omega), (by omega)⟩) ?_
   refine j_q (qs_loadrs (rd_cells hcells (by simp)) U49 rfl (by simp only [Int.toNat_natCast]; omega)) ?_
   simp only [Int.toNat_natCast]
   refine j_q (qs_call ent24 rfl rfl rfl (fun w' hw' => is_con (rs.getD i []) w' (get_len hl hi))) ?_
   refine j_q (qs_not rfl) ?_
   refine j_cond rfl (fun hc2 => ?_) (fun hc2 => ?_)
   ·skip
    have hbad : isPath (rs.getD i []) = false := by simpa using hc2
    refine j_q (qs_ac) ?_
    refine j_q (qs_ac) ?_
    refine j_ret_con (vs := [_, _]) (fun w' hw' => ⟨rfl, rfl, trivial⟩) ?_
    show Value.tuple #[_, _] = _
    rw [withV_form hyes (all_not hi hbad)]
    rfl
   ·skip
    have hok : isPath (rs.getD i []) = true := by simpa using hc2
    refine j_q (qs_add64 rfl rfl (by omega)) ?_
    refine j_back rfl ?_
    exact ⟨rs.length - (i + 1), by omega, i + 1, rfl, rfl, by omega, all_snoc hi hall hok, rfl⟩
  ·skip
   obtain rfl : i = rs.length := by
    simp only [bnA] at *
    omega
   rw [List.take_of_length_le (Nat.le_refl _)] at hall
   refine j_subl (S' := [[(g0, .cells (ints h).toArray 51 (0, 0))]]) (by repeat first | exact slR _ | exact slN _ | apply slC | apply slD) ?_
   refine j_q (qs_lenl U25 rfl) ?_
   refine j_q (qs_gtr rfl rfl) ?_
   refine j_cond rfl (fun hc3 => ?_) (fun hc3 => ?_)
   ·skip
    have hn1 : ¬ rs.length ≤ 1024 := by
     simp only [bnA] at *
     omega
    refine j_q (qs_ac) ?_
    refine j_q (qs_ac) ?_
    refine j_ret_con (vs := [_, _]) (fun w' hw' => ⟨rfl, rfl, trivial⟩) ?_
    show Value.tuple #[_, _] = _
    rw [withV_long hyes hall hn1]
    rfl
   ·skip
    have hn1 : rs.length ≤ 1024 := by
     simp only [bnA] at *
     omega
    refine j_call0 ent31 rfl rfl rfl (fun w' hw' => rising_con rs _ w' (strsl_keep hv hw') hn) (fun u S2 hu => ?_)
    obtain ⟨c2, rfl, ho2⟩ := hu
    obtain ⟨nr, A2, cap2, rfl, hnr⟩ := own_form ho2 (by decide)
    rw [strs_length, Nat.mul_one] at hnr
    subst hnr
    refine j_subl (S' := [c2, [(g0, .cells (ints h).toArray 51 (0, 0))]]) (by repeat first | exact slR _ | exact slN _ | apply slC | apply slD) ?_
    refine j_q (qs_ac) ?_
    refine j_loop (fun m vs S' => ∃ (i : Nat), vs = [.string (bs (kind ++ refsOf ((rise rs).take i))), .int .i64 (i : Int)] ∧ S' = [c2, [(g0, .cells (ints h).toArray 51 (0, 0))]] ∧ i ≤ (rise rs).length ∧ m = (rise rs).length - i) ⟨_, 0, by rw [show refsOf ((rise rs).take 0) = [] by rw [refsOf]; rfl, List.append_nil]; rfl, rfl, Nat.zero_le _, rfl⟩ ?_
    rintro m vs S' hlen ⟨i, rfl, rfl, hin, rfl⟩
    refine j_q (qs_lenl U25 rfl) ?_
    refine j_q (qs_lss rfl rfl) ?_
    refine j_cond rfl (fun hc4 => ?_) (fun hc4 => ?_)
    ·skip
     have hi : i < (rise rs).length := by
      simp only [bnA] at *
      omega
     obtain ⟨ga, rfl⟩ := own_addr ho2 (by rw [strs_length]; omega)
     have hgl := rise_get_len hall hi
     have hrl := rise_len rs
     have hkl := kind_len hall hn1 i
     refine j_q (qs_sadd (l' := [58]) rfl rfl (by simp only [List.length_append, List.length_cons, List.length_nil]; omega)) ?_
     refine j_q (qs_ixl0 U25 sz49 rfl rfl ⟨(by omega), (by omega)⟩) ?_
     refine j_q (qs_loadrs (own_rd ho2 0 rfl) U49 rfl (by simp only [Int.toNat_natCast]; omega)) ?_
     simp only [Int.toNat_natCast]
     refine j_q (qs_sadd rfl rfl (by simp only [List.length_append, List.length_cons, List.length_nil]; omega)) ?_
     rw [List.append_assoc, List.append_assoc, ← refs_snoc, ← take_snoc hi]
     refine j_q (qs_add64 rfl rfl (by omega)) ?_
     refine j_back rfl ?_
     exact ⟨(rise rs).length - (i + 1), by omega, i + 1, rfl, rfl, by omega, rfl⟩
    ·skip
     obtain rfl : i = (rise rs).length := by
      simp only [bnA] at *
      omega
     have hkl := kind_len hall hn1 (rise rs).length
     rw [List.take_of_length_le (Nat.le_refl _)] at hkl ⊢
     refine j_q (qs_loadw 1 U51 rfl sz51 rfl rfl (by first | (rw [ints_length]; exact hh) | rfl)) ?_
     refine j_q (qs_call ent55 rfl rfl rfl (fun w' hw' => rmake_con (kind ++ refsOf (rise rs)) h name w' hh (by simp only [List.length_append]; omega))) ?_
     rw [mk, if_pos hyes]
     refine j_q (qs_ext (vs := [.string (bs (pathOf (kind ++ refsOf (rise rs)) h name)), .int .i64 0]) rfl rfl) ?_
     refine j_q (qs_ext (vs := [.string (bs (pathOf (kind ++ refsOf (rise rs)) h name)), .int .i64 0]) rfl rfl) ?_
     refine j_ret_con (vs := [_, _]) (fun w' hw' => ⟨rfl, rfl, trivial⟩) ?_
     show Value.tuple #[_, _] = _
     rw [withV_ok hyes hall hn1]
     rfl
end Go.Proofs.YtfeabbeebkkhaaaGreat
/-! Path7 -/
namespace Go.Proofs.YtfeabbeebkkhaaaGreat
open Go Go.Sx
set_option maxRecDepth 100000
set_option maxHeartbeats 4000000
set_option linter.unusedVariables false
set_option linter.unusedSimpArgs false
attribute [local irreducible] J JQ QS Con W opW
attribute [local irreducible] fold sum hex text32 pathOf allDig isName isPath spA spB spE cp sortS rise refsOf withP withE mkP mkE
def kText : List UInt8 := [116, 101, 120, 116]
def kFixed : List UInt8 := [102, 105, 120, 101, 100]
def kOutput : List UInt8 := [111, 117, 116, 112, 117, 116, 58]
def kOut : List UInt8 := [111, 117, 116]
def whole (out name : List UInt8) : List UInt8 := if out = kOut then name else name ++ ([45] ++ out)
def outP (h out name : List UInt8) : List UInt8 := if isName out && isName name then mkP (kOutput ++ out) h (whole out name) else []
def outE (out name : List UInt8) : Int := if isName out && isName name then mkE (whole out name) else 9
theorem out_no {h out name : List UInt8} (hn : (isName out && isName name) = false) : outP h out name = [] ∧ outE out name = 9 := by
 unfold outP outE
 rw [hn]
 exact ⟨rfl, rfl⟩
theorem out_yes {h out name : List UInt8} (hn : (isName out && isName name) = true) : outP h out name = mkP (kOutput ++ out) h (whole out name) ∧ outE out name = mkE (whole out name) := by
 unfold outP outE
 rw [hn]
 exact ⟨rfl, rfl⟩
theorem mk_bad {k h name : List UInt8} (hn : isName name = false) : mkP k h name = [] ∧ mkE name = 9 := by
 unfold mkP mkE
 rw [hn]
 exact ⟨rfl, rfl⟩
theorem whole_len (out name : List UInt8) : (whole out name).length ≤ name.length + 1 + out.length := by
 unfold whole
 split
 ·omega
 ·simp; omega
attribute [local irreducible] outP outE
theorem ptext_con (h : List UInt8) (rs : List (List UInt8)) (name : List UInt8) (v : Value) (w : World) (hv : StrSl w v rs) (hh : h.length = 32) (hn : rs.length ≤ 90000) (hl : ∀ r ∈ rs, r.length ≤ 9223372036854775807) (hnm : name.length ≤ 1099511000000) : Con Tryz.prog 58 [.agg (ints h).toArray, v, .string (bs name)] w [] fun u _ => u = withV kText h rs name := by
 refine con_of_tree mix Tryz.func58 T58_ok (by kernel_rfl) ?_
 unfold T58
 refine j_box rfl (fun g0 hg0 hs0 => ?_)
 refine j_q (qs_ac) ?_
 refine j_q (qs_ac) ?_
 refine j_q (qs_loadw 0 U51 rfl sz51 rfl rfl (by first | (rw [ints_length]; exact hh) | rfl)) ?_
 refine j_q (qs_call ent109 rfl rfl rfl (fun w' hw' => with_con kText h rs name v w' (strsl_keep hv hw') (by decide) (by decide) hh hn hl hnm)) ?_
 unfold withV
 refine j_q (qs_ext (vs := [.string (bs (withP kText h rs name)), .int .i64 (withE rs name)]) rfl rfl) ?_
 refine j_q (qs_ext (vs := [.string (bs (withP kText h rs name)), .int .i64 (withE rs name)]) rfl rfl) ?_
 refine j_ret_con (vs := [_, _]) (fun w' hw' => ⟨rfl, rfl, trivial⟩) ?_
 show Value.tuple #[_, _] = _
 rfl
theorem rptext_con (h : List UInt8) (rs : List (List UInt8)) (name : List UInt8) (v : Value) (w : World) (hv : StrSl w v rs) (hh : h.length = 32) (hn : rs.length ≤ 90000) (hl : ∀ r ∈ rs, r.length ≤ 9223372036854775807) (hnm : name.length ≤ 1099511000000) : Con Tryz.prog 65 [.agg (ints h).toArray, v, .string (bs name)] w [] fun u _ => u = withV kText h rs name := by
 refine con_of_tree mix Tryz.func65 T65_ok (by kernel_rfl) ?_
 unfold T65
 refine j_box rfl (fun g0 hg0 hs0 => ?_)
 refine j_q (qs_ac) ?_
 refine j_q (qs_ac) ?_
 refine j_q (qs_loadw 0 U51 rfl sz51 rfl rfl (by first | (rw [ints_length]; exact hh) | rfl)) ?_
 refine j_q (qs_call ent114 rfl rfl rfl (fun w' hw' => rwith_con kText h rs name v w' (strsl_keep hv hw') (by decide) (by decide) hh hn hl hnm)) ?_
 unfold withV
 refine j_q (qs_ext (vs := [.string (bs (withP kText h rs name)), .int .i64 (withE rs name)]) rfl rfl) ?_
 refine j_q (qs_ext (vs := [.string (bs (withP kText h rs name)), .int .i64 (withE rs name)]) rfl rfl) ?_
 refine j_ret_con (vs := [_, _]) (fun w' hw' => ⟨rfl, rfl, trivial⟩) ?_
 show Value.tuple #[_, _] = _
 rfl
theorem fixed_con (h name : List UInt8) (w : World) (hh : h.length = 32) (hnm : name.length ≤ 1099511000000) : Con Tryz.prog 52 [.agg (ints h).toArray, .string (bs name)] w [] fun u _ => u = .tuple #[.string (bs (mkP kFixed h name)), .int .i64 (mkE name)] := by
 refine con_of_tree mix Tryz.func52 T52_ok (by kernel_rfl) ?_
 unfold T52
 refine j_box rfl (fun g0 hg0 hs0 => ?_)
 refine j_q (qs_ac) ?_
 refine j_q (qs_ac) ?_
 refine j_q (qs_loadw 0 U51 rfl sz51 rfl rfl (by first | (rw [ints_length]; exact hh) | rfl)) ?_
 refine j_q (qs_call ent99 rfl rfl rfl (fun w' hw' => make_con kFixed h name w' hh (by have : kFixed.length = 5 := rfl; omega))) ?_
 rw [mk_eq]
 refine j_q (qs_ext (vs := [.string (bs (mkP kFixed h name)), .int .i64 (mkE name)]) rfl rfl) ?_
 refine j_q (qs_ext (vs := [.string (bs (mkP kFixed h name)), .int .i64 (mkE name)]) rfl rfl) ?_
 refine j_ret_con (vs := [_, _]) (fun w' hw' => ⟨rfl, rfl, trivial⟩) ?_
 show Value.tuple #[_, _] = _
 rfl
theorem rfixed_con (h name : List UInt8) (w : World) (hh : h.length = 32) (hnm : name.length ≤ 1099511000000) : Con Tryz.prog 23 [.agg (ints h).toArray, .string (bs name)] w [] fun u _ => u = .tuple #[.string (bs (mkP kFixed h name)), .int .i64 (mkE name)] := by
 refine con_of_tree mix Tryz.func23 T23_ok (by kernel_rfl) ?_
 unfold T23
 refine j_box rfl (fun g0 hg0 hs0 => ?_)
 refine j_q (qs_ac) ?_
 refine j_q (qs_ac) ?_
 refine j_q (qs_loadw 0 U51 rfl sz51 rfl rfl (by first | (rw [ints_length]; exact hh) | rfl)) ?_
 refine j_q (qs_call ent55 rfl rfl rfl (fun w' hw' => rmake_con kFixed h name w' hh (by have : kFixed.length = 5 := rfl; omega))) ?_
 rw [mk_eq]
 refine j_q (qs_ext (vs := [.string (bs (mkP kFixed h name)), .int .i64 (mkE name)]) rfl rfl) ?_
 refine j_q (qs_ext (vs := [.string (bs (mkP kFixed h name)), .int .i64 (mkE name)]) rfl rfl) ?_
 refine j_ret_con (vs := [_, _]) (fun w' hw' => ⟨rfl, rfl, trivial⟩) ?_
 show Value.tuple #[_, _] = _
 rfl
theorem output_con (h out name : List UInt8) (w : World) (hh : h.length = 32) (ho : out.length ≤ 100000000) (hnm : name.length ≤ 100000000) : Con Tryz.prog 51 [.agg (ints h).toArray, .string (bs out), .string (bs name)] w [] fun u _ => u = .tuple #[.string (bs (outP h out name)), .int .i64 (outE out name)] := by
 refine con_of_tree mix Tryz.func51 T51_ok (by kernel_rfl) ?_
 unfold T51
 have hwl := whole_len out name
 have hkl : kOutput.length = 7 := rfl
 refine j_box rfl (fun g0 hg0 hs0 => ?_)
 refine j_q (qs_ac) ?_
 refine j_q (qs_ac) ?_
 refine j_q (qs_sneq rfl rfl) ?_
 refine j_cond rfl (fun hc0 => ?_) (fun hc0 => ?_)
 ·skip
  have hw : whole out name = name ++ ([45] ++ out) := by
   unfold whole
   rw [if_neg (by intro h; rw [h] at hc0; simp [kOut] at hc0)]
  refine j_q (qs_sadd (l := [45]) rfl rfl (by simp; omega)) ?_
  refine j_q (qs_sadd rfl rfl (by simp; omega)) ?_
  rw [← hw]
  refine j_q (qs_call ent38 rfl rfl rfl (fun w' hw' => isName_con out w' (by omega))) ?_
  refine j_q (qs_not rfl) ?_
  refine j_g rfl (fun hb => qs_mt rfl) ?_
  refine j_g rfl (fun hb => qs_call ent38 rfl rfl (args1 (gd_eq hb)) (fun w' hw' => isName_con name w' (by omega))) ?_
  refine j_g rfl (fun hb => qs_not (gd_eq hb)) ?_
  refine j_q (qs_or rfl rfl) ?_
  refine j_g rfl (fun hb => qs_mt rfl) ?_
  refine j_g rfl (fun hb => qs_call ent38 rfl rfl (args1 (gd_eq hb)) (fun w' hw' => isName_con (whole out name) w' (by omega))) ?_
  refine j_g rfl (fun hb => qs_not (gd_eq hb)) ?_
  refine j_q (qs_or rfl rfl) ?_
  refine j_cond rfl (fun hc1 => ?_) (fun hc1 => ?_)
  ·skip
   have hno : (isName out && isName name) = false ∨ isName (whole out name) = false := by
    cases h1 : isName out <;> cases h2 : isName name <;> cases h3 : isName (whole out name) <;> simp [h1, h2, h3] at hc1 ⊢
   refine j_q (qs_ac) ?_
   refine j_q (qs_ac) ?_
   refine j_ret_con (vs := [_, _]) (fun w' hw' => ⟨rfl, rfl, trivial⟩) ?_
   show Value.tuple #[_, _] = _
   rcases hno with hno | hno
   ·rw [(out_no (h := h) hno).1, (out_no (h := h) hno).2]
    rfl
   ·cases hx : (isName out && isName name)
    ·rw [(out_no (h := h) hx).1, (out_no (h := h) hx).2]
     rfl
    ·rw [(out_yes (h := h) hx).1, (out_yes (h := h) hx).2, (mk_bad (k := kOutput ++ out) (h := h) hno).1, (mk_bad (k := kOutput ++ out) (h := h) hno).2]
     rfl
  ·skip
   have hyes : (isName out && isName name) = true := by
    cases h1 : isName out <;> cases h2 : isName name <;> cases h3 : isName (whole out name) <;> simp [h1, h2, h3] at hc1 ⊢
   refine j_q (qs_sadd (l := kOutput) rfl rfl (by omega)) ?_
   refine j_q (qs_loadw 0 U51 rfl sz51 rfl rfl (by first | (rw [ints_length]; exact hh) | rfl)) ?_
   refine j_q (qs_call ent99 rfl rfl rfl (fun w' hw' => make_con (kOutput ++ out) h (whole out name) w' hh (by simp only [List.length_append]; omega))) ?_
   rw [mk_eq]
   refine j_q (qs_ext (vs := [.string (bs (mkP (kOutput ++ out) h (whole out name))), .int .i64 (mkE (whole out name))]) rfl rfl) ?_
   refine j_q (qs_ext (vs := [.string (bs (mkP (kOutput ++ out) h (whole out name))), .int .i64 (mkE (whole out name))]) rfl rfl) ?_
   refine j_ret_con (vs := [_, _]) (fun w' hw' => ⟨rfl, rfl, trivial⟩) ?_
   show Value.tuple #[_, _] = _
   rw [(out_yes (h := h) hyes).1, (out_yes (h := h) hyes).2]
   rfl
 ·skip
  have hw : whole out name = name := by
   unfold whole
   rw [if_pos (by simpa [kOut] using hc0)]
  refine j_q (qs_call ent38 rfl rfl rfl (fun w' hw' => isName_con out w' (by omega))) ?_
  refine j_q (qs_not rfl) ?_
  refine j_g rfl (fun hb => qs_mt rfl) ?_
  refine j_g rfl (fun hb => qs_call ent38 rfl rfl (args1 (gd_eq hb)) (fun w' hw' => isName_con name w' (by omega))) ?_
  refine j_g rfl (fun hb => qs_not (gd_eq hb)) ?_
  refine j_q (qs_or rfl rfl) ?_
  refine j_g rfl (fun hb => qs_mt rfl) ?_
  refine j_g rfl (fun hb => qs_call ent38 rfl rfl (args1 (gd_eq hb)) (fun w' hw' => (by rw [hw]; exact isName_con name w' (by omega) : Con Tryz.prog 38 [.string (bs name)] w' [] fun v _ => v = .bool (isName (whole out name))))) ?_
  refine j_g rfl (fun hb => qs_not (gd_eq hb)) ?_
  refine j_q (qs_or rfl rfl) ?_
  refine j_cond rfl (fun hc2 => ?_) (fun hc2 => ?_)
  ·skip
   have hno : (isName out && isName name) = false ∨ isName (whole out name) = false := by
    cases h1 : isName out <;> cases h2 : isName name <;> cases h3 : isName (whole out name) <;> simp [h1, h2, h3] at hc2 ⊢
   refine j_q (qs_ac) ?_
   refine j_q (qs_ac) ?_
   refine j_ret_con (vs := [_, _]) (fun w' hw' => ⟨rfl, rfl, trivial⟩) ?_
   show Value.tuple #[_, _] = _
   rcases hno with hno | hno
   ·rw [(out_no (h := h) hno).1, (out_no (h := h) hno).2]
    rfl
   ·cases hx : (isName out && isName name)
    ·rw [(out_no (h := h) hx).1, (out_no (h := h) hx).2]
     rfl
    ·rw [(out_yes (h := h) hx).1, (out_yes (h := h) hx).2, (mk_bad (k := kOutput ++ out) (h := h) hno).1, (mk_bad (k := kOutput ++ out) (h := h) hno).2]
     rfl
  ·skip
   have hyes : (isName out && isName name) = true := by
    cases h1 : isName out <;> cases h2 : isName name <;> cases h3 : isName (whole out name) <;> simp [h1, h2, h3] at hc2 ⊢
   refine j_q (qs_sadd (l := kOutput) rfl rfl (by omega)) ?_
   refine j_q (qs_loadw 0 U51 rfl sz51 rfl rfl (by first | (rw [ints_length]; exact hh) | rfl)) ?_
   refine j_q (qs_call ent99 rfl rfl rfl (fun w' hw' => (by rw [hw]; exact make_con (kOutput ++ out) h name w' hh (by simp only [List.length_append]; omega) : Con Tryz.prog 99 [.string (bs (kOutput ++ out)), .agg (ints h).toArray, .string (bs name)] w' [] fun v _ => v = mk (kOutput ++ out) h (whole out name)))) ?_
   rw [mk_eq]
   refine j_q (qs_ext (vs := [.string (bs (mkP (kOutput ++ out) h (whole out name))), .int .i64 (mkE (whole out name))]) rfl rfl) ?_
   refine j_q (qs_ext (vs := [.string (bs (mkP (kOutput ++ out) h (whole out name))), .int .i64 (mkE (whole out name))]) rfl rfl) ?_
   refine j_ret_con (vs := [_, _]) (fun w' hw' => ⟨rfl, rfl, trivial⟩) ?_
   show Value.tuple #[_, _] = _
   rw [(out_yes (h := h) hyes).1, (out_yes (h := h) hyes).2]
   rfl
theorem routput_con (h out name : List UInt8) (w : World) (hh : h.length = 32) (ho : out.length ≤ 100000000) (hnm : name.length ≤ 100000000) : Con Tryz.prog 64 [.agg (ints h).toArray, .string (bs out), .string (bs name)] w [] fun u _ => u = .tuple #[.string (bs (outP h out name)), .int .i64 (outE out name)] := by
 refine con_of_tree mix Tryz.func64 T64_ok (by kernel_rfl) ?_
 unfold T64
 have hwl := whole_len out name
 have hkl : kOutput.length = 7 := rfl
 refine j_box rfl (fun g0 hg0 hs0 => ?_)
 refine j_q (qs_ac) ?_
 refine j_q (qs_ac) ?_
 refine j_q (qs_call ent59 rfl rfl rfl (fun w' hw' => risName_con out w' (by omega))) ?_
 refine j_q (qs_not rfl) ?_
 refine j_g rfl (fun hb => qs_mt rfl) ?_
 refine j_g rfl (fun hb => qs_call ent59 rfl rfl (args1 (gd_eq hb)) (fun w' hw' => risName_con name w' (by omega))) ?_
 refine j_g rfl (fun hb => qs_not (gd_eq hb)) ?_
 refine j_q (qs_or rfl rfl) ?_
 refine j_cond rfl (fun hc0 => ?_) (fun hc0 => ?_)
 ·skip
  have hno : (isName out && isName name) = false := by
   cases h1 : isName out <;> cases h2 : isName name <;> simp [h1, h2] at hc0 ⊢
  refine j_q (qs_ac) ?_
  refine j_q (qs_ac) ?_
  refine j_ret_con (vs := [_, _]) (fun w' hw' => ⟨rfl, rfl, trivial⟩) ?_
  show Value.tuple #[_, _] = _
  rw [(out_no (h := h) hno).1, (out_no (h := h) hno).2]
  rfl
 ·skip
  have hyes : (isName out && isName name) = true := by
   cases h1 : isName out <;> cases h2 : isName name <;> simp [h1, h2] at hc0 ⊢
  refine j_q (qs_sneq rfl rfl) ?_
  refine j_cond rfl (fun hc1 => ?_) (fun hc1 => ?_)
  ·skip
   have hw : whole out name = name ++ ([45] ++ out) := by
    unfold whole
    rw [if_neg (by intro h; rw [h] at hc1; simp [kOut] at hc1)]
   refine j_q (qs_sadd (l' := [45]) rfl rfl (by simp; omega)) ?_
   refine j_q (qs_sadd rfl rfl (by simp; omega)) ?_
   rw [List.append_assoc, ← hw]
   refine j_q (qs_sadd (l := kOutput) rfl rfl (by omega)) ?_
   refine j_q (qs_loadw 0 U51 rfl sz51 rfl rfl (by first | (rw [ints_length]; exact hh) | rfl)) ?_
   refine j_q (qs_call ent55 rfl rfl rfl (fun w' hw' => rmake_con (kOutput ++ out) h (whole out name) w' hh (by simp only [List.length_append]; omega))) ?_
   rw [mk_eq]
   refine j_q (qs_ext (vs := [.string (bs (mkP (kOutput ++ out) h (whole out name))), .int .i64 (mkE (whole out name))]) rfl rfl) ?_
   refine j_q (qs_ext (vs := [.string (bs (mkP (kOutput ++ out) h (whole out name))), .int .i64 (mkE (whole out name))]) rfl rfl) ?_
   refine j_ret_con (vs := [_, _]) (fun w' hw' => ⟨rfl, rfl, trivial⟩) ?_
   show Value.tuple #[_, _] = _
   rw [(out_yes (h := h) hyes).1, (out_yes (h := h) hyes).2]
   rfl
  ·skip
   have hw : whole out name = name := by
    unfold whole
    rw [if_pos (by simpa [kOut] using hc1)]
   refine j_q (qs_sadd (l := kOutput) rfl rfl (by omega)) ?_
   refine j_q (qs_loadw 0 U51 rfl sz51 rfl rfl (by first | (rw [ints_length]; exact hh) | rfl)) ?_
   refine j_q (qs_call ent55 rfl rfl rfl (fun w' hw' => (by rw [hw]; exact rmake_con (kOutput ++ out) h name w' hh (by simp only [List.length_append]; omega) : Con Tryz.prog 55 [.string (bs (kOutput ++ out)), .agg (ints h).toArray, .string (bs name)] w' [] fun v _ => v = mk (kOutput ++ out) h (whole out name)))) ?_
   rw [mk_eq]
   refine j_q (qs_ext (vs := [.string (bs (mkP (kOutput ++ out) h (whole out name))), .int .i64 (mkE (whole out name))]) rfl rfl) ?_
   refine j_q (qs_ext (vs := [.string (bs (mkP (kOutput ++ out) h (whole out name))), .int .i64 (mkE (whole out name))]) rfl rfl) ?_
   refine j_ret_con (vs := [_, _]) (fun w' hw' => ⟨rfl, rfl, trivial⟩) ?_
   show Value.tuple #[_, _] = _
   rw [(out_yes (h := h) hyes).1, (out_yes (h := h) hyes).2]
   rfl
end Go.Proofs.YtfeabbeebkkhaaaGreat
