/- The library's sorted keys of a map: what slices.Sorted of maps.Keys answers. -/
import Derived.Test.YtckpegkpdepokaaTa
import Derived.Test.YtckpegkpdepokaaFs9
import Derived.Test.YtckpegkpdepokaaIter
import Derived.Test.YtckpegkpdepokaaSx15
namespace Go.Proofs.Ytckpegkpdepokaa
open Go Go.Sx
set_option maxRecDepth 100000
set_option maxHeartbeats 4000000
set_option linter.unusedVariables false
set_option linter.unusedSimpArgs false
attribute [local irreducible] J JQ QS Con W opW

open Go.MapKept Go.WideMaps Go.Maps Go.RowKit Go.Shelf Go.Sort
theorem sortedKeys_at {H : Type} (Bs b nn : Nat) (D0 : DataW H) (R : Value → Option (DataW H × List MemPlace)) (W : World) (hBs : Bs < W.heap.size) (hc : W.cell? ⟨Bs, 0, none⟩ = some (.map (some b))) (hown : W.ownsMap Try.prog 9 R b nn D0) (hmax : Maps.size D0 ≤ maxLen) (hbytes : Maps.size D0 * 16 ≤ 140737488355328) :
    CallsIn Fence.wide 5 Try.prog 41 #[.func (.func 70) #[] #[.pointer (some ⟨Bs, 0, none⟩)]] W fun e w' => ∃ (v : Value) (ss : List (List UInt8)), e = .returned v ∧ ss.Perm (strKeys D0) ∧
      w'.ownsRow W.heap.size 9 1 v ss.length ((ss.mergeSort (fun x y => decide (x ≤ y))).map encStr) ∧ (v = .slice none 0 0 ↔ ss = []) ∧ Go.RowKit.Below W.heap.size W w' :=
  AnyZ.sorted_in Try.sorted41 Fence.wide 5 trivial trivial trivial trivial rfl (by omega) (Try.sorts41 _) (enters_of Try.func44 (by kernel_rfl) rfl) 70 #[.pointer (some ⟨Bs, 0, none⟩)] trivial (enters_of Try.func70 (by kernel_rfl) rfl) _ _ hmax hbytes _
    (AnyZ.keys_gives (ρ := Try.keys42_ren) { Try.keys42 with } Fence.wide _ trivial rfl (by omega) Bs b nn D0 W hBs hc hown)
theorem sortedNames_con (Bs b : Nat) {es : Array MapEntry} {clock : Nat} {m : List (List UInt8 × Value)} (w : World) (hBs : Bs < w.heap.size) (hc : w.cell? ⟨Bs, 0, none⟩ = some (.map (some b))) (hb : w.heap[b]? = some (.map es clock)) (hm : MapOk strEnc strOk es clock m) (hsz : m.length ≤ 1000000000) :
    Con Try.prog 41 [.func (.func 70) #[] #[.pointer (some ⟨Bs, 0, none⟩)]] w [] fun v S' => ∃ c, S' = [c] ∧ Sx.Own 9 1 (strs (sortS (m.map Prod.fst))) v c := by
  let R : Value → Option (DataW Unit × List MemPlace) := fun _ => some (.lit (.bool true), [])
  have hkey : ∀ l : List UInt8, l.length ≤ 9223372036854775807 → keyOf Try.prog 9 (.string (bs l)) = some (.string l) := fun l hl => by
    have : (bs l).size ≤ maxLen := hl
    simp [keyOf, Try.underlying9, mapKey, this, bs_data]
  have hrd : ∀ x ∈ es.toList, ∃ p ∈ m, x.key = strEnc p.1 := fun x hx => by
    have : (x.key, x.val) ∈ m.map (fun p => (strEnc p.1, p.2)) := by rw [← hm.ents]; exact List.mem_map_of_mem (f := fun e : MapEntry => (e.key, e.val)) hx
    obtain ⟨p, hp, e1⟩ := List.mem_map.1 this
    injection e1 with e1 e2
    exact ⟨p, hp, e1.symm⟩
  have hrg : es.toList.map (WideElems.rg Try.prog 9 R) = m.map fun p => (Lit.string p.1, DataW.lit (.bool true)) := by
    have e1 : es.toList.map (WideElems.rg Try.prog 9 R) = (es.toList.map (fun e => (e.key, e.val))).map fun q => ((keyOf Try.prog 9 q.1).map fun k => (k, (DataW.lit (.bool true) : DataW Unit))).getD (.bool false, .nil) := by
      rw [List.map_map]
      refine List.map_congr_left fun x _ => ?_
      simp only [Function.comp, WideElems.rg, WideElems.rd, R, Option.map_some]
      cases keyOf Try.prog 9 x.key <;> rfl
    rw [e1, hm.ents, List.map_map]
    refine List.map_congr_left fun p hp => ?_
    simp only [Function.comp, strEnc, hkey p.1 (hm.keys p hp), Option.map_some, Option.getD_some]
  have hfit : WideElems.Fit Try.prog 9 R es clock := ⟨by rw [hm.size]; simp only [maxLen]; omega, hm.stamped, fun x hx => by
    obtain ⟨p, hp, e1⟩ := hrd x hx
    exact ⟨(.string p.1, .lit (.bool true)), by simp only [WideElems.rd, e1, strEnc, hkey p.1 (hm.keys p hp), Option.bind_some, R, Option.map_some]⟩⟩
  have hown : w.ownsMap Try.prog 9 R b es.size (.map ((es.toList.map (WideElems.rg Try.prog 9 R)).foldr DataW.insert [])) := ⟨es, clock, hb, hfit, Nat.le_refl _, rfl⟩
  have hperm := Go.WideShapes.sorted_perm (H := Unit) (es.toList.map (WideElems.rg Try.prog 9 R))
  have hsk : (strKeys (DataW.map ((es.toList.map (WideElems.rg Try.prog 9 R)).foldr DataW.insert []))).Perm (m.map Prod.fst) := by
    refine (hperm.map _).trans ?_
    rw [hrg, List.map_map]
    exact .of_eq (List.map_congr_left fun p _ => rfl)
  have hsize : Maps.size (DataW.map ((es.toList.map (WideElems.rg Try.prog 9 R)).foldr DataW.insert [])) = m.length := by
    have h1 := hperm.length_eq
    have h2 : es.toList.length = m.length := by rw [Array.length_toList, hm.size]
    rw [List.length_map, h2] at h1
    exact h1
  have h := (callsIn_wide (n := 5)).1 (sortedKeys_at Bs b es.size _ R w hBs hc hown (by rw [hsize]; simp only [maxLen]; omega) (by rw [hsize]; omega))
  have hc2 : Con Try.prog 41 [.func (.func 70) #[] #[.pointer (some ⟨Bs, 0, none⟩)]] w [] fun v S' => ∃ c, S' = [c] ∧ Sx.Own 9 1 (strs (sortS (m.map Prod.fst))) v c := by
    refine con_of_own (n := (m.map Prod.fst).length) (h.mono ?_)
    rintro e w' ⟨v, ss, rfl, hp, hrow, _, hB⟩
    have hpp := hp.trans hsk
    refine ⟨v, rfl, ?_, hB⟩
    rw [hpp.length_eq, mergeSort_of_perm hpp] at hrow
    unfold sortS
    exact hrow
  exact hc2
theorem keysN_con (mb : Option Nat) (w : World) : Con Try.prog 42 [.map mb] w [] fun v S' => ∃ g, v = .func (.func 70) #[] #[.pointer (some ⟨g, 0, none⟩)] ∧ S' = [[(g, .cells [.map mb].toArray 64 (0, 0))]] := con_calls <| by
  refine ((callsIn_wide (n := 5)).1 (Try.maps_Keys_42 mb w)).mono ?_
  rintro e w' ⟨rfl, rfl⟩
  refine ⟨_, _, rfl, ⟨_, rfl, rfl⟩, ?_⟩
  have hs : Sig ⟨w, dom []⟩ [[]] w := ⟨rfl, rfl, rfl, Nat.le_refl _, by simp, by simp, by simp, fun _ _ _ => rfl⟩
  exact (hs.new (o := .cells [.map mb].toArray 64 (0, 0)) (w' := w.alloc (.cells #[.map mb] 64)) rfl rfl rfl rfl).1.sub (by simp)

end Go.Proofs.Ytckpegkpdepokaa
