/- The library's sort, and a map's keys in their order: laid off the kit's shelf (written by the kit's tools for layings). -/
import Derived.Shelf.SlIter.Nil
import Derived.Shelf.SortM.Plain
import Derived.Shelf.SortM.SortNone
import Derived.Ground.GgzProg
import Derived.Ground.SlgmProg
import Derived.Test.YtkafaodhppikfaaDoorProg
namespace Go.Proofs
open Go.RowKit Go.Maps Go.Sort Go.Shelf
def Tryd.keys47_ren : Go.Shelf.Ren := ⟨fun | 7 => 47 | 10 => 57 | n => n, fun | 23 => 86 | 26 => 23 | 3 => 4 | 28 => 92 | 0 => 0 | 27 => 91 | 33 => 33 | 4 => 4 | n => n, fun | n => n⟩
theorem Tryd.keys47 : Go.Proofs.SlLaysZ.n7 Tryd.prog Tryd.keys47_ren := {
  mixed := by kernel_rfl
  f7 := ⟨Tryd.f47.name, by decide, Tryd.func47.trans (congrArg some (by kernel_rfl))⟩
  f10 := ⟨Tryd.f57.name, by decide, Tryd.func57.trans (congrArg some (by kernel_rfl))⟩
  t0 := Tryd.underlying0
  a0 := Tryd.isAgg0
  z0 := Tryd.sizeOf0
  v0 := Tryd.zeroValue0
  t4 := Tryd.underlying4
  a4 := Tryd.isAgg4
  z4 := Tryd.sizeOf4
  v4 := Tryd.zeroValue4
  t23 := Tryd.underlying86
  a23 := Tryd.isAgg86
  z23 := Tryd.sizeOf86
  v23 := Tryd.zeroValue86
  t26 := Tryd.underlying23
  a26 := Tryd.isAgg23
  z26 := Tryd.sizeOf23
  v26 := Tryd.zeroValue23
  t27 := Tryd.underlying91
  a27 := Tryd.isAgg91
  z27 := Tryd.sizeOf91
  v27 := Tryd.zeroValue91
  t28 := Tryd.underlying92
  a28 := Tryd.isAgg92
  z28 := Tryd.sizeOf92
  v28 := Tryd.zeroValue92
  t33 := Tryd.underlying33
  a33 := Tryd.isAgg33
  z33 := Tryd.sizeOf33
  v33 := Tryd.zeroValue33 }
def Tryd.sorted46_ren : Go.Shelf.Ren := ⟨fun | 6 => 46 | 8 => 55 | 9 => 56 | 11 => 64 | 13 => 66 | 12 => 65 | 23 => 79 | 24 => 60 | 14 => 70 | 15 => 71 | 16 => 72 | 17 => 73 | 18 => 74 | 19 => 75 | 20 => 76 | 21 => 77 | 22 => 78 | 25 => 80 | 26 => 81 | 27 => 82 | 28 => 83 | 29 => 84 | 30 => 85 | 31 => 86 | n => n, fun | 26 => 23 | 28 => 92 | 24 => 55 | 0 => 0 | 3 => 3 | 37 => 68 | 48 => 59 | 50 => 65 | 4 => 4 | 40 => 111 | 39 => 110 | 45 => 116 | 5 => 5 | 9 => 9 | 51 => 119 | 55 => 123 | 57 => 125 | 58 => 126 | 33 => 33 | n => n, fun | n => n⟩
theorem Tryd.sorted46 : Go.Proofs.SlLaysZ.n6 Tryd.prog Tryd.sorted46_ren := {
  mixed := by kernel_rfl
  f6 := ⟨Tryd.f46.name, by decide, Tryd.func46.trans (congrArg some (by kernel_rfl))⟩
  f8 := ⟨Tryd.f55.name, by decide, Tryd.func55.trans (congrArg some (by kernel_rfl))⟩
  f11 := ⟨Tryd.f64.name, by decide, Tryd.func64.trans (congrArg some (by kernel_rfl))⟩
  t0 := Tryd.underlying0
  a0 := Tryd.isAgg0
  z0 := Tryd.sizeOf0
  v0 := Tryd.zeroValue0
  t24 := Tryd.underlying55
  a24 := Tryd.isAgg55
  z24 := Tryd.sizeOf55
  v24 := Tryd.zeroValue55
  t26 := Tryd.underlying23
  a26 := Tryd.isAgg23
  z26 := Tryd.sizeOf23
  v26 := Tryd.zeroValue23
  t28 := Tryd.underlying92
  a28 := Tryd.isAgg92
  z28 := Tryd.sizeOf92
  v28 := Tryd.zeroValue92
  i26 := by kernel_rfl }
def Tryd.sort56_ren : Go.Shelf.Ren := ⟨fun | 6 => 56 | 8 => 66 | 9 => 65 | 19 => 79 | 20 => 60 | 21 => 70 | 22 => 71 | 23 => 72 | 24 => 73 | 25 => 74 | 26 => 75 | 27 => 76 | 28 => 77 | 29 => 78 | 36 => 80 | 31 => 81 | 32 => 82 | 37 => 83 | 38 => 84 | 39 => 85 | 41 => 86 | n => n, fun | 27 => 55 | 29 => 23 | 3 => 3 | 32 => 68 | 26 => 55 | 0 => 0 | 44 => 59 | 46 => 65 | 4 => 4 | 36 => 111 | 35 => 110 | 41 => 116 | 5 => 5 | 9 => 9 | 53 => 119 | 57 => 123 | 63 => 125 | 64 => 126 | n => n, fun | n => n⟩
theorem Tryd.sort56 : Go.Proofs.SlLaysM.n6 Tryd.prog Tryd.sort56_ren := {
  mixed := by kernel_rfl
  f6 := ⟨Tryd.f56.name, by decide, Tryd.func56.trans (congrArg some (by kernel_rfl))⟩
  f8 := Tryd.func66.trans (congrArg some (by kernel_rfl))
  f9 := ⟨Tryd.f65.name, by decide, Tryd.func65.trans (congrArg some (by kernel_rfl))⟩
  f19 := Tryd.func79.trans (congrArg some (by kernel_rfl))
  f20 := Tryd.func60.trans (congrArg some (by kernel_rfl))
  f21 := ⟨Tryd.f70.name, by decide, Tryd.func70.trans (congrArg some (by kernel_rfl))⟩
  f22 := ⟨Tryd.f71.name, by decide, Tryd.func71.trans (congrArg some (by kernel_rfl))⟩
  f23 := ⟨Tryd.f72.name, by decide, Tryd.func72.trans (congrArg some (by kernel_rfl))⟩
  f24 := ⟨Tryd.f73.name, by decide, Tryd.func73.trans (congrArg some (by kernel_rfl))⟩
  f25 := ⟨Tryd.f74.name, by decide, Tryd.func74.trans (congrArg some (by kernel_rfl))⟩
  f26 := ⟨Tryd.f75.name, by decide, Tryd.func75.trans (congrArg some (by kernel_rfl))⟩
  f27 := ⟨Tryd.f76.name, by decide, Tryd.func76.trans (congrArg some (by kernel_rfl))⟩
  f28 := ⟨Tryd.f77.name, by decide, Tryd.func77.trans (congrArg some (by kernel_rfl))⟩
  f29 := ⟨Tryd.f78.name, by decide, Tryd.func78.trans (congrArg some (by kernel_rfl))⟩
  f31 := Tryd.func81.trans (congrArg some (by kernel_rfl))
  f32 := Tryd.func82.trans (congrArg some (by kernel_rfl))
  f36 := ⟨Tryd.f80.name, by decide, Tryd.func80.trans (congrArg some (by kernel_rfl))⟩
  f37 := ⟨Tryd.f83.name, by decide, Tryd.func83.trans (congrArg some (by kernel_rfl))⟩
  f38 := ⟨Tryd.f84.name, by decide, Tryd.func84.trans (congrArg some (by kernel_rfl))⟩
  f39 := ⟨Tryd.f85.name, by decide, Tryd.func85.trans (congrArg some (by kernel_rfl))⟩
  f41 := ⟨Tryd.f86.name, by decide, Tryd.func86.trans (congrArg some (by kernel_rfl))⟩
  t0 := Tryd.underlying0
  a0 := Tryd.isAgg0
  z0 := Tryd.sizeOf0
  v0 := Tryd.zeroValue0
  t3 := Tryd.underlying3
  a3 := Tryd.isAgg3
  z3 := Tryd.sizeOf3
  v3 := Tryd.zeroValue3
  t4 := Tryd.underlying4
  a4 := Tryd.isAgg4
  z4 := Tryd.sizeOf4
  v4 := Tryd.zeroValue4
  t5 := Tryd.underlying5
  a5 := Tryd.isAgg5
  z5 := Tryd.sizeOf5
  v5 := Tryd.zeroValue5
  t9 := Tryd.underlying9
  a9 := Tryd.isAgg9
  z9 := Tryd.sizeOf9
  v9 := Tryd.zeroValue9
  t26 := Tryd.underlying55
  a26 := Tryd.isAgg55
  z26 := Tryd.sizeOf55
  v26 := Tryd.zeroValue55
  t27 := Tryd.underlying55
  a27 := Tryd.isAgg55
  z27 := Tryd.sizeOf55
  v27 := Tryd.zeroValue55
  t29 := Tryd.underlying23
  a29 := Tryd.isAgg23
  z29 := Tryd.sizeOf23
  v29 := Tryd.zeroValue23
  t32 := Tryd.underlying68
  a32 := Tryd.isAgg68
  z32 := Tryd.sizeOf68
  v32 := Tryd.zeroValue68
  t35 := Tryd.underlying110
  a35 := Tryd.isAgg110
  z35 := Tryd.sizeOf110
  v35 := Tryd.zeroValue110
  t36 := Tryd.underlying111
  a36 := Tryd.isAgg111
  z36 := Tryd.sizeOf111
  v36 := Tryd.zeroValue111
  t41 := Tryd.underlying116
  a41 := Tryd.isAgg116
  z41 := Tryd.sizeOf116
  v41 := Tryd.zeroValue116
  t44 := Tryd.underlying59
  a44 := Tryd.isAgg59
  z44 := Tryd.sizeOf59
  v44 := Tryd.zeroValue59
  t46 := Tryd.underlying65
  a46 := Tryd.isAgg65
  z46 := Tryd.sizeOf65
  v46 := Tryd.zeroValue65
  t53 := Tryd.underlying119
  a53 := Tryd.isAgg119
  z53 := Tryd.sizeOf119
  v53 := Tryd.zeroValue119
  t57 := Tryd.underlying123
  a57 := Tryd.isAgg123
  z57 := Tryd.sizeOf123
  v57 := Tryd.zeroValue123
  t63 := Tryd.underlying125
  a63 := Tryd.isAgg125
  z63 := Tryd.sizeOf125
  v63 := Tryd.zeroValue125
  t64 := Tryd.underlying126
  a64 := Tryd.isAgg126
  z64 := Tryd.sizeOf126
  v64 := Tryd.zeroValue126 }
theorem Tryd.sorts46 (m : Nat) : AnyZ.SortsIn Tryd.prog Tryd.sorted46_ren Fence.wide m :=
  ⟨fun blk off cap ss W hH hblk hsz => callsIn_wide.2 (AnyM.slices_Sort_string Tryd.sort56 blk off cap ss W hH hblk hsz),
   fun p cap W => callsIn_wide.2 (AnyM.slices_Sort_string_none Tryd.sort56 p cap W)⟩

theorem Tryd.maps_Keys_47 (mb : Option Nat) (W : World) : CallsIn Fence.wide 5 Tryd.prog 47 #[.map mb] W fun e w' => e = .returned (.func (.func 57) #[] #[.pointer (some ⟨W.heap.size, 0, none⟩)]) ∧ w' = W.alloc (.cells #[.map mb] 86) :=
  AnyZ.keys_in Tryd.keys47 Fence.wide 5 trivial rfl mb W

set_option maxHeartbeats 1000000 in
theorem Tryd.slices_Sorted_keys_46_47 {H : Type} (b nn : Nat) (D0 : DataW H) (R : Value → Option (DataW H × List MemPlace)) (w : World) (hown : w.ownsMap Tryd.prog 23 R b nn D0) (hmax : Maps.size D0 ≤ maxLen) (hbytes : Maps.size D0 * 16 ≤ 140737488355328) :
    CallsIn Fence.wide 5 Tryd.prog 46 #[.func (.func 57) #[] #[.pointer (some ⟨w.heap.size, 0, none⟩)]] (w.alloc (.cells #[.map (some b)] 86)) fun e w' => ∃ (v : Value) (ss : List (List UInt8)), e = .returned v ∧ ss.Perm (strKeys D0) ∧
      w'.ownsRow (w.alloc (.cells #[.map (some b)] 86)).heap.size 23 1 v ss.length ((ss.mergeSort (fun x y => decide (x ≤ y))).map encStr) ∧ (v = .slice none 0 0 ↔ ss = []) ∧ Below (w.alloc (.cells #[.map (some b)] 86)).heap.size (w.alloc (.cells #[.map (some b)] 86)) w' := by
  have hbl := hown.lt
  have hseq : SeqGives Fence.wide 2 Tryd.prog 57 #[.pointer (some ⟨w.heap.size, 0, none⟩)] encStr (fun ss => ss.Perm (strKeys D0)) (Maps.size D0) (w.alloc (.cells #[.map (some b)] 86)) :=
    AnyZ.keys_gives (ρ := Tryd.keys47_ren) { Tryd.keys47 with } Fence.wide _ trivial rfl (by omega) w.heap.size b nn D0 _ (by simp) (by simp) (by
      obtain ⟨es, clock, hb, Ft, hs, hD⟩ := hown
      exact ⟨es, clock, (Below.heap_alloc _ _ b hbl).trans hb, Ft, hs, hD⟩)
  exact AnyZ.sorted_in Tryd.sorted46 Fence.wide 5 trivial trivial trivial trivial rfl (by omega) (Tryd.sorts46 _) (enters_of Tryd.func56 (by kernel_rfl) rfl) 57 #[.pointer (some ⟨w.heap.size, 0, none⟩)] trivial (enters_of Tryd.func57 (by kernel_rfl) rfl) _ _ hmax hbytes _ hseq

set_option maxHeartbeats 1000000 in
theorem Tryd.slices_Sorted_keys_nil_46_47 (w : World) :
    CallsIn Fence.wide 5 Tryd.prog 46 #[.func (.func 57) #[] #[.pointer (some ⟨w.heap.size, 0, none⟩)]] (w.alloc (.cells #[.map none] 86)) fun e w' => ∃ (v : Value) (ss : List (List UInt8)), e = .returned v ∧ ss = [] ∧
      w'.ownsRow (w.alloc (.cells #[.map none] 86)).heap.size 23 1 v ss.length ((ss.mergeSort (fun x y => decide (x ≤ y))).map encStr) ∧ (v = .slice none 0 0 ↔ ss = []) ∧ Below (w.alloc (.cells #[.map none] 86)).heap.size (w.alloc (.cells #[.map none] 86)) w' := by
  have hseq : SeqGives Fence.wide 2 Tryd.prog 57 #[.pointer (some ⟨w.heap.size, 0, none⟩)] encStr (fun ss : List (List UInt8) => ss = []) 0 (w.alloc (.cells #[.map none] 86)) :=
    AnyZ.keys_gives_nil (ρ := Tryd.keys47_ren) { Tryd.keys47 with } Fence.wide _ trivial rfl w.heap.size _ (by simp) (by simp)
  exact AnyZ.sorted_in Tryd.sorted46 Fence.wide 5 trivial trivial trivial trivial rfl (by omega) (Tryd.sorts46 _) (enters_of Tryd.func56 (by kernel_rfl) rfl) 57 #[.pointer (some ⟨w.heap.size, 0, none⟩)] trivial (enters_of Tryd.func57 (by kernel_rfl) rfl) _ 0 (Nat.zero_le _) (by omega) _ hseq
end Go.Proofs
