/- A slice of strings among a law's arguments. -/
import Derived.Test.YtfeabbeebkkhaaaGreatSxR
import Derived.Test.YtfeabbeebkkhaaaGreatSx13
import Derived.SliceStrings
namespace Go.Sx
open Go Go.ChangeShapes Go.WideShapes Go.ChangeAt Go.RowKit
set_option linter.unusedVariables false
theorem open_strsl {H : Type} {enc : TypeId × Value → H} {P : Program} {w : World} {r : Reach} {base b0 : Nat} {sp : Nat → Bool} {held : Bool} {t e : TypeId} {v : Value} {x : DataW H × List MemPlace} (ht : P.underlying t = some (.slice e)) (he : P.underlying e = some .string) (hc : P.cellsOf e = 1) (hv : Value.okWide P w r base t v)
    (h : ∃ fuel, DataW.trod enc P w b0 sp held fuel t v.cells.toList = some x) : ∃ rs, StrSl w v rs ∧ ∀ l ∈ rs, l.length ≤ 9223372036854775807 := by
  obtain ⟨a0, len, cap, rfl⟩ := okWide_slice ht hv
  obtain ⟨fuel, hf⟩ := h
  rcases open_strings ht he hc hf with ⟨hcs, _⟩ | ⟨a, len', cap', ss, hcs, hb, hl, hm, hz, hx, hcell, hsz⟩
  · have : (Value.slice a0 len cap).cells.toList = [Value.slice a0 len cap] := rfl
    rw [this] at hcs
    injection hcs with hcs
    rw [hcs]
    exact ⟨[], .inl ⟨rfl, rfl⟩, by simp⟩
  · have : (Value.slice a0 len cap).cells.toList = [Value.slice a0 len cap] := rfl
    rw [this] at hcs
    injection hcs with hcs
    injection hcs with h1 h2 h3
    subst h1 h2 h3
    simp only [Value.okWide, ht, Cell.okWide, Cell.ok] at hv
    obtain ⟨_, _, _, hspot, row, cells, hshape, _⟩ := hv
    obtain ⟨g, off, spot⟩ := a
    simp only at hspot hshape
    subst hspot
    have hlen : len ≤ ss.length := by rw [hz]; split <;> omega
    have hg : g < w.heap.size := by
      unfold World.shape? at hshape
      split at hshape
      · rename_i hh; exact (Array.getElem?_eq_some_iff.1 hh).1
      · cases hshape
    refine ⟨(ss.take len).map fun s => s.data.toList, .inr ⟨g, off, cap, by simp [Nat.min_eq_left hlen], hg, by simp [Nat.min_eq_left hlen]; exact hl, fun j u hu => ?_⟩, ?_⟩
    · simp only [Sx.strs, List.map_map, List.getElem?_map] at hu
      cases hj : (ss.take len)[j]? with
      | none => rw [hj] at hu; simp at hu
      | some s =>
        rw [hj] at hu
        simp only [Option.map_some, Option.some.injEq, Function.comp] at hu
        subst hu
        have hj2 : ss[j]? = some s := by
          rw [List.getElem?_take] at hj
          split at hj
          · exact hj
          · cases hj
        have hlt := (List.getElem?_eq_some_iff.1 hj2).1
        have h5 := hcell j hlt
        rw [h5, ← bs_of]
        simp [List.getD_eq_getElem?_getD, hj2]
    · intro l hl2
      obtain ⟨s, hs, rfl⟩ := List.mem_map.1 hl2
      have := hsz s (List.mem_of_mem_take hs)
      simp only [maxLen] at this
      have e : s.data.toList.length = s.size := Array.length_toList
      omega
end Go.Sx
