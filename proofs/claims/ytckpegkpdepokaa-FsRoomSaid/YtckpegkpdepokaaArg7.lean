/- Rows of rows of bytes among a law's arguments. -/
import Derived.Test.YtckpegkpdepokaaSx18
import Derived.Test.YtckpegkpdepokaaSxR
import Derived.Test.YtckpegkpdepokaaFs4
namespace Go.Proofs.Ytckpegkpdepokaa
open Go Go.Sx Go.ChangeShapes Go.WideShapes Go.ChangeAt Go.RowKit
set_option linter.unusedVariables false
set_option maxRecDepth 100000
/-- bytes that can be read, wherever an empty row lies -/
def BRz (w : World) (p : Value × List UInt8) : Prop := (p.1 = .slice none 0 0 ∧ p.2 = []) ∨ ∃ a cap, p.1 = .slice (some a) p.2.length cap ∧ p.2.length ≤ cap ∧ Cells w a (ints p.2)
theorem brz_br {w : World} {v : Value} {xs : List UInt8} (h : BRz w (v, xs)) : BR w v xs := by
  rcases h with h | ⟨a, cap, h1, h2, h3⟩
  · exact .inl h
  · refine .inr ⟨a, cap, h1, h2, fun h0 => ?_, h3⟩
    have h4 := h3 0 _ (ints_get_lt h0)
    have h5 : (a.add 0).block = a.block := rfl
    unfold World.cell? at h4
    split at h4
    · rename_i hh
      rw [h5] at hh
      exact (Array.getElem?_eq_some_iff.1 hh).1
    · cases h4
theorem weights_at {H : Type} {P : Program} {ts : List TypeId} {ds : List (DataW H)} (h : (DataW.weightsEach P ts ds).all (· ≤ reachBytes) = true) {j : Nat} {t : TypeId} {d : DataW H} (ht : ts[j]? = some t) (hd : ds[j]? = some d) : (d.weights P t).all (· ≤ reachBytes) = true :=
  List.all_eq_true.2 fun n hn => List.all_eq_true.1 h n (DataW.weights_mem_each ht hd n hn)
theorem row_trod {H : Type} {enc : TypeId × Value → H} {w : World} {b0 : Nat} {sp : Nat → Bool} {held : Bool} (fuel : Nat) (cs : List Value) (y : DataW H × List MemPlace) (h : DataW.trod enc Try.prog w b0 sp held fuel 23 cs = some y) (hw : (y.1.weights Try.prog 23).all (· ≤ reachBytes) = true) :
    ∃ p : Value × List UInt8, (BRz w p ∧ p.2.length ≤ 140737488351232) ∧ cs = [p.1] := by
  rcases open_ints Try.underlying23 Try.underlying5 (by kernel_rfl) h with ⟨hcs, _⟩ | ⟨a, len, cap, zs, hcs, hb, hl, hm, hz, hx, hcell, hsz⟩
  · exact ⟨(.slice none 0 0, []), ⟨.inl ⟨rfl, rfl⟩, Nat.zero_le _⟩, hcs⟩
  · have hlen : len ≤ zs.length := by rw [hz]; split <;> omega
    have hll : ((zs.take len).map by8).length = len := by simp [Nat.min_eq_left hlen]
    have hwl : len ≤ 140737488351232 := by
      have h0 := List.all_eq_true.1 hw (((lits IntKind.u8 (zs.take len) : List (DataW H)).length + (lits IntKind.u8 (zs.drop len) : List (DataW H)).length) * Try.prog.bytesOf 5) (by rw [hx]; simp [DataW.weights, Try.underlying23])
      have hb5 : Try.prog.bytesOf 5 = 1 := by kernel_rfl
      have hreach : reachBytes = 140737488351232 := rfl
      rw [hb5] at h0
      have h1 : (lits IntKind.u8 (zs.take len) : List (DataW H)).length = len := by simp [lits, Nat.min_eq_left hlen]
      rw [h1] at h0
      simp only [decide_eq_true_eq] at h0
      omega
    refine ⟨(.slice (some a) len cap, (zs.take len).map by8), ⟨.inr ⟨a, cap, by simp only [hll], by simp only [hll]; exact hl, fun j u hu => ?_⟩, by simp only [hll]; exact hwl⟩, hcs⟩
    rw [ints_get] at hu
    obtain ⟨c, hc1, rfl⟩ := Option.map_eq_some_iff.1 hu
    rw [List.getElem?_map] at hc1
    obtain ⟨z, hz1, rfl⟩ := Option.map_eq_some_iff.1 hc1
    have hz2 : zs[j]? = some z := by
      rw [List.getElem?_take] at hz1
      split at hz1
      · exact hz1
      · cases hz1
    have hlt := (List.getElem?_eq_some_iff.1 hz2).1
    rw [hcell j hlt]
    have hr := hsz z (List.mem_of_getElem? hz2)
    have hr2 : 0 ≤ z ∧ z ≤ 255 := by
      have h1 : IntKind.u8.min = 0 := rfl
      have h2 : IntKind.u8.max = 255 := rfl
      simp [Lit.wf, h1, h2] at hr
      omega
    have hw : IntKind.u8.wrap z = z := by rw [IntKind.wrap_u8]; omega
    rw [← wrap_by8, hw]
    simp [List.getD_eq_getElem?_getD, hz2]
theorem open_rows {H : Type} {enc : TypeId × Value → H} {w : World} {r : Go.Reach} {base b0 : Nat} {sp : Nat → Bool} {held : Bool} {v : Value} {x : DataW H × List MemPlace} (hv : Value.okWide Try.prog w r base 22 v)
    (h : ∃ fuel, DataW.trod enc Try.prog w b0 sp held fuel 22 v.cells.toList = some x) (hw : (x.1.weights Try.prog 22).all (· ≤ reachBytes) = true) : ∃ rs : List (Value × List UInt8), RSlN 1 w v (rs.map fun p => [p.1]).flatten rs.length ∧ (∀ p ∈ rs, BRz w p ∧ p.2.length ≤ 140737488351232) ∧ rs.length ≤ 4611686018427387903 := by
  obtain ⟨rs, h1, h2, h3⟩ := open_sln (α := Value × List UInt8) (fun p => [p.1]) (fun p => BRz w p ∧ p.2.length ≤ 140737488351232) (fun _ => rfl) (by decide) Try.underlying22 (by kernel_rfl) hv row_trod h hw
  have hb : Try.prog.bytesOf 23 = 24 := by kernel_rfl
  have hreach : reachBytes = 140737488351232 := rfl
  rw [hb] at h3
  exact ⟨rs, h1, h2, by omega⟩
end Go.Proofs.Ytckpegkpdepokaa
