/- A script of acts among a law's arguments. -/
import Derived.Test.YtlgfpoelhjlifaaLk17
import Derived.Deep.Strs
namespace Go.Proofs.Ytlgfpoelhjlifaa
open Go Go.Sx Go.ChangeShapes Go.WideShapes Go.ChangeAt Go.RowKit
set_option linter.unusedVariables false
set_option maxRecDepth 100000
theorem ac_trod {H : Type} {enc : TypeId × Value → H} {w : World} {b0 : Nat} {sp : Nat → Bool} {held : Bool} (fuel : Nat) (cs : List Value) (y : DataW H × List MemPlace) (h : DataW.trod enc Try.prog w b0 sp held fuel 38 cs = some y) (hw : (y.1.weights Try.prog 38).all (· ≤ reachBytes) = true) :
    ∃ a : Ac, a.Ok ∧ cs = encAc a := by
  obtain ⟨y0, y1, y3, n, rfl, hl, h0, h1, h3⟩ := Go.Deep.trod_struct3 Try.underlying38 h
  have hc : Try.prog.cellsOf 38 = 3 := by kernel_rfl
  rw [hc] at hl
  match cs, hl with
  | [c0, c1, c3], _ =>
    have e3 : Try.prog.cellsOf 3 = 1 := by kernel_rfl
    have e4 : Try.prog.cellsOf 4 = 1 := by kernel_rfl
    simp only [e3, e4, List.drop_zero, List.take_succ_cons, List.take_zero, List.drop_succ_cons] at h0 h1 h3
    obtain ⟨k0, hk0, e0, w0⟩ := DataW.trod_int Try.underlying3 h0
    obtain ⟨k1, hk1, e1, w1⟩ := DataW.trod_int Try.underlying3 h1
    obtain ⟨b3, hb3, e3'⟩ := DataW.trod_bool Try.underlying4 h3
    injection hk0 with hk0
    injection hk1 with hk1
    injection hb3 with hb3
    subst hk0 hk1 hb3
    exact ⟨⟨k0, k1, b3⟩, ⟨int_wf w0, int_wf w1⟩, rfl⟩
theorem open_acts {H : Type} {enc : TypeId × Value → H} {w : World} {r : Go.Reach} {base b0 : Nat} {sp : Nat → Bool} {held : Bool} {v : Value} {x : DataW H × List MemPlace} (hv : Value.okWide Try.prog w r base 31 v)
    (h : ∃ fuel, DataW.trod enc Try.prog w b0 sp held fuel 31 v.cells.toList = some x) (hw : (x.1.weights Try.prog 31).all (· ≤ reachBytes) = true) : ∃ rs : List Ac, Acts w v rs ∧ rs.length ≤ 4611686018427387903 := by
  obtain ⟨rs, h1, h2, h3⟩ := open_sln (α := Ac) encAc Ac.Ok encAc_len (by decide) Try.underlying31 (by kernel_rfl) hv ac_trod h hw
  have hb : Try.prog.bytesOf 38 = 24 := by kernel_rfl
  have hreach : reachBytes = 140737488351232 := rfl
  rw [hb] at h3
  exact ⟨rs, ⟨h1, h2⟩, by omega⟩
end Go.Proofs.Ytlgfpoelhjlifaa
