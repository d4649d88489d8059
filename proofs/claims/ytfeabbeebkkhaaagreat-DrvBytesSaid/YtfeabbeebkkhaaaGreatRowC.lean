/- DrvBytes: for every input the law returns true. -/
import Derived.Test.YtfeabbeebkkhaaaGreatRows
import Derived.Test.YtfeabbeebkkhaaaGreatDv20
import Derived.Test.YtfeabbeebkkhaaaGreatSxR
import Derived.Test.YtfeabbeebkkhaaaGreatSxT
import Derived.Test.YtfeabbeebkkhaaaGreatSx16
import Derived.ProofKit
import Derived.Carry
import Derived.SizedLaws
namespace Go.Proofs.YtfeabbeebkkhaaaGreat
open Go Go.Sx Go.ChangeShapes Go.WideShapes Go.ChangeAt Go.RowKit
set_option linter.unusedVariables false
theorem own_drvBytes : ownKnob Tryz.prog.godebug = none := by kernel_rfl
theorem laid_drvBytes : laidOutB Tryz.prog = true := by kernel_rfl
set_option maxRecDepth 100000 in
theorem drvBytes_lifted (os : Os) (started : os.Started) (H : Type) (enc : TypeId × Value → H) :
    ReturnsInHanded {} Tryz.checked os 6 .any (Rows.drvBytesSpec.pre6 enc Tryz.prog Tryz.f6 Rows.drvBytesRow.domain false) (Rows.drvBytesSpec.post enc Tryz.prog Tryz.f6 false true false false) := by
  refine returnsInHanded_of_change_sized (C := Tryz.checked) own_drvBytes started (by kernel_rfl) Tryz.func6
    (ChangeSpec.witness6 (enc := enc) (C := Tryz.checked) false ⟨#[], #[.slice none 0 0, .slice none 0 0], []⟩ 8 (by kernel_rfl) (by kernel_rfl) (by kernel_rfl) (by kernel_rfl)) ?_
  intro W base args ds gs before hval0 hW hcnd hsz0 _
  have hsz : (DataW.weightsEach Tryz.prog (Tryz.f6.params.toList ++ Rows.drvBytesSpec.plain.varTypes Tryz.prog) (ds ++ gs)).all (· ≤ reachBytes) = true := hsz0
  have hreach : reachBytes = 140737488351232 := rfl
  have hval : ∀ (j : Nat) t v, Tryz.f6.params[j]? = some t → args[j]? = some v → Value.okWide Tryz.prog W .any base t v := hval0
  have hW' := hW
  obtain ⟨p, q, hA0, hV, rfl, hfz, hnd⟩ := hW
  have hA : DataW.TrodAll enc Tryz.prog W 0 (fun _ => true) true Tryz.f6.params.toList args.toList ds p := hA0
  rw [Tryz.params6] at hA hval
  obtain ⟨v0, v1, d0, d1, p0, p1, rfl, rfl, rfl, h0, h1⟩ := trodAll_two hA
  obtain ⟨rfl, rfl⟩ := trodVars_none hV
  obtain ⟨a0, wa0, wc0⟩ := open_bytesl Tryz.underlying46 Tryz.underlying5 (by kernel_rfl) (hval 0 46 v0 rfl rfl) h0
  have wb0 : a0.length ≤ reachBytes := bytes_sized hsz (j := 0) (t := 46) (by rw [Tryz.params6]; rfl) rfl Tryz.underlying46 (by kernel_rfl) wc0
  obtain ⟨a1, wa1, wc1⟩ := open_bytesl Tryz.underlying46 Tryz.underlying5 (by kernel_rfl) (hval 1 46 v1 rfl rfl) h1
  have wb1 : a1.length ≤ reachBytes := bytes_sized hsz (j := 1) (t := 46) (by rw [Tryz.params6]; rfl) rfl Tryz.underlying46 (by kernel_rfl) wc1
  clear hA0 hval0
  have hc := drvBytes_con a0 v0 a1 v1 W wa0 wa1 (by omega) (by omega) (by simp) (by simp)
  refine hc.mono fun e W' h => ?_
  obtain ⟨v, S', rfl, rfl, hS⟩ := h
  exact ⟨_, rfl, post_law hW' rfl rfl laid_drvBytes (by decide +kernel) rfl Tryz.underlying4 (below_of_sig hS)⟩
theorem drvBytes_holds : Rows.DrvBytesSaid :=
  OpenClaim.holds_of_wide 6 Tryz.f6 rfl rfl rfl rfl rfl rfl rfl ⟨rfl, rfl, rfl, rfl, rfl⟩ rfl rfl rfl rfl rfl (by kernel_rfl) Tryz.func6 (by kernel_rfl)
    (of_decide_eq_true (by kernel_rfl)) (by unfold Func.isWrapper; first | (rw [if_pos (by decide +kernel)]; kernel_rfl) | (rw [if_neg (by decide +kernel)]; exact ⟨rfl, rfl⟩))
    (fun os started H enc _ => drvBytes_lifted os started H enc)
end Go.Proofs.YtfeabbeebkkhaaaGreat
