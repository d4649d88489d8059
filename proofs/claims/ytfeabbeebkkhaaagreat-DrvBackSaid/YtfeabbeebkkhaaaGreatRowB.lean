/- DrvBack: for every input the law returns true. -/
import Derived.Test.YtfeabbeebkkhaaaGreatRows
import Derived.Test.YtfeabbeebkkhaaaGreatDv19
import Derived.Test.YtfeabbeebkkhaaaGreatArg14
import Derived.Test.YtfeabbeebkkhaaaGreatSxR
import Derived.Test.YtfeabbeebkkhaaaGreatSxT
import Derived.Test.YtfeabbeebkkhaaaGreatSx16
import Derived.ProofKit
import Derived.Carry
import Derived.SizedLaws
namespace Go.Proofs.YtfeabbeebkkhaaaGreat
open Go Go.Sx Go.ChangeShapes Go.WideShapes Go.ChangeAt Go.RowKit
set_option linter.unusedVariables false
theorem own_drvBack : ownKnob Tryz.prog.godebug = none := by kernel_rfl
theorem laid_drvBack : laidOutB Tryz.prog = true := by kernel_rfl
set_option maxRecDepth 100000 in
theorem drvBack_lifted (os : Os) (started : os.Started) (H : Type) (enc : TypeId × Value → H) :
    ReturnsInHanded {} Tryz.checked os 5 .any (Rows.drvBackSpec.pre6 enc Tryz.prog Tryz.f5 Rows.drvBackRow.domain false) (Rows.drvBackSpec.post enc Tryz.prog Tryz.f5 false true false false) := by
  refine returnsInHanded_of_change_sized (C := Tryz.checked) own_drvBack started (by kernel_rfl) Tryz.func5
    (ChangeSpec.witness6 (enc := enc) (C := Tryz.checked) false ⟨#[], #[.agg #[.string ⟨#[]⟩, .string ⟨#[]⟩, .string ⟨#[]⟩, .slice none 0 0, .slice none 0 0, .slice none 0 0, .slice none 0 0, .slice none 0 0], .string ⟨#[]⟩], []⟩ 8 (by kernel_rfl) (by kernel_rfl) (by kernel_rfl) (by kernel_rfl)) ?_
  intro W base args ds gs before hval0 hW hcnd hsz0 _
  have hsz : (DataW.weightsEach Tryz.prog (Tryz.f5.params.toList ++ Rows.drvBackSpec.plain.varTypes Tryz.prog) (ds ++ gs)).all (· ≤ reachBytes) = true := hsz0
  have hreach : reachBytes = 140737488351232 := rfl
  have hval : ∀ (j : Nat) t v, Tryz.f5.params[j]? = some t → args[j]? = some v → Value.okWide Tryz.prog W .any base t v := hval0
  have hW' := hW
  obtain ⟨p, q, hA0, hV, rfl, hfz, hnd⟩ := hW
  have hA : DataW.TrodAll enc Tryz.prog W 0 (fun _ => true) true Tryz.f5.params.toList args.toList ds p := hA0
  rw [Tryz.params5] at hA hval
  obtain ⟨v0, v1, d0, d1, p0, p1, rfl, rfl, rfl, h0, h1⟩ := trodAll_two hA
  obtain ⟨rfl, rfl⟩ := trodVars_none hV
  obtain ⟨a0, x0, rfl, wa0, sz0⟩ := open_drv (hval 0 28 v0 rfl rfl) h0 (weights_at hsz (j := 0) (t := 28) (by rw [Tryz.params5]; rfl) rfl)
  obtain ⟨a1, rfl, rfl, rfl, wa1⟩ := Go.ChangeMaps.open_string Tryz.underlying9 (hval 1 9 v1 rfl rfl) h1
  have wb1 : a1.data.toList.length ≤ reachBytes := sized_string hsz (j := 1) (t := 9) (by rw [Tryz.params5]; rfl) rfl
  clear hA0 hval0
  have hc := drvBack_con a0 x0 a1.data.toList W wa0 sz0 (by omega) (by simp) (by simp)
  simp only [← bs_of] at hc
  refine hc.mono fun e W' h => ?_
  obtain ⟨v, S', rfl, rfl, hS⟩ := h
  exact ⟨_, rfl, post_law hW' rfl rfl laid_drvBack (by decide +kernel) rfl Tryz.underlying4 (below_of_sig hS)⟩
theorem drvBack_holds : Rows.DrvBackSaid :=
  OpenClaim.holds_of_wide 5 Tryz.f5 rfl rfl rfl rfl rfl rfl rfl ⟨rfl, rfl, rfl, rfl, rfl⟩ rfl rfl rfl rfl rfl (by kernel_rfl) Tryz.func5 (by kernel_rfl)
    (of_decide_eq_true (by kernel_rfl)) (by unfold Func.isWrapper; first | (rw [if_pos (by decide +kernel)]; kernel_rfl) | (rw [if_neg (by decide +kernel)]; exact ⟨rfl, rfl⟩))
    (fun os started H enc _ => drvBack_lifted os started H enc)
end Go.Proofs.YtfeabbeebkkhaaaGreat
