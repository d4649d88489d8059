/- FsOfNothing: for every input the law returns true. -/
import Derived.Test.YtckpegkpdepokaaRows
import Derived.Test.YtckpegkpdepokaaFs11
import Derived.Test.YtckpegkpdepokaaSxR
import Derived.Test.YtckpegkpdepokaaSxT
import Derived.Test.YtckpegkpdepokaaSx16
import Derived.ProofKit
import Derived.Carry
import Derived.SizedLaws
namespace Go.Proofs.Ytckpegkpdepokaa
open Go Go.Sx Go.ChangeShapes Go.WideShapes Go.ChangeAt Go.RowKit
set_option linter.unusedVariables false
theorem own_fsOfNothing : ownKnob Try.prog.godebug = none := by kernel_rfl
theorem laid_fsOfNothing : laidOutB Try.prog = true := by kernel_rfl
set_option maxRecDepth 100000 in
theorem fsOfNothing_lifted (os : Os) (started : os.Started) (H : Type) (enc : TypeId × Value → H) :
    ReturnsInHanded {} Try.checked os 8 .any (Rows.fsOfNothingSpec.pre6 enc Try.prog Try.f8 Rows.fsOfNothingRow.domain false) (Rows.fsOfNothingSpec.post enc Try.prog Try.f8 false true false false) := by
  refine returnsInHanded_of_change_sized (C := Try.checked) own_fsOfNothing started (by kernel_rfl) Try.func8
    (ChangeSpec.witness6 (enc := enc) (C := Try.checked) false ⟨#[], #[.string ⟨#[]⟩, .slice none 0 0, .int .i64 0], []⟩ 8 (by kernel_rfl) (by kernel_rfl) (by kernel_rfl) (by kernel_rfl)) ?_
  intro W base args ds gs before hval0 hW hcnd hsz0 _
  have hsz : (DataW.weightsEach Try.prog (Try.f8.params.toList ++ Rows.fsOfNothingSpec.plain.varTypes Try.prog) (ds ++ gs)).all (· ≤ reachBytes) = true := hsz0
  have hreach : reachBytes = 140737488351232 := rfl
  have hval : ∀ (j : Nat) t v, Try.f8.params[j]? = some t → args[j]? = some v → Value.okWide Try.prog W .any base t v := hval0
  have hW' := hW
  obtain ⟨p, q, hA0, hV, rfl, hfz, hnd⟩ := hW
  have hA : DataW.TrodAll enc Try.prog W 0 (fun _ => true) true Try.f8.params.toList args.toList ds p := hA0
  rw [Try.params8] at hA hval
  obtain ⟨v0, v1, v2, d0, d1, d2, p0, p1, p2, rfl, rfl, rfl, h0, h1, h2⟩ := trodAll_three hA
  obtain ⟨rfl, rfl⟩ := trodVars_none hV
  obtain ⟨a0, rfl, rfl, rfl, wa0⟩ := Go.ChangeMaps.open_string Try.underlying9 (hval 0 9 v0 rfl rfl) h0
  have wb0 : a0.data.toList.length ≤ reachBytes := sized_string hsz (j := 0) (t := 9) (by rw [Try.params8]; rfl) rfl
  obtain ⟨a1, wa1, wc1⟩ := open_bytesl Try.underlying23 Try.underlying5 (by kernel_rfl) (hval 1 23 v1 rfl rfl) h1
  have wb1 : a1.length ≤ reachBytes := bytes_sized hsz (j := 1) (t := 23) (by rw [Try.params8]; rfl) rfl Try.underlying23 (by kernel_rfl) wc1
  obtain ⟨a2, rfl, rfl, rfl, wa2⟩ := open_int Try.underlying3 (hval 2 3 v2 rfl rfl) h2
  clear hA0 hval0
  have hc := fsOfNothing_con a0.data.toList a1 v1 a2 W (by omega) wa1 (by omega) (by simp) (by simp)
  simp only [← bs_of] at hc
  refine hc.mono fun e W' h => ?_
  obtain ⟨v, S', rfl, rfl, hS⟩ := h
  exact ⟨_, rfl, post_law hW' rfl rfl laid_fsOfNothing (by decide +kernel) rfl Try.underlying4 (below_of_sig hS)⟩
theorem fsOfNothing_holds : Rows.FsOfNothingSaid :=
  OpenClaim.holds_of_wide 8 Try.f8 rfl rfl rfl rfl rfl rfl rfl ⟨rfl, rfl, rfl, rfl, rfl⟩ rfl rfl rfl rfl rfl (by kernel_rfl) Try.func8 (by kernel_rfl)
    (of_decide_eq_true (by kernel_rfl)) (by unfold Func.isWrapper; first | (rw [if_pos (by decide +kernel)]; kernel_rfl) | (rw [if_neg (by decide +kernel)]; exact ⟨rfl, rfl⟩))
    (fun os started H enc _ => fsOfNothing_lifted os started H enc)
end Go.Proofs.Ytckpegkpdepokaa
