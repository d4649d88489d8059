/- LocksAlone: for every input the law returns true. -/
import Derived.Test.YtlgfpoelhjlifaaRows
import Derived.Test.YtlgfpoelhjlifaaLk11
import Derived.Test.YtlgfpoelhjlifaaArg
import Derived.Test.YtlgfpoelhjlifaaSxR
import Derived.ProofKit
import Derived.Carry
import Derived.SizedLaws
namespace Go.Proofs.Ytlgfpoelhjlifaa
open Go Go.Sx Go.ChangeShapes Go.WideShapes Go.ChangeAt Go.RowKit
set_option linter.unusedVariables false
theorem own_locksAlone : ownKnob Try.prog.godebug = none := by kernel_rfl
theorem laid_locksAlone : laidOutB Try.prog = true := by kernel_rfl
set_option maxRecDepth 100000 in
theorem locksAlone_lifted (os : Os) (started : os.Started) (H : Type) (enc : TypeId × Value → H) :
    ReturnsInHanded {} Try.checked os 6 .any (Rows.locksAloneSpec.pre6 enc Try.prog Try.f6 Rows.locksAloneRow.domain false) (Rows.locksAloneSpec.post enc Try.prog Try.f6 false true false false) := by
  refine returnsInHanded_of_change_sized (C := Try.checked) own_locksAlone started (by kernel_rfl) Try.func6
    (ChangeSpec.witness6 (enc := enc) (C := Try.checked) false ⟨#[], #[.slice none 0 0], []⟩ 8 (by kernel_rfl) (by kernel_rfl) (by kernel_rfl) (by kernel_rfl)) ?_
  intro W base args ds gs before hval0 hW hcnd hsz0 _
  have hsz : (DataW.weightsEach Try.prog (Try.f6.params.toList ++ Rows.locksAloneSpec.plain.varTypes Try.prog) (ds ++ gs)).all (· ≤ reachBytes) = true := hsz0
  have hreach : reachBytes = 140737488351232 := rfl
  have hval : ∀ (j : Nat) t v, Try.f6.params[j]? = some t → args[j]? = some v → Value.okWide Try.prog W .any base t v := hval0
  have hW' := hW
  obtain ⟨p, q, hA0, hV, rfl, hfz, hnd⟩ := hW
  have hA : DataW.TrodAll enc Try.prog W 0 (fun _ => true) true Try.f6.params.toList args.toList ds p := hA0
  rw [Try.params6] at hA hval
  obtain ⟨v0, d0, rfl, rfl, h0⟩ := trodAll_one hA
  obtain ⟨rfl, rfl⟩ := trodVars_none hV
  obtain ⟨a0, wa0_0, wa0_1⟩ := open_script (hval 0 43 v0 rfl rfl) h0 (weights_at hsz (j := 0) (t := 43) (by rw [Try.params6]; rfl) rfl)
  clear hA0 hval0
  have hc := locksAlone_con a0 v0 W wa0_0 wa0_1 (by simp) (by simp)
  refine hc.mono fun e W' h => ?_
  obtain ⟨v, S', rfl, rfl, hS⟩ := h
  exact ⟨_, rfl, post_law hW' rfl rfl laid_locksAlone (by decide +kernel) rfl Try.underlying4 (below_of_sig hS)⟩
theorem locksAlone_holds : Rows.LocksAloneSaid :=
  OpenClaim.holds_of_wide 6 Try.f6 rfl rfl rfl rfl rfl rfl rfl ⟨rfl, rfl, rfl, rfl, rfl⟩ rfl rfl rfl rfl rfl (by kernel_rfl) Try.func6 (by kernel_rfl)
    (of_decide_eq_true (by kernel_rfl)) (by unfold Func.isWrapper; first | (rw [if_pos (by decide +kernel)]; kernel_rfl) | (rw [if_neg (by decide +kernel)]; exact ⟨rfl, rfl⟩))
    (fun os started H enc _ => locksAlone_lifted os started H enc)
end Go.Proofs.Ytlgfpoelhjlifaa
