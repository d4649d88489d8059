/- LocksPlay: for every input the law returns true. -/
import Derived.Test.YtlgfpoelhjlifaaRows
import Derived.Test.YtlgfpoelhjlifaaRk8
import Derived.Test.YtlgfpoelhjlifaaArg
import Derived.Test.YtlgfpoelhjlifaaSxR
import Derived.ProofKit
import Derived.Carry
import Derived.SizedLaws
namespace Go.Proofs.Ytlgfpoelhjlifaa
open Go Go.Sx Go.ChangeShapes Go.WideShapes Go.ChangeAt Go.RowKit
set_option linter.unusedVariables false
theorem own_locksPlay : ownKnob Try.prog.godebug = none := by kernel_rfl
theorem laid_locksPlay : laidOutB Try.prog = true := by kernel_rfl
set_option maxRecDepth 100000 in
theorem locksPlay_lifted (os : Os) (started : os.Started) (H : Type) (enc : TypeId × Value → H) :
    ReturnsInHanded {} Try.checked os 5 .any (Rows.locksPlaySpec.pre6 enc Try.prog Try.f5 Rows.locksPlayRow.domain false) (Rows.locksPlaySpec.post enc Try.prog Try.f5 false true false false) := by
  refine returnsInHanded_of_change_sized (C := Try.checked) own_locksPlay started (by kernel_rfl) Try.func5
    (ChangeSpec.witness6 (enc := enc) (C := Try.checked) false ⟨#[], #[.slice none 0 0], []⟩ 8 (by kernel_rfl) (by kernel_rfl) (by kernel_rfl) (by kernel_rfl)) ?_
  intro W base args ds gs before hval0 hW hcnd hsz0 _
  have hsz : (DataW.weightsEach Try.prog (Try.f5.params.toList ++ Rows.locksPlaySpec.plain.varTypes Try.prog) (ds ++ gs)).all (· ≤ reachBytes) = true := hsz0
  have hreach : reachBytes = 140737488351232 := rfl
  have hval : ∀ (j : Nat) t v, Try.f5.params[j]? = some t → args[j]? = some v → Value.okWide Try.prog W .any base t v := hval0
  have hW' := hW
  obtain ⟨p, q, hA0, hV, rfl, hfz, hnd⟩ := hW
  have hA : DataW.TrodAll enc Try.prog W 0 (fun _ => true) true Try.f5.params.toList args.toList ds p := hA0
  rw [Try.params5] at hA hval
  obtain ⟨v0, d0, rfl, rfl, h0⟩ := trodAll_one hA
  obtain ⟨rfl, rfl⟩ := trodVars_none hV
  obtain ⟨a0, wa0_0, wa0_1⟩ := open_script (hval 0 43 v0 rfl rfl) h0 (weights_at hsz (j := 0) (t := 43) (by rw [Try.params5]; rfl) rfl)
  clear hA0 hval0
  have hc := locksPlay_con a0 v0 W wa0_0 wa0_1 (by simp) (by simp)
  refine hc.mono fun e W' h => ?_
  obtain ⟨v, S', rfl, rfl, hS⟩ := h
  exact ⟨_, rfl, post_law hW' rfl rfl laid_locksPlay (by decide +kernel) rfl Try.underlying4 (below_of_sig hS)⟩
theorem locksPlay_holds : Rows.LocksPlaySaid :=
  OpenClaim.holds_of_wide 5 Try.f5 rfl rfl rfl rfl rfl rfl rfl ⟨rfl, rfl, rfl, rfl, rfl⟩ rfl rfl rfl rfl rfl (by kernel_rfl) Try.func5 (by kernel_rfl)
    (of_decide_eq_true (by kernel_rfl)) (by unfold Func.isWrapper; first | (rw [if_pos (by decide +kernel)]; kernel_rfl) | (rw [if_neg (by decide +kernel)]; exact ⟨rfl, rfl⟩))
    (fun os started H enc _ => locksPlay_lifted os started H enc)
end Go.Proofs.Ytlgfpoelhjlifaa
