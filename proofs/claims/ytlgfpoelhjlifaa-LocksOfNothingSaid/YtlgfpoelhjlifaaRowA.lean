/- LocksOfNothing: for every input the law returns true. -/
import Derived.Test.YtlgfpoelhjlifaaRows
import Derived.Test.YtlgfpoelhjlifaaLk8
import Derived.Test.YtlgfpoelhjlifaaSxR
import Derived.ProofKit
import Derived.Carry
import Derived.SizedLaws
namespace Go.Proofs.Ytlgfpoelhjlifaa
open Go Go.Sx Go.ChangeShapes Go.WideShapes Go.ChangeAt Go.RowKit
set_option linter.unusedVariables false
theorem own_locksOfNothing : ownKnob Try.prog.godebug = none := by kernel_rfl
theorem laid_locksOfNothing : laidOutB Try.prog = true := by kernel_rfl
set_option maxRecDepth 100000 in
theorem locksOfNothing_lifted (os : Os) (started : os.Started) (H : Type) (enc : TypeId × Value → H) :
    ReturnsInHanded {} Try.checked os 8 .any (Rows.locksOfNothingSpec.pre6 enc Try.prog Try.f8 Rows.locksOfNothingRow.domain false) (Rows.locksOfNothingSpec.post enc Try.prog Try.f8 false true false false) := by
  refine returnsInHanded_of_change_sized (C := Try.checked) own_locksOfNothing started (by kernel_rfl) Try.func8
    (ChangeSpec.witness6 (enc := enc) (C := Try.checked) false ⟨#[], #[.int .i64 0, .string ⟨#[]⟩], []⟩ 8 (by kernel_rfl) (by kernel_rfl) (by kernel_rfl) (by kernel_rfl)) ?_
  intro W base args ds gs before hval0 hW hcnd hsz0 _
  have hsz : (DataW.weightsEach Try.prog (Try.f8.params.toList ++ Rows.locksOfNothingSpec.plain.varTypes Try.prog) (ds ++ gs)).all (· ≤ reachBytes) = true := hsz0
  have hreach : reachBytes = 140737488351232 := rfl
  have hval : ∀ (j : Nat) t v, Try.f8.params[j]? = some t → args[j]? = some v → Value.okWide Try.prog W .any base t v := hval0
  have hW' := hW
  obtain ⟨p, q, hA0, hV, rfl, hfz, hnd⟩ := hW
  have hA : DataW.TrodAll enc Try.prog W 0 (fun _ => true) true Try.f8.params.toList args.toList ds p := hA0
  rw [Try.params8] at hA hval
  obtain ⟨v0, v1, d0, d1, p0, p1, rfl, rfl, rfl, h0, h1⟩ := trodAll_two hA
  obtain ⟨rfl, rfl⟩ := trodVars_none hV
  obtain ⟨a0, rfl, rfl, rfl, wa0⟩ := open_int Try.underlying3 (hval 0 3 v0 rfl rfl) h0
  obtain ⟨a1, rfl, rfl, rfl, wa1⟩ := Go.ChangeMaps.open_string Try.underlying9 (hval 1 9 v1 rfl rfl) h1
  have wb1 : a1.data.toList.length ≤ reachBytes := sized_string hsz (j := 1) (t := 9) (by rw [Try.params8]; rfl) rfl
  clear hA0 hval0
  have hc := locksOfNothing_con a0 a1.data.toList W (by omega) (by simp) (by simp)
  simp only [← bs_of] at hc
  refine hc.mono fun e W' h => ?_
  obtain ⟨v, S', rfl, rfl, hS⟩ := h
  exact ⟨_, rfl, post_law hW' rfl rfl laid_locksOfNothing (by decide +kernel) rfl Try.underlying4 (below_of_sig hS)⟩
theorem locksOfNothing_holds : Rows.LocksOfNothingSaid :=
  OpenClaim.holds_of_wide 8 Try.f8 rfl rfl rfl rfl rfl rfl rfl ⟨rfl, rfl, rfl, rfl, rfl⟩ rfl rfl rfl rfl rfl (by kernel_rfl) Try.func8 (by kernel_rfl)
    (of_decide_eq_true (by kernel_rfl)) (by unfold Func.isWrapper; first | (rw [if_pos (by decide +kernel)]; kernel_rfl) | (rw [if_neg (by decide +kernel)]; exact ⟨rfl, rfl⟩))
    (fun os started H enc _ => locksOfNothing_lifted os started H enc)
end Go.Proofs.Ytlgfpoelhjlifaa
