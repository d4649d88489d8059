/- PathSplits: for every input the law returns true. -/
import Derived.Test.YtddecbkafdbkdaaRows
import Derived.Test.YtddecbkafdbkdaaPath4
import Derived.Test.YtddecbkafdbkdaaSxR
import Derived.ProofKit
import Derived.Carry
namespace Go.Proofs.Ytddecbkafdbkdaa
open Go Go.Sx Go.ChangeShapes Go.WideShapes Go.ChangeAt Go.RowKit
set_option linter.unusedVariables false
theorem own_pathSplits : ownKnob Try.prog.godebug = none := by kernel_rfl
theorem laid_pathSplits : laidOutB Try.prog = true := by kernel_rfl
set_option maxRecDepth 100000 in
theorem pathSplits_lifted (os : Os) (started : os.Started) (H : Type) (enc : TypeId × Value → H) :
    ReturnsInHanded {} Try.checked os 5 .any (Rows.pathSplitsSpec.pre6 enc Try.prog Try.f5 Rows.pathSplitsRow.domain false) (Rows.pathSplitsSpec.post enc Try.prog Try.f5 false true false false) := by
  refine returnsInHanded_of_change (C := Try.checked) own_pathSplits started (by kernel_rfl) Try.func5
    (ChangeSpec.witness6 (enc := enc) (C := Try.checked) false ⟨#[], #[.string ⟨#[]⟩], []⟩ 8 (by kernel_rfl) (by kernel_rfl) (by kernel_rfl) (by kernel_rfl)) ?_
  intro W base args ds gs before hval0 hW hcnd _
  have hval : ∀ (j : Nat) t v, Try.f5.params[j]? = some t → args[j]? = some v → Value.okWide Try.prog W .any base t v := hval0
  have hW' := hW
  obtain ⟨p, q, hA0, hV, rfl, hfz, hnd⟩ := hW
  have hA : DataW.TrodAll enc Try.prog W 0 (fun _ => true) true Try.f5.params.toList args.toList ds p := hA0
  rw [Try.params5] at hA hval
  obtain ⟨v0, d0, rfl, rfl, h0⟩ := trodAll_one hA
  obtain ⟨rfl, rfl⟩ := trodVars_none hV
  obtain ⟨a0, rfl, rfl, rfl, wa0⟩ := Go.ChangeMaps.open_string Try.underlying26 (hval 0 26 v0 rfl rfl) h0
  have wb0 : a0.data.toList.length ≤ 9223372036854775807 := by
    have : a0.data.toList.length = a0.size := rfl
    simp only [maxLen] at wa0
    omega
  clear hA0 hval0
  have hc := pathSplits_con a0.data.toList W wb0 (by simp) (by simp)
  simp only [← bs_of] at hc
  refine hc.mono fun e W' h => ?_
  obtain ⟨v, S', rfl, rfl, hS⟩ := h
  exact ⟨_, rfl, post_law hW' rfl rfl laid_pathSplits (by decide +kernel) rfl Try.underlying4 (below_of_sig hS)⟩
theorem pathSplits_holds : Rows.PathSplitsSaid :=
  OpenClaim.holds_of_wide 5 Try.f5 rfl rfl rfl rfl rfl rfl rfl ⟨rfl, rfl, rfl, rfl, rfl⟩ rfl rfl rfl rfl rfl (by kernel_rfl) Try.func5 (by kernel_rfl)
    (of_decide_eq_true (by kernel_rfl)) (by unfold Func.isWrapper; first | (rw [if_pos (by decide +kernel)]; kernel_rfl) | (rw [if_neg (by decide +kernel)]; exact ⟨rfl, rfl⟩))
    (fun os started H enc _ => pathSplits_lifted os started H enc)
end Go.Proofs.Ytddecbkafdbkdaa
