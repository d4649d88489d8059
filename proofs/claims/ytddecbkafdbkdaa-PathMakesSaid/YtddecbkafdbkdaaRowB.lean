/- PathMakes: for every input the law returns true. -/
import Derived.Test.YtddecbkafdbkdaaRows
import Derived.Test.YtddecbkafdbkdaaPath5
import Derived.Test.YtddecbkafdbkdaaSxR
import Derived.ProofKit
import Derived.Carry
import Derived.SizedLaws
namespace Go.Proofs.Ytddecbkafdbkdaa
open Go Go.Sx Go.ChangeShapes Go.WideShapes Go.ChangeAt Go.RowKit
set_option linter.unusedVariables false
theorem own_pathMakes : ownKnob Try.prog.godebug = none := by kernel_rfl
theorem laid_pathMakes : laidOutB Try.prog = true := by kernel_rfl
set_option maxRecDepth 100000 in
theorem pathMakes_lifted (os : Os) (started : os.Started) (H : Type) (enc : TypeId × Value → H) :
    ReturnsInHanded {} Try.checked os 4 .any (Rows.pathMakesSpec.pre6 enc Try.prog Try.f4 Rows.pathMakesRow.domain false) (Rows.pathMakesSpec.post enc Try.prog Try.f4 false true false false) := by
  refine returnsInHanded_of_change_sized (C := Try.checked) own_pathMakes started (by kernel_rfl) Try.func4
    (ChangeSpec.witness6 (enc := enc) (C := Try.checked) false ⟨#[], #[.string ⟨#[]⟩, .agg (ints (List.replicate 32 0)).toArray, .string ⟨#[]⟩], []⟩ 8 (by kernel_rfl) (by kernel_rfl) (by kernel_rfl) (by kernel_rfl)) ?_
  intro W base args ds gs before hval0 hW hcnd hsz0 _
  have hsz : (DataW.weightsEach Try.prog (Try.f4.params.toList ++ Rows.pathMakesSpec.plain.varTypes Try.prog) (ds ++ gs)).all (· ≤ reachBytes) = true := hsz0
  have hreach : reachBytes = 140737488351232 := rfl
  have hval : ∀ (j : Nat) t v, Try.f4.params[j]? = some t → args[j]? = some v → Value.okWide Try.prog W .any base t v := hval0
  have hW' := hW
  obtain ⟨p, q, hA0, hV, rfl, hfz, hnd⟩ := hW
  have hA : DataW.TrodAll enc Try.prog W 0 (fun _ => true) true Try.f4.params.toList args.toList ds p := hA0
  rw [Try.params4] at hA hval
  obtain ⟨v0, v1, v2, d0, d1, d2, p0, p1, p2, rfl, rfl, rfl, h0, h1, h2⟩ := trodAll_three hA
  obtain ⟨rfl, rfl⟩ := trodVars_none hV
  obtain ⟨a0, rfl, rfl, rfl, wa0⟩ := Go.ChangeMaps.open_string Try.underlying9 (hval 0 9 v0 rfl rfl) h0
  have wb0 : a0.data.toList.length ≤ reachBytes := sized_string hsz (j := 0) (t := 9) (by rw [Try.params4]; rfl) rfl
  obtain ⟨a1, rfl, wa1⟩ := open_bytes Try.underlying25 Try.underlying5 (by kernel_rfl) (by kernel_rfl) (hval 1 25 v1 rfl rfl)
  obtain ⟨a2, rfl, rfl, rfl, wa2⟩ := Go.ChangeMaps.open_string Try.underlying9 (hval 2 9 v2 rfl rfl) h2
  have wb2 : a2.data.toList.length ≤ reachBytes := sized_string hsz (j := 2) (t := 9) (by rw [Try.params4]; rfl) rfl
  clear hA0 hval0
  have hc := pathMakes_con a0.data.toList a1 a2.data.toList W (by omega) wa1 (by omega) (by simp) (by simp)
  simp only [← bs_of] at hc
  refine hc.mono fun e W' h => ?_
  obtain ⟨v, S', rfl, rfl, hS⟩ := h
  exact ⟨_, rfl, post_law hW' rfl rfl laid_pathMakes (by decide +kernel) rfl Try.underlying4 (below_of_sig hS)⟩
theorem pathMakes_holds : Rows.PathMakesSaid :=
  OpenClaim.holds_of_wide 4 Try.f4 rfl rfl rfl rfl rfl rfl rfl ⟨rfl, rfl, rfl, rfl, rfl⟩ rfl rfl rfl rfl rfl (by kernel_rfl) Try.func4 (by kernel_rfl)
    (of_decide_eq_true (by kernel_rfl)) (by unfold Func.isWrapper; first | (rw [if_pos (by decide +kernel)]; kernel_rfl) | (rw [if_neg (by decide +kernel)]; exact ⟨rfl, rfl⟩))
    (fun os started H enc _ => pathMakes_lifted os started H enc)
end Go.Proofs.Ytddecbkafdbkdaa
