/- ScanRewrites: for every input the law returns true. -/
import Derived.Test.YtkafaodhppikfaaRows
import Derived.Test.YtkafaodhppikfaaScan7
import Derived.Test.YtkafaodhppikfaaSxT
import Derived.Test.YtkafaodhppikfaaSx16
import Derived.ProofKit
import Derived.Carry
import Derived.SizedLaws
namespace Go.Proofs.Ytkafaodhppikfaa
open Go Go.Sx Go.ChangeShapes Go.WideShapes Go.ChangeAt Go.RowKit
set_option linter.unusedVariables false
theorem own_scanRewrites : ownKnob Try.prog.godebug = none := by kernel_rfl
theorem laid_scanRewrites : laidOutB Try.prog = true := by kernel_rfl
set_option maxRecDepth 100000 in
theorem scanRewrites_lifted (os : Os) (started : os.Started) (H : Type) (enc : TypeId × Value → H) :
    ReturnsInHanded {} Try.checked os 6 .any (Rows.scanRewritesSpec.pre6 enc Try.prog Try.f6 Rows.scanRewritesRow.domain false) (Rows.scanRewritesSpec.post enc Try.prog Try.f6 false true false false) := by
  refine returnsInHanded_of_change_sized (C := Try.checked) own_scanRewrites started (by kernel_rfl) Try.func6
    (ChangeSpec.witness6 (enc := enc) (C := Try.checked) false ⟨#[], #[.slice none 0 0, .string ⟨#[]⟩, .string ⟨#[]⟩], []⟩ 8 (by kernel_rfl) (by kernel_rfl) (by kernel_rfl) (by kernel_rfl)) ?_
  intro W base args ds gs before hval0 hW hcnd hsz0 _
  have hsz : (DataW.weightsEach Try.prog (Try.f6.params.toList ++ Rows.scanRewritesSpec.plain.varTypes Try.prog) (ds ++ gs)).all (· ≤ reachBytes) = true := hsz0
  have hreach : reachBytes = 140737488351232 := rfl
  have hval : ∀ (j : Nat) t v, Try.f6.params[j]? = some t → args[j]? = some v → Value.okWide Try.prog W .any base t v := hval0
  have hW' := hW
  obtain ⟨p, q, hA0, hV, rfl, hfz, hnd⟩ := hW
  have hA : DataW.TrodAll enc Try.prog W 0 (fun _ => true) true Try.f6.params.toList args.toList ds p := hA0
  rw [Try.params6] at hA hval
  obtain ⟨v0, v1, v2, d0, d1, d2, p0, p1, p2, rfl, rfl, rfl, h0, h1, h2⟩ := trodAll_three hA
  obtain ⟨rfl, rfl⟩ := trodVars_none hV
  obtain ⟨a0, wa0, wc0⟩ := open_bytesl Try.underlying22 Try.underlying5 (by kernel_rfl) (hval 0 22 v0 rfl rfl) h0
  have wb0 : a0.length ≤ reachBytes := bytes_sized hsz (j := 0) (t := 22) (by rw [Try.params6]; rfl) rfl Try.underlying22 (by kernel_rfl) wc0
  obtain ⟨a1, rfl, rfl, rfl, wa1⟩ := Go.ChangeMaps.open_string Try.underlying25 (hval 1 25 v1 rfl rfl) h1
  have wb1 : a1.data.toList.length ≤ reachBytes := sized_string hsz (j := 1) (t := 25) (by rw [Try.params6]; rfl) rfl
  obtain ⟨a2, rfl, rfl, rfl, wa2⟩ := Go.ChangeMaps.open_string Try.underlying25 (hval 2 25 v2 rfl rfl) h2
  have wb2 : a2.data.toList.length ≤ reachBytes := sized_string hsz (j := 2) (t := 25) (by rw [Try.params6]; rfl) rfl
  clear hA0 hval0
  have hc := scanRewrites_con a0 v0 a1.data.toList a2.data.toList W wa0 (by omega) (by omega) (by simp) (by simp)
  simp only [← bs_of] at hc
  refine hc.mono fun e W' h => ?_
  obtain ⟨v, S', rfl, rfl, hS⟩ := h
  exact ⟨_, rfl, post_law hW' rfl rfl laid_scanRewrites (by decide +kernel) rfl Try.underlying4 (below_of_sig hS)⟩
theorem scanRewrites_holds : Rows.ScanRewritesSaid :=
  OpenClaim.holds_of_wide 6 Try.f6 rfl rfl rfl rfl rfl rfl rfl ⟨rfl, rfl, rfl, rfl, rfl⟩ rfl rfl rfl rfl rfl (by kernel_rfl) Try.func6 (by kernel_rfl)
    (of_decide_eq_true (by kernel_rfl)) (by unfold Func.isWrapper; first | (rw [if_pos (by decide +kernel)]; kernel_rfl) | (rw [if_neg (by decide +kernel)]; exact ⟨rfl, rfl⟩))
    (fun os started H enc _ => scanRewrites_lifted os started H enc)
end Go.Proofs.Ytkafaodhppikfaa
