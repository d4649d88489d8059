/- FsLinks: for every input the law returns true. -/
import Derived.Test.YtckpegkpdepokaaRows
import Derived.Test.YtckpegkpdepokaaFs12
import Derived.Test.YtckpegkpdepokaaSxR
import Derived.Test.YtckpegkpdepokaaSxT
import Derived.Test.YtckpegkpdepokaaSx16
import Derived.ProofKit
import Derived.Carry
import Derived.SizedLaws
namespace Go.Proofs.Ytckpegkpdepokaa
open Go Go.Sx Go.ChangeShapes Go.WideShapes Go.ChangeAt Go.RowKit
set_option linter.unusedVariables false
theorem own_fsLinks : ownKnob Try.prog.godebug = none := by kernel_rfl
theorem laid_fsLinks : laidOutB Try.prog = true := by kernel_rfl
set_option maxRecDepth 100000 in
theorem fsLinks_lifted (os : Os) (started : os.Started) (H : Type) (enc : TypeId × Value → H) :
    ReturnsInHanded {} Try.checked os 4 .any (Rows.fsLinksSpec.pre6 enc Try.prog Try.f4 Rows.fsLinksRow.domain false) (Rows.fsLinksSpec.post enc Try.prog Try.f4 false true false false) := by
  refine returnsInHanded_of_change_sized (C := Try.checked) own_fsLinks started (by kernel_rfl) Try.func4
    (ChangeSpec.witness6 (enc := enc) (C := Try.checked) false ⟨#[], #[.slice none 0 0, .slice none 0 0, .slice none 0 0], []⟩ 8 (by kernel_rfl) (by kernel_rfl) (by kernel_rfl) (by kernel_rfl)) ?_
  intro W base args ds gs before hval0 hW hcnd hsz0 _
  have hsz : (DataW.weightsEach Try.prog (Try.f4.params.toList ++ Rows.fsLinksSpec.plain.varTypes Try.prog) (ds ++ gs)).all (· ≤ reachBytes) = true := hsz0
  have hreach : reachBytes = 140737488351232 := rfl
  have hval : ∀ (j : Nat) t v, Try.f4.params[j]? = some t → args[j]? = some v → Value.okWide Try.prog W .any base t v := hval0
  have hW' := hW
  obtain ⟨p, q, hA0, hV, rfl, hfz, hnd⟩ := hW
  have hA : DataW.TrodAll enc Try.prog W 0 (fun _ => true) true Try.f4.params.toList args.toList ds p := hA0
  rw [Try.params4] at hA hval
  obtain ⟨v0, v1, v2, d0, d1, d2, p0, p1, p2, rfl, rfl, rfl, h0, h1, h2⟩ := trodAll_three hA
  obtain ⟨rfl, rfl⟩ := trodVars_none hV
  obtain ⟨a0, wa0, wc0⟩ := open_bytesl Try.underlying23 Try.underlying5 (by kernel_rfl) (hval 0 23 v0 rfl rfl) h0
  have wb0 : a0.length ≤ reachBytes := bytes_sized hsz (j := 0) (t := 23) (by rw [Try.params4]; rfl) rfl Try.underlying23 (by kernel_rfl) wc0
  obtain ⟨a1, wa1, wc1⟩ := open_bytesl Try.underlying23 Try.underlying5 (by kernel_rfl) (hval 1 23 v1 rfl rfl) h1
  have wb1 : a1.length ≤ reachBytes := bytes_sized hsz (j := 1) (t := 23) (by rw [Try.params4]; rfl) rfl Try.underlying23 (by kernel_rfl) wc1
  obtain ⟨a2, wa2, wc2⟩ := open_bytesl Try.underlying23 Try.underlying5 (by kernel_rfl) (hval 2 23 v2 rfl rfl) h2
  have wb2 : a2.length ≤ reachBytes := bytes_sized hsz (j := 2) (t := 23) (by rw [Try.params4]; rfl) rfl Try.underlying23 (by kernel_rfl) wc2
  clear hA0 hval0
  have hc := fsLinks_con a0 v0 a1 v1 a2 v2 W wa0 wa1 wa2 (by omega) (by omega) (by omega) (by simp) (by simp)
  refine hc.mono fun e W' h => ?_
  obtain ⟨v, S', rfl, rfl, hS⟩ := h
  exact ⟨_, rfl, post_law hW' rfl rfl laid_fsLinks (by decide +kernel) rfl Try.underlying4 (below_of_sig hS)⟩
theorem fsLinks_holds : Rows.FsLinksSaid :=
  OpenClaim.holds_of_wide 4 Try.f4 rfl rfl rfl rfl rfl rfl rfl ⟨rfl, rfl, rfl, rfl, rfl⟩ rfl rfl rfl rfl rfl (by kernel_rfl) Try.func4 (by kernel_rfl)
    (of_decide_eq_true (by kernel_rfl)) (by unfold Func.isWrapper; first | (rw [if_pos (by decide +kernel)]; kernel_rfl) | (rw [if_neg (by decide +kernel)]; exact ⟨rfl, rfl⟩))
    (fun os started H enc _ => fsLinks_lifted os started H enc)
end Go.Proofs.Ytckpegkpdepokaa
