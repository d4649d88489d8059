/- FsRoom: for every input the law returns true. -/
import Derived.Test.YtckpegkpdepokaaRows
import Derived.Test.YtckpegkpdepokaaFs15
import Derived.Test.YtckpegkpdepokaaArg7
import Derived.Test.YtckpegkpdepokaaSxR
import Derived.Test.YtckpegkpdepokaaSxT
import Derived.Test.YtckpegkpdepokaaSx16
import Derived.ProofKit
import Derived.Carry
import Derived.SizedLaws
namespace Go.Proofs.Ytckpegkpdepokaa
open Go Go.Sx Go.ChangeShapes Go.WideShapes Go.ChangeAt Go.RowKit
set_option linter.unusedVariables false
theorem own_fsRoom : ownKnob Try.prog.godebug = none := by kernel_rfl
theorem laid_fsRoom : laidOutB Try.prog = true := by kernel_rfl
set_option maxRecDepth 100000 in
theorem fsRoom_lifted (os : Os) (started : os.Started) (H : Type) (enc : TypeId × Value → H) :
    ReturnsInHanded {} Try.checked os 3 .any (Rows.fsRoomSpec.pre6 enc Try.prog Try.f3 Rows.fsRoomRow.domain false) (Rows.fsRoomSpec.post enc Try.prog Try.f3 false true false false) := by
  refine returnsInHanded_of_change_sized (C := Try.checked) own_fsRoom started (by kernel_rfl) Try.func3
    (ChangeSpec.witness6 (enc := enc) (C := Try.checked) false ⟨#[], #[.int .i64 0, .slice none 0 0], []⟩ 8 (by kernel_rfl) (by kernel_rfl) (by kernel_rfl) (by kernel_rfl)) ?_
  intro W base args ds gs before hval0 hW hcnd hsz0 _
  have hsz : (DataW.weightsEach Try.prog (Try.f3.params.toList ++ Rows.fsRoomSpec.plain.varTypes Try.prog) (ds ++ gs)).all (· ≤ reachBytes) = true := hsz0
  have hreach : reachBytes = 140737488351232 := rfl
  have hval : ∀ (j : Nat) t v, Try.f3.params[j]? = some t → args[j]? = some v → Value.okWide Try.prog W .any base t v := hval0
  have hW' := hW
  obtain ⟨p, q, hA0, hV, rfl, hfz, hnd⟩ := hW
  have hA : DataW.TrodAll enc Try.prog W 0 (fun _ => true) true Try.f3.params.toList args.toList ds p := hA0
  rw [Try.params3] at hA hval
  obtain ⟨v0, v1, d0, d1, p0, p1, rfl, rfl, rfl, h0, h1⟩ := trodAll_two hA
  obtain ⟨rfl, rfl⟩ := trodVars_none hV
  obtain ⟨a0, rfl, rfl, rfl, wa0⟩ := open_int Try.underlying3 (hval 0 3 v0 rfl rfl) h0
  obtain ⟨a1, wa1_0, wa1_1, wa1_2⟩ := open_rows (hval 1 22 v1 rfl rfl) h1 (weights_at hsz (j := 1) (t := 22) (by rw [Try.params3]; rfl) rfl)
  clear hA0 hval0
  have hc := fsRoom_con a0 a1 v1 W wa1_0 wa1_1 wa1_2 (by simp) (by simp)
  refine hc.mono fun e W' h => ?_
  obtain ⟨v, S', rfl, rfl, hS⟩ := h
  exact ⟨_, rfl, post_law hW' rfl rfl laid_fsRoom (by decide +kernel) rfl Try.underlying4 (below_of_sig hS)⟩
theorem fsRoom_holds : Rows.FsRoomSaid :=
  OpenClaim.holds_of_wide 3 Try.f3 rfl rfl rfl rfl rfl rfl rfl ⟨rfl, rfl, rfl, rfl, rfl⟩ rfl rfl rfl rfl rfl (by kernel_rfl) Try.func3 (by kernel_rfl)
    (of_decide_eq_true (by kernel_rfl)) (by unfold Func.isWrapper; first | (rw [if_pos (by decide +kernel)]; kernel_rfl) | (rw [if_neg (by decide +kernel)]; exact ⟨rfl, rfl⟩))
    (fun os started H enc _ => fsRoom_lifted os started H enc)
end Go.Proofs.Ytckpegkpdepokaa
