/- PathOrders: for every input the law returns true. -/
import Derived.Test.YtddecbkafdbkdaaRows
import Derived.Test.YtddecbkafdbkdaaPath8
import Derived.Test.YtddecbkafdbkdaaSxT
import Derived.ProofKit
import Derived.Carry
import Derived.SizedLaws
namespace Go.Proofs.Ytddecbkafdbkdaa
open Go Go.Sx Go.ChangeShapes Go.WideShapes Go.ChangeAt Go.RowKit
set_option linter.unusedVariables false
theorem own_pathOrders : ownKnob Try.prog.godebug = none := by kernel_rfl
theorem laid_pathOrders : laidOutB Try.prog = true := by kernel_rfl
set_option maxRecDepth 100000 in
theorem pathOrders_lifted (os : Os) (started : os.Started) (H : Type) (enc : TypeId × Value → H) :
    ReturnsInHanded {} Try.checked os 6 .any (Rows.pathOrdersSpec.pre6 enc Try.prog Try.f6 Rows.pathOrdersRow.domain false) (Rows.pathOrdersSpec.post enc Try.prog Try.f6 false true false false) := by
  refine returnsInHanded_of_change_sized (C := Try.checked) own_pathOrders started (by kernel_rfl) Try.func6
    (ChangeSpec.witness6 (enc := enc) (C := Try.checked) false ⟨#[], #[.agg (ints (List.replicate 32 0)).toArray, .slice none 0 0, .string ⟨#[]⟩, .int .i64 0], []⟩ 8 (by kernel_rfl) (by kernel_rfl) (by kernel_rfl) (by kernel_rfl)) ?_
  intro W base args ds gs before hval0 hW hcnd hsz0 _
  have hsz : (DataW.weightsEach Try.prog (Try.f6.params.toList ++ Rows.pathOrdersSpec.plain.varTypes Try.prog) (ds ++ gs)).all (· ≤ reachBytes) = true := hsz0
  have hreach : reachBytes = 140737488351232 := rfl
  have hval : ∀ (j : Nat) t v, Try.f6.params[j]? = some t → args[j]? = some v → Value.okWide Try.prog W .any base t v := hval0
  have hW' := hW
  obtain ⟨p, q, hA0, hV, rfl, hfz, hnd⟩ := hW
  have hA : DataW.TrodAll enc Try.prog W 0 (fun _ => true) true Try.f6.params.toList args.toList ds p := hA0
  rw [Try.params6] at hA hval
  obtain ⟨v0, v1, v2, v3, d0, d1, d2, d3, p0, p1, p2, p3, rfl, rfl, rfl, h0, h1, h2, h3⟩ := trodAll_four hA
  obtain ⟨rfl, rfl⟩ := trodVars_none hV
  obtain ⟨a0, rfl, wa0⟩ := open_bytes Try.underlying25 Try.underlying5 (by kernel_rfl) (by kernel_rfl) (hval 0 25 v0 rfl rfl)
  obtain ⟨a1, wa1, wl1⟩ := open_strsl Try.underlying38 Try.underlying26 (by kernel_rfl) (hval 1 38 v1 rfl rfl) h1
  obtain ⟨a2, rfl, rfl, rfl, wa2⟩ := Go.ChangeMaps.open_string Try.underlying9 (hval 2 9 v2 rfl rfl) h2
  have wb2 : a2.data.toList.length ≤ reachBytes := sized_string hsz (j := 2) (t := 9) (by rw [Try.params6]; rfl) rfl
  obtain ⟨a3, rfl, rfl, rfl, wa3⟩ := open_int Try.underlying3 (hval 3 3 v3 rfl rfl) h3
  clear hA0 hval0
  have hc := pathOrders_con a0 a1 v1 a2.data.toList a3 W wa0 wa1 wl1 (by omega) (by simp) (by simp)
  simp only [← bs_of] at hc
  refine hc.mono fun e W' h => ?_
  obtain ⟨v, S', rfl, rfl, hS⟩ := h
  exact ⟨_, rfl, post_law hW' rfl rfl laid_pathOrders (by decide +kernel) rfl Try.underlying4 (below_of_sig hS)⟩
theorem pathOrders_holds : Rows.PathOrdersSaid :=
  OpenClaim.holds_of_wide 6 Try.f6 rfl rfl rfl rfl rfl rfl rfl ⟨rfl, rfl, rfl, rfl, rfl⟩ rfl rfl rfl rfl rfl (by kernel_rfl) Try.func6 (by kernel_rfl)
    (of_decide_eq_true (by kernel_rfl)) (by unfold Func.isWrapper; first | (rw [if_pos (by decide +kernel)]; kernel_rfl) | (rw [if_neg (by decide +kernel)]; exact ⟨rfl, rfl⟩))
    (fun os started H enc _ => pathOrders_lifted os started H enc)
end Go.Proofs.Ytddecbkafdbkdaa
