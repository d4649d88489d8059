/- The document's row of paths that rise: Lay and Rising. -/
import Derived.Test.YtkafaodhppikfaaDoorTa
import Derived.Test.YtkafaodhppikfaaDoorOrd
namespace Go.Proofs.YtkafaodhppikfaaDoor
open Go Go.Sx
set_option maxRecDepth 100000
set_option maxHeartbeats 4000000
set_option linter.unusedVariables false
set_option linter.unusedSimpArgs false
attribute [local irreducible] J JQ QS Con W opW
theorem ent17 : Sx.Enters Tryd.prog 17 := ⟨_, Tryd.func17, by kernel_rfl, by kernel_rfl⟩

attribute [local irreducible] isPath spA spB spE isName cp sortS rise
theorem less_iff {x y : List UInt8} {r : Bool} (h : Op.bytesLess x y = r) : (x < y) ↔ r = true := by
  rw [← h, bytesLess_eq, decide_eq_true_eq]
theorem one_of {u : Value} {p : List UInt8} (h : u ∈ [Value.string (bs p)]) : oneV u = true := by
  rw [List.mem_singleton] at h
  rw [h]
  rfl
/-- pantry.pantryref3.Is -/
theorem is_con (p : List UInt8) (w : World) (hp : p.length ≤ 9223372036854775807) : Con Tryd.prog 8 [.string (bs p)] w [] fun v _ => v = .bool (isPath p) := by
  refine con_of_tree mix Tryd.func8 T8_ok (by kernel_rfl) ?_
  unfold T8
  refine j_q (qs_ac) ?_
  refine j_q (qs_call ent17 rfl rfl rfl (fun w' hw' => rsplit_con p w' (by omega))) ?_
  unfold spl
  refine j_q (qs_ext (vs := [.string (bs (spA p)), .string (bs (spB p)), .int .i64 (spE p)]) rfl rfl) ?_
  refine j_q (qs_ext (vs := [.string (bs (spA p)), .string (bs (spB p)), .int .i64 (spE p)]) rfl rfl) ?_
  refine j_q (qs_ext (vs := [.string (bs (spA p)), .string (bs (spB p)), .int .i64 (spE p)]) rfl rfl) ?_
  refine j_q (qs_eql rfl rfl) ?_
  refine j_ret_con (vs := [_]) (fun w' hw' => ⟨rfl, trivial⟩) ?_
  show Value.bool _ = _
  congr 1
  unfold spE
  cases isPath p <;> rfl
end Go.Proofs.YtkafaodhppikfaaDoor
