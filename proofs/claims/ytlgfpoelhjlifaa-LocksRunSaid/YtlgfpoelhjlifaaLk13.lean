/- Tasks that take turns: the end of a task. -/
import Derived.Test.YtlgfpoelhjlifaaTa
import Derived.Test.YtlgfpoelhjlifaaLk12
import Derived.Test.YtlgfpoelhjlifaaDo2
namespace Go.Proofs.Ytlgfpoelhjlifaa
open Go Go.Sx
set_option maxRecDepth 100000
set_option maxHeartbeats 4000000
set_option linter.unusedVariables false
set_option linter.unusedSimpArgs false
attribute [local irreducible] J JQ QS Con W opW
theorem sz22 : (Try.prog.info? 22).map (·.size) = some 1 := by kernel_rfl
theorem sz23 : (Try.prog.info? 23).map (·.size) = some 1 := by kernel_rfl
theorem sz71 : (Try.prog.info? 71).map (·.size) = some 0 := by kernel_rfl
theorem sz72 : (Try.prog.info? 72).map (·.size) = some 0 := by kernel_rfl
theorem sz86 : (Try.prog.info? 86).map (·.size) = some 2 := by kernel_rfl
/-- (*pantry.locks.Run).Step$1 -/
theorem step1_con (gt gr gb1 gb0 : Nat) (l : List Value) (tv st bu : Value) (n : Int) (w : World) (hl : l.length = 6) (h1 : w.heap[gb1]? = some (.cells [Value.pointer (some ⟨gt, 0, none⟩)].toArray 78 (0, 0))) (h0 : w.heap[gb0]? = some (.cells [Value.pointer (some ⟨gr, 0, none⟩)].toArray 23 (0, 0))) (d1 : gb1 ≠ gt ∧ gb1 ≠ gr) (d0 : gb0 ≠ gt ∧ gb0 ≠ gr) (hn : 0 < n ∧ n ≤ 1000) : Con Try.prog 40 [.pointer (some ⟨gb1, 0, none⟩), .pointer (some ⟨gb0, 0, none⟩)] w [(gt, .cells l.toArray 90 (0, 0)), (gr, .cells [tv, .int .i64 n, st, bu].toArray 77 (0, 0))] fun v S' => v = .tuple #[] ∧ S' = [[(gt, .cells (l.set 5 (.bool true)).toArray 90 (0, 0))], [(gr, .cells [tv, .int .i64 (n - 1), st, bu].toArray 77 (0, 0))]] := by
  refine con_of_tree mix Try.func40 T40_ok (by kernel_rfl) ?_
  unfold T40
  refine j_perm (S' := [[(gt, .cells l.toArray 90 (0, 0))], [(gr, .cells [tv, .int .i64 n, st, bu].toArray 77 (0, 0))]]) (List.Perm.of_eq rfl) ?_
  refine j_q (qs_loadO (rdo_base h1 (by simp [d1])) Try.underlying78 rfl rfl rfl) ?_
  refine j_q (qs_nil rfl) ?_
  refine j_q (qs_field Try.underlying90 rfl sz4 (by decide) rfl) ?_
  refine j_store (l := l) 0 sz4 rfl rfl rfl rfl (by simp [hl]) (by simp) ?_
  refine j_q (qs_loadO (rdo_base h0 (by simp [d0])) Try.underlying23 rfl rfl rfl) ?_
  refine j_q (qs_nil rfl) ?_
  refine j_q (qs_field Try.underlying77 rfl sz3 (by decide) rfl) ?_
  refine j_q (qs_load (l := [tv, .int .i64 n, st, bu]) 1 Try.underlying3 rfl rfl rfl rfl) ?_
  refine j_q (qs_sub64 rfl rfl (by first | omega | (simp only [Bool.and_eq_true, Bool.or_eq_true, Bool.and_eq_false_iff, Bool.or_eq_false_iff, Bool.not_eq_true', Bool.not_eq_false', decide_eq_true_eq, decide_eq_false_iff_not, beq_iff_eq, beq_eq_false_iff_ne, bne_iff_ne, bne_eq_false_iff_eq, ne_eq, Int.toNat_natCast] at *; omega))) ?_
  refine j_q (qs_nil rfl) ?_
  refine j_q (qs_field Try.underlying77 rfl sz3 (by decide) rfl) ?_
  refine j_store (l := [tv, .int .i64 n, st, bu]) 1 sz3 rfl rfl rfl rfl (by simp) (by simp) ?_
  refine j_ret_con (vs := []) (fun w' hw' => trivial) ?_
  exact ⟨rfl, rfl⟩
/-- (*sync.atomic.Bool).Load -/
theorem bload_con (g i : Nat) (l : List Value) (e : TypeId) (fz : Nat × Nat) (n : Int) (w : World) (hc : w.heap[g]? = some (.cells l.toArray e fz)) (hi : l[i]? = some (.int .u32 n)) : Con Try.prog 61 [.pointer (some ⟨g, i, none⟩)] w [] fun v _ => v = .bool (n != 0) := by
  refine con_of_tree mix Try.func61 T61_ok (by kernel_rfl) ?_
  unfold T61
  refine j_q (qs_ac) ?_
  refine j_q (qs_nil rfl) ?_
  refine j_q (qs_field Try.underlying82 rfl sz80 (by decide) rfl) ?_
  refine j_q (qs_extw (f := 71) (fn := Try.f71) (e := fun _ => pure .nilIface) rfl rfl rfl (fun w' hw' => run_call_load Try.func71 (by kernel_rfl) (by kernel_rfl) (by kernel_rfl) .u32 (by kernel_rfl) (by rw [cell_of ((hw'.frame g (lt_of_get hc) (by simp)).trans hc)]; exact hi))) ?_
  refine j_q (qs_neq rfl rfl) ?_
  refine j_ret_con (vs := [_]) (fun w' hw' => ⟨rfl, trivial⟩) ?_
  rfl
end Go.Proofs.Ytlgfpoelhjlifaa
