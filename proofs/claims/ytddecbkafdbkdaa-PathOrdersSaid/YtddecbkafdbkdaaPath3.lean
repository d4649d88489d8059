/- The law of names. -/
import Derived.Test.YtddecbkafdbkdaaTa
import Derived.Test.YtddecbkafdbkdaaPath2
namespace Go.Proofs.Ytddecbkafdbkdaa
open Go Go.Sx
set_option maxRecDepth 100000
set_option maxHeartbeats 4000000
set_option linter.unusedVariables false
set_option linter.unusedSimpArgs false
attribute [local irreducible] J JQ QS Con W opW
theorem ent10 : Sx.Enters Try.prog 10 := ⟨_, Try.func10, by kernel_rfl, by kernel_rfl⟩
theorem ent11 : Sx.Enters Try.prog 11 := ⟨_, Try.func11, by kernel_rfl, by kernel_rfl⟩
attribute [local irreducible] fold sum hex text32 pathOf
/-- pantry.pantrylaw3.known -/
theorem known_con (w : World) : Con Try.prog 10 [] w [] fun v _ => v = .bool true := by
  refine con_of_tree mix Try.func10 T10_ok (by kernel_rfl) ?_
  unfold T10
  refine j_q (qs_ac) ?_
  refine j_q (qs_run (v := .agg (ints (List.replicate 32 0)).toArray) (fun w => by kernel_rfl)) ?_
  refine j_q (qs_call ent11 rfl rfl rfl (fun w' hw' => make_con _ _ _ w' rfl (by decide))) ?_
  rw [mk, if_pos (by decide)]
  refine j_q (qs_ext (vs := [.string (bs (pathOf _ _ _)), .int .i64 0]) rfl rfl) ?_
  refine j_q (qs_ext (vs := [.string (bs (pathOf _ _ _)), .int .i64 0]) rfl rfl) ?_
  refine j_q (qs_call ent8 rfl rfl rfl (fun w' hw' => isName_con _ w' (by decide))) ?_
  refine j_g rfl (fun hb => qs_call ent8 rfl rfl (args1 rfl) (fun w' hw' => isName_con _ w' (by decide))) ?_
  refine j_g rfl (fun hb => qs_not (gd_eq hb)) ?_
  refine j_q (qs_and rfl rfl) ?_
  refine j_g rfl (fun hb => qs_mt rfl) ?_
  refine j_g rfl (fun hb => qs_eql (gd_eq hb) rfl) ?_
  refine j_q (qs_and rfl rfl) ?_
  refine j_g rfl (fun hb => qs_mt rfl) ?_
  refine j_g rfl (fun hb => qs_lens Try.underlying26 (gd_eq hb)) ?_
  refine j_g rfl (fun hb => qs_eql (gd_eq hb) rfl) ?_
  refine j_q (qs_and rfl rfl) ?_
  refine j_ret_con (vs := [_]) (fun w' hw' => ⟨rfl, trivial⟩) ?_
  show Value.bool _ = _
  congr 1
  rw [pathOf_length]
  decide
/-- pantry.pantrylaw3.PathNames -/
theorem pathNames_con (l : List UInt8) (w : World) (hl : l.length ≤ 9223372036854775807) : Con Try.prog 3 [.string (bs l)] w [] fun v _ => v = .bool true := by
  refine con_of_tree mix Try.func3 T3_ok (by kernel_rfl) ?_
  unfold T3
  refine j_q (qs_ac) ?_
  refine j_q (qs_lens Try.underlying9 rfl) ?_
  refine j_q (qs_gtr rfl rfl) ?_
  refine j_g rfl (fun hb => qs_mt rfl) ?_
  refine j_g rfl (fun hb => qs_call ent8 rfl rfl (args1 (gd_eq hb)) (fun w' hw' => isName_con l w' hl)) ?_
  refine j_g rfl (fun hb => qs_mt rfl) ?_
  refine j_g rfl (fun hb => qs_call ent9 rfl rfl (args1 (gd_eq hb)) (fun w' hw' => risName_con l w' hl)) ?_
  refine j_g rfl (fun hb => qs_beq Try.underlying4 (gd_eq hb) (gd_eq hb)) ?_
  refine j_g rfl (fun hb => qs_move (gd_eq hb)) ?_
  refine j_gg rfl (fun hb hb1 => qs_call ent10 rfl rfl (args0) (fun w' hw' => known_con w')) ?_
  refine j_g rfl (fun hb => qs_and (gd_eq hb) (gd_eq hb)) ?_
  refine j_q (qs_or rfl rfl) ?_
  refine j_ret_con (vs := [_]) (fun w' hw' => ⟨rfl, trivial⟩) ?_
  show Value.bool _ = _
  congr 1
  simp
end Go.Proofs.Ytddecbkafdbkdaa
