/- The law ScanRewrites. -/
import Derived.Test.YtkafaodhppikfaaDoorTa
import Derived.Test.YtkafaodhppikfaaDoorScan6
namespace Go.Proofs.YtkafaodhppikfaaDoor
open Go Go.Sx
set_option maxRecDepth 100000
set_option maxHeartbeats 4000000
set_option linter.unusedVariables false
set_option linter.unusedSimpArgs false
attribute [local irreducible] J JQ QS Con W opW
theorem ent14 : Sx.Enters Tryd.prog 14 := ⟨_, Tryd.func14, by kernel_rfl, by kernel_rfl⟩
theorem ent19 : Sx.Enters Tryd.prog 19 := ⟨_, Tryd.func19, by kernel_rfl, by kernel_rfl⟩

theorem rwOk_of {f t : List UInt8} (h : (!isPath f || !isPath t) = false) : isPath f = true ∧ isPath t = true ∧ rwOk f t = true := by
  simp only [Bool.or_eq_false_iff, Bool.not_eq_false'] at h
  exact ⟨h.1, h.2, by unfold rwOk; rw [h.1, h.2]; rfl⟩
theorem rwOk_not {f t : List UInt8} (h : (!isPath f || !isPath t) = true) : rwOk f t = false := by
  unfold rwOk
  cases h1 : isPath f <;> cases h2 : isPath t <;> simp [h1, h2] at h ⊢
theorem spE_ne (p : List UInt8) : (spE p != 0) = !isPath p := by
  have := spE_eq p
  rw [← this]
  rfl
attribute [local irreducible] isName isPath spA spB spE cp sortS rise dg PT ofDig Fnd RunOk Win isDig standsB rew over rwB rwN rwE rwOk
/-- pantry.scan.Rewrite -/
theorem prewrite_con (l f t : List UInt8) (v : Value) (w : World) (hv : RSl w v (ints l)) (hf : f.length ≤ 9223372036854775807) (ht : t.length ≤ 9223372036854775807) (hl : l.length ≤ 100000) : Con Tryd.prog 9 [v, .string (bs f), .string (bs t)] w [] fun u S' => ∃ ov c, u = .tuple #[ov, .int .i64 (rwN l f t : Int), .int .i64 (rwE f t)] ∧ S' = [c] ∧ Sx.Own 5 1 (ints (rwB l f t)) ov c := by
  refine con_of_tree mix Tryd.func9 T9_ok (by kernel_rfl) ?_
  unfold T9
  refine j_q (qs_ac) ?_
  refine j_q (qs_ac) ?_
  refine j_q (qs_ac) ?_
  refine j_q (qs_call ent12 rfl rfl rfl (fun w' hw' => of_con f w' hf)) ?_
  refine j_q (qs_ext (vs := [.agg (ints (dg f)).toArray, .bool (isPath f)]) rfl rfl) ?_
  refine j_q (qs_ext (vs := [.agg (ints (dg f)).toArray, .bool (isPath f)]) rfl rfl) ?_
  refine j_alloc zero40 (fun g6 hg6 hs6 => ?_)
  first
    | refine j_storew 0 sz40 rfl rfl (by first | (rw [ints_length]; exact dg_length _) | rfl) ints_one rfl (by first | (rw [ints_length]; exact dg_length _) | rfl) ?_
    | refine j_storew 1 sz40 rfl rfl (by first | (rw [ints_length]; exact dg_length _) | rfl) ints_one rfl (by first | (rw [ints_length]; exact dg_length _) | rfl) ?_
    | refine j_storew 2 sz40 rfl rfl (by first | (rw [ints_length]; exact dg_length _) | rfl) ints_one rfl (by first | (rw [ints_length]; exact dg_length _) | rfl) ?_
  refine j_q (qs_call ent12 rfl rfl rfl (fun w' hw' => of_con t w' ht)) ?_
  refine j_q (qs_ext (vs := [.agg (ints (dg t)).toArray, .bool (isPath t)]) rfl rfl) ?_
  refine j_q (qs_ext (vs := [.agg (ints (dg t)).toArray, .bool (isPath t)]) rfl rfl) ?_
  refine j_alloc zero40 (fun g11 hg11 hs11 => ?_)
  first
    | refine j_storew 0 sz40 rfl rfl (by first | (rw [ints_length]; exact dg_length _) | rfl) ints_one rfl (by first | (rw [ints_length]; exact dg_length _) | rfl) ?_
    | refine j_storew 1 sz40 rfl rfl (by first | (rw [ints_length]; exact dg_length _) | rfl) ints_one rfl (by first | (rw [ints_length]; exact dg_length _) | rfl) ?_
    | refine j_storew 2 sz40 rfl rfl (by first | (rw [ints_length]; exact dg_length _) | rfl) ints_one rfl (by first | (rw [ints_length]; exact dg_length _) | rfl) ?_
  refine j_q (qs_not rfl) ?_
  refine j_g rfl (fun hb => qs_mt rfl) ?_
  refine j_g rfl (fun hb => qs_not (gd_eq hb)) ?_
  refine j_q (qs_or rfl rfl) ?_
  refine j_cond rfl (fun hc0 => ?_) (fun hc0 => ?_)
  · skip
    have hno := rwOk_not hc0
    obtain ⟨e1, e2, e3⟩ := rw_no (l := l) hno
    refine j_q (qs_ac) ?_
    refine j_q (qs_ac) ?_
    refine j_q (qs_ac) ?_
    refine j_subl (S' := [[]]) (by repeat first | exact List.Sublist.refl _ | exact List.nil_sublist _ | apply List.Sublist.cons_cons | apply List.Sublist.cons) ?_
    refine j_ret_con (vs := [_, _, _]) (fun w' hw' => ⟨rfl, rfl, rfl, trivial⟩) ?_
    exact ⟨_, [], by rw [e2, e3]; rfl, rfl, by rw [e1]; exact own_nil⟩
  · skip
    obtain ⟨hpf, hpt, hok⟩ := rwOk_of hc0
    obtain ⟨e1, e2, e3⟩ := rw_yes (l := l) hok
    first
      | refine j_q (qs_loadw 0 Tryd.underlying40 rfl sz40 rfl rfl (by first | (rw [ints_length]; exact dg_length _) | rfl)) ?_
      | refine j_q (qs_loadw 1 Tryd.underlying40 rfl sz40 rfl rfl (by first | (rw [ints_length]; exact dg_length _) | rfl)) ?_
      | refine j_q (qs_loadw 2 Tryd.underlying40 rfl sz40 rfl rfl (by first | (rw [ints_length]; exact dg_length _) | rfl)) ?_
    first
      | refine j_q (qs_loadw 0 Tryd.underlying40 rfl sz40 rfl rfl (by first | (rw [ints_length]; exact dg_length _) | rfl)) ?_
      | refine j_q (qs_loadw 1 Tryd.underlying40 rfl sz40 rfl rfl (by first | (rw [ints_length]; exact dg_length _) | rfl)) ?_
      | refine j_q (qs_loadw 2 Tryd.underlying40 rfl sz40 rfl rfl (by first | (rw [ints_length]; exact dg_length _) | rfl)) ?_
    rw [dg_path hpf, dg_path hpt]
    refine j_call0 ent14 rfl rfl rfl (fun w' hw' => rewrite_con l (f.take 32) (t.take 32) _ w' (rsl_keep hv hw') (path_take_len hpf) (path_take_len hpt) hl) (fun u S2 hu => ?_)
    obtain ⟨ov22, c22, rfl, rfl, ho22⟩ := hu
    refine j_subl (S' := [c22]) (by repeat first | exact List.Sublist.refl _ | exact List.nil_sublist _ | apply List.Sublist.cons_cons | apply List.Sublist.cons) ?_
    refine j_q (qs_ext (vs := [ov22, .int .i64 ((plc l (f.take 32) 0).length : Int)]) rfl rfl) ?_
    refine j_q (qs_ext (vs := [ov22, .int .i64 ((plc l (f.take 32) 0).length : Int)]) rfl rfl) ?_
    refine j_q (qs_ac) ?_
    refine j_ret_con (vs := [_, _, _]) (fun w' hw' => ⟨rfl, rfl, rfl, trivial⟩) ?_
    exact ⟨ov22, c22, by rw [e2, e3]; rfl, rfl, by rw [e1]; exact ho22⟩
/-- pantry.pantryref6.Rewrite -/
theorem rrewrite_con (l f t : List UInt8) (v : Value) (w : World) (hv : RSl w v (ints l)) (hf : f.length ≤ 9223372036854775807) (ht : t.length ≤ 9223372036854775807) (hl : l.length ≤ 100000) : Con Tryd.prog 10 [v, .string (bs f), .string (bs t)] w [] fun u S' => ∃ ov c, u = .tuple #[ov, .int .i64 (rwN l f t : Int), .int .i64 (rwE f t)] ∧ S' = [c] ∧ Sx.Own 5 1 (ints (rwB l f t)) ov c := by
  refine con_of_tree mix Tryd.func10 T10_ok (by kernel_rfl) ?_
  unfold T10
  refine j_q (qs_ac) ?_
  refine j_q (qs_ac) ?_
  refine j_q (qs_ac) ?_
  refine j_q (qs_call ent17 rfl rfl rfl (fun w' hw' => rsplit_con f w' hf)) ?_
  unfold spl
  refine j_q (qs_ext (vs := [.string (bs (spA f)), .string (bs (spB f)), .int .i64 (spE f)]) rfl rfl) ?_
  refine j_q (qs_ext (vs := [.string (bs (spA f)), .string (bs (spB f)), .int .i64 (spE f)]) rfl rfl) ?_
  refine j_q (qs_ext (vs := [.string (bs (spA f)), .string (bs (spB f)), .int .i64 (spE f)]) rfl rfl) ?_
  refine j_q (qs_call ent17 rfl rfl rfl (fun w' hw' => rsplit_con t w' ht)) ?_
  unfold spl
  refine j_q (qs_ext (vs := [.string (bs (spA t)), .string (bs (spB t)), .int .i64 (spE t)]) rfl rfl) ?_
  refine j_q (qs_ext (vs := [.string (bs (spA t)), .string (bs (spB t)), .int .i64 (spE t)]) rfl rfl) ?_
  refine j_q (qs_ext (vs := [.string (bs (spA t)), .string (bs (spB t)), .int .i64 (spE t)]) rfl rfl) ?_
  refine j_q (qs_neq rfl rfl) ?_
  refine j_g rfl (fun hb => qs_mt rfl) ?_
  refine j_g rfl (fun hb => qs_neq (gd_eq hb) rfl) ?_
  refine j_q (qs_or rfl rfl) ?_
  refine j_cond rfl (fun hc0 => ?_) (fun hc0 => ?_)
  · skip
    rw [spE_ne, spE_ne] at hc0
    have hno := rwOk_not hc0
    obtain ⟨e1, e2, e3⟩ := rw_no (l := l) hno
    refine j_q (qs_ac) ?_
    refine j_q (qs_ac) ?_
    refine j_q (qs_ac) ?_
    refine j_subl (S' := [[]]) (by repeat first | exact List.Sublist.refl _ | exact List.nil_sublist _ | apply List.Sublist.cons_cons | apply List.Sublist.cons) ?_
    refine j_ret_con (vs := [_, _, _]) (fun w' hw' => ⟨rfl, rfl, rfl, trivial⟩) ?_
    exact ⟨_, [], by rw [e2, e3]; rfl, rfl, by rw [e1]; exact own_nil⟩
  · skip
    rw [spE_ne, spE_ne] at hc0
    obtain ⟨hpf, hpt, hok⟩ := rwOk_of hc0
    obtain ⟨e1, e2, e3⟩ := rw_yes (l := l) hok
    rw [spA_yes hpf, spA_yes hpt]
    refine j_call0 ent19 rfl rfl rfl (fun w' hw' => replace_con l (f.take 32) (t.take 32) _ w' (rsl_keep hv hw') (path_take_len hpf) (path_take_len hpt) hl) (fun u S2 hu => ?_)
    obtain ⟨ov18, c18, rfl, rfl, ho18⟩ := hu
    refine j_subl (S' := [c18]) (by repeat first | exact List.Sublist.refl _ | exact List.nil_sublist _ | apply List.Sublist.cons_cons | apply List.Sublist.cons) ?_
    refine j_q (qs_ext (vs := [ov18, .int .i64 ((plc l (f.take 32) 0).length : Int)]) rfl rfl) ?_
    refine j_q (qs_ext (vs := [ov18, .int .i64 ((plc l (f.take 32) 0).length : Int)]) rfl rfl) ?_
    refine j_q (qs_ac) ?_
    refine j_ret_con (vs := [_, _, _]) (fun w' hw' => ⟨rfl, rfl, rfl, trivial⟩) ?_
    exact ⟨ov18, c18, by rw [e2, e3]; rfl, rfl, by rw [e1]; exact ho18⟩
end Go.Proofs.YtkafaodhppikfaaDoor
