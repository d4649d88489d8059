/- Derivations: a small one. -/
import Derived.Test.YtfeabbeebkkhaaaGreatTa
import Derived.Test.YtfeabbeebkkhaaaGreatDv12
namespace Go.Proofs.YtfeabbeebkkhaaaGreat
open Go Go.Sx
set_option maxRecDepth 100000
set_option maxHeartbeats 4000000
set_option linter.unusedVariables false
set_option linter.unusedSimpArgs false
attribute [local irreducible] J JQ QS Con W opW
theorem ent13 : Sx.Enters Tryz.prog 13 := ⟨_, Tryz.func13, by kernel_rfl, by kernel_rfl⟩
theorem ent17 : Sx.Enters Tryz.prog 17 := ⟨_, Tryz.func17, by kernel_rfl, by kernel_rfl⟩
theorem ent18 : Sx.Enters Tryz.prog 18 := ⟨_, Tryz.func18, by kernel_rfl, by kernel_rfl⟩
theorem sb48 : (Tryz.prog.info? 48).map (fun i => (i.size, i.bytes)) = some (2, 32) := by kernel_rfl
theorem sb49 : (Tryz.prog.info? 49).map (fun i => (i.size, i.bytes)) = some (1, 16) := by kernel_rfl
theorem sb53 : (Tryz.prog.info? 53).map (fun i => (i.size, i.bytes)) = some (35, 72) := by kernel_rfl
theorem sb68 : (Tryz.prog.info? 68).map (fun i => (i.size, i.bytes)) = some (2, 40) := by kernel_rfl
theorem zero28 : zeroL Tryz.prog 28 = some ([.string (bs []), .string (bs []), .string (bs []), .slice none 0 0, .slice none 0 0, .slice none 0 0, .slice none 0 0, .slice none 0 0]) := by kernel_rfl

abbrev kd : PD := ⟨[120], [115], [98], [], [], [], [], [⟨sOut, [], false, zHash⟩]⟩
theorem kd_chk : chk kd = 0 := by decide +kernel
theorem kd_text : dtext kd = [68, 101, 114, 105, 118, 101, 40, 34, 120, 34, 44, 91, 40, 34, 111, 117, 116, 34, 44, 34, 34, 44, 34, 34, 44, 34, 34, 41, 93, 44, 91, 93, 44, 91, 93, 44, 34, 115, 34, 44, 34, 98, 34, 44, 91, 93, 44, 91, 93, 41] := by decide +kernel
theorem heavy_no {d : PD} (h : heavyP d = false) : big2 d ≤ 16000 := by
  unfold heavyP at h
  simp only [Bool.or_eq_false_iff, decide_eq_false_iff_not] at h
  omega
theorem Szd.outs {d : PD} (h : Szd d) : ∀ y ∈ d.ins, ∀ o ∈ y.outs, o.length ≤ 140737488355328 := fun y hy => (h.ip y hy).2.2
theorem Szd.outs2 {d : PD} (h : Szd d) : ∀ y ∈ d.ins, ∀ o ∈ y.outs, o.length ≤ 9223372036854775807 := fun y hy o ho => by
  have := h.outs y hy o ho
  omega
attribute [local irreducible] es qt cms hex Tbl Half lst isName isPath isDrvP leB chkO chkOuts chkN chkI chkIns firstE spA spB spE chkS chkV dtext chk chk0 tTs dshow big1 big2 heavyP
/-- pantry.pantrylaw14.known -/
theorem known_con (w : World) : Con Tryz.prog 18 [] w [] fun v _ => v = .bool true := by
  refine con_of_tree mix Tryz.func18 T18_ok (by kernel_rfl) ?_
  unfold T18
  refine j_q (qs_ac) ?_
  refine j_q (v := .agg (encO ⟨sOut, [], false, zHash⟩).toArray) (qs_build (places := [(0, 1), (1, 1), (2, 1), (3, 32)]) (offs := [(0, [.string (bs sOut)])]) Tryz.underlying53 zero53 (by kernel_rfl) rfl (by rintro (_ | j) p q hp hq <;> first | (simp at hp hq; subst hp hq; exact ⟨rfl, rfl, by simp⟩) | (simp at hp))) ?_
  refine j_litw (vs := encO ⟨sOut, [], false, zHash⟩) Tryz.underlying26 sz53 zero53 rfl rfl ⟨rfl, by decide, by decide⟩ (fun g2 hg2 ho2 => ?_)
  refine j_q (v := dval kd ⟨.slice none 0 0, .slice none 0 0, .slice none 0 0, .slice none 0 0, .slice (some ⟨g2, 0, none⟩) 1 1, []⟩) (qs_build (places := [(0, 1), (1, 1), (2, 1), (3, 1), (4, 1), (5, 1), (6, 1), (7, 1)]) (offs := [(0, [.string (bs [120])]), (1, [.string (bs [115])]), (2, [.string (bs [98])]), (7, [.slice (some ⟨g2, 0, none⟩) 1 1])]) Tryz.underlying28 zero28 (by kernel_rfl) rfl (by rintro (_ | _ | _ | _ | j) p q hp hq <;> first | (simp at hp hq; subst hp hq; exact ⟨rfl, rfl, by simp⟩) | (simp at hp))) ?_
  refine j_q (qs_call ent13 rfl rfl rfl (fun w' hw' => dprint_con kd _ w' ⟨strz_nil, ⟨rfl, .inl ⟨rfl, rfl⟩⟩, ⟨rfl, .inl ⟨rfl, rfl⟩⟩, (fun m hm => by cases hm), rfl, strz_nil, rsln_ownw (len := 1) (xs := (kd.outs.map encO).flatten) (by simpa using ho2) (by decide) rfl (fun p hp => hw'.own p (by simp at hp; subst hp; simp))⟩ (by unfold big2 big1; decide) (fun y hy => by cases hy))) ?_
  refine j_q (qs_ext (vs := [.string (bs (prS kd)), .int .i64 (chk kd)]) rfl rfl) ?_
  refine j_q (qs_ext (vs := [.string (bs (prS kd)), .int .i64 (chk kd)]) rfl rfl) ?_
  refine j_q (qs_eql rfl rfl) ?_
  refine j_g rfl (fun hb => qs_mt rfl) ?_
  refine j_g rfl (fun hb => qs_seql (gd_eq hb) rfl) ?_
  refine j_q (qs_and rfl rfl) ?_
  refine j_ret_con (vs := [_]) (fun w' hw' => ⟨rfl, trivial⟩) ?_
  show Value.bool _ = Value.bool true
  congr 1
  unfold prS
  rw [kd_chk, if_pos rfl, kd_text]
  rfl
end Go.Proofs.YtfeabbeebkkhaaaGreat
