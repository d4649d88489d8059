/- The law PathMakes: the path of any kind, digest and name, and its two parts. -/
import Derived.Test.YtddecbkafdbkdaaTa
import Derived.Test.YtddecbkafdbkdaaPath4
namespace Go.Proofs.Ytddecbkafdbkdaa
open Go Go.Sx
set_option maxRecDepth 100000
set_option maxHeartbeats 4000000
set_option linter.unusedVariables false
set_option linter.unusedSimpArgs false
attribute [local irreducible] J JQ QS Con W opW
theorem ent12 : Sx.Enters Try.prog 12 := ⟨_, Try.func12, by kernel_rfl, by kernel_rfl⟩

def mkP (kind h name : List UInt8) : List UInt8 := if isName name then pathOf kind h name else []
def mkE (name : List UInt8) : Int := if isName name then 0 else 9
theorem mk_eq (kind h name : List UInt8) : mk kind h name = .tuple #[.string (bs (mkP kind h name)), .int .i64 (mkE name)] := by
  unfold mk mkP mkE
  split <;> rfl
theorem allDig_digs (n i : Nat) : allDig (digs n i) = true := by
  induction i with
  | zero => rfl
  | succ i ih =>
    unfold allDig at ih ⊢
    simp only [digs, List.all_cons, ih, Bool.and_true, decide_eq_true_eq]
    rw [dpos_at _ (dg_lt n i)]
    omega
theorem path_drop (kind h name : List UInt8) : (pathOf kind h name).drop 33 = name := by
  unfold pathOf
  rw [List.drop_append_of_le_length (by simp [text_fold]), List.drop_of_length_le (by simp [text_fold])]
  rfl
theorem path_take (kind h name : List UInt8) : (pathOf kind h name).take 32 = text32 (fold (sum (kind ++ [58] ++ hex h ++ [58] ++ name))) := by
  unfold pathOf
  rw [List.append_assoc, List.take_append_of_le_length (by rw [text_fold]; exact Nat.le_refl _), List.take_of_length_le (by rw [text_fold]; exact Nat.le_refl _)]
theorem path_is {kind h name : List UInt8} (hn : isName name = true) : isPath (pathOf kind h name) = true := by
  have h1 := isName_len hn
  have h2 : (pathOf kind h name).getD 32 0 = 45 := by
    unfold pathOf
    rw [List.append_assoc, List.getD_eq_getElem?_getD, List.getElem?_append_right (by rw [text_fold]; exact Nat.le_refl _), text_fold]
    rfl
  unfold isPath
  rw [path_drop, path_take, hn, h2, pathOf_length]
  have h3 : allDig (text32 (fold (sum (kind ++ [58] ++ hex h ++ [58] ++ name)))) = true := allDig_digs _ _
  rw [h3]
  simp only [Bool.and_true, decide_eq_true_eq]
  exact ⟨by omega, rfl⟩
theorem path_parts {kind h name : List UInt8} (hn : isName name = true) : spA (mkP kind h name) = text32 (fold (sum (kind ++ [58] ++ hex h ++ [58] ++ name))) ∧ spB (mkP kind h name) = name ∧ spE (mkP kind h name) = 0 ∧ mkP kind h name = text32 (fold (sum (kind ++ [58] ++ hex h ++ [58] ++ name))) ++ [45] ++ name := by
  have hm : mkP kind h name = pathOf kind h name := by unfold mkP; rw [if_pos hn]
  have hp := path_is (kind := kind) (h := h) hn
  rw [hm]
  refine ⟨?_, ?_, ?_, ?_⟩
  · unfold spA; rw [if_pos hp, path_take]
  · unfold spB; rw [if_pos hp, path_drop]
  · unfold spE; rw [if_pos hp]
  · rfl
theorem mkP_len (kind h name : List UInt8) : (mkP kind h name).length ≤ 33 + name.length := by
  unfold mkP
  split
  · rw [pathOf_length]; exact Nat.le_refl _
  · simp
theorem spAB_len (l : List UInt8) : (spA l).length ≤ 32 ∧ (spB l).length ≤ l.length := by
  unfold spA spB
  split <;> simp <;> omega
attribute [local irreducible] fold sum hex text32 pathOf allDig isName mkP spA spB
/-- pantry.pantrylaw3.PathMakes -/
theorem pathMakes_con (kind h name : List UInt8) (w : World) (hk : kind.length ≤ 4611686018427387903) (hh : h.length = 32) (hn : name.length ≤ 4611686018427387903) : Con Try.prog 4 [.string (bs kind), .agg (ints h).toArray, .string (bs name)] w [] fun v _ => v = .bool true := by
  refine con_of_tree mix Try.func4 T4_ok (by kernel_rfl) ?_
  unfold T4
  refine j_box rfl (fun g0 hg0 hs0 => ?_)
  refine j_q (qs_ac) ?_
  refine j_q (qs_lens Try.underlying9 rfl) ?_
  refine j_q (qs_lens Try.underlying9 rfl) ?_
  refine j_q (qs_add64 rfl rfl (by first | omega | (simp only [Bool.and_eq_true, Bool.or_eq_true, Bool.and_eq_false_iff, Bool.or_eq_false_iff, Bool.not_eq_true', Bool.not_eq_false', decide_eq_true_eq, decide_eq_false_iff_not, beq_iff_eq, beq_eq_false_iff_ne, bne_iff_ne, bne_eq_false_iff_eq, ne_eq, Int.toNat_natCast] at *; omega))) ?_
  refine j_q (qs_gtr rfl rfl) ?_
  refine j_cond rfl (fun hc0 => ?_) (fun hc0 => ?_)
  · skip
    refine j_q (qs_ac) ?_
    refine j_ret_con (vs := [_]) (fun w' hw' => ⟨rfl, trivial⟩) ?_
    rfl
  · skip
    have hl6 : kind.length + name.length ≤ 600 := by
      simp only [Bool.and_eq_true, Bool.or_eq_true, Bool.and_eq_false_iff, Bool.or_eq_false_iff, Bool.not_eq_true', Bool.not_eq_false', decide_eq_true_eq, decide_eq_false_iff_not, beq_iff_eq, beq_eq_false_iff_ne, bne_iff_ne, bne_eq_false_iff_eq, ne_eq, Int.toNat_natCast] at *
      omega
    have hml := mkP_len kind h name
    refine j_q (qs_loadw 0 Try.underlying25 rfl sz25 rfl rfl (by first | (rw [ints_length]; exact hh) | exact hh)) ?_
    refine j_q (qs_call ent11 rfl rfl rfl (fun w' hw' => make_con kind h name w' hh (by omega))) ?_
    rw [mk_eq]
    refine j_q (qs_ext (vs := [.string (bs (mkP kind h name)), .int .i64 (mkE name)]) rfl rfl) ?_
    refine j_q (qs_ext (vs := [.string (bs (mkP kind h name)), .int .i64 (mkE name)]) rfl rfl) ?_
    refine j_q (qs_loadw 0 Try.underlying25 rfl sz25 rfl rfl (by first | (rw [ints_length]; exact hh) | exact hh)) ?_
    refine j_q (qs_call ent12 rfl rfl rfl (fun w' hw' => rmake_con kind h name w' hh (by omega))) ?_
    rw [mk_eq]
    refine j_q (qs_ext (vs := [.string (bs (mkP kind h name)), .int .i64 (mkE name)]) rfl rfl) ?_
    refine j_q (qs_ext (vs := [.string (bs (mkP kind h name)), .int .i64 (mkE name)]) rfl rfl) ?_
    refine j_q (qs_sneq rfl rfl) ?_
    refine j_g rfl (fun hb => qs_mt rfl) ?_
    refine j_g rfl (fun hb => qs_mt rfl) ?_
    refine j_g rfl (fun hb => qs_neq (gd_eq hb) (gd_eq hb)) ?_
    refine j_q (qs_or rfl rfl) ?_
    refine j_cond rfl (fun hc1 => ?_) (fun hc1 => ?_)
    · skip
      refine j_q (qs_ac) ?_
      refine j_ret_con (vs := [_]) (fun w' hw' => ⟨rfl, trivial⟩) ?_
      exfalso
      simp at hc1
    · skip
      refine j_q (qs_neq rfl rfl) ?_
      refine j_cond rfl (fun hc2 => ?_) (fun hc2 => ?_)
      · skip
        refine j_q (qs_call ent10 rfl rfl rfl (fun w' hw' => known_con w')) ?_
        refine j_ret_con (vs := [_]) (fun w' hw' => ⟨rfl, trivial⟩) ?_
        rfl
      · skip
        have hnm : isName name = true := by
          cases hx : isName name
          · have : mkE name = 9 := by unfold mkE; rw [hx]; rfl
            rw [this] at hc2
            exact absurd hc2 (by decide)
          · rfl
        obtain ⟨pa, pb, pe, pp⟩ := path_parts (kind := kind) (h := h) hnm
        have hsl := spAB_len (mkP kind h name)
        refine j_q (qs_call ent13 rfl rfl rfl (fun w' hw' => split_con (mkP kind h name) w' (by omega))) ?_
        unfold spl
        refine j_q (qs_ext (vs := [.string (bs (spA (mkP kind h name))), .string (bs (spB (mkP kind h name))), .int .i64 (spE (mkP kind h name))]) rfl rfl) ?_
        refine j_q (qs_ext (vs := [.string (bs (spA (mkP kind h name))), .string (bs (spB (mkP kind h name))), .int .i64 (spE (mkP kind h name))]) rfl rfl) ?_
        refine j_q (qs_ext (vs := [.string (bs (spA (mkP kind h name))), .string (bs (spB (mkP kind h name))), .int .i64 (spE (mkP kind h name))]) rfl rfl) ?_
        refine j_q (qs_eql rfl rfl) ?_
        refine j_g rfl (fun hb => qs_mt rfl) ?_
        refine j_g rfl (fun hb => qs_mt rfl) ?_
        refine j_g rfl (fun hb => qs_seql (gd_eq hb) (gd_eq hb)) ?_
        refine j_q (qs_and rfl rfl) ?_
        refine j_g rfl (fun hb => qs_mt rfl) ?_
        refine j_g rfl (fun hb => qs_lens Try.underlying9 (gd_eq hb)) ?_
        refine j_g rfl (fun hb => qs_eql (gd_eq hb) rfl) ?_
        refine j_q (qs_and rfl rfl) ?_
        refine j_g rfl (fun hb => qs_mt rfl) ?_
        refine j_g rfl (fun hb => qs_sadd (gd_eq hb) rfl (by simp; omega)) ?_
        refine j_g rfl (fun hb => qs_mt rfl) ?_
        refine j_g rfl (fun hb => qs_sadd (gd_eq hb) (gd_eq hb) (by simp; omega)) ?_
        refine j_g rfl (fun hb => qs_mt rfl) ?_
        refine j_g rfl (fun hb => qs_seql (gd_eq hb) (gd_eq hb)) ?_
        refine j_q (qs_and rfl rfl) ?_
        refine j_g rfl (fun hb => qs_call ent10 rfl rfl (args0) (fun w' hw' => known_con w')) ?_
        refine j_q (qs_and rfl rfl) ?_
        refine j_ret_con (vs := [_]) (fun w' hw' => ⟨rfl, trivial⟩) ?_
        show Value.bool _ = _
        congr 1
        rw [pa, pb, pe, pp, text_fold]
        simp
end Go.Proofs.Ytddecbkafdbkdaa
