/- Source, Text, Fixed and Output: what the program's and the document's functions answer. -/
import Derived.Test.YtddecbkafdbkdaaTa
import Derived.Test.YtddecbkafdbkdaaPath6
namespace Go.Proofs.Ytddecbkafdbkdaa
open Go Go.Sx
set_option maxRecDepth 100000
set_option maxHeartbeats 4000000
set_option linter.unusedVariables false
set_option linter.unusedSimpArgs false
attribute [local irreducible] J JQ QS Con W opW
theorem ent34 : Sx.Enters Try.prog 34 := ⟨_, Try.func34, by kernel_rfl, by kernel_rfl⟩
theorem ent35 : Sx.Enters Try.prog 35 := ⟨_, Try.func35, by kernel_rfl, by kernel_rfl⟩

attribute [local irreducible] fold sum hex text32 pathOf allDig isName isPath spA spB spE cp sortS rise refsOf withP withE mkP mkE
def kSource : List UInt8 := [115, 111, 117, 114, 99, 101]
def kText : List UInt8 := [116, 101, 120, 116]
def kFixed : List UInt8 := [102, 105, 120, 101, 100]
def kOutput : List UInt8 := [111, 117, 116, 112, 117, 116, 58]
def kOut : List UInt8 := [111, 117, 116]
/-- the name of an output -/
def whole (out name : List UInt8) : List UInt8 := if out = kOut then name else name ++ ([45] ++ out)
def outP (h out name : List UInt8) : List UInt8 := if isName out && isName name then mkP (kOutput ++ out) h (whole out name) else []
def outE (out name : List UInt8) : Int := if isName out && isName name then mkE (whole out name) else 9
theorem out_no {h out name : List UInt8} (hn : (isName out && isName name) = false) : outP h out name = [] ∧ outE out name = 9 := by
  unfold outP outE
  rw [hn]
  exact ⟨rfl, rfl⟩
theorem out_yes {h out name : List UInt8} (hn : (isName out && isName name) = true) : outP h out name = mkP (kOutput ++ out) h (whole out name) ∧ outE out name = mkE (whole out name) := by
  unfold outP outE
  rw [hn]
  exact ⟨rfl, rfl⟩
theorem mk_bad {k h name : List UInt8} (hn : isName name = false) : mkP k h name = [] ∧ mkE name = 9 := by
  unfold mkP mkE
  rw [hn]
  exact ⟨rfl, rfl⟩
theorem whole_len (out name : List UInt8) : (whole out name).length ≤ name.length + 1 + out.length := by
  unfold whole
  split
  · omega
  · simp; omega
attribute [local irreducible] outP outE
/-- pantry.path.Source -/
theorem psource_con (h : List UInt8) (rs : List (List UInt8)) (name : List UInt8) (v : Value) (w : World) (hv : StrSl w v rs) (hh : h.length = 32) (hn : rs.length ≤ 90000) (hl : ∀ r ∈ rs, r.length ≤ 9223372036854775807) (hnm : name.length ≤ 1099511000000) : Con Try.prog 15 [.agg (ints h).toArray, v, .string (bs name)] w [] fun u _ => u = withV kSource h rs name := by
  refine con_of_tree mix Try.func15 T15_ok (by kernel_rfl) ?_
  unfold T15
  refine j_box rfl (fun g0 hg0 hs0 => ?_)
  refine j_q (qs_ac) ?_
  refine j_q (qs_ac) ?_
  refine j_q (qs_loadw 0 Try.underlying25 rfl sz25 rfl rfl (by first | (rw [ints_length]; exact hh) | rfl)) ?_
  refine j_q (qs_call ent34 rfl rfl rfl (fun w' hw' => with_con kSource h rs name v w' (strsl_keep hv hw') (by decide) (by decide) hh hn hl hnm)) ?_
  unfold withV
  refine j_q (qs_ext (vs := [.string (bs (withP kSource h rs name)), .int .i64 (withE rs name)]) rfl rfl) ?_
  refine j_q (qs_ext (vs := [.string (bs (withP kSource h rs name)), .int .i64 (withE rs name)]) rfl rfl) ?_
  refine j_ret_con (vs := [_, _]) (fun w' hw' => ⟨rfl, rfl, trivial⟩) ?_
  show Value.tuple #[_, _] = _
  rfl
/-- pantry.pantryref3.Source -/
theorem rpsource_con (h : List UInt8) (rs : List (List UInt8)) (name : List UInt8) (v : Value) (w : World) (hv : StrSl w v rs) (hh : h.length = 32) (hn : rs.length ≤ 90000) (hl : ∀ r ∈ rs, r.length ≤ 9223372036854775807) (hnm : name.length ≤ 1099511000000) : Con Try.prog 16 [.agg (ints h).toArray, v, .string (bs name)] w [] fun u _ => u = withV kSource h rs name := by
  refine con_of_tree mix Try.func16 T16_ok (by kernel_rfl) ?_
  unfold T16
  refine j_box rfl (fun g0 hg0 hs0 => ?_)
  refine j_q (qs_ac) ?_
  refine j_q (qs_ac) ?_
  refine j_q (qs_loadw 0 Try.underlying25 rfl sz25 rfl rfl (by first | (rw [ints_length]; exact hh) | rfl)) ?_
  refine j_q (qs_call ent35 rfl rfl rfl (fun w' hw' => rwith_con kSource h rs name v w' (strsl_keep hv hw') (by decide) (by decide) hh hn hl hnm)) ?_
  unfold withV
  refine j_q (qs_ext (vs := [.string (bs (withP kSource h rs name)), .int .i64 (withE rs name)]) rfl rfl) ?_
  refine j_q (qs_ext (vs := [.string (bs (withP kSource h rs name)), .int .i64 (withE rs name)]) rfl rfl) ?_
  refine j_ret_con (vs := [_, _]) (fun w' hw' => ⟨rfl, rfl, trivial⟩) ?_
  show Value.tuple #[_, _] = _
  rfl
/-- pantry.path.Text -/
theorem ptext_con (h : List UInt8) (rs : List (List UInt8)) (name : List UInt8) (v : Value) (w : World) (hv : StrSl w v rs) (hh : h.length = 32) (hn : rs.length ≤ 90000) (hl : ∀ r ∈ rs, r.length ≤ 9223372036854775807) (hnm : name.length ≤ 1099511000000) : Con Try.prog 17 [.agg (ints h).toArray, v, .string (bs name)] w [] fun u _ => u = withV kText h rs name := by
  refine con_of_tree mix Try.func17 T17_ok (by kernel_rfl) ?_
  unfold T17
  refine j_box rfl (fun g0 hg0 hs0 => ?_)
  refine j_q (qs_ac) ?_
  refine j_q (qs_ac) ?_
  refine j_q (qs_loadw 0 Try.underlying25 rfl sz25 rfl rfl (by first | (rw [ints_length]; exact hh) | rfl)) ?_
  refine j_q (qs_call ent34 rfl rfl rfl (fun w' hw' => with_con kText h rs name v w' (strsl_keep hv hw') (by decide) (by decide) hh hn hl hnm)) ?_
  unfold withV
  refine j_q (qs_ext (vs := [.string (bs (withP kText h rs name)), .int .i64 (withE rs name)]) rfl rfl) ?_
  refine j_q (qs_ext (vs := [.string (bs (withP kText h rs name)), .int .i64 (withE rs name)]) rfl rfl) ?_
  refine j_ret_con (vs := [_, _]) (fun w' hw' => ⟨rfl, rfl, trivial⟩) ?_
  show Value.tuple #[_, _] = _
  rfl
/-- pantry.pantryref3.Text -/
theorem rptext_con (h : List UInt8) (rs : List (List UInt8)) (name : List UInt8) (v : Value) (w : World) (hv : StrSl w v rs) (hh : h.length = 32) (hn : rs.length ≤ 90000) (hl : ∀ r ∈ rs, r.length ≤ 9223372036854775807) (hnm : name.length ≤ 1099511000000) : Con Try.prog 18 [.agg (ints h).toArray, v, .string (bs name)] w [] fun u _ => u = withV kText h rs name := by
  refine con_of_tree mix Try.func18 T18_ok (by kernel_rfl) ?_
  unfold T18
  refine j_box rfl (fun g0 hg0 hs0 => ?_)
  refine j_q (qs_ac) ?_
  refine j_q (qs_ac) ?_
  refine j_q (qs_loadw 0 Try.underlying25 rfl sz25 rfl rfl (by first | (rw [ints_length]; exact hh) | rfl)) ?_
  refine j_q (qs_call ent35 rfl rfl rfl (fun w' hw' => rwith_con kText h rs name v w' (strsl_keep hv hw') (by decide) (by decide) hh hn hl hnm)) ?_
  unfold withV
  refine j_q (qs_ext (vs := [.string (bs (withP kText h rs name)), .int .i64 (withE rs name)]) rfl rfl) ?_
  refine j_q (qs_ext (vs := [.string (bs (withP kText h rs name)), .int .i64 (withE rs name)]) rfl rfl) ?_
  refine j_ret_con (vs := [_, _]) (fun w' hw' => ⟨rfl, rfl, trivial⟩) ?_
  show Value.tuple #[_, _] = _
  rfl
/-- pantry.path.Fixed -/
theorem fixed_con (h name : List UInt8) (w : World) (hh : h.length = 32) (hnm : name.length ≤ 1099511000000) : Con Try.prog 19 [.agg (ints h).toArray, .string (bs name)] w [] fun u _ => u = .tuple #[.string (bs (mkP kFixed h name)), .int .i64 (mkE name)] := by
  refine con_of_tree mix Try.func19 T19_ok (by kernel_rfl) ?_
  unfold T19
  refine j_box rfl (fun g0 hg0 hs0 => ?_)
  refine j_q (qs_ac) ?_
  refine j_q (qs_ac) ?_
  refine j_q (qs_loadw 0 Try.underlying25 rfl sz25 rfl rfl (by first | (rw [ints_length]; exact hh) | rfl)) ?_
  refine j_q (qs_call ent11 rfl rfl rfl (fun w' hw' => make_con kFixed h name w' hh (by have : kFixed.length = 5 := rfl; omega))) ?_
  rw [mk_eq]
  refine j_q (qs_ext (vs := [.string (bs (mkP kFixed h name)), .int .i64 (mkE name)]) rfl rfl) ?_
  refine j_q (qs_ext (vs := [.string (bs (mkP kFixed h name)), .int .i64 (mkE name)]) rfl rfl) ?_
  refine j_ret_con (vs := [_, _]) (fun w' hw' => ⟨rfl, rfl, trivial⟩) ?_
  show Value.tuple #[_, _] = _
  rfl
/-- pantry.pantryref3.Fixed -/
theorem rfixed_con (h name : List UInt8) (w : World) (hh : h.length = 32) (hnm : name.length ≤ 1099511000000) : Con Try.prog 20 [.agg (ints h).toArray, .string (bs name)] w [] fun u _ => u = .tuple #[.string (bs (mkP kFixed h name)), .int .i64 (mkE name)] := by
  refine con_of_tree mix Try.func20 T20_ok (by kernel_rfl) ?_
  unfold T20
  refine j_box rfl (fun g0 hg0 hs0 => ?_)
  refine j_q (qs_ac) ?_
  refine j_q (qs_ac) ?_
  refine j_q (qs_loadw 0 Try.underlying25 rfl sz25 rfl rfl (by first | (rw [ints_length]; exact hh) | rfl)) ?_
  refine j_q (qs_call ent12 rfl rfl rfl (fun w' hw' => rmake_con kFixed h name w' hh (by have : kFixed.length = 5 := rfl; omega))) ?_
  rw [mk_eq]
  refine j_q (qs_ext (vs := [.string (bs (mkP kFixed h name)), .int .i64 (mkE name)]) rfl rfl) ?_
  refine j_q (qs_ext (vs := [.string (bs (mkP kFixed h name)), .int .i64 (mkE name)]) rfl rfl) ?_
  refine j_ret_con (vs := [_, _]) (fun w' hw' => ⟨rfl, rfl, trivial⟩) ?_
  show Value.tuple #[_, _] = _
  rfl
/-- pantry.path.Output -/
theorem output_con (h out name : List UInt8) (w : World) (hh : h.length = 32) (ho : out.length ≤ 100000000) (hnm : name.length ≤ 100000000) : Con Try.prog 21 [.agg (ints h).toArray, .string (bs out), .string (bs name)] w [] fun u _ => u = .tuple #[.string (bs (outP h out name)), .int .i64 (outE out name)] := by
  refine con_of_tree mix Try.func21 T21_ok (by kernel_rfl) ?_
  unfold T21
  have hwl := whole_len out name
  have hkl : kOutput.length = 7 := rfl
  refine j_box rfl (fun g0 hg0 hs0 => ?_)
  refine j_q (qs_ac) ?_
  refine j_q (qs_ac) ?_
  refine j_q (qs_sneq rfl rfl) ?_
  refine j_cond rfl (fun hc0 => ?_) (fun hc0 => ?_)
  · skip
    have hw : whole out name = name ++ ([45] ++ out) := by
      unfold whole
      rw [if_neg (by intro h; rw [h] at hc0; simp [kOut] at hc0)]
    refine j_q (qs_sadd (l := [45]) rfl rfl (by simp; omega)) ?_
    refine j_q (qs_sadd rfl rfl (by simp; omega)) ?_
    rw [← hw]
    refine j_q (qs_call ent8 rfl rfl rfl (fun w' hw' => isName_con out w' (by omega))) ?_
    refine j_q (qs_not rfl) ?_
    refine j_g rfl (fun hb => qs_mt rfl) ?_
    refine j_g rfl (fun hb => qs_call ent8 rfl rfl (args1 (gd_eq hb)) (fun w' hw' => isName_con name w' (by omega))) ?_
    refine j_g rfl (fun hb => qs_not (gd_eq hb)) ?_
    refine j_q (qs_or rfl rfl) ?_
    refine j_g rfl (fun hb => qs_mt rfl) ?_
    refine j_g rfl (fun hb => qs_call ent8 rfl rfl (args1 (gd_eq hb)) (fun w' hw' => isName_con (whole out name) w' (by omega))) ?_
    refine j_g rfl (fun hb => qs_not (gd_eq hb)) ?_
    refine j_q (qs_or rfl rfl) ?_
    refine j_cond rfl (fun hc1 => ?_) (fun hc1 => ?_)
    · skip
      have hno : (isName out && isName name) = false ∨ isName (whole out name) = false := by
        cases h1 : isName out <;> cases h2 : isName name <;> cases h3 : isName (whole out name) <;> simp [h1, h2, h3] at hc1 ⊢
      refine j_q (qs_ac) ?_
      refine j_q (qs_ac) ?_
      refine j_ret_con (vs := [_, _]) (fun w' hw' => ⟨rfl, rfl, trivial⟩) ?_
      show Value.tuple #[_, _] = _
      rcases hno with hno | hno
      · rw [(out_no (h := h) hno).1, (out_no (h := h) hno).2]
        rfl
      · cases hx : (isName out && isName name)
        · rw [(out_no (h := h) hx).1, (out_no (h := h) hx).2]
          rfl
        · rw [(out_yes (h := h) hx).1, (out_yes (h := h) hx).2, (mk_bad (k := kOutput ++ out) (h := h) hno).1, (mk_bad (k := kOutput ++ out) (h := h) hno).2]
          rfl
    · skip
      have hyes : (isName out && isName name) = true := by
        cases h1 : isName out <;> cases h2 : isName name <;> cases h3 : isName (whole out name) <;> simp [h1, h2, h3] at hc1 ⊢
      refine j_q (qs_sadd (l := kOutput) rfl rfl (by omega)) ?_
      refine j_q (qs_loadw 0 Try.underlying25 rfl sz25 rfl rfl (by first | (rw [ints_length]; exact hh) | rfl)) ?_
      refine j_q (qs_call ent11 rfl rfl rfl (fun w' hw' => make_con (kOutput ++ out) h (whole out name) w' hh (by simp only [List.length_append]; omega))) ?_
      rw [mk_eq]
      refine j_q (qs_ext (vs := [.string (bs (mkP (kOutput ++ out) h (whole out name))), .int .i64 (mkE (whole out name))]) rfl rfl) ?_
      refine j_q (qs_ext (vs := [.string (bs (mkP (kOutput ++ out) h (whole out name))), .int .i64 (mkE (whole out name))]) rfl rfl) ?_
      refine j_ret_con (vs := [_, _]) (fun w' hw' => ⟨rfl, rfl, trivial⟩) ?_
      show Value.tuple #[_, _] = _
      rw [(out_yes (h := h) hyes).1, (out_yes (h := h) hyes).2]
      rfl
  · skip
    have hw : whole out name = name := by
      unfold whole
      rw [if_pos (by simpa [kOut] using hc0)]
    refine j_q (qs_call ent8 rfl rfl rfl (fun w' hw' => isName_con out w' (by omega))) ?_
    refine j_q (qs_not rfl) ?_
    refine j_g rfl (fun hb => qs_mt rfl) ?_
    refine j_g rfl (fun hb => qs_call ent8 rfl rfl (args1 (gd_eq hb)) (fun w' hw' => isName_con name w' (by omega))) ?_
    refine j_g rfl (fun hb => qs_not (gd_eq hb)) ?_
    refine j_q (qs_or rfl rfl) ?_
    refine j_g rfl (fun hb => qs_mt rfl) ?_
    refine j_g rfl (fun hb => qs_call ent8 rfl rfl (args1 (gd_eq hb)) (fun w' hw' => (by rw [hw]; exact isName_con name w' (by omega) : Con Try.prog 8 [.string (bs name)] w' [] fun v _ => v = .bool (isName (whole out name))))) ?_
    refine j_g rfl (fun hb => qs_not (gd_eq hb)) ?_
    refine j_q (qs_or rfl rfl) ?_
    refine j_cond rfl (fun hc2 => ?_) (fun hc2 => ?_)
    · skip
      have hno : (isName out && isName name) = false ∨ isName (whole out name) = false := by
        cases h1 : isName out <;> cases h2 : isName name <;> cases h3 : isName (whole out name) <;> simp [h1, h2, h3] at hc2 ⊢
      refine j_q (qs_ac) ?_
      refine j_q (qs_ac) ?_
      refine j_ret_con (vs := [_, _]) (fun w' hw' => ⟨rfl, rfl, trivial⟩) ?_
      show Value.tuple #[_, _] = _
      rcases hno with hno | hno
      · rw [(out_no (h := h) hno).1, (out_no (h := h) hno).2]
        rfl
      · cases hx : (isName out && isName name)
        · rw [(out_no (h := h) hx).1, (out_no (h := h) hx).2]
          rfl
        · rw [(out_yes (h := h) hx).1, (out_yes (h := h) hx).2, (mk_bad (k := kOutput ++ out) (h := h) hno).1, (mk_bad (k := kOutput ++ out) (h := h) hno).2]
          rfl
    · skip
      have hyes : (isName out && isName name) = true := by
        cases h1 : isName out <;> cases h2 : isName name <;> cases h3 : isName (whole out name) <;> simp [h1, h2, h3] at hc2 ⊢
      refine j_q (qs_sadd (l := kOutput) rfl rfl (by omega)) ?_
      refine j_q (qs_loadw 0 Try.underlying25 rfl sz25 rfl rfl (by first | (rw [ints_length]; exact hh) | rfl)) ?_
      refine j_q (qs_call ent11 rfl rfl rfl (fun w' hw' => (by rw [hw]; exact make_con (kOutput ++ out) h name w' hh (by simp only [List.length_append]; omega) : Con Try.prog 11 [.string (bs (kOutput ++ out)), .agg (ints h).toArray, .string (bs name)] w' [] fun v _ => v = mk (kOutput ++ out) h (whole out name)))) ?_
      rw [mk_eq]
      refine j_q (qs_ext (vs := [.string (bs (mkP (kOutput ++ out) h (whole out name))), .int .i64 (mkE (whole out name))]) rfl rfl) ?_
      refine j_q (qs_ext (vs := [.string (bs (mkP (kOutput ++ out) h (whole out name))), .int .i64 (mkE (whole out name))]) rfl rfl) ?_
      refine j_ret_con (vs := [_, _]) (fun w' hw' => ⟨rfl, rfl, trivial⟩) ?_
      show Value.tuple #[_, _] = _
      rw [(out_yes (h := h) hyes).1, (out_yes (h := h) hyes).2]
      rfl
/-- pantry.pantryref3.Output -/
theorem routput_con (h out name : List UInt8) (w : World) (hh : h.length = 32) (ho : out.length ≤ 100000000) (hnm : name.length ≤ 100000000) : Con Try.prog 22 [.agg (ints h).toArray, .string (bs out), .string (bs name)] w [] fun u _ => u = .tuple #[.string (bs (outP h out name)), .int .i64 (outE out name)] := by
  refine con_of_tree mix Try.func22 T22_ok (by kernel_rfl) ?_
  unfold T22
  have hwl := whole_len out name
  have hkl : kOutput.length = 7 := rfl
  refine j_box rfl (fun g0 hg0 hs0 => ?_)
  refine j_q (qs_ac) ?_
  refine j_q (qs_ac) ?_
  refine j_q (qs_call ent9 rfl rfl rfl (fun w' hw' => risName_con out w' (by omega))) ?_
  refine j_q (qs_not rfl) ?_
  refine j_g rfl (fun hb => qs_mt rfl) ?_
  refine j_g rfl (fun hb => qs_call ent9 rfl rfl (args1 (gd_eq hb)) (fun w' hw' => risName_con name w' (by omega))) ?_
  refine j_g rfl (fun hb => qs_not (gd_eq hb)) ?_
  refine j_q (qs_or rfl rfl) ?_
  refine j_cond rfl (fun hc0 => ?_) (fun hc0 => ?_)
  · skip
    have hno : (isName out && isName name) = false := by
      cases h1 : isName out <;> cases h2 : isName name <;> simp [h1, h2] at hc0 ⊢
    refine j_q (qs_ac) ?_
    refine j_q (qs_ac) ?_
    refine j_ret_con (vs := [_, _]) (fun w' hw' => ⟨rfl, rfl, trivial⟩) ?_
    show Value.tuple #[_, _] = _
    rw [(out_no (h := h) hno).1, (out_no (h := h) hno).2]
    rfl
  · skip
    have hyes : (isName out && isName name) = true := by
      cases h1 : isName out <;> cases h2 : isName name <;> simp [h1, h2] at hc0 ⊢
    refine j_q (qs_sneq rfl rfl) ?_
    refine j_cond rfl (fun hc1 => ?_) (fun hc1 => ?_)
    · skip
      have hw : whole out name = name ++ ([45] ++ out) := by
        unfold whole
        rw [if_neg (by intro h; rw [h] at hc1; simp [kOut] at hc1)]
      refine j_q (qs_sadd (l' := [45]) rfl rfl (by simp; omega)) ?_
      refine j_q (qs_sadd rfl rfl (by simp; omega)) ?_
      rw [List.append_assoc, ← hw]
      refine j_q (qs_sadd (l := kOutput) rfl rfl (by omega)) ?_
      refine j_q (qs_loadw 0 Try.underlying25 rfl sz25 rfl rfl (by first | (rw [ints_length]; exact hh) | rfl)) ?_
      refine j_q (qs_call ent12 rfl rfl rfl (fun w' hw' => rmake_con (kOutput ++ out) h (whole out name) w' hh (by simp only [List.length_append]; omega))) ?_
      rw [mk_eq]
      refine j_q (qs_ext (vs := [.string (bs (mkP (kOutput ++ out) h (whole out name))), .int .i64 (mkE (whole out name))]) rfl rfl) ?_
      refine j_q (qs_ext (vs := [.string (bs (mkP (kOutput ++ out) h (whole out name))), .int .i64 (mkE (whole out name))]) rfl rfl) ?_
      refine j_ret_con (vs := [_, _]) (fun w' hw' => ⟨rfl, rfl, trivial⟩) ?_
      show Value.tuple #[_, _] = _
      rw [(out_yes (h := h) hyes).1, (out_yes (h := h) hyes).2]
      rfl
    · skip
      have hw : whole out name = name := by
        unfold whole
        rw [if_pos (by simpa [kOut] using hc1)]
      refine j_q (qs_sadd (l := kOutput) rfl rfl (by omega)) ?_
      refine j_q (qs_loadw 0 Try.underlying25 rfl sz25 rfl rfl (by first | (rw [ints_length]; exact hh) | rfl)) ?_
      refine j_q (qs_call ent12 rfl rfl rfl (fun w' hw' => (by rw [hw]; exact rmake_con (kOutput ++ out) h name w' hh (by simp only [List.length_append]; omega) : Con Try.prog 12 [.string (bs (kOutput ++ out)), .agg (ints h).toArray, .string (bs name)] w' [] fun v _ => v = mk (kOutput ++ out) h (whole out name)))) ?_
      rw [mk_eq]
      refine j_q (qs_ext (vs := [.string (bs (mkP (kOutput ++ out) h (whole out name))), .int .i64 (mkE (whole out name))]) rfl rfl) ?_
      refine j_q (qs_ext (vs := [.string (bs (mkP (kOutput ++ out) h (whole out name))), .int .i64 (mkE (whole out name))]) rfl rfl) ?_
      refine j_ret_con (vs := [_, _]) (fun w' hw' => ⟨rfl, rfl, trivial⟩) ?_
      show Value.tuple #[_, _] = _
      rw [(out_yes (h := h) hyes).1, (out_yes (h := h) hyes).2]
      rfl
/-- pantry.pantrylaw3.paths -/
theorem paths_con (rs : List (List UInt8)) (v1 v2 : Value) (w : World) (hv1 : StrSl w v1 rs) (hv2 : StrSl w v2 rs) (hn : rs.length ≤ 90000) : Con Try.prog 23 [v1, v2] w [] fun u _ => u = .bool true := by
  refine con_of_tree mix Try.func23 T23_ok (by kernel_rfl) ?_
  unfold T23
  obtain ⟨A1, cap1, rfl, hcap1⟩ := strsl_form hv1
  obtain ⟨A2, cap2, rfl, hcap2⟩ := strsl_form hv2
  refine j_q (qs_ac) ?_
  refine j_q (qs_lenl Try.underlying38 rfl) ?_
  refine j_q (qs_lenl Try.underlying38 rfl) ?_
  refine j_q (qs_neq rfl rfl) ?_
  refine j_cond rfl (fun hc0 => ?_) (fun hc0 => ?_)
  · skip
    simp at hc0
  · skip
    refine j_q (qs_ac) ?_
    refine j_loop (fun m vs S' => ∃ i : Nat, vs = [.int .i64 (i : Int)] ∧ S' = [[]] ∧ i ≤ rs.length ∧ m = rs.length - i) ⟨_, 0, rfl, rfl, Nat.zero_le _, rfl⟩ ?_
    rintro m vs S' hlen ⟨i, rfl, rfl, hin, rfl⟩
    refine j_q (qs_lenl Try.underlying38 rfl) ?_
    refine j_q (qs_lss rfl rfl) ?_
    refine j_cond rfl (fun hc1 => ?_) (fun hc1 => ?_)
    · skip
      have hi : i < rs.length := by
        simp only [Bool.and_eq_true, Bool.or_eq_true, Bool.and_eq_false_iff, Bool.or_eq_false_iff, Bool.not_eq_true', Bool.not_eq_false', decide_eq_true_eq, decide_eq_false_iff_not, beq_iff_eq, beq_eq_false_iff_ne, bne_iff_ne, bne_eq_false_iff_eq, ne_eq, Int.toNat_natCast] at *
        omega
      obtain ⟨ga, off, rfl, hga, hcells⟩ := strsl_addr hv1 (by omega)
      obtain ⟨ga2, off2, rfl, hga2, hcells2⟩ := strsl_addr hv2 (by omega)
      refine j_draw ?_
      refine jq_q (qs_ixl0 Try.underlying38 sz26 rfl rfl ⟨(by first | omega | (simp only [Bool.and_eq_true, Bool.or_eq_true, Bool.and_eq_false_iff, Bool.or_eq_false_iff, Bool.not_eq_true', Bool.not_eq_false', decide_eq_true_eq, decide_eq_false_iff_not, beq_iff_eq, beq_eq_false_iff_ne, bne_iff_ne, bne_eq_false_iff_eq, ne_eq, Int.toNat_natCast] at *; omega)), (by first | omega | (simp only [Bool.and_eq_true, Bool.or_eq_true, Bool.and_eq_false_iff, Bool.or_eq_false_iff, Bool.not_eq_true', Bool.not_eq_false', decide_eq_true_eq, decide_eq_false_iff_not, beq_iff_eq, beq_eq_false_iff_ne, bne_iff_ne, bne_eq_false_iff_eq, ne_eq, Int.toNat_natCast] at *; omega))⟩) ?_
      refine jq_q (qs_loadrs (rd_cells hcells (by simp)) Try.underlying26 rfl (by simp only [Int.toNat_natCast]; omega)) ?_
      refine jq_q (qs_ixl0 Try.underlying38 sz26 rfl rfl ⟨(by first | omega | (simp only [Bool.and_eq_true, Bool.or_eq_true, Bool.and_eq_false_iff, Bool.or_eq_false_iff, Bool.not_eq_true', Bool.not_eq_false', decide_eq_true_eq, decide_eq_false_iff_not, beq_iff_eq, beq_eq_false_iff_ne, bne_iff_ne, bne_eq_false_iff_eq, ne_eq, Int.toNat_natCast] at *; omega)), (by first | omega | (simp only [Bool.and_eq_true, Bool.or_eq_true, Bool.and_eq_false_iff, Bool.or_eq_false_iff, Bool.not_eq_true', Bool.not_eq_false', decide_eq_true_eq, decide_eq_false_iff_not, beq_iff_eq, beq_eq_false_iff_ne, bne_iff_ne, bne_eq_false_iff_eq, ne_eq, Int.toNat_natCast] at *; omega))⟩) ?_
      refine jq_q (qs_loadrs (rd_cells hcells2 (by simp)) Try.underlying26 rfl (by simp only [Int.toNat_natCast]; omega)) ?_
      refine jq_q (qs_sneq rfl rfl) ?_
      refine jq_nil ?_
      refine j_cond rfl (fun hc2 => ?_) (fun hc2 => ?_)
      · skip
        simp at hc2
      · skip
        refine j_q (qs_add64 rfl rfl (by first | omega | (simp only [Bool.and_eq_true, Bool.or_eq_true, Bool.and_eq_false_iff, Bool.or_eq_false_iff, Bool.not_eq_true', Bool.not_eq_false', decide_eq_true_eq, decide_eq_false_iff_not, beq_iff_eq, beq_eq_false_iff_ne, bne_iff_ne, bne_eq_false_iff_eq, ne_eq, Int.toNat_natCast] at *; omega))) ?_
        refine j_back rfl ?_
        exact ⟨rs.length - (i + 1), by omega, i + 1, rfl, rfl, by omega, rfl⟩
    · skip
      refine j_q (qs_ac) ?_
      refine j_ret_con (vs := [_]) (fun w' hw' => ⟨rfl, trivial⟩) ?_
      rfl
end Go.Proofs.Ytddecbkafdbkdaa
