/- Tasks that take turns: the law LocksRun. -/
import Derived.Test.YtlgfpoelhjlifaaTa
import Derived.Test.YtlgfpoelhjlifaaLk17
namespace Go.Proofs.Ytlgfpoelhjlifaa
open Go Go.Sx
set_option maxRecDepth 100000
set_option maxHeartbeats 4000000
set_option linter.unusedVariables false
set_option linter.unusedSimpArgs false
attribute [local irreducible] J JQ QS Con W opW
theorem ent10 : Sx.Enters Try.prog 10 := ⟨_, Try.func10, by kernel_rfl, by kernel_rfl⟩
theorem ent16 : Sx.Enters Try.prog 16 := ⟨_, Try.func16, by kernel_rfl, by kernel_rfl⟩
theorem ent17 : Sx.Enters Try.prog 17 := ⟨_, Try.func17, by kernel_rfl, by kernel_rfl⟩
theorem ent19 : Sx.Enters Try.prog 19 := ⟨_, Try.func19, by kernel_rfl, by kernel_rfl⟩

theorem both_add {r r1 : RM} {x x1 : WM} {left : List Int} {g12 i : Nat} {xs : List XT} (h : Both r x left g12 xs i) (hr : r1.Ok) (hx : x1.Ok) (hs : r1.steps = r.steps) (hxs : x1.steps = x.steps) (hb : r1.busy = r.busy) {y : XT} {g : Nat} (ht : r1.ts = r.ts ++ [⟨g, fv15 g12 y, false, false⟩]) (he : x1.el = x.el ++ [false]) (hbl : x1.bl = x.bl ++ [false]) {v : Int} (hv : 0 ≤ v ∧ v ≤ 9223372036854775807) : Both r1 x1 (left ++ [v]) g12 (xs ++ [y]) (i + 1) := by
  refine ⟨hr, hx, hb.trans h.nb, by rw [hs, hxs]; exact h.st, by have := h.stb; rw [hs]; omega, by rw [he, ht, h.el, List.map_append]; rfl, by rw [hbl, ht, h.bl, List.map_append]; rfl, by rw [ht, List.length_append, List.length_append, h.ll]; rfl, by rw [ht, List.length_append, List.length_append, h.xl]; rfl, fun j z hz => ?_, by rw [ht, List.length_append]; have := h.tl; simp; omega, fun u hu => ?_⟩
  · rw [ht]
    rcases Nat.lt_or_ge j xs.length with hj | hj
    · rw [List.getElem?_append_left hj] at hz
      obtain ⟨t, h1, h2⟩ := h.fv j z hz
      exact ⟨t, by rw [List.getElem?_append_left (by rw [← h.xl]; exact hj)]; exact h1, h2⟩
    · rw [List.getElem?_append_right hj] at hz
      have hj0 : j - xs.length = 0 := by
        have := (List.getElem?_eq_some_iff.1 hz).1
        simp at this
        omega
      rw [hj0] at hz
      simp at hz
      subst hz
      exact ⟨_, by rw [List.getElem?_append_right (by rw [← h.xl]; exact hj), ← h.xl, hj0]; rfl, rfl⟩
  · rcases List.mem_append.1 hu with hu | hu
    · have := h.lb u hu
      omega
    · rw [List.mem_singleton.1 hu]
      omega
theorem both_same {r r1 : RM} {x x1 : WM} {left : List Int} {g12 i : Nat} {xs : List XT} (h : Both r x left g12 xs i) (hr : r1.Ok) (hx : x1.Ok) (hs : r1.steps = r.steps) (hxs : x1.steps = x.steps) (hb : r1.busy = r.busy) (ht : r1.ts = r.ts) (he : x1.el = x.el) (hbl : x1.bl = x.bl) : Both r1 x1 left g12 xs (i + 1) :=
  ⟨hr, hx, hb.trans h.nb, by rw [hs, hxs]; exact h.st, by have := h.stb; rw [hs]; omega, by rw [he, ht]; exact h.el, by rw [hbl, ht]; exact h.bl, by rw [ht]; exact h.ll, by rw [ht]; exact h.xl, by rw [ht]; exact h.fv, by rw [ht]; have := h.tl; omega, fun u hu => by have := h.lb u hu; omega⟩
theorem both_block {r r1 : RM} {x x1 : WM} {left : List Int} {g12 i : Nat} {xs : List XT} (h : Both r x left g12 xs i) (hr : r1.Ok) (hx : x1.Ok) (hs : r1.steps = r.steps) (hxs : x1.steps = x.steps) (hb : r1.busy = r.busy) {n : Int} {on : Bool} (ht : r1.ts = blockTs r.ts n on) (he : x1.el = x.el) (hbl : x1.bl = if thereB x.el n then x.bl.set n.toNat on else x.bl) : Both r1 x1 left g12 xs (i + 1) := by
  refine ⟨hr, hx, hb.trans h.nb, by rw [hs, hxs]; exact h.st, by have := h.stb; rw [hs]; omega, by rw [he, ht, blockTs_en]; exact h.el, by rw [hbl, ht, blockTs_bl, h.el, h.bl], by rw [ht, blockTs_len]; exact h.ll, by rw [ht, blockTs_len]; exact h.xl, fun j z hz => ?_, by rw [ht, blockTs_len]; have := h.tl; omega, fun u hu => by have := h.lb u hu; omega⟩
  obtain ⟨t, h1, h2⟩ := h.fv j z hz
  obtain ⟨u, h3, h4⟩ := blockTs_get (n := n) (on := on) h1
  exact ⟨u, by rw [ht]; exact h3, h4.trans h2⟩
theorem set_same {l : List Bool} {n : Nat} {b : Bool} (h : l.getD n false = b) (hn : n < l.length) : l.set n b = l := by
  apply List.ext_getElem?
  intro j
  rw [List.getElem?_set]
  split
  · rename_i e
    subst e
    rw [List.getElem?_eq_getElem hn]
    rw [List.getD_eq_getElem?_getD, List.getElem?_eq_getElem hn] at h
    simpa using h.symm
  · rfl
theorem both_step {r r3 : RM} {x x1 : WM} {left : List Int} {g12 i n : Nat} {xs : List XT} (h : Both r x left g12 xs i) (hr : r3.Ok) (hx : x1.Ok) (hn : n < r.ts.length) (hen : (r.ts.getD n TM0).en = false) (h3 : r3 = after { r with busy := true, steps := r.steps + 1 } n (decide (1 ≤ left.getD n 0 - 1))) (hxs : x1.steps = x.steps + 1) (he : x1.el = x.el.set n (decide (left.getD n 0 ≤ 1))) (hbl : x1.bl = x.bl) : Both r3 x1 (left.set n (left.getD n 0 - 1)) g12 xs (i + 1) := by
  have hgx : x.el.getD n false = false := by rw [h.el, getD_en]; exact hen
  have hxl : x.el.length = r.ts.length := by rw [h.el, List.length_map]
  have hen3 : r3.ts.map TM.en = x.el.set n (decide (left.getD n 0 ≤ 1)) := by
    subst h3
    unfold after
    by_cases hc : 1 ≤ left.getD n 0 - 1
    · rw [decide_eq_true hc, if_pos rfl, decide_eq_false (show ¬ left.getD n 0 ≤ 1 by omega), set_same hgx (by omega), h.el]
    · rw [decide_eq_false hc, if_neg (by decide), decide_eq_true (show left.getD n 0 ≤ 1 by omega), List.map_set, h.el]
  have hbl3 : r3.ts.map TM.bl = x.bl := by
    subst h3
    unfold after
    rw [h.bl]
    split
    · rfl
    · rw [List.map_set]
      refine set_same ?_ (by rw [List.length_map]; exact hn)
      rw [getD_bl]
  have hlen3 : r3.ts.length = r.ts.length := by
    have := congrArg List.length hen3
    rw [List.length_map, List.length_set] at this
    omega
  refine ⟨hr, hx, by rw [h3]; rfl, by rw [h3, hxs, ← h.st]; rfl, ?_, by rw [he]; exact hen3.symm, by rw [hbl]; exact hbl3.symm, by rw [List.length_set, hlen3]; exact h.ll, by rw [hlen3]; exact h.xl, fun j z hz => ?_, by rw [hlen3]; have := h.tl; omega, fun u hu => ?_⟩
  · have := h.stb
    rw [h3]
    show 0 ≤ r.steps + 1 ∧ r.steps + 1 ≤ ((i + 1 : Nat) : Int)
    omega
  · obtain ⟨t, h1, h2⟩ := h.fv j z hz
    rw [h3]
    unfold after
    split
    · exact ⟨t, h1, h2⟩
    · show ∃ u : TM, (r.ts.set n { r.ts.getD n TM0 with en := true })[j]? = some u ∧ u.fv = fv15 g12 z
      rw [List.getElem?_set]
      split
      · rename_i e
        subst e
        refine ⟨_, rfl, ?_⟩
        show (r.ts.getD n TM0).fv = _
        rw [List.getD_eq_getElem?_getD, h1]
        exact h2
      · exact ⟨t, h1, h2⟩
  · rcases List.mem_or_eq_of_mem_set hu with hu | rfl
    · have := h.lb u hu
      omega
    · have := h.lb _ (getDI_mem (l := left) (k := n) (by rw [h.ll]; exact hn))
      omega
/-- pantry.pantrylaw12.LocksRun -/
theorem locksRun_con (rs : List Ac) (v : Value) (w : World) (h : Acts w v rs) (hl : rs.length ≤ 4611686018427387903) : Con Try.prog 4 [v] w [] fun u _ => u = .bool true := by
  refine con_of_tree mix Try.func4 T4_ok (by kernel_rfl) ?_
  unfold T4
  obtain ⟨A, cap, g, off, rfl, hcap, hA⟩ := acts_form h
  refine j_q (qs_ac) ?_
  refine j_call0 ent10 rfl rfl rfl (fun w' hw' => newRun_con w') (fun u S2 hu => ?_)
  obtain ⟨r0, rfl, rfl, hok0, hts0, hst0, hb0⟩ := hu
  refine j_q (qs_build (places := [(0, 1), (1, 1), (2, 1)]) (offs := []) Try.underlying35 zero35 (by kernel_rfl) rfl (by rintro j p q hp hq; simp at hp)) ?_
  refine j_box (l := [.slice none 0 0, .slice none 0 0, .int .i64 0]) rfl (fun g3 hg3 hs3 => ?_)
  refine j_q (qs_pnil Try.underlying23 rfl) ?_
  refine j_g rfl (fun hb => qs_mt rfl) ?_
  refine j_g rfl (fun hb => qs_lenl Try.underlying31 (gd_eq hb)) ?_
  refine j_g rfl (fun hb => qs_gtr (gd_eq hb) rfl) ?_
  refine j_q (qs_or rfl rfl) ?_
  refine j_cond rfl (fun hc0 => ?_) (fun hc0 => ?_)
  · skip
    refine j_q (qs_pnnil Try.underlying23 rfl) ?_
    refine j_g rfl (fun hb => qs_call ent9 rfl rfl (args0) (fun w' hw' => known_con w')) ?_
    refine j_q (qs_and rfl rfl) ?_
    refine j_ret_con (vs := [_]) (fun w' hw' => ⟨rfl, trivial⟩) ?_
    show Value.bool _ = _
    congr 1
  · skip
    have hrl : rs.length ≤ 600 := by
      simp [gd] at hc0
      omega
    refine j_alloc zero36 (fun g12 hg12 hs12 => ?_)
    refine j_perm (S' := [r0.heap, WM.heap ({ gw := g3, ev_ := .slice none 0 0, ec := [], bv := .slice none 0 0, bc := [], el := [], bl := [], steps := 0 } : WM), UL g12 (.slice none 0 0) [] []]) (by
      classical
      show ([[(g12, Obj.cells [Value.slice none 0 0].toArray 36 (0, 0))], [(g3, .cells [.slice none 0 0, .slice none 0 0, .int .i64 0].toArray 35 (0, 0))], r0.heap, []] : List SH).flatten.Perm _
      refine List.perm_iff_count.2 fun a => ?_
      simp only [UL, boxes, WM.heap, WM.obj, wcells, List.flatten_cons, List.flatten_nil, List.append_nil, List.nil_append, List.cons_append, List.count_append, List.count_cons, List.count_nil] <;> omega) ?_
    refine j_q (qs_ac) ?_
    refine j_loop (fun m vs S' => ∃ (i : Nat) (r : RM) (x : WM) (left : List Int) (lv : Value) (lc : SH) (xs : List XT), vs = [.int .i64 (i : Int)] ∧ S' = [r.heap, x.heap, UL g12 lv lc xs] ∧ r.gr = r0.gr ∧ x.gw = g3 ∧ Both r x left g12 xs i ∧ Sx.Own 3 1 (ks .i64 left) lv lc ∧ i ≤ rs.length ∧ m = rs.length - i) ⟨_, 0, r0, ({ gw := g3, ev_ := .slice none 0 0, ec := [], bv := .slice none 0 0, bc := [], el := [], bl := [], steps := 0 } : WM), [], _, [], [], rfl, rfl, rfl, rfl, ⟨hok0, ⟨own_nil, own_nil, rfl, Nat.zero_le _⟩, hb0, by rw [hst0], by rw [hst0]; decide, by rw [hts0]; rfl, by rw [hts0]; rfl, by rw [hts0]; rfl, by rw [hts0]; rfl, (fun j y h => by simp at h), by rw [hts0]; exact Nat.le_refl _, (fun v h => by cases h)⟩, own_nil, Nat.zero_le _, rfl⟩ ?_
    rintro m vs S' hlen ⟨i, r, x, left, lv, lc, xs, rfl, rfl, hgr, hgw, hB, hlo, hirs, rfl⟩
    obtain ⟨nl, Al, capl, rfl, hnl⟩ := own_form hlo (by decide)
    rw [ks_length, Nat.mul_one] at hnl
    subst hnl
    have hcapl := own_cap hlo
    have hll := hB.ll
    have htl := hB.tl
    have hstb := hB.stb
    rw [← hgr, ← hgw]
    refine j_q (qs_lenl Try.underlying31 rfl) ?_
    refine j_q (qs_lss rfl rfl) ?_
    refine j_cond rfl (fun hc1 => ?_) (fun hc1 => ?_)
    · skip
      have hi1 : i < rs.length := by
        simp only [Bool.and_eq_true, Bool.or_eq_true, Bool.and_eq_false_iff, Bool.or_eq_false_iff, Bool.not_eq_true', Bool.not_eq_false', decide_eq_true_eq, decide_eq_false_iff_not, beq_iff_eq, beq_eq_false_iff_ne, bne_iff_ne, bne_eq_false_iff_eq, ne_eq, Int.toNat_natCast] at *
        omega
      obtain ⟨rfl, hgs, hcl⟩ := hA (by omega)
      have hxo := acts_ok h hi1
      refine j_q (qs_ixn (g := g) (off := off) Try.underlying31 sz38 rfl rfl hi1) ?_
      refine j_q (qs_loadrecw (d := Ac0) encAc_len (rd_cells hcl (by simp)) hi1 Try.underlying38 rfl sz38 rfl) ?_
      refine j_alloc zero38 (fun g18 hg18 hs18 => ?_)
      refine j_storew (vs := [Value.int .i64 (rs.getD i Ac0).kind, .int .i64 (rs.getD i Ac0).n, .bool (rs.getD i Ac0).bad]) 0 sz38 rfl rfl rfl (by simp [oneV]) rfl rfl ?_
      refine j_perm (S' := [[(g18, .cells [Value.int .i64 (rs.getD i Ac0).kind, .int .i64 (rs.getD i Ac0).n, .bool (rs.getD i Ac0).bad].toArray 38 (0, 0))], r.heap, x.heap, UL g12 (.slice Al left.length capl) lc xs]) (List.Perm.of_eq rfl) ?_
      refine j_q (qs_field Try.underlying38 rfl sz3 (by decide) rfl) ?_
      refine j_q (qs_load (l := [Value.int .i64 (rs.getD i Ac0).kind, .int .i64 (rs.getD i Ac0).n, .bool (rs.getD i Ac0).bad]) 0 Try.underlying3 rfl rfl rfl rfl) ?_
      refine j_q (qs_eql rfl rfl) ?_
      refine j_cond rfl (fun hc2 => ?_) (fun hc2 => ?_)
      · skip
        refine j_perm (S' := [[(g18, .cells [Value.int .i64 (rs.getD i Ac0).kind, .int .i64 (rs.getD i Ac0).n, .bool (rs.getD i Ac0).bad].toArray 38 (0, 0))], r.heap, x.heap, [(g12, .cells [.slice Al left.length capl].toArray 36 (0, 0))], lc, boxes 0 xs]) (by
          classical
          refine List.perm_iff_count.2 fun a => ?_
          simp only [UL, List.flatten_cons, List.flatten_nil, List.append_nil, List.nil_append, List.cons_append, List.count_append, List.count_cons, List.count_nil] <;> omega) ?_
        refine j_q (qs_load (l := [.slice Al left.length capl]) 3 Try.underlying36 rfl rfl rfl rfl) ?_
        refine j_q (qs_lenl Try.underlying36 rfl) ?_
        refine j_alloc zero3 (fun g25 hg25 hs25 => ?_)
        refine j_store (l := [.int .i64 0]) 0 sz3 rfl rfl rfl rfl (by simp) (by simp) ?_
        refine j_q (qs_field Try.underlying38 rfl sz4 (by decide) rfl) ?_
        refine j_q (qs_load (l := [Value.int .i64 (rs.getD i Ac0).kind, .int .i64 (rs.getD i Ac0).n, .bool (rs.getD i Ac0).bad]) 1 Try.underlying4 rfl rfl rfl rfl) ?_
        refine j_alloc zero4 (fun g29 hg29 hs29 => ?_)
        refine j_store (l := [.bool false]) 0 sz4 rfl rfl rfl rfl (by simp) (by simp) ?_
        refine j_q (qs_load (l := [.slice Al left.length capl]) 5 Try.underlying36 rfl rfl rfl rfl) ?_
        refine j_q (qs_field Try.underlying38 rfl sz3 (by decide) rfl) ?_
        refine j_q (qs_load (l := [Value.int .i64 (rs.getD i Ac0).kind, .int .i64 (rs.getD i Ac0).n, .bool (rs.getD i Ac0).bad]) 2 Try.underlying3 rfl rfl rfl rfl) ?_
        refine j_q (qs_max rfl rfl) ?_
        refine j_lit (vs := [.int .i64 _]) Try.underlying36 sz3 zero3 rfl (by simp [oneV]) ⟨rfl, by decide⟩ (fun g35 v35 c35 hv35 hc35 ho35 => ?_)
        subst hv35 hc35
        refine j_append 7 Try.underlying36 Try.underlying36 (.inr ⟨_, rfl⟩) sb3 zero3 rfl hlo rfl (.inl ⟨_, _, rfl, own_rd ho35 0 rfl, rfl⟩) (by intro u hu; rw [List.mem_singleton] at hu; rw [hu]; rfl) ⟨(by simp only [ks_length, List.length_singleton]; omega), (by decide)⟩ (fun v36 c36 ho36 => ?_)
        refine j_store (l := [.slice Al left.length capl]) 6 sz36 rfl rfl (by obtain ⟨n', A', cap', e', _⟩ := own_form ho36 (by decide); show oneV v36 = true; rw [e']; rfl) rfl (by simp) (by simp) ?_
        refine j_q (qs_mkfuncv (vs := caps15 g12 (⟨g25, g29, (rs.getD i Ac0).bad⟩ : XT)) rfl) ?_
        have hleft : Sx.Own 3 1 (ks .i64 (left ++ [max 0 (rs.getD i Ac0).n])) v36 c36 := by
          have e : ks .i64 (left ++ [max 0 (rs.getD i Ac0).n]) = ks .i64 left ++ [Value.int .i64 (max 0 (rs.getD i Ac0).n)] := by simp [ks]
          rw [e]
          exact ho36
        refine j_subl (S' := [[(g29, .cells [Value.bool (rs.getD i Ac0).bad].toArray 4 (0, 0))], [(g25, .cells [Value.int .i64 (left.length : Int)].toArray 3 (0, 0))], [(g18, .cells [Value.int .i64 (rs.getD i Ac0).kind, .int .i64 (rs.getD i Ac0).n, .bool (rs.getD i Ac0).bad].toArray 38 (0, 0))], r.heap, x.heap, [(g12, .cells [v36].toArray 36 (0, 0))], c36, boxes 0 xs]) (by repeat first | exact List.Sublist.refl _ | exact List.nil_sublist _ | apply List.Sublist.cons_cons | apply List.Sublist.cons) ?_
        refine j_call 3 ent13 rfl rfl rfl rfl (fun w' hw' => addA_con r 15 (caps15 g12 (⟨g25, g29, (rs.getD i Ac0).bad⟩ : XT)).toArray w' hB.rok (by omega)) (fun u1 S2 hu => ?_)
        obtain ⟨r1, rfl, hok1, hgr1, hs1, hb1, hcr⟩ := hu
        refine j_call 5 ent16 rfl rfl rfl rfl (fun w' hw' => waddA_con x w' hB.xok (by rw [hB.el, List.length_map]; omega)) (fun u2 S2 hu => ?_)
        obtain ⟨x1, rfl, hxok1, hgw1, hxs1, hcx⟩ := hu
        have hal : aliveB x.el = alive r.ts := by rw [hB.el]; exact aliveB_map _
        have hxel : x.el.length = r.ts.length := by rw [hB.el, List.length_map]
        obtain ⟨k, hk1, hk2, hcase⟩ : ∃ k : Int, u1 = .int .i64 k ∧ u2 = .int .i64 k ∧ ((k = (r.ts.length : Int) ∧ (∃ g, r1.ts = r.ts ++ [⟨g, fv15 g12 (⟨g25, g29, (rs.getD i Ac0).bad⟩ : XT), false, false⟩]) ∧ x1.el = x.el ++ [false] ∧ x1.bl = x.bl ++ [false]) ∨ (k = -1 ∧ r1.ts = r.ts ∧ x1.el = x.el ∧ x1.bl = x.bl)) := by
          rcases hcr with ⟨h1, rfl, h2⟩ | ⟨h1, rfl, h2⟩
          · rcases hcx with ⟨h3, rfl, h4⟩ | ⟨h3, _⟩
            · exact ⟨_, rfl, by rw [hxel], .inl ⟨rfl, h2, h4⟩⟩
            · omega
          · rcases hcx with ⟨h3, _⟩ | ⟨h3, rfl, h4⟩
            · omega
            · exact ⟨_, rfl, rfl, .inr ⟨rfl, h2, h4⟩⟩
        subst hk1 hk2
        refine j_perm (S' := [r1.heap, x1.heap, [(g29, .cells [Value.bool (rs.getD i Ac0).bad].toArray 4 (0, 0))], [(g25, .cells [Value.int .i64 (left.length : Int)].toArray 3 (0, 0))], [(g18, .cells [Value.int .i64 (rs.getD i Ac0).kind, .int .i64 (rs.getD i Ac0).n, .bool (rs.getD i Ac0).bad].toArray 38 (0, 0))], [(g12, .cells [v36].toArray 36 (0, 0))], c36, boxes 0 xs]) (by
          classical
          show ([x1.heap, r1.heap, [(g29, .cells [Value.bool (rs.getD i Ac0).bad].toArray 4 (0, 0))], [(g25, .cells [Value.int .i64 (left.length : Int)].toArray 3 (0, 0))], [(g18, .cells [Value.int .i64 (rs.getD i Ac0).kind, .int .i64 (rs.getD i Ac0).n, .bool (rs.getD i Ac0).bad].toArray 38 (0, 0))], [], [], [(g12, .cells [v36].toArray 36 (0, 0))], c36, boxes 0 xs] : List SH).flatten.Perm _
          refine List.perm_iff_count.2 fun a => ?_
          simp only [List.flatten_cons, List.flatten_nil, List.append_nil, List.nil_append, List.cons_append, List.count_append, List.count_cons, List.count_nil] <;> omega) ?_
        rw [← hgr1, ← hgw1]
        obtain ⟨n36, A36, cap36, hv36, hn36⟩ := own_form hleft (by decide)
        rw [ks_length, List.length_append, List.length_singleton, Nat.mul_one] at hn36
        refine j_q (qs_neq rfl rfl) ?_
        refine j_cond rfl (fun hc3 => ?_) (fun hc3 => ?_)
        · skip
          simp at hc3
        · skip
          refine j_q (qs_lss rfl rfl) ?_
          refine j_cond rfl (fun hc4 => ?_) (fun hc4 => ?_)
          · skip
            refine j_q (qs_load (l := [v36]) 5 Try.underlying36 rfl rfl rfl rfl) ?_
            refine j_q (qs_load (l := [.int .i64 (left.length : Int)]) 3 Try.underlying3 rfl rfl rfl rfl) ?_
            have hcap36 : n36 ≤ cap36 := by rw [hv36] at hleft; exact own_cap hleft
            refine j_q (qs_cutl (a := 0) (z := left.length) Try.underlying36 sz3 hv36 rfl ⟨.i64, rfl⟩ (Nat.zero_le _) (by omega)) ?_
            refine j_store (l := [v36]) 5 sz36 rfl rfl rfl rfl (by simp) (by simp) ?_
            have hcut : Sx.Own 3 1 (ks .i64 left) (.slice (if cap36 = 0 then A36 else A36.map (fun a : Addr => a.add (0 * 1))) (left.length - 0) (cap36 - 0)) c36 := by
              have h1 := hleft
              rw [hv36, show ks .i64 (left ++ [max 0 (rs.getD i Ac0).n]) = ks .i64 left ++ ks .i64 [max 0 (rs.getD i Ac0).n] by simp [ks]] at h1
              exact own_cut0 h1 (by rw [ks_length])
            obtain ⟨hk, hr1t, hx1e, hx1b⟩ : k = -1 ∧ r1.ts = r.ts ∧ x1.el = x.el ∧ x1.bl = x.bl := by
              rcases hcase with ⟨h1, _⟩ | h1
              · have h2 : k < 0 := by simpa using hc4
                omega
              · exact h1
            have hB1 : Both r1 x1 left g12 xs (i + 1) := both_same hB hok1 hxok1 hs1 hxs1 hb1 hr1t hx1e hx1b
            refine j_subl (S' := [r1.heap, x1.heap, [(g12, .cells [.slice (if cap36 = 0 then A36 else A36.map (fun a : Addr => a.add (0 * 1))) (left.length - 0) (cap36 - 0)].toArray 36 (0, 0))], c36, boxes 0 xs]) (by repeat first | exact List.Sublist.refl _ | exact List.nil_sublist _ | apply List.Sublist.cons_cons | apply List.Sublist.cons) ?_
            refine j_perm (S' := [r1.heap, x1.heap, UL g12 (.slice (if cap36 = 0 then A36 else A36.map (fun a : Addr => a.add (0 * 1))) (left.length - 0) (cap36 - 0)) c36 xs]) (by
              classical
              refine List.perm_iff_count.2 fun a => ?_
              simp only [UL, List.flatten_cons, List.flatten_nil, List.append_nil, List.nil_append, List.cons_append, List.count_append, List.count_cons, List.count_nil] <;> omega) ?_
            refine j_q (qs_call ent14 rfl rfl rfl (fun w' hw' => leftR_con r1 w' (fun q hq => rdo_mem 0 rfl hq w' hw') hB1.rok)) ?_
            refine j_q (qs_ext (vs := [.int .i64 (alive r1.ts : Nat), .int .i64 r1.steps]) rfl rfl) ?_
            refine j_q (qs_ext (vs := [.int .i64 (alive r1.ts : Nat), .int .i64 r1.steps]) rfl rfl) ?_
            refine j_q (qs_call ent21 rfl rfl rfl (fun w' hw' => wleft_con x1 w' (fun q hq => rdo_mem 1 rfl hq w' hw') hB1.xok)) ?_
            refine j_q (qs_neq rfl rfl) ?_
            refine j_g rfl (fun hb => qs_mt rfl) ?_
            refine j_g rfl (fun hb => qs_mt rfl) ?_
            refine j_g rfl (fun hb => qs_nil (gd_eq hb)) ?_
            refine j_g rfl (fun hb => qs_field Try.underlying35 rfl sz3 (by decide) (gd_eq hb)) ?_
            refine j_g rfl (fun hb => qs_loadO (l := wcells x1) (rdo_mem (o := WM.obj x1) 1 rfl (by simp [WM.heap])) Try.underlying3 rfl (gd_eq hb) rfl) ?_
            refine j_g rfl (fun hb => qs_neq (gd_eq hb) (gd_eq hb)) ?_
            refine j_q (qs_or rfl rfl) ?_
            refine j_cond rfl (fun hc5 => ?_) (fun hc5 => ?_)
            · skip
              rw [hB1.el, aliveB_map, hB1.st] at hc5
              simp [gd] at hc5
            · skip
              refine j_q (qs_add64 rfl rfl (by first | omega | (simp only [Bool.and_eq_true, Bool.or_eq_true, Bool.and_eq_false_iff, Bool.or_eq_false_iff, Bool.not_eq_true', Bool.not_eq_false', decide_eq_true_eq, decide_eq_false_iff_not, beq_iff_eq, beq_eq_false_iff_ne, bne_iff_ne, bne_eq_false_iff_eq, ne_eq, Int.toNat_natCast] at *; omega))) ?_
              refine j_back rfl ?_
              exact ⟨rs.length - (i + 1), by omega, i + 1, r1, x1, left, _, c36, xs, rfl, rfl, rfl, rfl, hB1, hcut, by omega, rfl⟩
          · skip
            obtain ⟨hk, ⟨gt, hr1t⟩, hx1e, hx1b⟩ : k = (r.ts.length : Int) ∧ (∃ g, r1.ts = r.ts ++ [⟨g, fv15 g12 (⟨g25, g29, (rs.getD i Ac0).bad⟩ : XT), false, false⟩]) ∧ x1.el = x.el ++ [false] ∧ x1.bl = x.bl ++ [false] := by
              rcases hcase with h1 | ⟨h1, _⟩
              · exact h1
              · rw [h1] at hc4; simp at hc4
            have hB1 : Both r1 x1 (left ++ [max 0 (rs.getD i Ac0).n]) g12 (xs ++ [(⟨g25, g29, (rs.getD i Ac0).bad⟩ : XT)]) (i + 1) := both_add hB hok1 hxok1 hs1 hxs1 hb1 hr1t hx1e hx1b (by have := hxo.2; constructor <;> omega)
            refine j_subl (S' := [r1.heap, x1.heap, [(g29, .cells [Value.bool (rs.getD i Ac0).bad].toArray 4 (0, 0))], [(g25, .cells [Value.int .i64 (left.length : Int)].toArray 3 (0, 0))], [(g12, .cells [v36].toArray 36 (0, 0))], c36, boxes 0 xs]) (by repeat first | exact List.Sublist.refl _ | exact List.nil_sublist _ | apply List.Sublist.cons_cons | apply List.Sublist.cons) ?_
            refine j_perm (S' := [r1.heap, x1.heap, UL g12 v36 c36 (xs ++ [(⟨g25, g29, (rs.getD i Ac0).bad⟩ : XT)])]) (by
              classical
              refine List.perm_iff_count.2 fun a => ?_
              rw [hll, ← hB.xl]
              simp only [UL, boxes_app, boxes, Nat.zero_add, List.flatten_cons, List.flatten_nil, List.append_nil, List.nil_append, List.cons_append, List.count_append, List.count_cons, List.count_nil] <;> omega) ?_
            refine j_q (qs_call ent14 rfl rfl rfl (fun w' hw' => leftR_con r1 w' (fun q hq => rdo_mem 0 rfl hq w' hw') hB1.rok)) ?_
            refine j_q (qs_ext (vs := [.int .i64 (alive r1.ts : Nat), .int .i64 r1.steps]) rfl rfl) ?_
            refine j_q (qs_ext (vs := [.int .i64 (alive r1.ts : Nat), .int .i64 r1.steps]) rfl rfl) ?_
            refine j_q (qs_call ent21 rfl rfl rfl (fun w' hw' => wleft_con x1 w' (fun q hq => rdo_mem 1 rfl hq w' hw') hB1.xok)) ?_
            refine j_q (qs_neq rfl rfl) ?_
            refine j_g rfl (fun hb => qs_mt rfl) ?_
            refine j_g rfl (fun hb => qs_mt rfl) ?_
            refine j_g rfl (fun hb => qs_nil (gd_eq hb)) ?_
            refine j_g rfl (fun hb => qs_field Try.underlying35 rfl sz3 (by decide) (gd_eq hb)) ?_
            refine j_g rfl (fun hb => qs_loadO (l := wcells x1) (rdo_mem (o := WM.obj x1) 1 rfl (by simp [WM.heap])) Try.underlying3 rfl (gd_eq hb) rfl) ?_
            refine j_g rfl (fun hb => qs_neq (gd_eq hb) (gd_eq hb)) ?_
            refine j_q (qs_or rfl rfl) ?_
            refine j_cond rfl (fun hc6 => ?_) (fun hc6 => ?_)
            · skip
              rw [hB1.el, aliveB_map, hB1.st] at hc6
              simp [gd] at hc6
            · skip
              refine j_q (qs_add64 rfl rfl (by first | omega | (simp only [Bool.and_eq_true, Bool.or_eq_true, Bool.and_eq_false_iff, Bool.or_eq_false_iff, Bool.not_eq_true', Bool.not_eq_false', decide_eq_true_eq, decide_eq_false_iff_not, beq_iff_eq, beq_eq_false_iff_ne, bne_iff_ne, bne_eq_false_iff_eq, ne_eq, Int.toNat_natCast] at *; omega))) ?_
              refine j_back rfl ?_
              exact ⟨rs.length - (i + 1), by omega, i + 1, r1, x1, _, _, c36, _, rfl, rfl, rfl, rfl, hB1, hleft, by omega, rfl⟩
      · skip
        refine j_q (qs_eql rfl rfl) ?_
        refine j_cond rfl (fun hc7 => ?_) (fun hc7 => ?_)
        · skip
          refine j_perm (S' := [[(g18, .cells [Value.int .i64 (rs.getD i Ac0).kind, .int .i64 (rs.getD i Ac0).n, .bool (rs.getD i Ac0).bad].toArray 38 (0, 0))], r.heap, x.heap, [(g12, .cells [.slice Al left.length capl].toArray 36 (0, 0))], lc, boxes 0 xs]) (by
            classical
            refine List.perm_iff_count.2 fun a => ?_
            simp only [UL, List.flatten_cons, List.flatten_nil, List.append_nil, List.nil_append, List.cons_append, List.count_append, List.count_cons, List.count_nil] <;> omega) ?_
          refine j_q (qs_field Try.underlying38 rfl sz3 (by decide) rfl) ?_
          refine j_q (qs_load (l := [Value.int .i64 (rs.getD i Ac0).kind, .int .i64 (rs.getD i Ac0).n, .bool (rs.getD i Ac0).bad]) 0 Try.underlying3 rfl rfl rfl rfl) ?_
          refine j_q (qs_call ent17 rfl rfl rfl (fun w' hw' => wpick_con x (rs.getD i Ac0).n w' (fun q hq => rdo_mem 2 rfl hq w' hw') hB.xok)) ?_
          obtain ⟨pk, hpk⟩ : ∃ p, p = pickB x.el x.bl (rs.getD i Ac0).n := ⟨_, rfl⟩
          rw [← hpk]
          have hpl : pk < (left.length : Int) := by
            rw [hpk, hB.el, hB.bl, pickB_map]
            split
            · omega
            · rename_i hgo
              have := (goers_at (ts := r.ts) (i := r.ts.length) (k := (max 0 (rs.getD i Ac0).n).toNat % (goers r.ts r.ts.length).length) (Nat.mod_lt _ (List.length_pos_iff.2 hgo))).1
              unfold pickN
              omega
          refine j_q (qs_geq rfl rfl) ?_
          refine j_g rfl (fun hb => qs_load (l := [.slice Al left.length capl]) 3 Try.underlying36 rfl rfl rfl rfl) ?_
          refine j_g rfl (fun hb => qs_mt rfl) ?_
          obtain ⟨gl, hgl⟩ : ∃ gl, 0 ≤ pk → Al = some ⟨gl, 0, none⟩ := by
            by_cases h0 : 0 ≤ pk
            · obtain ⟨gl, e⟩ := own_addr hlo (by rw [ks_length]; omega)
              exact ⟨gl, fun _ => e⟩
            · exact ⟨0, fun h => absurd h h0⟩
          refine j_g rfl (fun hb => qs_ixg (g := gl) (n := left.length) (c := capl) Try.underlying36 sz3 ((gd_eq hb).trans (by rw [hgl (by simpa using hb)])) (gd_eq hb) ⟨by simpa using hb, hpl⟩) ?_
          refine j_g rfl (fun hb => qs_loadR (v := .int .i64 (left.getD pk.toNat 0)) (a := ⟨gl, 0, none⟩) (i := pk.toNat) (by have h1 := hlo; rw [hgl (by simpa using hb)] at h1; exact own_rd h1 4 rfl) Try.underlying3 rfl ((gd_eq hb).trans (by rw [add0])) (ks_get (by have h0 : 0 ≤ pk := (by simpa using hb); omega))) ?_
          refine j_g rfl (fun hb => qs_leq (gd_eq hb) rfl) ?_
          refine j_q (qs_and rfl rfl) ?_
          refine j_q (qs_field Try.underlying38 rfl sz3 (by decide) rfl) ?_
          refine j_q (qs_load (l := [Value.int .i64 (rs.getD i Ac0).kind, .int .i64 (rs.getD i Ac0).n, .bool (rs.getD i Ac0).bad]) 0 Try.underlying3 rfl rfl rfl rfl) ?_
          refine j_perm (S' := [[(g18, .cells [Value.int .i64 (rs.getD i Ac0).kind, .int .i64 (rs.getD i Ac0).n, .bool (rs.getD i Ac0).bad].toArray 38 (0, 0))], r.heap ++ UL g12 (.slice Al left.length capl) lc xs, x.heap]) (by
            classical
            refine List.perm_iff_count.2 fun a => ?_
            simp only [UL, List.flatten_cons, List.flatten_nil, List.append_nil, List.nil_append, List.cons_append, List.count_append, List.count_cons, List.count_nil] <;> omega) ?_
          refine j_call 1 ent12 rfl rfl rfl rfl (fun w' hw' => stepR_con r x g12 _ lc left xs i (rs.getD i Ac0).n w' hB hlo (by omega) ent15) (fun u S2 hu => ?_)
          obtain ⟨y, r1, lc1, left1, rfl, rfl, hlo1, hgr1, hok1, hb1, hcase⟩ := hu
          rw [← hpk] at hcase ⊢
          refine j_subl (S' := [r1.heap, UL g12 (.slice Al left.length capl) lc1 xs, x.heap]) (by repeat first | exact List.Sublist.refl _ | exact List.nil_sublist _ | apply List.Sublist.cons_cons | apply List.Sublist.cons) ?_
          rw [← hgr1]
          have hxel : x.el.length = r.ts.length := by rw [hB.el, List.length_map]
          refine j_q (qs_ext (vs := [.int .i64 pk, .bool y]) rfl rfl) ?_
          refine j_q (qs_ext (vs := [.int .i64 pk, .bool y]) rfl rfl) ?_
          refine j_q (qs_neq rfl rfl) ?_
          refine j_g rfl (fun hb => qs_mt rfl) ?_
          refine j_g rfl (fun hb => qs_mt rfl) ?_
          refine j_g rfl (fun hb => qs_geq (gd_eq hb) rfl) ?_
          refine j_g rfl (fun hb => qs_bne Try.underlying4 (gd_eq hb) (gd_eq hb)) ?_
          refine j_q (qs_or rfl rfl) ?_
          refine j_cond rfl (fun hc8 => ?_) (fun hc8 => ?_)
          · skip
            exfalso
            rcases hcase with ⟨rfl, hp, _⟩ | ⟨rfl, hp, _⟩
            · rw [hp] at hc8; simp [gd] at hc8
            · rw [hp] at hc8; simp [gd] at hc8
              try omega
          · skip
            refine j_q (qs_geq rfl rfl) ?_
            refine j_cond rfl (fun hc9 => ?_) (fun hc9 => ?_)
            · skip
              have hp0 : 0 ≤ pk := by simpa using hc9
              obtain ⟨hyt, hp, hpn, hen0, hl1, hr1⟩ : y = true ∧ pk = (pickN r.ts (rs.getD i Ac0).n : Int) ∧ pickN r.ts (rs.getD i Ac0).n < r.ts.length ∧ (r.ts.getD (pickN r.ts (rs.getD i Ac0).n) TM0).en = false ∧ left1 = left.set (pickN r.ts (rs.getD i Ac0).n) (left.getD (pickN r.ts (rs.getD i Ac0).n) 0 - 1) ∧ r1 = after { r with busy := true, steps := r.steps + 1 } (pickN r.ts (rs.getD i Ac0).n) (decide (1 ≤ left.getD (pickN r.ts (rs.getD i Ac0).n) 0 - 1)) := by
                rcases hcase with ⟨_, h1, _⟩ | h1
                · omega
                · exact h1
              obtain ⟨⟨Ae, ce, ge, hev, hce, hAe⟩, ⟨Ab, cb, gb, hbv, hcb, hAb⟩⟩ := ownb_form hB.xok
              have hoe := hB.xok.e
              rw [hev, hAe (by omega)] at hoe
              obtain ⟨rest, fz, hec, hq1, hq2, hq3, hq4⟩ := own_row hoe
              rw [bls_length] at hq1
              refine j_perm (S' := [r1.heap, UL g12 (.slice Al left.length capl) lc1 xs, [(x.gw, x.obj)], [(ge, .cells (bls x.el ++ rest).toArray 4 fz)], x.bc]) (by
                classical
                refine List.perm_iff_count.2 fun a => ?_
                rw [WM.heap, hec]
                simp only [List.flatten_cons, List.flatten_nil, List.append_nil, List.nil_append, List.cons_append, List.count_append, List.count_cons, List.count_nil] <;> omega) ?_
              obtain ⟨nn, hnn⟩ : ∃ n, n = pickN r.ts (rs.getD i Ac0).n := ⟨_, rfl⟩
              rw [← hnn] at hp hpn hen0 hl1 hr1
              have hends : (decide (pk ≥ 0) && decide (left.getD pk.toNat 0 ≤ 1)) = decide (left.getD nn 0 ≤ 1) := by
                rw [hp, Int.toNat_natCast]
                simp
              refine j_q (qs_nil rfl) ?_
              refine j_q (qs_field Try.underlying35 rfl sz3 (by decide) rfl) ?_
              refine j_q (qs_load (l := wcells x) 2 Try.underlying3 rfl rfl rfl rfl) ?_
              have hst := hB.st
              refine j_q (qs_add64 rfl rfl (by first | omega | (simp only [Bool.and_eq_true, Bool.or_eq_true, Bool.and_eq_false_iff, Bool.or_eq_false_iff, Bool.not_eq_true', Bool.not_eq_false', decide_eq_true_eq, decide_eq_false_iff_not, beq_iff_eq, beq_eq_false_iff_ne, bne_iff_ne, bne_eq_false_iff_eq, ne_eq, Int.toNat_natCast] at *; omega))) ?_
              refine j_q (qs_nil rfl) ?_
              refine j_q (qs_field Try.underlying35 rfl sz3 (by decide) rfl) ?_
              refine j_store (l := wcells x) 2 sz3 rfl rfl rfl rfl (by simp) (by simp) ?_
              refine j_q (qs_nil rfl) ?_
              refine j_q (qs_field Try.underlying35 rfl sz33 (by decide) rfl) ?_
              refine j_q (qs_load (l := [x.ev_, x.bv, .int .i64 (x.steps + 1)]) 2 Try.underlying33 rfl rfl rfl rfl) ?_
              refine j_q (qs_ixg (g := ge) (n := x.el.length) (c := ce) Try.underlying33 sz4 (hev.trans (by rw [hAe (by omega)])) rfl ⟨hp0, by omega⟩) ?_
              refine j_store (l := bls x.el ++ rest) 3 sz4 rfl rfl rfl rfl (by rw [List.length_append, bls_length]; omega) (hq4 _ (by rw [List.length_append, bls_length]; omega)) ?_
              have hset : (bls x.el ++ rest).set pk.toNat (.bool (decide (pk ≥ 0) && decide (left.getD pk.toNat 0 ≤ 1))) = bls (x.el.set nn (decide (left.getD nn 0 ≤ 1))) ++ rest := by
                rw [hends, hp, Int.toNat_natCast, List.set_append_left _ _ (by rw [bls_length]; omega)]
                unfold bls
                rw [List.map_set]
              refine j_perm (S' := [r1.heap, UL g12 (.slice Al left.length capl) lc1 xs, [(x.gw, .cells [x.ev_, x.bv, .int .i64 (x.steps + 1)].toArray 35 (0, 0))], [(ge, .cells (bls (x.el.set nn (decide (left.getD nn 0 ≤ 1))) ++ rest).toArray 4 fz)], x.bc]) (by rw [← hset]; exact List.Perm.of_eq rfl) ?_
              obtain ⟨x1, hx1⟩ : ∃ x1, x1 = ({ x with steps := x.steps + 1, el := x.el.set nn (decide (left.getD nn 0 ≤ 1)), ec := [(ge, .cells (bls (x.el.set nn (decide (left.getD nn 0 ≤ 1))) ++ rest).toArray 4 fz)] } : WM) := ⟨_, rfl⟩
              have hxok1 : x1.Ok := by
                rw [hx1]
                refine ⟨.inr ⟨ge, x.el.length, ce, rest, fz, by show x.ev_ = _; rw [hev, hAe (by omega)], rfl, by rw [bls_length, List.length_set]; omega, ?_, hq3, ?_⟩, hB.xok.b, by show x.bl.length = (x.el.set _ _).length; rw [List.length_set]; exact hB.xok.len, by show (x.el.set _ _).length ≤ _; rw [List.length_set]; exact hB.xok.few⟩
                · rw [List.length_append, bls_length, List.length_set]
                  rw [List.length_append, bls_length] at hq2
                  exact hq2
                · intro j hj
                  refine hq4 j ?_
                  rw [List.length_append, bls_length, List.length_set] at hj
                  rw [List.length_append, bls_length]
                  exact hj
              have hB1 : Both r1 x1 left1 g12 xs (i + 1) := by
                rw [hl1]
                exact both_step hB hok1 hxok1 hpn hen0 hr1 (by rw [hx1]) (by rw [hx1]) (by rw [hx1])
              have hgw1 : x1.gw = x.gw := by rw [hx1]
              refine j_perm (S' := [r1.heap, x1.heap, UL g12 (.slice Al left.length capl) lc1 xs]) (by
                classical
                refine List.perm_iff_count.2 fun a => ?_
                rw [hx1]
                simp only [WM.heap, WM.obj, wcells, List.flatten_cons, List.flatten_nil, List.append_nil, List.nil_append, List.cons_append, List.count_append, List.count_cons, List.count_nil] <;> omega) ?_
              rw [← hgw1]
              refine j_q (qs_call ent14 rfl rfl rfl (fun w' hw' => leftR_con r1 w' (fun q hq => rdo_mem 0 rfl hq w' hw') hB1.rok)) ?_
              refine j_q (qs_ext (vs := [.int .i64 (alive r1.ts : Nat), .int .i64 r1.steps]) rfl rfl) ?_
              refine j_q (qs_ext (vs := [.int .i64 (alive r1.ts : Nat), .int .i64 r1.steps]) rfl rfl) ?_
              refine j_q (qs_call ent21 rfl rfl rfl (fun w' hw' => wleft_con x1 w' (fun q hq => rdo_mem 1 rfl hq w' hw') hB1.xok)) ?_
              refine j_q (qs_neq rfl rfl) ?_
              refine j_g rfl (fun hb => qs_mt rfl) ?_
              refine j_g rfl (fun hb => qs_mt rfl) ?_
              refine j_g rfl (fun hb => qs_nil (gd_eq hb)) ?_
              refine j_g rfl (fun hb => qs_field Try.underlying35 rfl sz3 (by decide) (gd_eq hb)) ?_
              refine j_g rfl (fun hb => qs_loadO (l := wcells x1) (rdo_mem (o := WM.obj x1) 1 rfl (by simp [WM.heap])) Try.underlying3 rfl (gd_eq hb) rfl) ?_
              refine j_g rfl (fun hb => qs_neq (gd_eq hb) (gd_eq hb)) ?_
              refine j_q (qs_or rfl rfl) ?_
              refine j_cond rfl (fun hc10 => ?_) (fun hc10 => ?_)
              · skip
                rw [hB1.el, aliveB_map, hB1.st] at hc10
                simp [gd] at hc10
              · skip
                refine j_q (qs_add64 rfl rfl (by first | omega | (simp only [Bool.and_eq_true, Bool.or_eq_true, Bool.and_eq_false_iff, Bool.or_eq_false_iff, Bool.not_eq_true', Bool.not_eq_false', decide_eq_true_eq, decide_eq_false_iff_not, beq_iff_eq, beq_eq_false_iff_ne, bne_iff_ne, bne_eq_false_iff_eq, ne_eq, Int.toNat_natCast] at *; omega))) ?_
                refine j_back rfl ?_
                exact ⟨rs.length - (i + 1), by omega, i + 1, r1, x1, left1, _, lc1, xs, rfl, rfl, rfl, rfl, hB1, hlo1, by omega, rfl⟩
            · skip
              have hp0 : pk < 0 := by simpa using hc9
              obtain ⟨hp, hr1, hl1⟩ : pk = -1 ∧ r1 = r ∧ left1 = left := by
                rcases hcase with ⟨_, h1, h2⟩ | ⟨_, h1, _⟩
                · exact ⟨h1, h2⟩
                · omega
              obtain ⟨x1, hx1⟩ : ∃ x1, x1 = x := ⟨_, rfl⟩
              have hB1 : Both r1 x1 left1 g12 xs (i + 1) := by
                rw [hl1]
                exact both_same hB hok1 (by rw [hx1]; exact hB.xok) (by rw [hr1]) (by rw [hx1]) (by rw [hr1]) (by rw [hr1]) (by rw [hx1]) (by rw [hx1])
              have hgw1 : x1.gw = x.gw := by rw [hx1]
              refine j_perm (S' := [r1.heap, x1.heap, UL g12 (.slice Al left.length capl) lc1 xs]) (by
                classical
                refine List.perm_iff_count.2 fun a => ?_
                rw [hx1]
                simp only [List.flatten_cons, List.flatten_nil, List.append_nil, List.nil_append, List.cons_append, List.count_append, List.count_cons, List.count_nil] <;> omega) ?_
              rw [← hgw1]
              refine j_q (qs_call ent14 rfl rfl rfl (fun w' hw' => leftR_con r1 w' (fun q hq => rdo_mem 0 rfl hq w' hw') hB1.rok)) ?_
              refine j_q (qs_ext (vs := [.int .i64 (alive r1.ts : Nat), .int .i64 r1.steps]) rfl rfl) ?_
              refine j_q (qs_ext (vs := [.int .i64 (alive r1.ts : Nat), .int .i64 r1.steps]) rfl rfl) ?_
              refine j_q (qs_call ent21 rfl rfl rfl (fun w' hw' => wleft_con x1 w' (fun q hq => rdo_mem 1 rfl hq w' hw') hB1.xok)) ?_
              refine j_q (qs_neq rfl rfl) ?_
              refine j_g rfl (fun hb => qs_mt rfl) ?_
              refine j_g rfl (fun hb => qs_mt rfl) ?_
              refine j_g rfl (fun hb => qs_nil (gd_eq hb)) ?_
              refine j_g rfl (fun hb => qs_field Try.underlying35 rfl sz3 (by decide) (gd_eq hb)) ?_
              refine j_g rfl (fun hb => qs_loadO (l := wcells x1) (rdo_mem (o := WM.obj x1) 1 rfl (by simp [WM.heap])) Try.underlying3 rfl (gd_eq hb) rfl) ?_
              refine j_g rfl (fun hb => qs_neq (gd_eq hb) (gd_eq hb)) ?_
              refine j_q (qs_or rfl rfl) ?_
              refine j_cond rfl (fun hc11 => ?_) (fun hc11 => ?_)
              · skip
                rw [hB1.el, aliveB_map, hB1.st] at hc11
                simp [gd] at hc11
              · skip
                refine j_q (qs_add64 rfl rfl (by first | omega | (simp only [Bool.and_eq_true, Bool.or_eq_true, Bool.and_eq_false_iff, Bool.or_eq_false_iff, Bool.not_eq_true', Bool.not_eq_false', decide_eq_true_eq, decide_eq_false_iff_not, beq_iff_eq, beq_eq_false_iff_ne, bne_iff_ne, bne_eq_false_iff_eq, ne_eq, Int.toNat_natCast] at *; omega))) ?_
                refine j_back rfl ?_
                exact ⟨rs.length - (i + 1), by omega, i + 1, r1, x1, left1, _, lc1, xs, rfl, rfl, rfl, rfl, hB1, hlo1, by omega, rfl⟩
        · skip
          refine j_q (qs_eql rfl rfl) ?_
          refine j_cond rfl (fun hc12 => ?_) (fun hc12 => ?_)
          · skip
            refine j_mix [[(g18, .cells [Value.int .i64 (rs.getD i Ac0).kind, .int .i64 (rs.getD i Ac0).n, .bool (rs.getD i Ac0).bad].toArray 38 (0, 0))]] (Le.of_sub (by repeat first | exact List.Sublist.refl _ | exact List.nil_sublist _ | apply List.Sublist.cons_cons | apply List.Sublist.cons)) ?_
            refine j_mq (qs_field Try.underlying38 rfl sz3 (by decide) rfl) ?_
            refine j_mq (qs_load (l := [Value.int .i64 (rs.getD i Ac0).kind, .int .i64 (rs.getD i Ac0).n, .bool (rs.getD i Ac0).bad]) 0 Try.underlying3 rfl rfl rfl rfl) ?_
            refine j_mq (qs_field Try.underlying38 rfl sz3 (by decide) rfl) ?_
            refine j_mq (qs_load (l := [Value.int .i64 (rs.getD i Ac0).kind, .int .i64 (rs.getD i Ac0).n, .bool (rs.getD i Ac0).bad]) 0 Try.underlying3 rfl rfl rfl rfl) ?_
            refine j_call 1 ent18 rfl rfl rfl rfl (fun w' hw' => blockA_con r (rs.getD i Ac0).n true w' hB.rok hxo.2) (fun u1 S2 hu => ?_)
            obtain ⟨r1, rfl, hok1, hgr1, hs1, hb1, rfl, hr1t⟩ := hu
            refine j_mD0 (Le.of_sub (by repeat first | exact List.Sublist.refl _ | exact List.nil_sublist _ | apply List.Sublist.cons_cons | apply List.Sublist.cons)) ?_
            refine j_call 3 ent19 rfl rfl rfl rfl (fun w' hw' => wblockA_con x (rs.getD i Ac0).n true w' hB.xok) (fun u2 S2 hu => ?_)
            obtain ⟨x1, rfl, hxok1, hgw1, hxs1, rfl, hx1e, hx1b⟩ := hu
            have hB1 : Both r1 x1 left g12 xs (i + 1) := both_block hB hok1 hxok1 hs1 hxs1 hb1 hr1t hx1e hx1b
            refine j_perm (S' := [r1.heap, x1.heap, UL g12 (.slice Al left.length capl) lc xs, [(g18, .cells [Value.int .i64 (rs.getD i Ac0).kind, .int .i64 (rs.getD i Ac0).n, .bool (rs.getD i Ac0).bad].toArray 38 (0, 0))]]) (by
              classical
              show ([x1.heap, r1.heap, [(g18, .cells [Value.int .i64 (rs.getD i Ac0).kind, .int .i64 (rs.getD i Ac0).n, .bool (rs.getD i Ac0).bad].toArray 38 (0, 0))], [], [], UL g12 (.slice Al left.length capl) lc xs] : List SH).flatten.Perm _
              refine List.perm_iff_count.2 fun a => ?_
              simp only [List.flatten_cons, List.flatten_nil, List.append_nil, List.nil_append, List.cons_append, List.count_append, List.count_cons, List.count_nil] <;> omega) ?_
            refine j_subl (S' := [r1.heap, x1.heap, UL g12 (.slice Al left.length capl) lc xs]) (by repeat first | exact List.Sublist.refl _ | exact List.nil_sublist _ | apply List.Sublist.cons_cons | apply List.Sublist.cons) ?_
            rw [← hgr1, ← hgw1]
            refine j_mR _ (.refl _) ?_
            refine j_mq (qs_bne Try.underlying4 rfl rfl) ?_
            refine j_mend ?_
            refine j_cond rfl (fun hc13 => ?_) (fun hc13 => ?_)
            · skip
              rw [hB.el] at hc13
              simp at hc13
            · skip
              refine j_q (qs_call ent14 rfl rfl rfl (fun w' hw' => leftR_con r1 w' (fun q hq => rdo_mem 0 rfl hq w' hw') hB1.rok)) ?_
              refine j_q (qs_ext (vs := [.int .i64 (alive r1.ts : Nat), .int .i64 r1.steps]) rfl rfl) ?_
              refine j_q (qs_ext (vs := [.int .i64 (alive r1.ts : Nat), .int .i64 r1.steps]) rfl rfl) ?_
              refine j_q (qs_call ent21 rfl rfl rfl (fun w' hw' => wleft_con x1 w' (fun q hq => rdo_mem 1 rfl hq w' hw') hB1.xok)) ?_
              refine j_q (qs_neq rfl rfl) ?_
              refine j_g rfl (fun hb => qs_mt rfl) ?_
              refine j_g rfl (fun hb => qs_mt rfl) ?_
              refine j_g rfl (fun hb => qs_nil (gd_eq hb)) ?_
              refine j_g rfl (fun hb => qs_field Try.underlying35 rfl sz3 (by decide) (gd_eq hb)) ?_
              refine j_g rfl (fun hb => qs_loadO (l := wcells x1) (rdo_mem (o := WM.obj x1) 1 rfl (by simp [WM.heap])) Try.underlying3 rfl (gd_eq hb) rfl) ?_
              refine j_g rfl (fun hb => qs_neq (gd_eq hb) (gd_eq hb)) ?_
              refine j_q (qs_or rfl rfl) ?_
              refine j_cond rfl (fun hc14 => ?_) (fun hc14 => ?_)
              · skip
                rw [hB1.el, aliveB_map, hB1.st] at hc14
                simp [gd] at hc14
              · skip
                refine j_q (qs_add64 rfl rfl (by first | omega | (simp only [Bool.and_eq_true, Bool.or_eq_true, Bool.and_eq_false_iff, Bool.or_eq_false_iff, Bool.not_eq_true', Bool.not_eq_false', decide_eq_true_eq, decide_eq_false_iff_not, beq_iff_eq, beq_eq_false_iff_ne, bne_iff_ne, bne_eq_false_iff_eq, ne_eq, Int.toNat_natCast] at *; omega))) ?_
                refine j_back rfl ?_
                exact ⟨rs.length - (i + 1), by omega, i + 1, r1, x1, left, _, lc, xs, rfl, rfl, rfl, rfl, hB1, hlo, by omega, rfl⟩
          · skip
            refine j_mix [[(g18, .cells [Value.int .i64 (rs.getD i Ac0).kind, .int .i64 (rs.getD i Ac0).n, .bool (rs.getD i Ac0).bad].toArray 38 (0, 0))]] (Le.of_sub (by repeat first | exact List.Sublist.refl _ | exact List.nil_sublist _ | apply List.Sublist.cons_cons | apply List.Sublist.cons)) ?_
            refine j_mq (qs_field Try.underlying38 rfl sz3 (by decide) rfl) ?_
            refine j_mq (qs_load (l := [Value.int .i64 (rs.getD i Ac0).kind, .int .i64 (rs.getD i Ac0).n, .bool (rs.getD i Ac0).bad]) 0 Try.underlying3 rfl rfl rfl rfl) ?_
            refine j_mq (qs_field Try.underlying38 rfl sz3 (by decide) rfl) ?_
            refine j_mq (qs_load (l := [Value.int .i64 (rs.getD i Ac0).kind, .int .i64 (rs.getD i Ac0).n, .bool (rs.getD i Ac0).bad]) 0 Try.underlying3 rfl rfl rfl rfl) ?_
            refine j_call 1 ent20 rfl rfl rfl rfl (fun w' hw' => blockA_con r (rs.getD i Ac0).n false w' hB.rok hxo.2) (fun u1 S2 hu => ?_)
            obtain ⟨r1, rfl, hok1, hgr1, hs1, hb1, rfl, hr1t⟩ := hu
            refine j_mD0 (Le.of_sub (by repeat first | exact List.Sublist.refl _ | exact List.nil_sublist _ | apply List.Sublist.cons_cons | apply List.Sublist.cons)) ?_
            refine j_call 3 ent19 rfl rfl rfl rfl (fun w' hw' => wblockA_con x (rs.getD i Ac0).n false w' hB.xok) (fun u2 S2 hu => ?_)
            obtain ⟨x1, rfl, hxok1, hgw1, hxs1, rfl, hx1e, hx1b⟩ := hu
            have hB1 : Both r1 x1 left g12 xs (i + 1) := both_block hB hok1 hxok1 hs1 hxs1 hb1 hr1t hx1e hx1b
            refine j_perm (S' := [r1.heap, x1.heap, UL g12 (.slice Al left.length capl) lc xs, [(g18, .cells [Value.int .i64 (rs.getD i Ac0).kind, .int .i64 (rs.getD i Ac0).n, .bool (rs.getD i Ac0).bad].toArray 38 (0, 0))]]) (by
              classical
              show ([x1.heap, r1.heap, [(g18, .cells [Value.int .i64 (rs.getD i Ac0).kind, .int .i64 (rs.getD i Ac0).n, .bool (rs.getD i Ac0).bad].toArray 38 (0, 0))], [], [], UL g12 (.slice Al left.length capl) lc xs] : List SH).flatten.Perm _
              refine List.perm_iff_count.2 fun a => ?_
              simp only [List.flatten_cons, List.flatten_nil, List.append_nil, List.nil_append, List.cons_append, List.count_append, List.count_cons, List.count_nil] <;> omega) ?_
            refine j_subl (S' := [r1.heap, x1.heap, UL g12 (.slice Al left.length capl) lc xs]) (by repeat first | exact List.Sublist.refl _ | exact List.nil_sublist _ | apply List.Sublist.cons_cons | apply List.Sublist.cons) ?_
            rw [← hgr1, ← hgw1]
            refine j_mR _ (.refl _) ?_
            refine j_mq (qs_bne Try.underlying4 rfl rfl) ?_
            refine j_mend ?_
            refine j_cond rfl (fun hc15 => ?_) (fun hc15 => ?_)
            · skip
              rw [hB.el] at hc15
              simp at hc15
            · skip
              refine j_q (qs_call ent14 rfl rfl rfl (fun w' hw' => leftR_con r1 w' (fun q hq => rdo_mem 0 rfl hq w' hw') hB1.rok)) ?_
              refine j_q (qs_ext (vs := [.int .i64 (alive r1.ts : Nat), .int .i64 r1.steps]) rfl rfl) ?_
              refine j_q (qs_ext (vs := [.int .i64 (alive r1.ts : Nat), .int .i64 r1.steps]) rfl rfl) ?_
              refine j_q (qs_call ent21 rfl rfl rfl (fun w' hw' => wleft_con x1 w' (fun q hq => rdo_mem 1 rfl hq w' hw') hB1.xok)) ?_
              refine j_q (qs_neq rfl rfl) ?_
              refine j_g rfl (fun hb => qs_mt rfl) ?_
              refine j_g rfl (fun hb => qs_mt rfl) ?_
              refine j_g rfl (fun hb => qs_nil (gd_eq hb)) ?_
              refine j_g rfl (fun hb => qs_field Try.underlying35 rfl sz3 (by decide) (gd_eq hb)) ?_
              refine j_g rfl (fun hb => qs_loadO (l := wcells x1) (rdo_mem (o := WM.obj x1) 1 rfl (by simp [WM.heap])) Try.underlying3 rfl (gd_eq hb) rfl) ?_
              refine j_g rfl (fun hb => qs_neq (gd_eq hb) (gd_eq hb)) ?_
              refine j_q (qs_or rfl rfl) ?_
              refine j_cond rfl (fun hc16 => ?_) (fun hc16 => ?_)
              · skip
                rw [hB1.el, aliveB_map, hB1.st] at hc16
                simp [gd] at hc16
              · skip
                refine j_q (qs_add64 rfl rfl (by first | omega | (simp only [Bool.and_eq_true, Bool.or_eq_true, Bool.and_eq_false_iff, Bool.or_eq_false_iff, Bool.not_eq_true', Bool.not_eq_false', decide_eq_true_eq, decide_eq_false_iff_not, beq_iff_eq, beq_eq_false_iff_ne, bne_iff_ne, bne_eq_false_iff_eq, ne_eq, Int.toNat_natCast] at *; omega))) ?_
                refine j_back rfl ?_
                exact ⟨rs.length - (i + 1), by omega, i + 1, r1, x1, left, _, lc, xs, rfl, rfl, rfl, rfl, hB1, hlo, by omega, rfl⟩
    · skip
      skip
      refine j_q (qs_call ent13 rfl rfl rfl (fun w' hw' => addR0_con r .nilFunc w' (fun q hq => rdo_mem 0 rfl hq w' hw') hB.rok (.inl rfl) (.inl rfl))) ?_
      refine j_q (qs_eql rfl rfl) ?_
      refine j_g rfl (fun hb => qs_call ent9 rfl rfl (args0) (fun w' hw' => known_con w')) ?_
      refine j_q (qs_and rfl rfl) ?_
      refine j_ret_con (vs := [_]) (fun w' hw' => ⟨rfl, trivial⟩) ?_
      rfl
end Go.Proofs.Ytlgfpoelhjlifaa
