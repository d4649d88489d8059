/- Part 9. -/
import Derived.Test.YtfeabbeebkkhaaaGreatPD8
import Derived.Tactics
import Derived.Tactics2
import Derived.Defers
import Derived.Recover
import Derived.Test.YtfeabbeebkkhaaaGreatPD2
/-! Do4 -/
namespace Go.Proofs.YtfeabbeebkkhaaaGreat
open Go Go.Sx
set_option linter.unusedVariables false
set_option linter.unusedSimpArgs false
set_option maxRecDepth 100000
attribute [local irreducible] J JQ QS Con W opW es qt cms hex Tbl Half lst dtext chk isName
abbrev pd0 : PD := ⟨[], [], [], [], [], [], [], []⟩
abbrev nilv : Value := .slice none 0 0
abbrev dv0 : DV := ⟨nilv, nilv, nilv, nilv, nilv, []⟩
theorem zero28d : zeroL Tryz.prog 28 = some (dcells pd0 dv0) := by kernel_rfl
theorem zero31k : zeroL Tryz.prog 31 = some (ks .i64 [0]) := by kernel_rfl
theorem zero84e : zeroL Tryz.prog 84 = some [] := by kernel_rfl
theorem szp28 : (Tryz.prog.info? 28).map (·.size) = some 8 := by kernel_rfl
theorem szp31 : (Tryz.prog.info? 31).map (·.size) = some 1 := by kernel_rfl
theorem szp84 : (Tryz.prog.info? 84).map (·.size) = some 0 := by kernel_rfl
theorem entp13 : Sx.Enters Tryz.prog 13 := ⟨_, Tryz.func13, by kernel_rfl, by kernel_rfl⟩
theorem entp44 : Sx.Enters Tryz.prog 44 := ⟨_, Tryz.func44, by kernel_rfl, by kernel_rfl⟩
theorem dcells_one {d : PD} {x : DV} {A1 A2 A3 A4 A5 : Option Addr} {n1 n2 n3 n4 n5 c1 c2 c3 c4 c5 : Nat} (h1 : x.va = .slice A1 n1 c1) (h2 : x.ve = .slice A2 n2 c2) (h3 : x.vi = .slice A3 n3 c3) (h4 : x.vs = .slice A4 n4 c4) (h5 : x.vo = .slice A5 n5 c5) : ∀ u ∈ dcells d x, oneV u = true := fun u hu => by
  simp only [dcells, h1, h2, h3, h4, h5, List.mem_cons, List.not_mem_nil, or_false] at hu
  rcases hu with rfl | rfl | rfl | rfl | rfl | rfl | rfl | rfl <;> rfl
theorem dcells0_one : ∀ u ∈ dcells pd0 dv0, oneV u = true := dcells_one rfl rfl rfl rfl rfl
def T43r : Tree := (.op (O (.binOp .eql 20 (.tmp 0) (.const (.nilIface)) 20) 4) (.cond (.tmp 0) (.ret []) (.op (O (.typeAssert (.tmp 1) 20 84 .true) 0) (.op (O (.extract (.tmp 0) 1) 4) (.op (O (.extract (.tmp 1) 0) 84) (.cond (.tmp 1) (.op (O (.alloc 84) 0) (.op (O (.store 84 (.tmp 0) (.tmp 1)) 0) (.op (O (.build 28 #[]) 28) (.op (O (.store 28 (.tmp 8) (.tmp 0)) 0) (.op (O (.store 31 (.tmp 10) (.const (.int .i64 3))) 0) (.ret [])))))) (.op (O (.panic (.tmp 4)) 0) (.ret []))))))))
theorem walk43 {b : Base} {S : List SH} (g0 g1 : Nat) (l0 : List Value) (k : Int) (hl : l0.length = 8) : J Tryz.prog (fun e w' => e = .returned (.tuple #[]) ∧ Sig b ([(g0, .cells (dcells pd0 dv0).toArray 28 (0, 0))] :: [(g1, .cells (ks .i64 [3]).toArray 31 (0, 0))] :: S) w') T43r [BADV, .pointer (some ⟨g0, 0, none⟩), .pointer (some ⟨g1, 0, none⟩)] ([(g0, .cells l0.toArray 28 (0, 0))] :: [(g1, .cells (ks .i64 [k]).toArray 31 (0, 0))] :: S) b [] := by
  unfold T43r
  refine j_q (qs_run (v := .bool false) (fun w => by kernel_rfl)) ?_
  refine j_cf rfl ?_
  refine j_q (qs_run (v := .tuple #[.agg #[], .bool true]) (fun w => by kernel_rfl)) ?_
  refine j_q (qs_run (v := .bool true) (fun w => by kernel_rfl)) ?_
  refine j_q (qs_run (v := .agg #[]) (fun w => by kernel_rfl)) ?_
  refine j_ct rfl ?_
  refine j_alloc zero84e (fun g hg hs => ?_)
  refine j_storew (l := []) (vs := []) 0 szp84 rfl rfl rfl (by simp) rfl rfl ?_
  refine j_q (qs_run (v := .agg (dcells pd0 dv0).toArray) (fun w => by kernel_rfl)) ?_
  refine j_storew (l := l0) (vs := dcells pd0 dv0) 1 szp28 rfl rfl rfl dcells0_one rfl hl ?_
  refine j_storek (ws := [k]) 2 szp31 rfl rfl rfl (by simp) ?_
  exact j_ret (vs := []) (fun _ _ => trivial) (fun w hw => ⟨rfl, hw.sub (sub_flatten (List.sublist_cons_self _ _))⟩)
theorem catch_bad {b : Base} {S : List SH} (g0 g1 : Nat) (l0 : List Value) (k : Int) (hl : l0.length = 8) (w : World) (hw : Sig b ([(g0, .cells l0.toArray 28 (0, 0))] :: [(g1, .cells (ks .i64 [k]).toArray 31 (0, 0))] :: S) w) :
    CallsD Tryz.prog 43 #[.pointer (some ⟨g0, 0, none⟩), .pointer (some ⟨g1, 0, none⟩)] (.panicking [{ v := BADV, recovered := false }]) w fun e u' w' => e = .returned (.tuple #[]) ∧ u' = .panicking [{ v := BADV, recovered := true }] ∧ Sig b ([(g0, .cells (dcells pd0 dv0).toArray 28 (0, 0))] :: [(g1, .cells (ks .i64 [3]).toArray 31 (0, 0))] :: S) w' := by
  refine callsD_of_wpS Tryz.func43 rfl fun c₀ cs hu => ?_
  apply wpS_seq
  apply wpS_region
  simp [wpOpsS, go_sem, recoverD, hu, Tryz.ntmps43, Exit.thenS]
  refine wpS_of_wp ?_
  refine wp_rest_code (hs := []) (rl := 0) (n := 3) (sf := [(5, 2), (1, 0), (0, 1)]) (T := T43r) (env := [BADV, .pointer (some ⟨g0, 0, none⟩), .pointer (some ⟨g1, 0, none⟩)]) (sz := 12) (fn := Tryz.f43) (R := fun e w' => e = .returned (.tuple #[]) ∧ Sig b ([(g0, .cells (dcells pd0 dv0).toArray 28 (0, 0))] :: [(g1, .cells (ks .i64 [3]).toArray 31 (0, 0))] :: S) w') (by kernel_rfl) (by kernel_rfl) rfl ?_ rfl (by have h := walk43 (b := b) (S := S) g0 g1 l0 k hl; unfold J at h; exact h w hw) ?_ ?_
  · refine rel_of fun p hp => ?_
    simp only [List.mem_cons, List.not_mem_nil, or_false] at hp
    rcases hp with rfl | rfl | rfl <;> exact ⟨by simp, by simp, rfl⟩
  · rintro a w2 v hd hres ⟨hv, hS⟩
    have h1 : v = .tuple #[] := by injection hv
    subst h1
    refine ⟨⟨hd, _, rfl, _, hres, rfl, rfl, hS⟩, ⟨hd, _, rfl, _, hres, rfl, rfl, hS⟩⟩
  · rintro ch a w2 ⟨hv, _⟩ _
    cases hv
theorem catch_none (p q : Value) (w : World) :
    CallsD Tryz.prog 43 #[p, q] .returning w fun e u' w' => e = .returned (.tuple #[]) ∧ u' = .returning ∧ w' = w := by
  refine callsD_of_wpS Tryz.func43 rfl fun c₀ cs hu => ?_
  apply wpS_seq
  apply wpS_region
  simp [wpOpsS, go_sem, recoverD, hu, Tryz.ntmps43, Exit.thenS]
  refine wpS_of_wp ?_
  refine wp_rest_code (hs := []) (rl := 0) (n := 3) (sf := [(5, 2), (1, 0), (0, 1)]) (T := T43r) (env := [.nilIface, p, q]) (sz := 12) (fn := Tryz.f43) (R := fun e w' => e = .returned (.tuple #[]) ∧ w' = w) (by kernel_rfl) (by kernel_rfl) rfl ?_ rfl ?_ ?_ ?_
  · refine rel_of fun p hp => ?_
    simp only [List.mem_cons, List.not_mem_nil, or_false] at hp
    rcases hp with rfl | rfl | rfl <;> exact ⟨by simp, by simp, rfl⟩
  · unfold T43r W opW
    rw [show (execOp (ev [.nilIface, p, q]) (O (.binOp .eql 20 (.tmp 0) (.const (.nilIface)) 20) 4)).run Tryz.prog w = .ok (.value (.bool true)) w from by kernel_rfl]
    unfold W
    exact ⟨true, rfl, fun _ => by unfold W; exact ⟨[], trivial, rfl, rfl⟩, fun h => by cases h⟩
  · rintro a w2 v hd hres ⟨hv, hS⟩
    have h1 : v = .tuple #[] := by injection hv
    subst h1 hS
    obtain ⟨c1, c2⟩ := c₀
    cases hu
    refine ⟨⟨hd, _, rfl, _, hres, rfl, rfl, rfl⟩, ⟨hd, _, rfl, _, hres, rfl, rfl, rfl⟩⟩
  · rintro ch a w2 ⟨hv, _⟩ _
    cases hv
theorem okD_chk {d : PD} (h : chk d = 0) : okD d := fun o ho => by
  unfold chk at h
  have h0 := (orE_zero.1 h).1
  unfold chk0 at h0
  split at h0
  · have h1 := (orE_zero.1 h0).1
    unfold chkOuts at h1
    split at h1
    · exact absurd h1 (by decide)
    · obtain ⟨i, hi, rfl⟩ := List.mem_iff_getElem.1 ho
      have h2 := firstE_all h1 i hi
      have e : d.outs.getD i o0 = d.outs[i] := by rw [List.getD_eq_getElem?_getD, List.getElem?_eq_getElem hi]; rfl
      unfold chkO at h2
      split at h2
      · split at h2
        · exact absurd h2 (by decide)
        · rename_i _ hb
          rw [Bool.not_eq_true] at hb
          unfold badO at hb
          rw [e] at hb
          simp only [Bool.or_eq_false_iff] at hb
          have hz := hb.2
          cases hf : d.outs[i].fixed with
          | true => exact .inl hf
          | false =>
            right
            rw [hf] at hz
            simp only [Bool.not_false, Bool.true_and, Bool.not_eq_false', beq_iff_eq] at hz
            exact Subtype.ext hz
      · exact absurd h2 (by decide)
  · exact absurd h0 (by decide)
def ParsePost (s : Bs) (v : Value) (S' : List SH) : Prop := ∃ (d : PD) (x : DV) (e : Int) (cO cI FI cS cA cV : SH), v = .tuple #[dval d x, .int .i64 e] ∧ S' = [cV, cA, cS, cI, FI, cO] ∧ DOwn d x cO cI FI cS cA cV ∧ ((e = 0 ∧ chk d = 0 ∧ dtext d = s ∧ big2 d ≤ 200000 ∧ (∀ a2, chk a2 = 0 → dtext a2 = s → d = a2)) ∨ (e = 3 ∧ d = pd0 ∧ x = dv0 ∧ ∀ d2, chk d2 = 0 → dtext d2 ≠ s))
theorem DOwn.one {d : PD} {x : DV} {cO cI FI cS cA cV : SH} (hO : DOwn d x cO cI FI cS cA cV) : ∀ u ∈ dcells d x, oneV u = true := by
  obtain ⟨n1, A1, c1, h1, _⟩ := own_form hO.a (by decide)
  obtain ⟨n2, A2, c2, h2, _⟩ := own_form hO.e (by decide)
  obtain ⟨n3, A3, c3, h3, _⟩ := own_form hO.i (by decide)
  obtain ⟨n4, A4, c4, h4, _⟩ := own_form hO.s (by decide)
  obtain ⟨n5, A5, c5, h5, _⟩ := own_form hO.o (by decide)
  exact dcells_one h1 h2 h3 h4 h5
theorem down0 : DOwn pd0 dv0 [] [] [] [] [] [] := ⟨own_nil, own_nil, (fun m hm => by cases hm), rfl, (fun m hm => by cases hm), own_nil, own_nil, own_nil⟩
theorem parse_bad {s : Bs} (h : ∀ d2, chk d2 = 0 → dtext d2 ≠ s) : ParsePost s (.tuple #[dval pd0 dv0, .int .i64 3]) [[], [], [], [], [], []] := ⟨pd0, dv0, 3, [], [], [], [], [], [], rfl, rfl, down0, .inr ⟨rfl, rfl, rfl, h⟩⟩
def RESTP : Tree := (.op (O (.store 28 (.tmp 6) (.tmp 0)) 0) (.op (O (.load 28 (.tmp 7)) 28) (.op (O (.call ⟨(.value (.func 13)), #[(.tmp 0)], #[28]⟩) 32) (.op (O (.extract (.tmp 0) 0) 9) (.op (O (.extract (.tmp 1) 1) 31) (.op (O (.binOp .neq 31 (.tmp 0) (.const (.int .i64 0)) 31) 4) (.gop (.tmp 0) .false (O (.move (.tmp 2)) 9) (.gop (.tmp 1) .false (O (.move (.tmp 14)) 9) (.gop (.tmp 2) .false (O (.binOp .neq 9 (.tmp 1) (.tmp 0) 9) 4) (.op (O (.pick (.tmp 3) (.const (.bool .true)) (.tmp 0)) 4) (.cond (.tmp 0) (.op (O (.build 28 #[]) 28) (.op (O (.store 28 (.tmp 17) (.tmp 0)) 0) (.op (O (.store 31 (.tmp 17) (.const (.int .i64 3))) 0) (.ret [(.cell 19 28), (.cell 18 31)])))) (.op (O (.load 28 (.tmp 16)) 28) (.op (O (.store 28 (.tmp 17) (.tmp 0)) 0) (.op (O (.store 31 (.tmp 17) (.const (.int .i64 0))) 0) (.ret [(.cell 19 28), (.cell 18 31)])))))))))))))))
theorem walkP {b : Base} (s : Bs) (d : PD) (x : DV) (r' : Bs) (cO cI FI cS cA cV : SH) (gr g0 g1 : Nat) (p1 p2 p3 p4 : Value) (hO : DOwn d x cO cI FI cS cA cV) (hbig : big2 d ≤ 200000) (hrel : ∀ a2 z, okD a2 → s = dtext a2 ++ z → d = a2 ∧ r' = z) :
    J Tryz.prog (fun e w' => ∃ v S', e = .returned v ∧ ParsePost s v S' ∧ Sig b S' w') RESTP [dval d x, p1, p2, p3, p4, .pointer (some ⟨g1, 0, none⟩), .pointer (some ⟨g0, 0, none⟩), .string (bs s)] [[RC gr r'], cV, cA, cS, cI, FI, cO, [(g1, .cells (ks .i64 [0]).toArray 31 (0, 0))], [(g0, .cells (dcells pd0 dv0).toArray 28 (0, 0))]] b [] := by
  unfold RESTP
  have one := hO.one
  refine j_storew (l := dcells pd0 dv0) (vs := dcells d x) 8 szp28 rfl rfl rfl one rfl rfl ?_
  refine j_q (qs_loadw (l := dcells d x) 8 Tryz.underlying28 rfl szp28 rfl rfl rfl) ?_
  refine j_q (qs_call entp13 rfl rfl rfl (fun w' hw' => dprint_con d x w' (hO.dr (fun p hp => hw'.own p (by simp only [List.mem_append] at hp; rcases hp with ((((h | h) | h) | h) | h) | h <;> simp [h]))) hbig (fun y hy o ho => Nat.le_trans (hO.outs y hy o ho) (by decide)))) ?_
  refine j_q (qs_ext (vs := [.string (bs (prS d)), .int .i64 (chk d)]) rfl rfl) ?_
  refine j_q (qs_ext (vs := [.string (bs (prS d)), .int .i64 (chk d)]) rfl rfl) ?_
  refine j_q (qs_neq rfl rfl) ?_
  refine j_g rfl (fun hb => qs_mt rfl) ?_
  refine j_g rfl (fun hb => qs_mt rfl) ?_
  refine j_g rfl (fun hb => qs_sneq (gd_eq hb) (gd_eq hb)) ?_
  refine j_q (qs_or rfl rfl) ?_
  refine j_cond rfl (fun hc0 => ?_) (fun hc0 => ?_)
  · refine j_q (qs_run (v := .agg (dcells pd0 dv0).toArray) (fun w => by kernel_rfl)) ?_
    refine j_storew (l := dcells d x) (vs := dcells pd0 dv0) 8 szp28 rfl rfl rfl dcells0_one rfl rfl ?_
    refine j_storek (ws := [0]) 7 szp31 rfl rfl rfl (by simp) ?_
    refine j_ret (vs := [.agg (dcells pd0 dv0).toArray, .int .i64 3]) (fun w hw => ⟨rv_agg (l := dcells pd0 dv0) 8 Tryz.underlying28 rfl szp28 rfl rfl rfl hw, rv_flat (l := ks .i64 [3]) 7 Tryz.underlying31 rfl rfl rfl rfl hw, trivial⟩) (fun w hw => ⟨_, [[], [], [], [], [], []], rfl, parse_bad (fun d2 h2 e2 => ?_), hw.sub (by simp)⟩)
    obtain ⟨h3, _⟩ := hrel d2 [] (okD_chk h2) (by rw [e2, List.append_nil])
    subst h3
    have h4 : prS d = s := by unfold prS; rw [if_pos h2, e2]
    rw [h2, h4] at hc0
    simp at hc0
  · simp only [Bool.or_eq_false_iff, bne_eq_false_iff_eq, Bool.not_eq_false', beq_iff_eq] at hc0
    obtain ⟨h1, h2⟩ := hc0
    refine j_q (qs_loadw (l := dcells d x) 8 Tryz.underlying28 rfl szp28 rfl rfl rfl) ?_
    refine j_storew (l := dcells d x) (vs := dcells d x) 8 szp28 rfl rfl rfl one rfl rfl ?_
    refine j_storek (ws := [0]) 7 szp31 rfl rfl rfl (by simp) ?_
    refine j_ret (vs := [dval d x, .int .i64 0]) (fun w hw => ⟨rv_agg (l := dcells d x) 8 Tryz.underlying28 rfl szp28 rfl rfl rfl hw, rv_flat (l := ks .i64 [0]) 7 Tryz.underlying31 rfl rfl rfl rfl hw, trivial⟩) (fun w hw => ⟨_, [cV, cA, cS, cI, FI, cO], rfl, ⟨d, x, 0, cO, cI, FI, cS, cA, cV, rfl, rfl, hO, .inl ⟨rfl, h1, by unfold prS at h2; rw [if_pos h1] at h2; exact h2, hbig, fun a2 h3 h4 => (hrel a2 [] (okD_chk h3) (by rw [h4, List.append_nil])).1⟩⟩, hw.sub (sub_flatten (by repeat first | exact slR _ | exact slN _ | apply slC | apply slD))⟩)
set_option maxHeartbeats 1600000 in
theorem dparse_con (s : Bs) (w : World) (hs : s.length ≤ 300000) (hB : s.length ≤ 20000 ∨ ∃ d0, chk d0 = 0 ∧ dtext d0 = s ∧ big2 d0 ≤ 200000) : Con Tryz.prog 19 [.string (bs s)] w [] (ParsePost s) := by
  have hmix : Tryz.prog.follows .mixedOrders = true := by kernel_rfl
  unfold Con
  intro _ _
  show Calls Tryz.prog 19 #[.string (bs s)] w _
  refine calls_of_wp_defers Tryz.func19 rfl ?_
  simp only [Tryz.ntmps19, List.size_toArray, List.length_cons, List.length_nil, Nat.reduceAdd, Nat.reduceSub, Array.replicate_succ, Array.replicate_zero, List.push_toArray, List.append_toArray, List.nil_append, List.cons_append]
  refine wp_seq ?_
  refine wp_region_list ?_
  refine wpl_val rfl (run_alloc_op rfl zero28d) ?_
  refine wpl_val rfl (run_alloc_op rfl zero31k) ?_
  refine wpList_nil ?_
  show Code.wp _ _ _ _ _
  obtain ⟨hw1, hn1, hs1⟩ := (sig_rfl0 w).new (o := .cells (dcells pd0 dv0).toArray 28 (0, 0)) (w' := { w with heap := w.heap.push (.cells (dcells pd0 dv0).toArray 28 (0, 0)) }) rfl rfl rfl rfl
  generalize hg0 : w.heap.size = g0 at *
  generalize { w with heap := w.heap.push (.cells (dcells pd0 dv0).toArray 28 (0, 0)) } = w1 at *
  obtain ⟨hw2, hn2, hs2⟩ := hw1.new (o := .cells (ks .i64 [0]).toArray 31 (0, 0)) (w' := { w1 with heap := w1.heap.push (.cells (ks .i64 [0]).toArray 31 (0, 0)) }) rfl rfl rfl rfl
  generalize hg1 : w1.heap.size = g1 at *
  generalize { w1 with heap := w1.heap.push (.cells (ks .i64 [0]).toArray 31 (0, 0)) } = w2 at *
  refine wp_seq ?_
  refine wp_region_list ?_
  refine wpl_val (v := .func (.func 43) #[] #[.pointer (some ⟨g0, 0, none⟩), .pointer (some ⟨g1, 0, none⟩)]) (w' := w2) rfl (by kernel_rfl) ?_
  refine wpl_defer (d := { target := .fn (.func 43) #[.pointer (some ⟨g0, 0, none⟩), .pointer (some ⟨g1, 0, none⟩)], args := #[] }) (w' := w2) rfl (by kernel_rfl) ?_
  refine wpList_nil ?_
  show Code.wp _ _ _ _ _
  refine wp_seq ?_
  refine wp_region_list ?_
  refine wpl_val (v := .string (bs s)) (w' := w2) rfl (by kernel_rfl) ?_
  refine wpl_val (v := .agg #[.string (bs s)]) (w' := w2) rfl (by kernel_rfl) ?_
  refine wpl_val rfl (run_box_op (z := [.string (bs s)]) rfl rfl) ?_
  obtain ⟨hw3, hn3, hs3⟩ := hw2.new (o := .cells [Value.string (bs s)].toArray 87 (0, 0)) (w' := { w2 with heap := w2.heap.push (.cells [Value.string (bs s)].toArray 87 (0, 0)) }) rfl rfl rfl rfl
  generalize hgr : w2.heap.size = gr at *
  generalize { w2 with heap := w2.heap.push (.cells [Value.string (bs s)].toArray 87 (0, 0)) } = w3 at *
  refine wpl_val (v := rp gr) (w' := w3) rfl (by kernel_rfl) ?_
  refine wpList_nil ?_
  show Code.wp _ _ _ _ _
  refine wp_seq ?_
  refine wp_region_list ?_
  refine wpl_val (v := rp gr) (w' := w3) rfl (by kernel_rfl) ?_
  refine wpl_abs (fun A => A.defers = [{ target := .fn (.func 43) #[.pointer (some ⟨g0, 0, none⟩), .pointer (some ⟨g1, 0, none⟩)], args := #[] }] ∧ A.tmps.size = 27 ∧ Rel [(3, 2), (2, 1), (0, 0)] [rp gr, .agg #[.string (bs s)], undef, .func (.func 43) #[] #[.pointer (some ⟨g0, 0, none⟩), .pointer (some ⟨g1, 0, none⟩)], .pointer (some ⟨g1, 0, none⟩), .pointer (some ⟨g0, 0, none⟩), .string (bs s)] A.tmps ∧ A.eval (.tmp 11) = rp gr) ⟨by kernel_rfl, by kernel_rfl, rel_of fun p hp => ?_, by kernel_rfl⟩ ?_
  · simp only [List.mem_cons, List.not_mem_nil, or_false] at hp
    rcases hp with rfl | rfl | rfl <;> exact ⟨by simp [Act.put], by simp, by kernel_rfl⟩
  rintro ⟨t, ds⟩ ⟨hds, hsz, hrl, hev⟩
  have hds' := hds.symm
  simp only at hds' hsz hrl
  subst hds'
  have hown : ∀ p ∈ [RC gr s], w3.heap[p.1]? = some p.2 := fun p hp => hw3.own p (by simp at hp; subst hp; simp)
  refine wpl_call (f := 44) rfl (run_call_op (args := [rp gr]) entp44 rfl rfl (by simp [hev]) w3) (pdrv_con gr s w3 hs hown (by simp [dom])) (fun v w4 h => ?_) (fun ch w4 h => ?_) (fun w4 h => ?_)
  · rcases h with ⟨v', S', he, hp, hS⟩ | ⟨he, _⟩
    · have he2 : v = v' := by injection he
      subst he2
      obtain ⟨d, x, r', cO, cI, FI, cS, cA, cV, rfl, rfl, hO, hb2, hrel⟩ := hp
      have hbig : big2 d ≤ 200000 := by
        rcases hB with h | ⟨d0, h1, h2, h3⟩
        · omega
        · rw [(hrel d0 [] (okD_chk h1) (by rw [h2, List.append_nil])).1]
          exact h3
      have hw4 : Sig ⟨w, dom []⟩ [[RC gr r'], cV, cA, cS, cI, FI, cO, [(g1, .cells (ks .i64 [0]).toArray 31 (0, 0))], [(g0, .cells (dcells pd0 dv0).toArray 28 (0, 0))]] w4 := Sig.call (Fp := [RC gr s]) (Fr := [(g1, .cells (ks .i64 [0]).toArray 31 (0, 0)), (g0, .cells (dcells pd0 dv0).toArray 28 (0, 0))]) hw3 (by simp) hS (by simp)
      refine wp_rest (hs := []) (rl := 12) (n := 8) (sf := [(12, 7), (3, 2), (2, 1), (0, 0)]) (T := RESTP) (env := [dval d x, rp gr, .agg #[.string (bs s)], undef, .func (.func 43) #[] #[.pointer (some ⟨g0, 0, none⟩), .pointer (some ⟨g1, 0, none⟩)], .pointer (some ⟨g1, 0, none⟩), .pointer (some ⟨g0, 0, none⟩), .string (bs s)]) (sz := 27) (fn := Tryz.f19) (R := fun e w' => ∃ v S', e = .returned v ∧ ParsePost s v S' ∧ Sig ⟨w, dom []⟩ S' w') hmix (by kernel_rfl) rfl (hrl.bind (by rw [hsz]; decide) _) (by rw [Array.size_setIfInBounds]; exact hsz) (by have h := walkP (b := ⟨w, dom []⟩) s d x r' cO cI FI cS cA cV gr g0 g1 (rp gr) (.agg #[.string (bs s)]) undef (.func (.func 43) #[] #[.pointer (some ⟨g0, 0, none⟩), .pointer (some ⟨g1, 0, none⟩)]) hO hbig hrel; unfold J at h; exact h w4 hw4) ?_ ?_
      · intro a w5 v hd hres hR
        have key : Leaves Tryz.prog Tryz.f19 a.tmps (fun e w' => ∃ v S', e = .returned v ∧ ParsePost s v S' ∧ Sig ⟨w, dom []⟩ S' w') a.defers .returning w5 := by
          rw [hd]
          refine leaves_cons (f := 43) (args := #[.pointer (some ⟨g0, 0, none⟩), .pointer (some ⟨g1, 0, none⟩)]) (by simp) (by kernel_rfl) ?_
          refine (catch_none _ _ w5).mono ?_
          rintro e u' w6 ⟨rfl, rfl, rfl⟩
          exact ⟨v, hres, hR⟩
        exact ⟨key, key⟩
      · rintro ch a w5 ⟨v, S', he, _⟩ _
        cases he
    · cases he
  · rcases h with ⟨v', S', he, _⟩ | ⟨he, hbad, hS⟩
    · cases he
    · have he2 : ch = [{ v := BADV, recovered := false }] := by injection he
      subst he2
      have hw4 : Sig ⟨w, dom []⟩ [[(g0, .cells (dcells pd0 dv0).toArray 28 (0, 0))], [(g1, .cells (ks .i64 [0]).toArray 31 (0, 0))]] w4 := Sig.call (Fp := [RC gr s]) (Fr := [(g0, .cells (dcells pd0 dv0).toArray 28 (0, 0)), (g1, .cells (ks .i64 [0]).toArray 31 (0, 0))]) hw3 (by simp; exact List.Perm.swap _ _ _) hS (by simp)
      show Leaves Tryz.prog Tryz.f19 t _ _ _ _
      refine leaves_cons (f := 43) (args := #[.pointer (some ⟨g0, 0, none⟩), .pointer (some ⟨g1, 0, none⟩)]) (by simp) (by kernel_rfl) ?_
      refine (catch_bad (b := ⟨w, dom []⟩) (S := []) g0 g1 (dcells pd0 dv0) 0 rfl w4 hw4).mono ?_
      rintro e u' w5 ⟨rfl, rfl, hS5⟩
      exact ⟨_, results_run hrl (rs := [.cell 5 28, .cell 4 31]) (vs := [.agg (dcells pd0 dv0).toArray, .int .i64 3]) rfl ⟨rv_agg (l := dcells pd0 dv0) 0 Tryz.underlying28 rfl szp28 rfl rfl rfl hS5, rv_flat (l := ks .i64 [3]) 1 Tryz.underlying31 rfl rfl rfl rfl hS5, trivial⟩, _, [[], [], [], [], [], []], rfl, parse_bad (fun d2 h2 e2 => hbad d2 [] (okD_chk h2) (by rw [e2, List.append_nil])), hS5.sub (by simp)⟩
  · rcases h with ⟨v', S', he, _⟩ | ⟨he, _⟩ <;> cases he
end Go.Proofs.YtfeabbeebkkhaaaGreat
/-! Dv8 -/
namespace Go.Proofs.YtfeabbeebkkhaaaGreat
open Go Go.Sx
set_option maxRecDepth 100000
set_option maxHeartbeats 4000000
set_option linter.unusedVariables false
set_option linter.unusedSimpArgs false
attribute [local irreducible] J JQ QS Con W opW
theorem ent29 : Sx.Enters Tryz.prog 29 := ⟨_, Tryz.func29, by kernel_rfl, by kernel_rfl⟩
theorem ent76 : Sx.Enters Tryz.prog 76 := ⟨_, Tryz.func76, by kernel_rfl, by kernel_rfl⟩
theorem byte_is {c d : UInt8} (h : ((c.toNat : Int) == (d.toNat : Int)) = true) : c = d := by
  rw [beq_iff_eq] at h
  exact UInt8.toNat_inj.1 (by omega)
theorem byte_not {c d : UInt8} (h : ((c.toNat : Int) == (d.toNat : Int)) = false) : c ≠ d := fun e => by
  rw [e, beq_self_eq_true] at h
  cases h
theorem esc34 {c : UInt8} (h : ((c.toNat : Int) == 34) = true) : esc c = [92, c] := by rw [byte_is (d := 34) h]; rfl
theorem esc92 {c : UInt8} (h : ((c.toNat : Int) == 92) = true) : esc c = [92, c] := by rw [byte_is (d := 92) h]; rfl
theorem esc10 {c : UInt8} (h : ((c.toNat : Int) == 10) = true) : esc c = [92, 110] := by rw [byte_is (d := 10) h]; rfl
theorem esc13 {c : UInt8} (h : ((c.toNat : Int) == 13) = true) : esc c = [92, 114] := by rw [byte_is (d := 13) h]; rfl
theorem esc09 {c : UInt8} (h : ((c.toNat : Int) == 9) = true) : esc c = [92, 116] := by rw [byte_is (d := 9) h]; rfl
theorem esc00 {c : UInt8} (h1 : ((c.toNat : Int) == 34) = false) (h2 : ((c.toNat : Int) == 92) = false) (h3 : ((c.toNat : Int) == 10) = false) (h4 : ((c.toNat : Int) == 13) = false) (h5 : ((c.toNat : Int) == 9) = false) : esc c = [c] := by
  unfold esc
  rw [if_neg (byte_not (d := 34) h1), if_neg (byte_not (d := 92) h2), if_neg (byte_not (d := 10) h3), if_neg (byte_not (d := 13) h4), if_neg (byte_not (d := 9) h5)]
theorem bools2 {v v' : Value} {a a' : Int} (h1 : v = v') (h2 : a = a') : [v, Value.int .i64 a] = [v', .int .i64 a'] := by rw [h1, h2]
theorem own_new {w w' : World} {S : List SH} (hw : Sig ⟨w, dom []⟩ S w') {c : SH} (k : Nat) (hk : S[k]? = some c) : ∀ q ∈ dom c, w.heap.size ≤ q := fun q hq => by
  have hm : q ∈ dom S.flatten := by
    obtain ⟨p, hp, rfl⟩ := List.mem_map.1 hq
    exact List.mem_map_of_mem (mem_flatten_of hk hp)
  rcases hw.dom_ q hm with h | h
  · simp at h
  · exact h
attribute [local irreducible] es qt cms hex Tbl Half lst isName isPath isDrvP leB chkO chkOuts chkN chkI chkIns firstE spA spB spE chkS chkV dtext chk chk0
theorem rquote_con (b : Bs) (bv : Value) (c : SH) (ho : Sx.Own 5 1 (ints b) bv c) (s : Bs) (hb : b.length ≤ 1099511627776) (hs : s.length ≤ 1099511627776) (w : World) : Con Tryz.prog 76 [bv, .string (bs s)] w c fun v S' => ∃ c', S' = [c'] ∧ Sx.Own 5 1 (ints (b ++ qt s)) v c' := by
  refine con_of_tree mix Tryz.func76 T76_ok (by kernel_rfl) ?_
  unfold T76
  have hel := es_len s
  refine j_q (qs_ac) ?_
  refine j_lit (vs := [.int .u8 _]) Tryz.underlying46 sz5 zero5 rfl (by simp [oneV]) ⟨rfl, by decide⟩ (fun g1 v1 c1 hv1 hc1 ho1 => ?_)
  subst hv1 hc1
  refine j_append 1 Tryz.underlying46 Tryz.underlying46 (.inr ⟨_, rfl⟩) sb5 zero5 rfl ho rfl (.inl ⟨_, _, rfl, rd_own (off := 0) (n := 1) 0 rfl rfl, rfl⟩) (by simp [oneV]) ⟨(by simp only [ints_length, List.drop_zero, List.take_succ_cons, List.take_zero, List.length_append, List.length_cons, List.length_nil]; omega), (by decide)⟩ (fun v2 c2 ho2 => ?_)
  have ho2 : Sx.Own 5 1 (ints (b ++ [34])) v2 c2 := by
    rw [ints_append]
    exact ho2
  refine j_subl (S' := [c2]) (by repeat first | exact slR _ | exact slN _ | apply slC | apply slD) ?_
  refine j_q (qs_ac) ?_
  refine j_loop (fun m vs S' => ∃ (i : Nat) (bv : Value) (cb : SH), vs = [bv, .int .i64 (i : Int)] ∧ S' = [cb] ∧ Sx.Own 5 1 (ints (b ++ [34] ++ es (s.take i))) bv cb ∧ i ≤ s.length ∧ m = s.length - i) ⟨_, 0, v2, c2, rfl, rfl, by rw [List.take_zero, show es [] = [] by unfold es; rfl, List.append_nil]; exact ho2, Nat.zero_le _, rfl⟩ ?_
  rintro m vs S' hlen ⟨i, bv, cb, rfl, rfl, hob, hin, rfl⟩
  refine j_q (qs_lens Tryz.underlying9 rfl) ?_
  refine j_q (qs_lss rfl rfl) ?_
  refine j_cond rfl (fun hc0 => ?_) (fun hc0 => ?_)
  · skip
    have hi : i < s.length := by
      simp only [bnA] at *
      omega
    have hst := es_take hi
    have hpre := es_pre s i
    refine j_q (qs_idx Tryz.underlying9 rfl rfl ⟨(by first | omega | (simp only [bnA] at *; omega)), (by first | omega | (simp only [bnA] at *; omega))⟩) ?_
    simp only [Int.toNat_natCast]
    refine j_q (qs_eql rfl rfl) ?_
    refine j_cond rfl (fun hc1 => ?_) (fun hc1 => ?_)
    · skip
      refine j_cond rfl (fun hc2 => ?_) (fun hc2 => ?_)
      · skip
        refine j_q (qs_idx Tryz.underlying9 rfl rfl ⟨(by first | omega | (simp only [bnA] at *; omega)), (by first | omega | (simp only [bnA] at *; omega))⟩) ?_
        simp only [Int.toNat_natCast]
        refine j_lit (vs := [.int .u8 _, .int .u8 _]) Tryz.underlying46 sz5 zero5 rfl (by simp [oneV]) ⟨rfl, by decide⟩ (fun g9 v9 c9 hv9 hc9 ho9 => ?_)
        subst hv9 hc9
        refine j_append 1 Tryz.underlying46 Tryz.underlying46 (.inr ⟨_, rfl⟩) sb5 zero5 rfl hob rfl (.inl ⟨_, _, rfl, rd_own (off := 0) (n := 2) 0 rfl rfl, rfl⟩) (by simp [oneV]) ⟨(by simp only [ints_length, List.drop_zero, List.take_succ_cons, List.take_zero, List.length_append, List.length_cons, List.length_nil]; omega), (by decide)⟩ (fun v10 c10 ho10 => ?_)
        have ho10 : Sx.Own 5 1 (ints (b ++ [34] ++ es (s.take (i + 1)))) v10 c10 := by
          rw [hst, esc34 hc1, ← List.append_assoc, ints_append]
          exact ho10
        refine j_subl (S' := [c10]) (by repeat first | exact slR _ | exact slN _ | apply slC | apply slD) ?_
        refine j_q (qs_add64 rfl rfl (by first | omega | (simp only [bnA] at *; omega))) ?_
        refine j_back rfl ?_
        exact ⟨s.length - (i + 1), by omega, i + 1, v10, c10, bools2 rfl (by omega), rfl, ho10, by omega, rfl⟩
      · skip
        rw [hc1] at hc2
        cases hc2
    · skip
      refine j_q (qs_eql rfl rfl) ?_
      refine j_cond rfl (fun hc6 => ?_) (fun hc6 => ?_)
      · skip
        refine j_q (qs_idx Tryz.underlying9 rfl rfl ⟨(by first | omega | (simp only [bnA] at *; omega)), (by first | omega | (simp only [bnA] at *; omega))⟩) ?_
        simp only [Int.toNat_natCast]
        refine j_lit (vs := [.int .u8 _, .int .u8 _]) Tryz.underlying46 sz5 zero5 rfl (by simp [oneV]) ⟨rfl, by decide⟩ (fun g30 v30 c30 hv30 hc30 ho30 => ?_)
        subst hv30 hc30
        refine j_append 1 Tryz.underlying46 Tryz.underlying46 (.inr ⟨_, rfl⟩) sb5 zero5 rfl hob rfl (.inl ⟨_, _, rfl, rd_own (off := 0) (n := 2) 0 rfl rfl, rfl⟩) (by simp [oneV]) ⟨(by simp only [ints_length, List.drop_zero, List.take_succ_cons, List.take_zero, List.length_append, List.length_cons, List.length_nil]; omega), (by decide)⟩ (fun v31 c31 ho31 => ?_)
        have ho31 : Sx.Own 5 1 (ints (b ++ [34] ++ es (s.take (i + 1)))) v31 c31 := by
          rw [hst, esc92 hc6, ← List.append_assoc, ints_append]
          exact ho31
        refine j_subl (S' := [c31]) (by repeat first | exact slR _ | exact slN _ | apply slC | apply slD) ?_
        refine j_q (qs_add64 rfl rfl (by first | omega | (simp only [bnA] at *; omega))) ?_
        refine j_back rfl ?_
        exact ⟨s.length - (i + 1), by omega, i + 1, v31, c31, bools2 rfl (by omega), rfl, ho31, by omega, rfl⟩
      · skip
        refine j_q (qs_eql rfl rfl) ?_
        refine j_cond rfl (fun hc7 => ?_) (fun hc7 => ?_)
        · skip
          refine j_lit (vs := [.int .u8 _, .int .u8 _]) Tryz.underlying46 sz5 zero5 rfl (by simp [oneV]) ⟨rfl, by decide⟩ (fun g34 v34 c34 hv34 hc34 ho34 => ?_)
          subst hv34 hc34
          refine j_append 1 Tryz.underlying46 Tryz.underlying46 (.inr ⟨_, rfl⟩) sb5 zero5 rfl hob rfl (.inl ⟨_, _, rfl, rd_own (off := 0) (n := 2) 0 rfl rfl, rfl⟩) (by simp [oneV]) ⟨(by simp only [ints_length, List.drop_zero, List.take_succ_cons, List.take_zero, List.length_append, List.length_cons, List.length_nil]; omega), (by decide)⟩ (fun v35 c35 ho35 => ?_)
          have ho35 : Sx.Own 5 1 (ints (b ++ [34] ++ es (s.take (i + 1)))) v35 c35 := by
            rw [hst, esc10 hc7, ← List.append_assoc, ints_append]
            exact ho35
          refine j_subl (S' := [c35]) (by repeat first | exact slR _ | exact slN _ | apply slC | apply slD) ?_
          refine j_q (qs_add64 rfl rfl (by first | omega | (simp only [bnA] at *; omega))) ?_
          refine j_back rfl ?_
          exact ⟨s.length - (i + 1), by omega, i + 1, v35, c35, bools2 rfl (by omega), rfl, ho35, by omega, rfl⟩
        · skip
          refine j_q (qs_eql rfl rfl) ?_
          refine j_cond rfl (fun hc8 => ?_) (fun hc8 => ?_)
          · skip
            refine j_lit (vs := [.int .u8 _, .int .u8 _]) Tryz.underlying46 sz5 zero5 rfl (by simp [oneV]) ⟨rfl, by decide⟩ (fun g38 v38 c38 hv38 hc38 ho38 => ?_)
            subst hv38 hc38
            refine j_append 1 Tryz.underlying46 Tryz.underlying46 (.inr ⟨_, rfl⟩) sb5 zero5 rfl hob rfl (.inl ⟨_, _, rfl, rd_own (off := 0) (n := 2) 0 rfl rfl, rfl⟩) (by simp [oneV]) ⟨(by simp only [ints_length, List.drop_zero, List.take_succ_cons, List.take_zero, List.length_append, List.length_cons, List.length_nil]; omega), (by decide)⟩ (fun v39 c39 ho39 => ?_)
            have ho39 : Sx.Own 5 1 (ints (b ++ [34] ++ es (s.take (i + 1)))) v39 c39 := by
              rw [hst, esc13 hc8, ← List.append_assoc, ints_append]
              exact ho39
            refine j_subl (S' := [c39]) (by repeat first | exact slR _ | exact slN _ | apply slC | apply slD) ?_
            refine j_q (qs_add64 rfl rfl (by first | omega | (simp only [bnA] at *; omega))) ?_
            refine j_back rfl ?_
            exact ⟨s.length - (i + 1), by omega, i + 1, v39, c39, bools2 rfl (by omega), rfl, ho39, by omega, rfl⟩
          · skip
            refine j_q (qs_eql rfl rfl) ?_
            refine j_cond rfl (fun hc9 => ?_) (fun hc9 => ?_)
            · skip
              refine j_lit (vs := [.int .u8 _, .int .u8 _]) Tryz.underlying46 sz5 zero5 rfl (by simp [oneV]) ⟨rfl, by decide⟩ (fun g42 v42 c42 hv42 hc42 ho42 => ?_)
              subst hv42 hc42
              refine j_append 1 Tryz.underlying46 Tryz.underlying46 (.inr ⟨_, rfl⟩) sb5 zero5 rfl hob rfl (.inl ⟨_, _, rfl, rd_own (off := 0) (n := 2) 0 rfl rfl, rfl⟩) (by simp [oneV]) ⟨(by simp only [ints_length, List.drop_zero, List.take_succ_cons, List.take_zero, List.length_append, List.length_cons, List.length_nil]; omega), (by decide)⟩ (fun v43 c43 ho43 => ?_)
              have ho43 : Sx.Own 5 1 (ints (b ++ [34] ++ es (s.take (i + 1)))) v43 c43 := by
                rw [hst, esc09 hc9, ← List.append_assoc, ints_append]
                exact ho43
              refine j_subl (S' := [c43]) (by repeat first | exact slR _ | exact slN _ | apply slC | apply slD) ?_
              refine j_q (qs_add64 rfl rfl (by first | omega | (simp only [bnA] at *; omega))) ?_
              refine j_back rfl ?_
              exact ⟨s.length - (i + 1), by omega, i + 1, v43, c43, bools2 rfl (by omega), rfl, ho43, by omega, rfl⟩
            · skip
              refine j_q (qs_idx Tryz.underlying9 rfl rfl ⟨(by first | omega | (simp only [bnA] at *; omega)), (by first | omega | (simp only [bnA] at *; omega))⟩) ?_
              simp only [Int.toNat_natCast]
              refine j_lit (vs := [.int .u8 _]) Tryz.underlying46 sz5 zero5 rfl (by simp [oneV]) ⟨rfl, by decide⟩ (fun g46 v46 c46 hv46 hc46 ho46 => ?_)
              subst hv46 hc46
              refine j_append 1 Tryz.underlying46 Tryz.underlying46 (.inr ⟨_, rfl⟩) sb5 zero5 rfl hob rfl (.inl ⟨_, _, rfl, rd_own (off := 0) (n := 1) 0 rfl rfl, rfl⟩) (by simp [oneV]) ⟨(by simp only [ints_length, List.drop_zero, List.take_succ_cons, List.take_zero, List.length_append, List.length_cons, List.length_nil]; omega), (by decide)⟩ (fun v47 c47 ho47 => ?_)
              have ho47 : Sx.Own 5 1 (ints (b ++ [34] ++ es (s.take (i + 1)))) v47 c47 := by
                rw [hst, esc00 hc1 hc6 hc7 hc8 hc9, ← List.append_assoc, ints_append]
                exact ho47
              refine j_subl (S' := [c47]) (by repeat first | exact slR _ | exact slN _ | apply slC | apply slD) ?_
              refine j_q (qs_add64 rfl rfl (by first | omega | (simp only [bnA] at *; omega))) ?_
              refine j_back rfl ?_
              exact ⟨s.length - (i + 1), by omega, i + 1, v47, c47, bools2 rfl (by omega), rfl, ho47, by omega, rfl⟩
  · skip
    obtain rfl : i = s.length := by
      simp only [bnA] at *
      omega
    rw [List.take_length] at hob
    refine j_lit (vs := [.int .u8 _]) Tryz.underlying46 sz5 zero5 rfl (by simp [oneV]) ⟨rfl, by decide⟩ (fun g49 v49 c49 hv49 hc49 ho49 => ?_)
    subst hv49 hc49
    refine j_append 1 Tryz.underlying46 Tryz.underlying46 (.inr ⟨_, rfl⟩) sb5 zero5 rfl hob rfl (.inl ⟨_, _, rfl, rd_own (off := 0) (n := 1) 0 rfl rfl, rfl⟩) (by simp [oneV]) ⟨(by simp only [ints_length, List.drop_zero, List.take_succ_cons, List.take_zero, List.length_append, List.length_cons, List.length_nil]; omega), (by decide)⟩ (fun v50 c50 ho50 => ?_)
    have ho50 : Sx.Own 5 1 (ints (b ++ qt s)) v50 c50 := by
      have e : b ++ qt s = b ++ [34] ++ es s ++ [34] := by unfold qt; simp
      rw [e, ints_append]
      exact ho50
    refine j_subl (S' := [c50]) (by repeat first | exact slR _ | exact slN _ | apply slC | apply slD) ?_
    refine j_ret_con (vs := [_]) (fun w' hw' => ⟨rfl, trivial⟩) ?_
    exact ⟨c50, rfl, ho50⟩
theorem rlist_con (b : Bs) (bv : Value) (c : SH) (ho : Sx.Own 5 1 (ints b) bv c) (l : List Bs) (v : Value) (w : World) (hv : StrZ w v l) (hsep : ∀ a n k, v = .slice (some a) n k → 0 < n → a.block ∉ dom c) (hb : b.length ≤ 500000000000) (hm : ∀ x ∈ l, x.length ≤ 1099511627776) (hn : l.length ≤ 1000000) (hl : (tTs l).length ≤ 500000000000) : Con Tryz.prog 77 [bv, v] w c fun v S' => ∃ c', S' = [c'] ∧ Sx.Own 5 1 (ints (b ++ tTs l)) v c' := by
  refine con_of_tree mix Tryz.func77 T77_ok (by kernel_rfl) ?_
  unfold T77
  obtain ⟨A, cap, rfl, hcap⟩ := strz_form hv
  have hcl := cms_take_le qt l
  have hlen2 := hl
  simp only [tTs, lst, List.length_append] at hlen2
  refine j_q (qs_ac) ?_
  refine j_lit (vs := [.int .u8 _]) Tryz.underlying46 sz5 zero5 rfl (by simp [oneV]) ⟨rfl, by decide⟩ (fun g1 v1 c1 hv1 hc1 ho1 => ?_)
  subst hv1 hc1
  refine j_append 1 Tryz.underlying46 Tryz.underlying46 (.inr ⟨_, rfl⟩) sb5 zero5 rfl ho rfl (.inl ⟨_, _, rfl, rd_own (off := 0) (n := 1) 0 rfl rfl, rfl⟩) (by simp [oneV]) ⟨(by simp only [ints_length, List.drop_zero, List.take_succ_cons, List.take_zero, List.length_append, List.length_cons, List.length_nil]; omega), (by decide)⟩ (fun v2 c2 ho2 => ?_)
  have ho2 : Sx.Own 5 1 (ints (b ++ [91])) v2 c2 := by
    rw [ints_append]
    exact ho2
  refine j_subl (S' := [c2]) (by repeat first | exact slR _ | exact slN _ | apply slC | apply slD) ?_
  refine j_q (qs_ac) ?_
  refine j_loop (fun m vs S' => ∃ (i : Nat) (bv : Value) (cb : SH), vs = [bv, .int .i64 (i : Int)] ∧ S' = [cb] ∧ Sx.Own 5 1 (ints (b ++ [91] ++ cms ((l.take i).map qt))) bv cb ∧ i ≤ l.length ∧ m = l.length - i) ⟨_, 0, v2, c2, rfl, rfl, by rw [List.take_zero, show cms (([] : List Bs).map qt) = [] by unfold cms; rfl, List.append_nil]; exact ho2, Nat.zero_le _, rfl⟩ ?_
  rintro m vs S' hlen ⟨i, bv, cb, rfl, rfl, hob, hin, rfl⟩
  refine j_q (qs_lenl Tryz.underlying22 rfl) ?_
  refine j_q (qs_lss rfl rfl) ?_
  refine j_cond rfl (fun hc0 => ?_) (fun hc0 => ?_)
  · skip
    have hi : i < l.length := by
      simp only [bnA] at *
      omega
    obtain ⟨ga, off, rfl, hga, hcells⟩ := strz_addr hv (by omega)
    have hci := hcl i
    have hci1 := hcl (i + 1)
    refine j_q (qs_gtr rfl rfl) ?_
    refine j_cond rfl (fun hc1 => ?_) (fun hc1 => ?_)
    · skip
      have h0 : ¬ i = 0 := by
        simp only [bnA] at *
        omega
      have hstep := cms_step qt (d := []) hi
      rw [if_neg h0] at hstep
      rw [hstep] at hci1
      simp only [List.length_append, List.length_cons] at hci1
      refine j_lit (vs := [.int .u8 _]) Tryz.underlying46 sz5 zero5 rfl (by simp [oneV]) ⟨rfl, by decide⟩ (fun g7 v7 c7 hv7 hc7 ho7 => ?_)
      subst hv7 hc7
      refine j_append 1 Tryz.underlying46 Tryz.underlying46 (.inr ⟨_, rfl⟩) sb5 zero5 rfl hob rfl (.inl ⟨_, _, rfl, rd_own (off := 0) (n := 1) 0 rfl rfl, rfl⟩) (by simp [oneV]) ⟨(by simp only [ints_length, List.drop_zero, List.take_succ_cons, List.take_zero, List.length_append, List.length_cons, List.length_nil]; omega), (by decide)⟩ (fun v8 c8 ho8 => ?_)
      have ho8 : Sx.Own 5 1 (ints ((b ++ [91] ++ cms ((l.take i).map qt)) ++ [44])) v8 c8 := by
        rw [ints_append]
        exact ho8
      refine j_subl (S' := [c8]) (by repeat first | exact slR _ | exact slN _ | apply slC | apply slD) ?_
      refine j_q (qs_ixl0 Tryz.underlying22 sz9 rfl rfl (by omega)) ?_
      refine j_q (qs_loadrs (rd_cells hcells (hsep _ _ _ rfl (by omega))) Tryz.underlying9 rfl (by simp only [Int.toNat_natCast]; omega)) ?_
      simp only [Int.toNat_natCast]
      refine j_call 0 ent76 rfl rfl rfl rfl (fun w' hw' => rquote_con _ _ _ ho8 _ (by simp only [ints_length, List.drop_zero, List.take_succ_cons, List.take_zero, List.length_append, List.length_cons, List.length_nil]; omega) (by have := hm _ (getD_mem (d := []) hi); omega) w') (fun u S2 hu => ?_)
      obtain ⟨c11, rfl, ho11⟩ := hu
      have ho11 : Sx.Own 5 1 (ints (b ++ [91] ++ cms ((l.take (i + 1)).map qt))) u c11 := by
        rw [hstep]
        simp only [List.append_assoc, List.cons_append, List.nil_append] at ho11 ⊢
        exact ho11
      refine j_subl (S' := [c11]) (by repeat first | exact slR _ | exact slN _ | apply slC | apply slD) ?_
      refine j_q (qs_add64 rfl rfl (by first | omega | (simp only [bnA] at *; omega))) ?_
      refine j_back rfl ?_
      exact ⟨l.length - (i + 1), by omega, i + 1, u, c11, bools2 rfl (by omega), rfl, ho11, by omega, rfl⟩
    · skip
      have h0 : i = 0 := by
        simp only [bnA] at *
        omega
      have hstep := cms_step qt (d := []) hi
      rw [if_pos h0] at hstep
      rw [hstep] at hci1
      have hcm0 : cms ((l.take i).map qt) = [] := by
        rw [h0, List.take_zero]
        unfold cms
        rfl
      refine j_q (qs_ixl0 Tryz.underlying22 sz9 rfl rfl (by omega)) ?_
      refine j_q (qs_loadrs (rd_cells hcells (hsep _ _ _ rfl (by omega))) Tryz.underlying9 rfl (by simp only [Int.toNat_natCast]; omega)) ?_
      simp only [Int.toNat_natCast]
      refine j_call 0 ent76 rfl rfl rfl rfl (fun w' hw' => rquote_con _ _ _ hob _ (by simp only [ints_length, List.drop_zero, List.take_succ_cons, List.take_zero, List.length_append, List.length_cons, List.length_nil]; omega) (by have := hm _ (getD_mem (d := []) hi); omega) w') (fun u S2 hu => ?_)
      obtain ⟨c15, rfl, ho15⟩ := hu
      have ho15 : Sx.Own 5 1 (ints (b ++ [91] ++ cms ((l.take (i + 1)).map qt))) u c15 := by
        rw [hstep]
        rw [hcm0, List.append_nil] at ho15
        exact ho15
      refine j_subl (S' := [c15]) (by repeat first | exact slR _ | exact slN _ | apply slC | apply slD) ?_
      refine j_q (qs_add64 rfl rfl (by first | omega | (simp only [bnA] at *; omega))) ?_
      refine j_back rfl ?_
      exact ⟨l.length - (i + 1), by omega, i + 1, u, c15, bools2 rfl (by omega), rfl, ho15, by omega, rfl⟩
  · skip
    obtain rfl : i = l.length := by
      simp only [bnA] at *
      omega
    rw [List.take_length] at hob
    refine j_lit (vs := [.int .u8 _]) Tryz.underlying46 sz5 zero5 rfl (by simp [oneV]) ⟨rfl, by decide⟩ (fun g17 v17 c17 hv17 hc17 ho17 => ?_)
    subst hv17 hc17
    refine j_append 1 Tryz.underlying46 Tryz.underlying46 (.inr ⟨_, rfl⟩) sb5 zero5 rfl hob rfl (.inl ⟨_, _, rfl, rd_own (off := 0) (n := 1) 0 rfl rfl, rfl⟩) (by simp [oneV]) ⟨(by simp only [ints_length, List.drop_zero, List.take_succ_cons, List.take_zero, List.length_append, List.length_cons, List.length_nil]; omega), (by decide)⟩ (fun v18 c18 ho18 => ?_)
    have ho18 : Sx.Own 5 1 (ints (b ++ tTs l)) v18 c18 := by
      have e : b ++ tTs l = b ++ [91] ++ cms (l.map qt) ++ [93] := by unfold tTs lst; simp
      rw [e, ints_append]
      exact ho18
    refine j_subl (S' := [c18]) (by repeat first | exact slR _ | exact slN _ | apply slC | apply slD) ?_
    refine j_ret_con (vs := [_]) (fun w' hw' => ⟨rfl, trivial⟩) ?_
    exact ⟨c18, rfl, ho18⟩
theorem risDrv_con (p : Bs) (w : World) (hp : p.length ≤ 9223372036854775807) : Con Tryz.prog 80 [.string (bs p)] w [] fun v _ => v = .bool (isDrvP p) := by
  refine con_of_tree mix Tryz.func80 T80_ok (by kernel_rfl) ?_
  unfold T80
  have hspl : (spB p).length ≤ p.length := by unfold spB; split <;> simp
  refine j_q (qs_ac) ?_
  refine j_q (qs_call ent29 rfl rfl rfl (fun w' hw' => rsplit_con p w' hp)) ?_
  unfold spl
  refine j_q (qs_ext (vs := [.string (bs (spA p)), .string (bs (spB p)), .int .i64 (spE p)]) rfl rfl) ?_
  refine j_q (qs_ext (vs := [.string (bs (spA p)), .string (bs (spB p)), .int .i64 (spE p)]) rfl rfl) ?_
  refine j_q (qs_ext (vs := [.string (bs (spA p)), .string (bs (spB p)), .int .i64 (spE p)]) rfl rfl) ?_
  refine j_q (qs_eql rfl rfl) ?_
  refine j_g rfl (fun hb => qs_mt rfl) ?_
  refine j_g rfl (fun hb => qs_lens Tryz.underlying9 (gd_eq hb)) ?_
  refine j_g rfl (fun hb => qs_gtr (gd_eq hb) rfl) ?_
  refine j_q (qs_and rfl rfl) ?_
  refine j_g rfl (fun hb => qs_mt rfl) ?_
  refine j_g rfl (fun hb => qs_mt rfl) ?_
  refine j_g rfl (fun hb => qs_lens Tryz.underlying9 (gd_eq hb)) ?_
  refine j_g rfl (fun hb => qs_sub64 (gd_eq hb) rfl (by first | omega | (simp only [bnA] at *; omega))) ?_
  refine j_g rfl (fun hb => qs_cuts (a := (spB p).length - 4) (z := (spB p).length) Tryz.underlying9 (gd_eq hb) ⟨.i64, (gd_eq hb).trans (congrArg (Value.int .i64) (by simp only [bnA] at *; omega))⟩ rfl (by omega) (by omega)) ?_
  rw [List.take_length]
  refine j_g rfl (fun hb => qs_seql (l' := sDrv) (gd_eq hb) rfl) ?_
  refine j_q (qs_and rfl rfl) ?_
  refine j_ret_con (vs := [_]) (fun w' hw' => ⟨rfl, trivial⟩) ?_
  show Value.bool _ = _
  congr 1
  unfold spE spB isDrvP
  cases hp : isPath p
  · rfl
  · rw [if_pos rfl, if_pos rfl]
    have h : decide (((p.drop 33).length : Int) > 4) = decide (4 < (p.drop 33).length) := by
      rw [Bool.eq_iff_iff, decide_eq_true_eq, decide_eq_true_eq]
      omega
    rw [h]
    rfl
end Go.Proofs.YtfeabbeebkkhaaaGreat
