/- Part 10. -/
import Derived.Test.YtfeabbeebkkhaaaGreatPN3
import Derived.Test.YtfeabbeebkkhaaaGreatPN4
import Derived.Test.YtfeabbeebkkhaaaGreatPN9
import Derived.Test.YtfeabbeebkkhaaaGreatPN7
/-! Dv9 -/
namespace Go.Proofs.YtfeabbeebkkhaaaGreat
open Go Go.Sx
set_option maxRecDepth 100000
set_option maxHeartbeats 4000000
set_option linter.unusedVariables false
set_option linter.unusedSimpArgs false
attribute [local irreducible] J JQ QS Con W opW
theorem tO_fix {o : PO} (h : o.fixed = true) : tO o = [40] ++ qt o.name ++ [44] ++ qt o.path ++ [44] ++ qt sSha ++ [44] ++ qt (hex o.hash.1) ++ [41] := by
 unfold tO tup lst cms
 rw [if_pos h, if_pos h]
 simp
theorem tO_fr {o : PO} (h : o.fixed = false) : tO o = [40] ++ qt o.name ++ [44] ++ qt o.path ++ [44] ++ qt [] ++ [44] ++ qt [] ++ [41] := by
 unfold tO tup lst cms
 rw [if_neg (by rw [h]; decide), if_neg (by rw [h]; decide)]
 simp
theorem tI_eq (m : PI) : tI m = [40] ++ qt m.drv ++ [44] ++ tTs m.outs ++ [41] := by
 unfold tI tup lst cms
 simp
theorem tV_eq (v : PV) : tV v = [40] ++ qt v.name ++ [44] ++ qt v.val ++ [41] := by
 unfold tV tup lst cms
 simp
theorem dtext_eq (d : PD) : dtext d = [68, 101, 114, 105, 118, 101, 40] ++ qt d.name ++ [44, 91] ++ cms (d.outs.map tO) ++ [93, 44, 91] ++ cms (d.ins.map tI) ++ [93, 44] ++ tTs d.srcs ++ [44] ++ qt d.sys ++ [44] ++ qt d.bld ++ [44] ++ tTs d.args ++ [44, 91] ++ cms (d.env.map tV) ++ [93, 41] := by
 unfold dtext tup
 simp [lst, cms, sDerive]
theorem sep_rd {w w' : World} {v : Value} {l : List Bs} (hv : StrZ w v l) {S : List SH} (hw : Sig ⟨w, dom []⟩ S w') {c : SH} (k : Nat) (hk : S[k]? = some c) : ∀ a n j, v = .slice (some a) n j → 0 < n → a.block ∉ dom c := fun a n j e hn hm => by
 have h1 := own_new hw k hk _ hm
 obtain ⟨A, cap, h2, h3, h4, _⟩ := hv
 rw [h2] at e
 injection e with e1 e2
 obtain ⟨g, off, h5, h6, _⟩ := h4 (by omega)
 rw [h5] at e1
 injection e1 with e1
 subst e1
 simp at h1
 omega
theorem sep_own {w : World} {b : Base} {v : Value} {l : List Value} {e : TypeId} {c1 c2 : SH} {R : List SH} (ho : Sx.Own e 1 l v c1) (hw : Sig b (c1 :: c2 :: R) w) : ∀ a n j, v = .slice (some a) n j → 0 < n → a.block ∉ dom c2 := fun a n j e hn hm => by
 rcases ho with ⟨rfl, _⟩ | ⟨g, n', cap, rest, fz, rfl, rfl, _⟩
 ·cases e
 ·cases e
  have hnd := hw.nodup
  simp only [dom, List.flatten_cons, List.map_append, List.map_cons, List.map_nil, List.cons_append, List.nil_append, List.nodup_cons] at hnd
  exact hnd.1 (List.mem_append_left _ hm)
theorem cms_all_le {α : Type} (g : α → Bs) (l : List α) (n : Nat) (h : (lst [91] (l.map g) [93]).length ≤ n) : ∀ i, (cms ((l.take i).map g)).length ≤ n := fun i => by
 have := cms_take_le g l i
 simp only [lst, List.length_append] at h
 omega
theorem takeS {l : List Bs} {i : Nat} (h : i < l.length) : l.take (i + 1) = l.take i ++ [l.getD i []] := by
 rw [List.take_add_one, List.getD_eq_getElem?_getD, List.getElem?_eq_getElem h]
 rfl
theorem cms0 {α : Type} (g : α → Bs) (l : List α) : cms ((l.take 0).map g) = [] := rfl
attribute [local irreducible] es qt cms hex Tbl Half lst isName isPath isDrvP leB chkO chkOuts chkN chkI chkIns firstE spA spB spE chkS chkV dtext chk chk0 tTs
theorem rdtext_con (d : PD) (x : DV) (w : World) (h : DR w d x) (tb : TB d) : Con Tryz.prog 37 [dval d x] w [] fun v S' => ∃ c, S' = [c] ∧ Sx.Own 5 1 (ints (dtext d)) v c := by
 refine con_of_tree mix Tryz.func37 T37_ok (by kernel_rfl) ?_
 unfold T37
 have few := few_of tb.sm
 have few1 := few.nm
 have few2 := few.sy
 have few3 := few.bl
 have few4 := few.la
 have few5 := few.le
 have few6 := few.li
 have few7 := few.lo
 have few8 := few.ls
 have hni : d.ins.length = x.mi.length := by rw [h.im, List.length_map]
 have hmem : ∀ i, i < x.mi.length → (x.mi.getD i m0).pi ∈ d.ins := fun i hi => by rw [h.im]; exact List.mem_map_of_mem (getD_mem hi)
 have hmap : d.ins.map tI = x.mi.map (fun m => tI m.pi) := by rw [h.im, List.map_map]; rfl
 have tbs := tb.s
 have tba := tb.a
 have hclo := cms_all_le tO d.outs _ tb.o
 have hcli := cms_all_le (fun m : MI => tI m.pi) x.mi _ (hmap ▸ tb.i)
 have hcle := cms_all_le tV d.env _ tb.e
 have q1 := qt_le d.name
 have q2 := qt_le d.sys
 have q3 := qt_le d.bld
 obtain ⟨Ao, capo, go, offo, hvo, hcapo, hAo⟩ := rsln_form h.o
 obtain ⟨Ai, capi, gi, offi, hvi, hcapi, hAi⟩ := rsln_form h.i
 obtain ⟨Ae, cape, ge, offe, hve, hcape, hAe⟩ := rsln_form h.e
 obtain ⟨As, caps, hvs, hcaps⟩ := strz_form h.s
 refine j_box (l := dcells d x) rfl (fun g0 hg0 hs0 => ?_)
 refine j_q (qs_ac) ?_
 refine j_lit (vs := [.int .u8 68, .int .u8 101, .int .u8 114, .int .u8 105, .int .u8 118, .int .u8 101, .int .u8 40]) U46 sz5 zero5 rfl (by simp [oneV]) ⟨rfl, by decide⟩ (fun g2 v2 c2 hv2 hc2 ho2 => ?_)
 subst hv2 hc2
 refine j_convsl 0 U46 U5 rfl rfl ?_
 have ho3 : Sx.Own 5 1 (ints [68, 101, 114, 105, 118, 101, 40]) (.slice (some ⟨g2, 0, none⟩) 7 7) [(g2, .cells (ints [68, 101, 114, 105, 118, 101, 40]).toArray 5 (7, 8))] := .inr ⟨g2, 7, 7, [], (7, 8), rfl, by rw [List.append_nil], rfl, rfl, Nat.le_refl _, fun j hj h => by rw [List.append_nil, ints_length] at hj; simp only [List.length_cons, List.length_nil] at hj; omega⟩
 refine j_q (qs_field U28 rfl sz9 (by decide) rfl) ?_
 refine j_q (qs_load (l := dcells d x) 1 U9 rfl rfl rfl rfl) ?_
 refine j_call 0 ent76 rfl rfl rfl rfl (fun w' hw' => rquote_con _ _ _ ho3 d.name (by first | omega | (simp only [ints_length, List.drop_zero, List.take_succ_cons, List.take_zero, List.length_append, List.length_cons, List.length_nil]; omega)) (by first | omega | (simp; done)) w') (fun v6 S2 hu => ?_)
 obtain ⟨c6, rfl, ho6⟩ := hu
 refine j_subl (S' := [c6, [(g0, .cells (dcells d x).toArray 28 (0, 0))], []]) (by repeat first | exact slR _ | exact slN _ | apply slC | apply slD) ?_
 refine j_lit (vs := [.int .u8 44, .int .u8 91]) U46 sz5 zero5 rfl (by simp [oneV]) ⟨rfl, by decide⟩ (fun g7 v7 c7 hv7 hc7 ho7 => ?_)
 subst hv7 hc7
 refine j_append 1 U46 U46 (.inr ⟨_, rfl⟩) sb5 zero5 rfl ho6 rfl (.inl ⟨_, _, rfl, rd_own (off := 0) (n := 2) 0 rfl rfl, rfl⟩) (by simp [oneV]) ⟨(by first | omega | (simp only [ints_length, List.drop_zero, List.take_succ_cons, List.take_zero, List.length_append, List.length_cons, List.length_nil]; omega)), (by decide)⟩ (fun v8 c8 ho8 => ?_)
 have ho8 : Sx.Own 5 1 (ints (([68, 101, 114, 105, 118, 101, 40] ++ qt d.name) ++ [44, 91])) v8 c8 := by
  rw [ints_append]
  exact ho8
 refine j_subl (S' := [c8, [(g0, .cells (dcells d x).toArray 28 (0, 0))], []]) (by repeat first | exact slR _ | exact slN _ | apply slC | apply slD) ?_
 obtain ⟨P0, hP0⟩ : ∃ p, p = (([68, 101, 114, 105, 118, 101, 40] ++ qt d.name) ++ [44, 91]) := ⟨_, rfl⟩
 rw [← hP0] at ho8
 have hP0l : P0.length ≤ 1000000 := by
  rw [hP0]
  simp only [List.length_append, List.length_cons, List.length_nil]
  omega
 refine j_q (qs_ac) ?_
 refine j_loop (fun m vs S' => ∃ (i : Nat) (bv : Value) (cb : SH), vs = [bv, .int .i64 (i : Int)] ∧ S' = [cb, [(g0, .cells (dcells d x).toArray 28 (0, 0))], []] ∧ Sx.Own 5 1 (ints (P0 ++ cms ((d.outs.take i).map tO))) bv cb ∧ i ≤ d.outs.length ∧ m = d.outs.length - i) ⟨_, 0, v8, c8, rfl, rfl, by rw [cms0, List.append_nil]; exact ho8, Nat.zero_le _, rfl⟩ ?_
 rintro m vs S' hlen ⟨i, bv, cb, rfl, rfl, hob, hin, rfl⟩
 refine j_q (qs_field U28 rfl sz26 (by decide) rfl) ?_
 refine j_q (qs_load (l := dcells d x) 1 U26 rfl rfl rfl (congrArg some hvo)) ?_
 refine j_q (qs_lenl U26 rfl) ?_
 refine j_q (qs_lss rfl rfl) ?_
 refine j_cond rfl (fun hc0 => ?_) (fun hc0 => ?_)
 ·skip
  have hi : i < d.outs.length := by
   simp only [bnA] at *
   omega
  obtain ⟨rfl, hga, hcells⟩ := hAo (by omega)
  have hou := few.ou _ (getD_mem (d := o0) hi)
  have r1 := qt_le (d.outs.getD i o0).name
  have r2 := qt_le (d.outs.getD i o0).path
  have r3 := qt_le sSha
  have r4 := qt_le (hex (d.outs.getD i o0).hash.1)
  have r5 := qt_le []
  have r6 : (hex (d.outs.getD i o0).hash.1).length = 64 := hexL _
  have r7 : sSha.length = 6 := rfl
  have r8 : ([] : Bs).length = 0 := rfl
  have hci := hclo i
  refine j_q (qs_gtr rfl rfl) ?_
  refine j_cond rfl (fun hc1 => ?_) (fun hc1 => ?_)
  ·skip
   have h0 : ¬ i = 0 := by
    simp only [bnA] at *
    omega
   have hstep := cms_step tO (d := o0) hi
   rw [if_neg h0] at hstep
   refine j_lit (vs := [.int .u8 44]) U46 sz5 zero5 rfl (by simp [oneV]) ⟨rfl, by decide⟩ (fun g15 v15 c15 hv15 hc15 ho15 => ?_)
   subst hv15 hc15
   refine j_append 1 U46 U46 (.inr ⟨_, rfl⟩) sb5 zero5 rfl hob rfl (.inl ⟨_, _, rfl, rd_own (off := 0) (n := 1) 0 rfl rfl, rfl⟩) (by simp [oneV]) ⟨(by first | omega | (simp only [ints_length, List.drop_zero, List.take_succ_cons, List.take_zero, List.length_append, List.length_cons, List.length_nil]; omega)), (by decide)⟩ (fun v16 c16 ho16 => ?_)
   have ho16 : Sx.Own 5 1 (ints ((P0 ++ cms ((d.outs.take i).map tO)) ++ [44])) v16 c16 := by
    rw [ints_append]
    exact ho16
   refine j_subl (S' := [c16, [(g0, .cells (dcells d x).toArray 28 (0, 0))], []]) (by repeat first | exact slR _ | exact slN _ | apply slC | apply slD) ?_
   refine j_q (qs_field U28 rfl sz26 (by decide) rfl) ?_
   refine j_q (qs_load (l := dcells d x) 1 U26 rfl rfl rfl (congrArg some hvo)) ?_
   refine j_q (qs_ixn (g := go) (off := offo) (i := i) U26 sz53 rfl rfl (by omega)) ?_
   refine j_q (qs_loadrecw (encA := encO) (rs := d.outs) (d := o0) (i := i) encO_len (rd_cells hcells (by simp)) hi U53 rfl sz53 rfl) ?_
   refine j_alloc zero53 (fun g21 hg21 hs21 => ?_)
   refine j_storew (vs := encO (d.outs.getD i o0)) 0 sz53 rfl rfl (encO_len _) (encO_one _) rfl rfl ?_
   refine j_q (qs_ac) ?_
   refine j_q (qs_ac) ?_
   refine j_q (qs_field U53 rfl sz4 (by decide) rfl) ?_
   refine j_q (qs_load (l := encO (d.outs.getD i o0)) 0 U4 rfl rfl rfl rfl) ?_
   refine j_cond rfl (fun hc2 => ?_) (fun hc2 => ?_)
   ·skip
    refine j_q (qs_field U53 rfl sz51 (by decide) rfl) ?_
    refine j_q (qs_loada (i := 3) (n := 32) (l := encO (d.outs.getD i o0)) 0 U51 rfl sz51 rfl rfl (by rw [encO_len]; omega)) ?_
    rw [show ((encO (d.outs.getD i o0)).drop 3).take 32 = ints (d.outs.getD i o0).hash.1 by show (ints _).take 32 = _; rw [List.take_of_length_le (by rw [ints_length, (d.outs.getD i o0).hash.2]; omega)]]
    refine j_q (qs_call ent62 rfl rfl rfl (fun w' hw' => rhex_con (d.outs.getD i o0).hash.1 w' (d.outs.getD i o0).hash.2)) ?_
    refine j_q (qs_ac) ?_
    refine j_mix [[(g21, .cells (encO (d.outs.getD i o0)).toArray 53 (0, 0))], [(g0, .cells (dcells d x).toArray 28 (0, 0))], []] (Le.of_sub (by repeat first | exact slR _ | exact slN _ | apply slC | apply slD)) ?_
    refine j_mq (qs_field U53 rfl sz9 (by decide) rfl) ?_
    refine j_mq (qs_load (l := encO (d.outs.getD i o0)) 0 U9 rfl rfl rfl rfl) ?_
    refine j_lit (vs := [.int .u8 40]) U46 sz5 zero5 rfl (by simp [oneV]) ⟨rfl, by decide⟩ (fun g33 v33 c33 hv33 hc33 ho33 => ?_)
    subst hv33 hc33
    refine j_mD0 (Le.of_sub (by repeat first | exact slR _ | exact slN _ | apply slC | apply slD)) ?_
    refine j_append 2 U46 U46 (.inr ⟨_, rfl⟩) sb5 zero5 rfl ho16 rfl (.inl ⟨_, _, rfl, rd_own (off := 0) (n := 1) 0 rfl rfl, rfl⟩) (by simp [oneV]) ⟨(by first | omega | (simp only [ints_length, List.drop_zero, List.take_succ_cons, List.take_zero, List.length_append, List.length_cons, List.length_nil]; omega)), (by decide)⟩ (fun v34 c34 ho34 => ?_)
    have ho34 : Sx.Own 5 1 (ints (((P0 ++ cms ((d.outs.take i).map tO)) ++ [44]) ++ [40])) v34 c34 := by
     rw [ints_append]
     exact ho34
    refine j_subl (S' := [[(g21, .cells (encO (d.outs.getD i o0)).toArray 53 (0, 0))], c34, [(g0, .cells (dcells d x).toArray 28 (0, 0))], []]) (by repeat first | exact slR _ | exact slN _ | apply slC | apply slD) ?_
    refine j_mD0 (Le.of_sub (by repeat first | exact slR _ | exact slN _ | apply slC | apply slD)) ?_
    refine j_call 1 ent76 rfl rfl rfl rfl (fun w' hw' => rquote_con _ _ _ ho34 (d.outs.getD i o0).name (by first | omega | (simp only [ints_length, List.drop_zero, List.take_succ_cons, List.take_zero, List.length_append, List.length_cons, List.length_nil]; omega)) (by first | omega | (simp; done)) w') (fun v35 S2 hu => ?_)
    obtain ⟨c35, rfl, ho35⟩ := hu
    refine j_subl (S' := [c35, [(g21, .cells (encO (d.outs.getD i o0)).toArray 53 (0, 0))], [(g0, .cells (dcells d x).toArray 28 (0, 0))], []]) (by repeat first | exact slR _ | exact slN _ | apply slC | apply slD) ?_
    refine j_mR _ (.refl _) ?_
    refine j_mend ?_
    refine j_mix [[(g21, .cells (encO (d.outs.getD i o0)).toArray 53 (0, 0))], [(g0, .cells (dcells d x).toArray 28 (0, 0))], []] (Le.of_sub (by repeat first | exact slR _ | exact slN _ | apply slC | apply slD)) ?_
    refine j_mq (qs_field U53 rfl sz49 (by decide) rfl) ?_
    refine j_mq (qs_load (l := encO (d.outs.getD i o0)) 0 U49 rfl rfl rfl rfl) ?_
    refine j_lit (vs := [.int .u8 44]) U46 sz5 zero5 rfl (by simp [oneV]) ⟨rfl, by decide⟩ (fun g38 v38 c38 hv38 hc38 ho38 => ?_)
    subst hv38 hc38
    refine j_mD0 (Le.of_sub (by repeat first | exact slR _ | exact slN _ | apply slC | apply slD)) ?_
    refine j_append 1 U46 U46 (.inr ⟨_, rfl⟩) sb5 zero5 rfl ho35 rfl (.inl ⟨_, _, rfl, rd_own (off := 0) (n := 1) 0 rfl rfl, rfl⟩) (by simp [oneV]) ⟨(by first | omega | (simp only [ints_length, List.drop_zero, List.take_succ_cons, List.take_zero, List.length_append, List.length_cons, List.length_nil]; omega)), (by decide)⟩ (fun v39 c39 ho39 => ?_)
    have ho39 : Sx.Own 5 1 (ints (((((P0 ++ cms ((d.outs.take i).map tO)) ++ [44]) ++ [40]) ++ qt (d.outs.getD i o0).name) ++ [44])) v39 c39 := by
     rw [ints_append]
     exact ho39
    refine j_subl (S' := [c39, [(g21, .cells (encO (d.outs.getD i o0)).toArray 53 (0, 0))], [(g0, .cells (dcells d x).toArray 28 (0, 0))], []]) (by repeat first | exact slR _ | exact slN _ | apply slC | apply slD) ?_
    refine j_mD0 (Le.of_sub (by repeat first | exact slR _ | exact slN _ | apply slC | apply slD)) ?_
    refine j_call 0 ent76 rfl rfl rfl rfl (fun w' hw' => rquote_con _ _ _ ho39 (d.outs.getD i o0).path (by first | omega | (simp only [ints_length, List.drop_zero, List.take_succ_cons, List.take_zero, List.length_append, List.length_cons, List.length_nil]; omega)) (by first | omega | (simp; done)) w') (fun v40 S2 hu => ?_)
    obtain ⟨c40, rfl, ho40⟩ := hu
    refine j_subl (S' := [c40, [(g21, .cells (encO (d.outs.getD i o0)).toArray 53 (0, 0))], [(g0, .cells (dcells d x).toArray 28 (0, 0))], []]) (by repeat first | exact slR _ | exact slN _ | apply slC | apply slD) ?_
    refine j_mR _ (.refl _) ?_
    refine j_mend ?_
    refine j_lit (vs := [.int .u8 44]) U46 sz5 zero5 rfl (by simp [oneV]) ⟨rfl, by decide⟩ (fun g41 v41 c41 hv41 hc41 ho41 => ?_)
    subst hv41 hc41
    refine j_append 1 U46 U46 (.inr ⟨_, rfl⟩) sb5 zero5 rfl ho40 rfl (.inl ⟨_, _, rfl, rd_own (off := 0) (n := 1) 0 rfl rfl, rfl⟩) (by simp [oneV]) ⟨(by first | omega | (simp only [ints_length, List.drop_zero, List.take_succ_cons, List.take_zero, List.length_append, List.length_cons, List.length_nil]; omega)), (by decide)⟩ (fun v42 c42 ho42 => ?_)
    have ho42 : Sx.Own 5 1 (ints (((((((P0 ++ cms ((d.outs.take i).map tO)) ++ [44]) ++ [40]) ++ qt (d.outs.getD i o0).name) ++ [44]) ++ qt (d.outs.getD i o0).path) ++ [44])) v42 c42 := by
     rw [ints_append]
     exact ho42
    refine j_subl (S' := [c42, [(g21, .cells (encO (d.outs.getD i o0)).toArray 53 (0, 0))], [(g0, .cells (dcells d x).toArray 28 (0, 0))], []]) (by repeat first | exact slR _ | exact slN _ | apply slC | apply slD) ?_
    refine j_call 0 ent76 rfl rfl rfl rfl (fun w' hw' => rquote_con _ _ _ ho42 sSha (by first | omega | (simp only [ints_length, List.drop_zero, List.take_succ_cons, List.take_zero, List.length_append, List.length_cons, List.length_nil]; omega)) (by first | omega | (simp; done)) w') (fun v43 S2 hu => ?_)
    obtain ⟨c43, rfl, ho43⟩ := hu
    refine j_subl (S' := [c43, [(g21, .cells (encO (d.outs.getD i o0)).toArray 53 (0, 0))], [(g0, .cells (dcells d x).toArray 28 (0, 0))], []]) (by repeat first | exact slR _ | exact slN _ | apply slC | apply slD) ?_
    refine j_lit (vs := [.int .u8 44]) U46 sz5 zero5 rfl (by simp [oneV]) ⟨rfl, by decide⟩ (fun g44 v44 c44 hv44 hc44 ho44 => ?_)
    subst hv44 hc44
    refine j_append 1 U46 U46 (.inr ⟨_, rfl⟩) sb5 zero5 rfl ho43 rfl (.inl ⟨_, _, rfl, rd_own (off := 0) (n := 1) 0 rfl rfl, rfl⟩) (by simp [oneV]) ⟨(by first | omega | (simp only [ints_length, List.drop_zero, List.take_succ_cons, List.take_zero, List.length_append, List.length_cons, List.length_nil]; omega)), (by decide)⟩ (fun v45 c45 ho45 => ?_)
    have ho45 : Sx.Own 5 1 (ints (((((((((P0 ++ cms ((d.outs.take i).map tO)) ++ [44]) ++ [40]) ++ qt (d.outs.getD i o0).name) ++ [44]) ++ qt (d.outs.getD i o0).path) ++ [44]) ++ qt sSha) ++ [44])) v45 c45 := by
     rw [ints_append]
     exact ho45
    refine j_subl (S' := [c45, [(g21, .cells (encO (d.outs.getD i o0)).toArray 53 (0, 0))], [(g0, .cells (dcells d x).toArray 28 (0, 0))], []]) (by repeat first | exact slR _ | exact slN _ | apply slC | apply slD) ?_
    refine j_call 0 ent76 rfl rfl rfl rfl (fun w' hw' => rquote_con _ _ _ ho45 (hex (d.outs.getD i o0).hash.1) (by first | omega | (simp only [ints_length, List.drop_zero, List.take_succ_cons, List.take_zero, List.length_append, List.length_cons, List.length_nil]; omega)) (by first | omega | (simp; done)) w') (fun v46 S2 hu => ?_)
    obtain ⟨c46, rfl, ho46⟩ := hu
    refine j_subl (S' := [c46, [(g21, .cells (encO (d.outs.getD i o0)).toArray 53 (0, 0))], [(g0, .cells (dcells d x).toArray 28 (0, 0))], []]) (by repeat first | exact slR _ | exact slN _ | apply slC | apply slD) ?_
    refine j_lit (vs := [.int .u8 41]) U46 sz5 zero5 rfl (by simp [oneV]) ⟨rfl, by decide⟩ (fun g47 v47 c47 hv47 hc47 ho47 => ?_)
    subst hv47 hc47
    refine j_append 1 U46 U46 (.inr ⟨_, rfl⟩) sb5 zero5 rfl ho46 rfl (.inl ⟨_, _, rfl, rd_own (off := 0) (n := 1) 0 rfl rfl, rfl⟩) (by simp [oneV]) ⟨(by first | omega | (simp only [ints_length, List.drop_zero, List.take_succ_cons, List.take_zero, List.length_append, List.length_cons, List.length_nil]; omega)), (by decide)⟩ (fun v48 c48 ho48 => ?_)
    have ho48 : Sx.Own 5 1 (ints (((((((((((P0 ++ cms ((d.outs.take i).map tO)) ++ [44]) ++ [40]) ++ qt (d.outs.getD i o0).name) ++ [44]) ++ qt (d.outs.getD i o0).path) ++ [44]) ++ qt sSha) ++ [44]) ++ qt (hex (d.outs.getD i o0).hash.1)) ++ [41])) v48 c48 := by
     rw [ints_append]
     exact ho48
    refine j_subl (S' := [c48, [(g21, .cells (encO (d.outs.getD i o0)).toArray 53 (0, 0))], [(g0, .cells (dcells d x).toArray 28 (0, 0))], []]) (by repeat first | exact slR _ | exact slN _ | apply slC | apply slD) ?_
    refine j_q (qs_add64 rfl rfl (by omega)) ?_
    have hob2 : Sx.Own 5 1 (ints (P0 ++ cms ((d.outs.take (i + 1)).map tO))) v48 c48 := by
     rw [hstep, tO_fix hc2]
     (simp only [List.append_assoc, List.cons_append, List.nil_append, MI.pi] at ho48 ⊢; exact ho48)
    refine j_subl (S' := [c48, [(g0, .cells (dcells d x).toArray 28 (0, 0))], []]) (by repeat first | exact slR _ | exact slN _ | apply slC | apply slD) ?_
    refine j_back rfl ?_
    exact ⟨d.outs.length - (i + 1), by omega, i + 1, v48, c48, bools2 rfl (by omega), rfl, hob2, by omega, rfl⟩
   ·skip
    refine j_mix [[(g21, .cells (encO (d.outs.getD i o0)).toArray 53 (0, 0))], [(g0, .cells (dcells d x).toArray 28 (0, 0))], []] (Le.of_sub (by repeat first | exact slR _ | exact slN _ | apply slC | apply slD)) ?_
    refine j_mq (qs_field U53 rfl sz9 (by decide) rfl) ?_
    refine j_mq (qs_load (l := encO (d.outs.getD i o0)) 0 U9 rfl rfl rfl rfl) ?_
    refine j_lit (vs := [.int .u8 40]) U46 sz5 zero5 rfl (by simp [oneV]) ⟨rfl, by decide⟩ (fun g52 v52 c52 hv52 hc52 ho52 => ?_)
    subst hv52 hc52
    refine j_mD0 (Le.of_sub (by repeat first | exact slR _ | exact slN _ | apply slC | apply slD)) ?_
    refine j_append 2 U46 U46 (.inr ⟨_, rfl⟩) sb5 zero5 rfl ho16 rfl (.inl ⟨_, _, rfl, rd_own (off := 0) (n := 1) 0 rfl rfl, rfl⟩) (by simp [oneV]) ⟨(by first | omega | (simp only [ints_length, List.drop_zero, List.take_succ_cons, List.take_zero, List.length_append, List.length_cons, List.length_nil]; omega)), (by decide)⟩ (fun v53 c53 ho53 => ?_)
    have ho53 : Sx.Own 5 1 (ints (((P0 ++ cms ((d.outs.take i).map tO)) ++ [44]) ++ [40])) v53 c53 := by
     rw [ints_append]
     exact ho53
    refine j_subl (S' := [[(g21, .cells (encO (d.outs.getD i o0)).toArray 53 (0, 0))], c53, [(g0, .cells (dcells d x).toArray 28 (0, 0))], []]) (by repeat first | exact slR _ | exact slN _ | apply slC | apply slD) ?_
    refine j_mD0 (Le.of_sub (by repeat first | exact slR _ | exact slN _ | apply slC | apply slD)) ?_
    refine j_call 1 ent76 rfl rfl rfl rfl (fun w' hw' => rquote_con _ _ _ ho53 (d.outs.getD i o0).name (by first | omega | (simp only [ints_length, List.drop_zero, List.take_succ_cons, List.take_zero, List.length_append, List.length_cons, List.length_nil]; omega)) (by first | omega | (simp; done)) w') (fun v54 S2 hu => ?_)
    obtain ⟨c54, rfl, ho54⟩ := hu
    refine j_subl (S' := [c54, [(g21, .cells (encO (d.outs.getD i o0)).toArray 53 (0, 0))], [(g0, .cells (dcells d x).toArray 28 (0, 0))], []]) (by repeat first | exact slR _ | exact slN _ | apply slC | apply slD) ?_
    refine j_mR _ (.refl _) ?_
    refine j_mend ?_
    refine j_mix [[(g21, .cells (encO (d.outs.getD i o0)).toArray 53 (0, 0))], [(g0, .cells (dcells d x).toArray 28 (0, 0))], []] (Le.of_sub (by repeat first | exact slR _ | exact slN _ | apply slC | apply slD)) ?_
    refine j_mq (qs_field U53 rfl sz49 (by decide) rfl) ?_
    refine j_mq (qs_load (l := encO (d.outs.getD i o0)) 0 U49 rfl rfl rfl rfl) ?_
    refine j_lit (vs := [.int .u8 44]) U46 sz5 zero5 rfl (by simp [oneV]) ⟨rfl, by decide⟩ (fun g57 v57 c57 hv57 hc57 ho57 => ?_)
    subst hv57 hc57
    refine j_mD0 (Le.of_sub (by repeat first | exact slR _ | exact slN _ | apply slC | apply slD)) ?_
    refine j_append 1 U46 U46 (.inr ⟨_, rfl⟩) sb5 zero5 rfl ho54 rfl (.inl ⟨_, _, rfl, rd_own (off := 0) (n := 1) 0 rfl rfl, rfl⟩) (by simp [oneV]) ⟨(by first | omega | (simp only [ints_length, List.drop_zero, List.take_succ_cons, List.take_zero, List.length_append, List.length_cons, List.length_nil]; omega)), (by decide)⟩ (fun v58 c58 ho58 => ?_)
    have ho58 : Sx.Own 5 1 (ints (((((P0 ++ cms ((d.outs.take i).map tO)) ++ [44]) ++ [40]) ++ qt (d.outs.getD i o0).name) ++ [44])) v58 c58 := by
     rw [ints_append]
     exact ho58
    refine j_subl (S' := [c58, [(g21, .cells (encO (d.outs.getD i o0)).toArray 53 (0, 0))], [(g0, .cells (dcells d x).toArray 28 (0, 0))], []]) (by repeat first | exact slR _ | exact slN _ | apply slC | apply slD) ?_
    refine j_mD0 (Le.of_sub (by repeat first | exact slR _ | exact slN _ | apply slC | apply slD)) ?_
    refine j_call 0 ent76 rfl rfl rfl rfl (fun w' hw' => rquote_con _ _ _ ho58 (d.outs.getD i o0).path (by first | omega | (simp only [ints_length, List.drop_zero, List.take_succ_cons, List.take_zero, List.length_append, List.length_cons, List.length_nil]; omega)) (by first | omega | (simp; done)) w') (fun v59 S2 hu => ?_)
    obtain ⟨c59, rfl, ho59⟩ := hu
    refine j_subl (S' := [c59, [(g21, .cells (encO (d.outs.getD i o0)).toArray 53 (0, 0))], [(g0, .cells (dcells d x).toArray 28 (0, 0))], []]) (by repeat first | exact slR _ | exact slN _ | apply slC | apply slD) ?_
    refine j_mR _ (.refl _) ?_
    refine j_mend ?_
    refine j_lit (vs := [.int .u8 44]) U46 sz5 zero5 rfl (by simp [oneV]) ⟨rfl, by decide⟩ (fun g60 v60 c60 hv60 hc60 ho60 => ?_)
    subst hv60 hc60
    refine j_append 1 U46 U46 (.inr ⟨_, rfl⟩) sb5 zero5 rfl ho59 rfl (.inl ⟨_, _, rfl, rd_own (off := 0) (n := 1) 0 rfl rfl, rfl⟩) (by simp [oneV]) ⟨(by first | omega | (simp only [ints_length, List.drop_zero, List.take_succ_cons, List.take_zero, List.length_append, List.length_cons, List.length_nil]; omega)), (by decide)⟩ (fun v61 c61 ho61 => ?_)
    have ho61 : Sx.Own 5 1 (ints (((((((P0 ++ cms ((d.outs.take i).map tO)) ++ [44]) ++ [40]) ++ qt (d.outs.getD i o0).name) ++ [44]) ++ qt (d.outs.getD i o0).path) ++ [44])) v61 c61 := by
     rw [ints_append]
     exact ho61
    refine j_subl (S' := [c61, [(g21, .cells (encO (d.outs.getD i o0)).toArray 53 (0, 0))], [(g0, .cells (dcells d x).toArray 28 (0, 0))], []]) (by repeat first | exact slR _ | exact slN _ | apply slC | apply slD) ?_
    refine j_call 0 ent76 rfl rfl rfl rfl (fun w' hw' => rquote_con _ _ _ ho61 [] (by first | omega | (simp only [ints_length, List.drop_zero, List.take_succ_cons, List.take_zero, List.length_append, List.length_cons, List.length_nil]; omega)) (by first | omega | (simp; done)) w') (fun v62 S2 hu => ?_)
    obtain ⟨c62, rfl, ho62⟩ := hu
    refine j_subl (S' := [c62, [(g21, .cells (encO (d.outs.getD i o0)).toArray 53 (0, 0))], [(g0, .cells (dcells d x).toArray 28 (0, 0))], []]) (by repeat first | exact slR _ | exact slN _ | apply slC | apply slD) ?_
    refine j_lit (vs := [.int .u8 44]) U46 sz5 zero5 rfl (by simp [oneV]) ⟨rfl, by decide⟩ (fun g63 v63 c63 hv63 hc63 ho63 => ?_)
    subst hv63 hc63
    refine j_append 1 U46 U46 (.inr ⟨_, rfl⟩) sb5 zero5 rfl ho62 rfl (.inl ⟨_, _, rfl, rd_own (off := 0) (n := 1) 0 rfl rfl, rfl⟩) (by simp [oneV]) ⟨(by first | omega | (simp only [ints_length, List.drop_zero, List.take_succ_cons, List.take_zero, List.length_append, List.length_cons, List.length_nil]; omega)), (by decide)⟩ (fun v64 c64 ho64 => ?_)
    have ho64 : Sx.Own 5 1 (ints (((((((((P0 ++ cms ((d.outs.take i).map tO)) ++ [44]) ++ [40]) ++ qt (d.outs.getD i o0).name) ++ [44]) ++ qt (d.outs.getD i o0).path) ++ [44]) ++ qt []) ++ [44])) v64 c64 := by
     rw [ints_append]
     exact ho64
    refine j_subl (S' := [c64, [(g21, .cells (encO (d.outs.getD i o0)).toArray 53 (0, 0))], [(g0, .cells (dcells d x).toArray 28 (0, 0))], []]) (by repeat first | exact slR _ | exact slN _ | apply slC | apply slD) ?_
    refine j_call 0 ent76 rfl rfl rfl rfl (fun w' hw' => rquote_con _ _ _ ho64 [] (by first | omega | (simp only [ints_length, List.drop_zero, List.take_succ_cons, List.take_zero, List.length_append, List.length_cons, List.length_nil]; omega)) (by first | omega | (simp; done)) w') (fun v65 S2 hu => ?_)
    obtain ⟨c65, rfl, ho65⟩ := hu
    refine j_subl (S' := [c65, [(g21, .cells (encO (d.outs.getD i o0)).toArray 53 (0, 0))], [(g0, .cells (dcells d x).toArray 28 (0, 0))], []]) (by repeat first | exact slR _ | exact slN _ | apply slC | apply slD) ?_
    refine j_lit (vs := [.int .u8 41]) U46 sz5 zero5 rfl (by simp [oneV]) ⟨rfl, by decide⟩ (fun g66 v66 c66 hv66 hc66 ho66 => ?_)
    subst hv66 hc66
    refine j_append 1 U46 U46 (.inr ⟨_, rfl⟩) sb5 zero5 rfl ho65 rfl (.inl ⟨_, _, rfl, rd_own (off := 0) (n := 1) 0 rfl rfl, rfl⟩) (by simp [oneV]) ⟨(by first | omega | (simp only [ints_length, List.drop_zero, List.take_succ_cons, List.take_zero, List.length_append, List.length_cons, List.length_nil]; omega)), (by decide)⟩ (fun v67 c67 ho67 => ?_)
    have ho67 : Sx.Own 5 1 (ints (((((((((((P0 ++ cms ((d.outs.take i).map tO)) ++ [44]) ++ [40]) ++ qt (d.outs.getD i o0).name) ++ [44]) ++ qt (d.outs.getD i o0).path) ++ [44]) ++ qt []) ++ [44]) ++ qt []) ++ [41])) v67 c67 := by
     rw [ints_append]
     exact ho67
    refine j_subl (S' := [c67, [(g21, .cells (encO (d.outs.getD i o0)).toArray 53 (0, 0))], [(g0, .cells (dcells d x).toArray 28 (0, 0))], []]) (by repeat first | exact slR _ | exact slN _ | apply slC | apply slD) ?_
    refine j_q (qs_add64 rfl rfl (by omega)) ?_
    have hob2 : Sx.Own 5 1 (ints (P0 ++ cms ((d.outs.take (i + 1)).map tO))) v67 c67 := by
     rw [hstep, tO_fr hc2]
     (simp only [List.append_assoc, List.cons_append, List.nil_append, MI.pi] at ho67 ⊢; exact ho67)
    refine j_subl (S' := [c67, [(g0, .cells (dcells d x).toArray 28 (0, 0))], []]) (by repeat first | exact slR _ | exact slN _ | apply slC | apply slD) ?_
    refine j_back rfl ?_
    exact ⟨d.outs.length - (i + 1), by omega, i + 1, v67, c67, bools2 rfl (by omega), rfl, hob2, by omega, rfl⟩
  ·skip
   have h0 : i = 0 := by
    simp only [bnA] at *
    omega
   have hstep := cms_step tO (d := o0) hi
   rw [if_pos h0] at hstep
   have hcm0 : cms ((d.outs.take i).map tO) = [] := by
    rw [h0]
    exact cms0 _ _
   refine j_q (qs_field U28 rfl sz26 (by decide) rfl) ?_
   refine j_q (qs_load (l := dcells d x) 1 U26 rfl rfl rfl (congrArg some hvo)) ?_
   refine j_q (qs_ixn (g := go) (off := offo) (i := i) U26 sz53 rfl rfl (by omega)) ?_
   refine j_q (qs_loadrecw (encA := encO) (rs := d.outs) (d := o0) (i := i) encO_len (rd_cells hcells (by simp)) hi U53 rfl sz53 rfl) ?_
   refine j_alloc zero53 (fun g73 hg73 hs73 => ?_)
   refine j_storew (vs := encO (d.outs.getD i o0)) 0 sz53 rfl rfl (encO_len _) (encO_one _) rfl rfl ?_
   refine j_q (qs_ac) ?_
   refine j_q (qs_ac) ?_
   refine j_q (qs_field U53 rfl sz4 (by decide) rfl) ?_
   refine j_q (qs_load (l := encO (d.outs.getD i o0)) 0 U4 rfl rfl rfl rfl) ?_
   refine j_cond rfl (fun hc3 => ?_) (fun hc3 => ?_)
   ·skip
    refine j_q (qs_field U53 rfl sz51 (by decide) rfl) ?_
    refine j_q (qs_loada (i := 3) (n := 32) (l := encO (d.outs.getD i o0)) 0 U51 rfl sz51 rfl rfl (by rw [encO_len]; omega)) ?_
    rw [show ((encO (d.outs.getD i o0)).drop 3).take 32 = ints (d.outs.getD i o0).hash.1 by show (ints _).take 32 = _; rw [List.take_of_length_le (by rw [ints_length, (d.outs.getD i o0).hash.2]; omega)]]
    refine j_q (qs_call ent62 rfl rfl rfl (fun w' hw' => rhex_con (d.outs.getD i o0).hash.1 w' (d.outs.getD i o0).hash.2)) ?_
    refine j_q (qs_ac) ?_
    refine j_mix [[(g73, .cells (encO (d.outs.getD i o0)).toArray 53 (0, 0))], [(g0, .cells (dcells d x).toArray 28 (0, 0))], []] (Le.of_sub (by repeat first | exact slR _ | exact slN _ | apply slC | apply slD)) ?_
    refine j_mq (qs_field U53 rfl sz9 (by decide) rfl) ?_
    refine j_mq (qs_load (l := encO (d.outs.getD i o0)) 0 U9 rfl rfl rfl rfl) ?_
    refine j_lit (vs := [.int .u8 40]) U46 sz5 zero5 rfl (by simp [oneV]) ⟨rfl, by decide⟩ (fun g85 v85 c85 hv85 hc85 ho85 => ?_)
    subst hv85 hc85
    refine j_mD0 (Le.of_sub (by repeat first | exact slR _ | exact slN _ | apply slC | apply slD)) ?_
    refine j_append 2 U46 U46 (.inr ⟨_, rfl⟩) sb5 zero5 rfl hob rfl (.inl ⟨_, _, rfl, rd_own (off := 0) (n := 1) 0 rfl rfl, rfl⟩) (by simp [oneV]) ⟨(by first | omega | (simp only [ints_length, List.drop_zero, List.take_succ_cons, List.take_zero, List.length_append, List.length_cons, List.length_nil]; omega)), (by decide)⟩ (fun v86 c86 ho86 => ?_)
    have ho86 : Sx.Own 5 1 (ints ((P0 ++ cms ((d.outs.take i).map tO)) ++ [40])) v86 c86 := by
     rw [ints_append]
     exact ho86
    refine j_subl (S' := [[(g73, .cells (encO (d.outs.getD i o0)).toArray 53 (0, 0))], c86, [(g0, .cells (dcells d x).toArray 28 (0, 0))], []]) (by repeat first | exact slR _ | exact slN _ | apply slC | apply slD) ?_
    refine j_mD0 (Le.of_sub (by repeat first | exact slR _ | exact slN _ | apply slC | apply slD)) ?_
    refine j_call 1 ent76 rfl rfl rfl rfl (fun w' hw' => rquote_con _ _ _ ho86 (d.outs.getD i o0).name (by first | omega | (simp only [ints_length, List.drop_zero, List.take_succ_cons, List.take_zero, List.length_append, List.length_cons, List.length_nil]; omega)) (by first | omega | (simp; done)) w') (fun v87 S2 hu => ?_)
    obtain ⟨c87, rfl, ho87⟩ := hu
    refine j_subl (S' := [c87, [(g73, .cells (encO (d.outs.getD i o0)).toArray 53 (0, 0))], [(g0, .cells (dcells d x).toArray 28 (0, 0))], []]) (by repeat first | exact slR _ | exact slN _ | apply slC | apply slD) ?_
    refine j_mR _ (.refl _) ?_
    refine j_mend ?_
    refine j_mix [[(g73, .cells (encO (d.outs.getD i o0)).toArray 53 (0, 0))], [(g0, .cells (dcells d x).toArray 28 (0, 0))], []] (Le.of_sub (by repeat first | exact slR _ | exact slN _ | apply slC | apply slD)) ?_
    refine j_mq (qs_field U53 rfl sz49 (by decide) rfl) ?_
    refine j_mq (qs_load (l := encO (d.outs.getD i o0)) 0 U49 rfl rfl rfl rfl) ?_
    refine j_lit (vs := [.int .u8 44]) U46 sz5 zero5 rfl (by simp [oneV]) ⟨rfl, by decide⟩ (fun g90 v90 c90 hv90 hc90 ho90 => ?_)
    subst hv90 hc90
    refine j_mD0 (Le.of_sub (by repeat first | exact slR _ | exact slN _ | apply slC | apply slD)) ?_
    refine j_append 1 U46 U46 (.inr ⟨_, rfl⟩) sb5 zero5 rfl ho87 rfl (.inl ⟨_, _, rfl, rd_own (off := 0) (n := 1) 0 rfl rfl, rfl⟩) (by simp [oneV]) ⟨(by first | omega | (simp only [ints_length, List.drop_zero, List.take_succ_cons, List.take_zero, List.length_append, List.length_cons, List.length_nil]; omega)), (by decide)⟩ (fun v91 c91 ho91 => ?_)
    have ho91 : Sx.Own 5 1 (ints ((((P0 ++ cms ((d.outs.take i).map tO)) ++ [40]) ++ qt (d.outs.getD i o0).name) ++ [44])) v91 c91 := by
     rw [ints_append]
     exact ho91
    refine j_subl (S' := [c91, [(g73, .cells (encO (d.outs.getD i o0)).toArray 53 (0, 0))], [(g0, .cells (dcells d x).toArray 28 (0, 0))], []]) (by repeat first | exact slR _ | exact slN _ | apply slC | apply slD) ?_
    refine j_mD0 (Le.of_sub (by repeat first | exact slR _ | exact slN _ | apply slC | apply slD)) ?_
    refine j_call 0 ent76 rfl rfl rfl rfl (fun w' hw' => rquote_con _ _ _ ho91 (d.outs.getD i o0).path (by first | omega | (simp only [ints_length, List.drop_zero, List.take_succ_cons, List.take_zero, List.length_append, List.length_cons, List.length_nil]; omega)) (by first | omega | (simp; done)) w') (fun v92 S2 hu => ?_)
    obtain ⟨c92, rfl, ho92⟩ := hu
    refine j_subl (S' := [c92, [(g73, .cells (encO (d.outs.getD i o0)).toArray 53 (0, 0))], [(g0, .cells (dcells d x).toArray 28 (0, 0))], []]) (by repeat first | exact slR _ | exact slN _ | apply slC | apply slD) ?_
    refine j_mR _ (.refl _) ?_
    refine j_mend ?_
    refine j_lit (vs := [.int .u8 44]) U46 sz5 zero5 rfl (by simp [oneV]) ⟨rfl, by decide⟩ (fun g93 v93 c93 hv93 hc93 ho93 => ?_)
    subst hv93 hc93
    refine j_append 1 U46 U46 (.inr ⟨_, rfl⟩) sb5 zero5 rfl ho92 rfl (.inl ⟨_, _, rfl, rd_own (off := 0) (n := 1) 0 rfl rfl, rfl⟩) (by simp [oneV]) ⟨(by first | omega | (simp only [ints_length, List.drop_zero, List.take_succ_cons, List.take_zero, List.length_append, List.length_cons, List.length_nil]; omega)), (by decide)⟩ (fun v94 c94 ho94 => ?_)
    have ho94 : Sx.Own 5 1 (ints ((((((P0 ++ cms ((d.outs.take i).map tO)) ++ [40]) ++ qt (d.outs.getD i o0).name) ++ [44]) ++ qt (d.outs.getD i o0).path) ++ [44])) v94 c94 := by
     rw [ints_append]
     exact ho94
    refine j_subl (S' := [c94, [(g73, .cells (encO (d.outs.getD i o0)).toArray 53 (0, 0))], [(g0, .cells (dcells d x).toArray 28 (0, 0))], []]) (by repeat first | exact slR _ | exact slN _ | apply slC | apply slD) ?_
    refine j_call 0 ent76 rfl rfl rfl rfl (fun w' hw' => rquote_con _ _ _ ho94 sSha (by first | omega | (simp only [ints_length, List.drop_zero, List.take_succ_cons, List.take_zero, List.length_append, List.length_cons, List.length_nil]; omega)) (by first | omega | (simp; done)) w') (fun v95 S2 hu => ?_)
    obtain ⟨c95, rfl, ho95⟩ := hu
    refine j_subl (S' := [c95, [(g73, .cells (encO (d.outs.getD i o0)).toArray 53 (0, 0))], [(g0, .cells (dcells d x).toArray 28 (0, 0))], []]) (by repeat first | exact slR _ | exact slN _ | apply slC | apply slD) ?_
    refine j_lit (vs := [.int .u8 44]) U46 sz5 zero5 rfl (by simp [oneV]) ⟨rfl, by decide⟩ (fun g96 v96 c96 hv96 hc96 ho96 => ?_)
    subst hv96 hc96
    refine j_append 1 U46 U46 (.inr ⟨_, rfl⟩) sb5 zero5 rfl ho95 rfl (.inl ⟨_, _, rfl, rd_own (off := 0) (n := 1) 0 rfl rfl, rfl⟩) (by simp [oneV]) ⟨(by first | omega | (simp only [ints_length, List.drop_zero, List.take_succ_cons, List.take_zero, List.length_append, List.length_cons, List.length_nil]; omega)), (by decide)⟩ (fun v97 c97 ho97 => ?_)
    have ho97 : Sx.Own 5 1 (ints ((((((((P0 ++ cms ((d.outs.take i).map tO)) ++ [40]) ++ qt (d.outs.getD i o0).name) ++ [44]) ++ qt (d.outs.getD i o0).path) ++ [44]) ++ qt sSha) ++ [44])) v97 c97 := by
     rw [ints_append]
     exact ho97
    refine j_subl (S' := [c97, [(g73, .cells (encO (d.outs.getD i o0)).toArray 53 (0, 0))], [(g0, .cells (dcells d x).toArray 28 (0, 0))], []]) (by repeat first | exact slR _ | exact slN _ | apply slC | apply slD) ?_
    refine j_call 0 ent76 rfl rfl rfl rfl (fun w' hw' => rquote_con _ _ _ ho97 (hex (d.outs.getD i o0).hash.1) (by first | omega | (simp only [ints_length, List.drop_zero, List.take_succ_cons, List.take_zero, List.length_append, List.length_cons, List.length_nil]; omega)) (by first | omega | (simp; done)) w') (fun v98 S2 hu => ?_)
    obtain ⟨c98, rfl, ho98⟩ := hu
    refine j_subl (S' := [c98, [(g73, .cells (encO (d.outs.getD i o0)).toArray 53 (0, 0))], [(g0, .cells (dcells d x).toArray 28 (0, 0))], []]) (by repeat first | exact slR _ | exact slN _ | apply slC | apply slD) ?_
    refine j_lit (vs := [.int .u8 41]) U46 sz5 zero5 rfl (by simp [oneV]) ⟨rfl, by decide⟩ (fun g99 v99 c99 hv99 hc99 ho99 => ?_)
    subst hv99 hc99
    refine j_append 1 U46 U46 (.inr ⟨_, rfl⟩) sb5 zero5 rfl ho98 rfl (.inl ⟨_, _, rfl, rd_own (off := 0) (n := 1) 0 rfl rfl, rfl⟩) (by simp [oneV]) ⟨(by first | omega | (simp only [ints_length, List.drop_zero, List.take_succ_cons, List.take_zero, List.length_append, List.length_cons, List.length_nil]; omega)), (by decide)⟩ (fun v100 c100 ho100 => ?_)
    have ho100 : Sx.Own 5 1 (ints ((((((((((P0 ++ cms ((d.outs.take i).map tO)) ++ [40]) ++ qt (d.outs.getD i o0).name) ++ [44]) ++ qt (d.outs.getD i o0).path) ++ [44]) ++ qt sSha) ++ [44]) ++ qt (hex (d.outs.getD i o0).hash.1)) ++ [41])) v100 c100 := by
     rw [ints_append]
     exact ho100
    refine j_subl (S' := [c100, [(g73, .cells (encO (d.outs.getD i o0)).toArray 53 (0, 0))], [(g0, .cells (dcells d x).toArray 28 (0, 0))], []]) (by repeat first | exact slR _ | exact slN _ | apply slC | apply slD) ?_
    refine j_q (qs_add64 rfl rfl (by omega)) ?_
    have hob2 : Sx.Own 5 1 (ints (P0 ++ cms ((d.outs.take (i + 1)).map tO))) v100 c100 := by
     rw [hstep, tO_fix hc3]
     (rw [hcm0, List.append_nil] at ho100; simp only [List.append_assoc, List.cons_append, List.nil_append, MI.pi] at ho100 ⊢; exact ho100)
    refine j_subl (S' := [c100, [(g0, .cells (dcells d x).toArray 28 (0, 0))], []]) (by repeat first | exact slR _ | exact slN _ | apply slC | apply slD) ?_
    refine j_back rfl ?_
    exact ⟨d.outs.length - (i + 1), by omega, i + 1, v100, c100, bools2 rfl (by omega), rfl, hob2, by omega, rfl⟩
   ·skip
    refine j_mix [[(g73, .cells (encO (d.outs.getD i o0)).toArray 53 (0, 0))], [(g0, .cells (dcells d x).toArray 28 (0, 0))], []] (Le.of_sub (by repeat first | exact slR _ | exact slN _ | apply slC | apply slD)) ?_
    refine j_mq (qs_field U53 rfl sz9 (by decide) rfl) ?_
    refine j_mq (qs_load (l := encO (d.outs.getD i o0)) 0 U9 rfl rfl rfl rfl) ?_
    refine j_lit (vs := [.int .u8 40]) U46 sz5 zero5 rfl (by simp [oneV]) ⟨rfl, by decide⟩ (fun g104 v104 c104 hv104 hc104 ho104 => ?_)
    subst hv104 hc104
    refine j_mD0 (Le.of_sub (by repeat first | exact slR _ | exact slN _ | apply slC | apply slD)) ?_
    refine j_append 2 U46 U46 (.inr ⟨_, rfl⟩) sb5 zero5 rfl hob rfl (.inl ⟨_, _, rfl, rd_own (off := 0) (n := 1) 0 rfl rfl, rfl⟩) (by simp [oneV]) ⟨(by first | omega | (simp only [ints_length, List.drop_zero, List.take_succ_cons, List.take_zero, List.length_append, List.length_cons, List.length_nil]; omega)), (by decide)⟩ (fun v105 c105 ho105 => ?_)
    have ho105 : Sx.Own 5 1 (ints ((P0 ++ cms ((d.outs.take i).map tO)) ++ [40])) v105 c105 := by
     rw [ints_append]
     exact ho105
    refine j_subl (S' := [[(g73, .cells (encO (d.outs.getD i o0)).toArray 53 (0, 0))], c105, [(g0, .cells (dcells d x).toArray 28 (0, 0))], []]) (by repeat first | exact slR _ | exact slN _ | apply slC | apply slD) ?_
    refine j_mD0 (Le.of_sub (by repeat first | exact slR _ | exact slN _ | apply slC | apply slD)) ?_
    refine j_call 1 ent76 rfl rfl rfl rfl (fun w' hw' => rquote_con _ _ _ ho105 (d.outs.getD i o0).name (by first | omega | (simp only [ints_length, List.drop_zero, List.take_succ_cons, List.take_zero, List.length_append, List.length_cons, List.length_nil]; omega)) (by first | omega | (simp; done)) w') (fun v106 S2 hu => ?_)
    obtain ⟨c106, rfl, ho106⟩ := hu
    refine j_subl (S' := [c106, [(g73, .cells (encO (d.outs.getD i o0)).toArray 53 (0, 0))], [(g0, .cells (dcells d x).toArray 28 (0, 0))], []]) (by repeat first | exact slR _ | exact slN _ | apply slC | apply slD) ?_
    refine j_mR _ (.refl _) ?_
    refine j_mend ?_
    refine j_mix [[(g73, .cells (encO (d.outs.getD i o0)).toArray 53 (0, 0))], [(g0, .cells (dcells d x).toArray 28 (0, 0))], []] (Le.of_sub (by repeat first | exact slR _ | exact slN _ | apply slC | apply slD)) ?_
    refine j_mq (qs_field U53 rfl sz49 (by decide) rfl) ?_
    refine j_mq (qs_load (l := encO (d.outs.getD i o0)) 0 U49 rfl rfl rfl rfl) ?_
    refine j_lit (vs := [.int .u8 44]) U46 sz5 zero5 rfl (by simp [oneV]) ⟨rfl, by decide⟩ (fun g109 v109 c109 hv109 hc109 ho109 => ?_)
    subst hv109 hc109
    refine j_mD0 (Le.of_sub (by repeat first | exact slR _ | exact slN _ | apply slC | apply slD)) ?_
    refine j_append 1 U46 U46 (.inr ⟨_, rfl⟩) sb5 zero5 rfl ho106 rfl (.inl ⟨_, _, rfl, rd_own (off := 0) (n := 1) 0 rfl rfl, rfl⟩) (by simp [oneV]) ⟨(by first | omega | (simp only [ints_length, List.drop_zero, List.take_succ_cons, List.take_zero, List.length_append, List.length_cons, List.length_nil]; omega)), (by decide)⟩ (fun v110 c110 ho110 => ?_)
    have ho110 : Sx.Own 5 1 (ints ((((P0 ++ cms ((d.outs.take i).map tO)) ++ [40]) ++ qt (d.outs.getD i o0).name) ++ [44])) v110 c110 := by
     rw [ints_append]
     exact ho110
    refine j_subl (S' := [c110, [(g73, .cells (encO (d.outs.getD i o0)).toArray 53 (0, 0))], [(g0, .cells (dcells d x).toArray 28 (0, 0))], []]) (by repeat first | exact slR _ | exact slN _ | apply slC | apply slD) ?_
    refine j_mD0 (Le.of_sub (by repeat first | exact slR _ | exact slN _ | apply slC | apply slD)) ?_
    refine j_call 0 ent76 rfl rfl rfl rfl (fun w' hw' => rquote_con _ _ _ ho110 (d.outs.getD i o0).path (by first | omega | (simp only [ints_length, List.drop_zero, List.take_succ_cons, List.take_zero, List.length_append, List.length_cons, List.length_nil]; omega)) (by first | omega | (simp; done)) w') (fun v111 S2 hu => ?_)
    obtain ⟨c111, rfl, ho111⟩ := hu
    refine j_subl (S' := [c111, [(g73, .cells (encO (d.outs.getD i o0)).toArray 53 (0, 0))], [(g0, .cells (dcells d x).toArray 28 (0, 0))], []]) (by repeat first | exact slR _ | exact slN _ | apply slC | apply slD) ?_
    refine j_mR _ (.refl _) ?_
    refine j_mend ?_
    refine j_lit (vs := [.int .u8 44]) U46 sz5 zero5 rfl (by simp [oneV]) ⟨rfl, by decide⟩ (fun g112 v112 c112 hv112 hc112 ho112 => ?_)
    subst hv112 hc112
    refine j_append 1 U46 U46 (.inr ⟨_, rfl⟩) sb5 zero5 rfl ho111 rfl (.inl ⟨_, _, rfl, rd_own (off := 0) (n := 1) 0 rfl rfl, rfl⟩) (by simp [oneV]) ⟨(by first | omega | (simp only [ints_length, List.drop_zero, List.take_succ_cons, List.take_zero, List.length_append, List.length_cons, List.length_nil]; omega)), (by decide)⟩ (fun v113 c113 ho113 => ?_)
    have ho113 : Sx.Own 5 1 (ints ((((((P0 ++ cms ((d.outs.take i).map tO)) ++ [40]) ++ qt (d.outs.getD i o0).name) ++ [44]) ++ qt (d.outs.getD i o0).path) ++ [44])) v113 c113 := by
     rw [ints_append]
     exact ho113
    refine j_subl (S' := [c113, [(g73, .cells (encO (d.outs.getD i o0)).toArray 53 (0, 0))], [(g0, .cells (dcells d x).toArray 28 (0, 0))], []]) (by repeat first | exact slR _ | exact slN _ | apply slC | apply slD) ?_
    refine j_call 0 ent76 rfl rfl rfl rfl (fun w' hw' => rquote_con _ _ _ ho113 [] (by first | omega | (simp only [ints_length, List.drop_zero, List.take_succ_cons, List.take_zero, List.length_append, List.length_cons, List.length_nil]; omega)) (by first | omega | (simp; done)) w') (fun v114 S2 hu => ?_)
    obtain ⟨c114, rfl, ho114⟩ := hu
    refine j_subl (S' := [c114, [(g73, .cells (encO (d.outs.getD i o0)).toArray 53 (0, 0))], [(g0, .cells (dcells d x).toArray 28 (0, 0))], []]) (by repeat first | exact slR _ | exact slN _ | apply slC | apply slD) ?_
    refine j_lit (vs := [.int .u8 44]) U46 sz5 zero5 rfl (by simp [oneV]) ⟨rfl, by decide⟩ (fun g115 v115 c115 hv115 hc115 ho115 => ?_)
    subst hv115 hc115
    refine j_append 1 U46 U46 (.inr ⟨_, rfl⟩) sb5 zero5 rfl ho114 rfl (.inl ⟨_, _, rfl, rd_own (off := 0) (n := 1) 0 rfl rfl, rfl⟩) (by simp [oneV]) ⟨(by first | omega | (simp only [ints_length, List.drop_zero, List.take_succ_cons, List.take_zero, List.length_append, List.length_cons, List.length_nil]; omega)), (by decide)⟩ (fun v116 c116 ho116 => ?_)
    have ho116 : Sx.Own 5 1 (ints ((((((((P0 ++ cms ((d.outs.take i).map tO)) ++ [40]) ++ qt (d.outs.getD i o0).name) ++ [44]) ++ qt (d.outs.getD i o0).path) ++ [44]) ++ qt []) ++ [44])) v116 c116 := by
     rw [ints_append]
     exact ho116
    refine j_subl (S' := [c116, [(g73, .cells (encO (d.outs.getD i o0)).toArray 53 (0, 0))], [(g0, .cells (dcells d x).toArray 28 (0, 0))], []]) (by repeat first | exact slR _ | exact slN _ | apply slC | apply slD) ?_
    refine j_call 0 ent76 rfl rfl rfl rfl (fun w' hw' => rquote_con _ _ _ ho116 [] (by first | omega | (simp only [ints_length, List.drop_zero, List.take_succ_cons, List.take_zero, List.length_append, List.length_cons, List.length_nil]; omega)) (by first | omega | (simp; done)) w') (fun v117 S2 hu => ?_)
    obtain ⟨c117, rfl, ho117⟩ := hu
    refine j_subl (S' := [c117, [(g73, .cells (encO (d.outs.getD i o0)).toArray 53 (0, 0))], [(g0, .cells (dcells d x).toArray 28 (0, 0))], []]) (by repeat first | exact slR _ | exact slN _ | apply slC | apply slD) ?_
    refine j_lit (vs := [.int .u8 41]) U46 sz5 zero5 rfl (by simp [oneV]) ⟨rfl, by decide⟩ (fun g118 v118 c118 hv118 hc118 ho118 => ?_)
    subst hv118 hc118
    refine j_append 1 U46 U46 (.inr ⟨_, rfl⟩) sb5 zero5 rfl ho117 rfl (.inl ⟨_, _, rfl, rd_own (off := 0) (n := 1) 0 rfl rfl, rfl⟩) (by simp [oneV]) ⟨(by first | omega | (simp only [ints_length, List.drop_zero, List.take_succ_cons, List.take_zero, List.length_append, List.length_cons, List.length_nil]; omega)), (by decide)⟩ (fun v119 c119 ho119 => ?_)
    have ho119 : Sx.Own 5 1 (ints ((((((((((P0 ++ cms ((d.outs.take i).map tO)) ++ [40]) ++ qt (d.outs.getD i o0).name) ++ [44]) ++ qt (d.outs.getD i o0).path) ++ [44]) ++ qt []) ++ [44]) ++ qt []) ++ [41])) v119 c119 := by
     rw [ints_append]
     exact ho119
    refine j_subl (S' := [c119, [(g73, .cells (encO (d.outs.getD i o0)).toArray 53 (0, 0))], [(g0, .cells (dcells d x).toArray 28 (0, 0))], []]) (by repeat first | exact slR _ | exact slN _ | apply slC | apply slD) ?_
    refine j_q (qs_add64 rfl rfl (by omega)) ?_
    have hob2 : Sx.Own 5 1 (ints (P0 ++ cms ((d.outs.take (i + 1)).map tO))) v119 c119 := by
     rw [hstep, tO_fr hc3]
     (rw [hcm0, List.append_nil] at ho119; simp only [List.append_assoc, List.cons_append, List.nil_append, MI.pi] at ho119 ⊢; exact ho119)
    refine j_subl (S' := [c119, [(g0, .cells (dcells d x).toArray 28 (0, 0))], []]) (by repeat first | exact slR _ | exact slN _ | apply slC | apply slD) ?_
    refine j_back rfl ?_
    exact ⟨d.outs.length - (i + 1), by omega, i + 1, v119, c119, bools2 rfl (by omega), rfl, hob2, by omega, rfl⟩
 ·skip
  obtain rfl : i = d.outs.length := by
   simp only [bnA] at *
   omega
  rw [List.take_length] at hob
  have hci := hclo d.outs.length
  rw [List.take_length] at hci
  refine j_lit (vs := [.int .u8 93, .int .u8 44, .int .u8 91]) U46 sz5 zero5 rfl (by simp [oneV]) ⟨rfl, by decide⟩ (fun g121 v121 c121 hv121 hc121 ho121 => ?_)
  subst hv121 hc121
  refine j_append 1 U46 U46 (.inr ⟨_, rfl⟩) sb5 zero5 rfl hob rfl (.inl ⟨_, _, rfl, rd_own (off := 0) (n := 3) 0 rfl rfl, rfl⟩) (by simp [oneV]) ⟨(by first | omega | (simp only [ints_length, List.drop_zero, List.take_succ_cons, List.take_zero, List.length_append, List.length_cons, List.length_nil]; omega)), (by decide)⟩ (fun v122 c122 ho122 => ?_)
  have ho122 : Sx.Own 5 1 (ints ((P0 ++ cms (d.outs.map tO)) ++ [93, 44, 91])) v122 c122 := by
   rw [ints_append]
   exact ho122
  refine j_subl (S' := [c122, [(g0, .cells (dcells d x).toArray 28 (0, 0))], []]) (by repeat first | exact slR _ | exact slN _ | apply slC | apply slD) ?_
  obtain ⟨P1, hP1⟩ : ∃ p, p = ((P0 ++ cms (d.outs.map tO)) ++ [93, 44, 91]) := ⟨_, rfl⟩
  rw [← hP1] at ho122
  have hP1l : P1.length ≤ 200000000 := by
   rw [hP1]
   simp only [List.length_append, List.length_cons, List.length_nil]
   omega
  refine j_q (qs_ac) ?_
  refine j_loop (fun m vs S' => ∃ (i : Nat) (bv : Value) (cb : SH), vs = [bv, .int .i64 (i : Int)] ∧ S' = [cb, [(g0, .cells (dcells d x).toArray 28 (0, 0))], []] ∧ Sx.Own 5 1 (ints (P1 ++ cms ((x.mi.take i).map (fun m => tI m.pi)))) bv cb ∧ i ≤ x.mi.length ∧ m = x.mi.length - i) ⟨_, 0, v122, c122, rfl, rfl, by rw [cms0, List.append_nil]; exact ho122, Nat.zero_le _, rfl⟩ ?_
  rintro m vs S' hlen ⟨i, bv, cb, rfl, rfl, hob, hin, rfl⟩
  refine j_q (qs_field U28 rfl sz24 (by decide) rfl) ?_
  refine j_q (qs_load (l := dcells d x) 1 U24 rfl rfl rfl (congrArg some hvi)) ?_
  refine j_q (qs_lenl U24 rfl) ?_
  refine j_q (qs_lss rfl rfl) ?_
  refine j_cond rfl (fun hc4 => ?_) (fun hc4 => ?_)
  ·skip
   have hi : i < x.mi.length := by
    simp only [bnA] at *
    omega
   obtain ⟨rfl, hga, hcells⟩ := hAi (by omega)
   have hip := few.ip _ (hmem i hi)
   simp only [MI.pi] at hip
   have r1 := qt_le (x.mi.getD i m0).drv
   have r2 := tTs_le (x.mi.getD i m0).outs
   have r3 := sl_le80 (tb.out _ (hmem i hi))
   simp only [MI.pi] at r3
   have hci := hcli i
   refine j_q (qs_gtr rfl rfl) ?_
   refine j_cond rfl (fun hc5 => ?_) (fun hc5 => ?_)
   ·skip
    have h0 : ¬ i = 0 := by
     simp only [bnA] at *
     omega
    have hstep := cms_step (fun m : MI => tI m.pi) (d := m0) hi
    rw [if_neg h0] at hstep
    refine j_lit (vs := [.int .u8 44]) U46 sz5 zero5 rfl (by simp [oneV]) ⟨rfl, by decide⟩ (fun g129 v129 c129 hv129 hc129 ho129 => ?_)
    subst hv129 hc129
    refine j_append 1 U46 U46 (.inr ⟨_, rfl⟩) sb5 zero5 rfl hob rfl (.inl ⟨_, _, rfl, rd_own (off := 0) (n := 1) 0 rfl rfl, rfl⟩) (by simp [oneV]) ⟨(by first | omega | (simp only [ints_length, List.drop_zero, List.take_succ_cons, List.take_zero, List.length_append, List.length_cons, List.length_nil]; omega)), (by decide)⟩ (fun v130 c130 ho130 => ?_)
    have ho130 : Sx.Own 5 1 (ints ((P1 ++ cms ((x.mi.take i).map (fun m => tI m.pi))) ++ [44])) v130 c130 := by
     rw [ints_append]
     exact ho130
    refine j_subl (S' := [c130, [(g0, .cells (dcells d x).toArray 28 (0, 0))], []]) (by repeat first | exact slR _ | exact slN _ | apply slC | apply slD) ?_
    refine j_mix [[(g0, .cells (dcells d x).toArray 28 (0, 0))], []] (Le.of_sub (by repeat first | exact slR _ | exact slN _ | apply slC | apply slD)) ?_
    refine j_mq (qs_field U28 rfl sz24 (by decide) rfl) ?_
    refine j_mq (qs_load (l := dcells d x) 0 U24 rfl rfl rfl (congrArg some hvi)) ?_
    refine j_mq (qs_ixn (g := gi) (off := offi) (i := i) U24 sz68 rfl rfl (by omega)) ?_
    refine j_mq (qs_field U68 rfl sz49 (by decide) rfl) ?_
    refine j_mq (qs_loadrec (v := .string (bs (x.mi.getD i m0).drv)) (encA := encI) (rs := x.mi) (d := m0) (i := i) (fo := 0) encI_len (rd_cells hcells (by simp)) hi U49 rfl rfl rfl) ?_
    refine j_lit (vs := [.int .u8 40]) U46 sz5 zero5 rfl (by simp [oneV]) ⟨rfl, by decide⟩ (fun g136 v136 c136 hv136 hc136 ho136 => ?_)
    subst hv136 hc136
    refine j_mD0 (Le.of_sub (by repeat first | exact slR _ | exact slN _ | apply slC | apply slD)) ?_
    refine j_append 1 U46 U46 (.inr ⟨_, rfl⟩) sb5 zero5 rfl ho130 rfl (.inl ⟨_, _, rfl, rd_own (off := 0) (n := 1) 0 rfl rfl, rfl⟩) (by simp [oneV]) ⟨(by first | omega | (simp only [ints_length, List.drop_zero, List.take_succ_cons, List.take_zero, List.length_append, List.length_cons, List.length_nil]; omega)), (by decide)⟩ (fun v137 c137 ho137 => ?_)
    have ho137 : Sx.Own 5 1 (ints (((P1 ++ cms ((x.mi.take i).map (fun m => tI m.pi))) ++ [44]) ++ [40])) v137 c137 := by
     rw [ints_append]
     exact ho137
    refine j_subl (S' := [c137, [(g0, .cells (dcells d x).toArray 28 (0, 0))], []]) (by repeat first | exact slR _ | exact slN _ | apply slC | apply slD) ?_
    refine j_mD0 (Le.of_sub (by repeat first | exact slR _ | exact slN _ | apply slC | apply slD)) ?_
    refine j_call 0 ent76 rfl rfl rfl rfl (fun w' hw' => rquote_con _ _ _ ho137 (x.mi.getD i m0).drv (by first | omega | (simp only [ints_length, List.drop_zero, List.take_succ_cons, List.take_zero, List.length_append, List.length_cons, List.length_nil]; omega)) (by first | omega | (simp; done)) w') (fun v138 S2 hu => ?_)
    obtain ⟨c138, rfl, ho138⟩ := hu
    refine j_subl (S' := [c138, [(g0, .cells (dcells d x).toArray 28 (0, 0))], []]) (by repeat first | exact slR _ | exact slN _ | apply slC | apply slD) ?_
    refine j_mR _ (.refl _) ?_
    refine j_mend ?_
    refine j_mix [[(g0, .cells (dcells d x).toArray 28 (0, 0))], []] (Le.of_sub (by repeat first | exact slR _ | exact slN _ | apply slC | apply slD)) ?_
    refine j_mq (qs_field U28 rfl sz24 (by decide) rfl) ?_
    refine j_mq (qs_load (l := dcells d x) 0 U24 rfl rfl rfl (congrArg some hvi)) ?_
    refine j_mq (qs_ixn (g := gi) (off := offi) (i := i) U24 sz68 rfl rfl (by omega)) ?_
    refine j_mq (qs_field U68 rfl sz22 (by decide) rfl) ?_
    refine j_mq (qs_loadrec (v := (x.mi.getD i m0).v) (encA := encI) (rs := x.mi) (d := m0) (i := i) (fo := 1) encI_len (rd_cells hcells (by simp)) hi U22 rfl rfl rfl) ?_
    refine j_both ?_ ?_
    ·skip
     refine j_lit (vs := [.int .u8 44]) U46 sz5 zero5 rfl (by simp [oneV]) ⟨rfl, by decide⟩ (fun g144 v144 c144 hv144 hc144 ho144 => ?_)
     subst hv144 hc144
     refine j_mD0 (Le.of_sub (by repeat first | exact slR _ | exact slN _ | apply slC | apply slD)) ?_
     refine j_both ?_ ?_
     ·skip
      refine j_append 1 U46 U46 (.inr ⟨_, rfl⟩) sb5 zero5 rfl ho138 rfl (.inl ⟨_, _, rfl, rd_own (off := 0) (n := 1) 0 rfl rfl, rfl⟩) (by simp [oneV]) ⟨(by first | omega | (simp only [ints_length, List.drop_zero, List.take_succ_cons, List.take_zero, List.length_append, List.length_cons, List.length_nil]; omega)), (by decide)⟩ (fun v145 c145 ho145 => ?_)
      have ho145 : Sx.Own 5 1 (ints (((((P1 ++ cms ((x.mi.take i).map (fun m => tI m.pi))) ++ [44]) ++ [40]) ++ qt (x.mi.getD i m0).drv) ++ [44])) v145 c145 := by
       rw [ints_append]
       exact ho145
      refine j_subl (S' := [c145, [(g0, .cells (dcells d x).toArray 28 (0, 0))], []]) (by repeat first | exact slR _ | exact slN _ | apply slC | apply slD) ?_
      refine j_mD0 (Le.of_sub (by repeat first | exact slR _ | exact slN _ | apply slC | apply slD)) ?_
      refine j_both ?_ ?_
      ·skip
       refine j_call 0 ent77 rfl rfl rfl rfl (fun w' hw' => rlist_con _ _ _ ho145 (x.mi.getD i m0).outs (x.mi.getD i m0).v w' (strz_keep (h.io _ (getD_mem hi)) hw') (sep_rd (h.io _ (getD_mem hi)) hw' 0 rfl) (by first | omega | (simp only [ints_length, List.drop_zero, List.take_succ_cons, List.take_zero, List.length_append, List.length_cons, List.length_nil]; omega)) (fun y hy => by have := tb.out _ (hmem i hi) y hy; omega) (by omega) (by omega)) (fun v146 S2 hu => ?_)
       obtain ⟨c146, rfl, ho146⟩ := hu
       refine j_subl (S' := [c146, [(g0, .cells (dcells d x).toArray 28 (0, 0))], []]) (by repeat first | exact slR _ | exact slN _ | apply slC | apply slD) ?_
       refine j_mR _ (.refl _) ?_
       refine j_lit (vs := [.int .u8 41]) U46 sz5 zero5 rfl (by simp [oneV]) ⟨rfl, by decide⟩ (fun g147 v147 c147 hv147 hc147 ho147 => ?_)
       subst hv147 hc147
       refine j_mD0 (Le.of_sub (by repeat first | exact slR _ | exact slN _ | apply slC | apply slD)) ?_
       refine j_append 1 U46 U46 (.inr ⟨_, rfl⟩) sb5 zero5 rfl ho146 rfl (.inl ⟨_, _, rfl, rd_own (off := 0) (n := 1) 0 rfl rfl, rfl⟩) (by simp [oneV]) ⟨(by first | omega | (simp only [ints_length, List.drop_zero, List.take_succ_cons, List.take_zero, List.length_append, List.length_cons, List.length_nil]; omega)), (by decide)⟩ (fun v148 c148 ho148 => ?_)
       have ho148 : Sx.Own 5 1 (ints (((((((P1 ++ cms ((x.mi.take i).map (fun m => tI m.pi))) ++ [44]) ++ [40]) ++ qt (x.mi.getD i m0).drv) ++ [44]) ++ tTs (x.mi.getD i m0).outs) ++ [41])) v148 c148 := by
        rw [ints_append]
        exact ho148
       refine j_subl (S' := [c148, [(g0, .cells (dcells d x).toArray 28 (0, 0))], []]) (by repeat first | exact slR _ | exact slN _ | apply slC | apply slD) ?_
       refine j_mR _ (.refl _) ?_
       refine j_mend ?_
       refine j_q (qs_add64 rfl rfl (by omega)) ?_
       have hob2 : Sx.Own 5 1 (ints (P1 ++ cms ((x.mi.take (i + 1)).map (fun m => tI m.pi)))) v148 c148 := by
        rw [hstep, tI_eq]
        (simp only [List.append_assoc, List.cons_append, List.nil_append, MI.pi] at ho148 ⊢; exact ho148)
       refine j_subl (S' := [c148, [(g0, .cells (dcells d x).toArray 28 (0, 0))], []]) (by repeat first | exact slR _ | exact slN _ | apply slC | apply slD) ?_
       refine j_back rfl ?_
       exact ⟨x.mi.length - (i + 1), by omega, i + 1, v148, c148, bools2 rfl (by omega), rfl, hob2, by omega, rfl⟩
      ·skip
       refine j_lit (vs := [.int .u8 41]) U46 sz5 zero5 rfl (by simp [oneV]) ⟨rfl, by decide⟩ (fun g150 v150 c150 hv150 hc150 ho150 => ?_)
       subst hv150 hc150
       refine j_mD0 (Le.of_sub (by repeat first | exact slR _ | exact slN _ | apply slC | apply slD)) ?_
       refine j_call 1 ent77 rfl rfl rfl rfl (fun w' hw' => rlist_con _ _ _ ho145 (x.mi.getD i m0).outs (x.mi.getD i m0).v w' (strz_keep (h.io _ (getD_mem hi)) hw') (sep_rd (h.io _ (getD_mem hi)) hw' 1 rfl) (by first | omega | (simp only [ints_length, List.drop_zero, List.take_succ_cons, List.take_zero, List.length_append, List.length_cons, List.length_nil]; omega)) (fun y hy => by have := tb.out _ (hmem i hi) y hy; omega) (by omega) (by omega)) (fun v151 S2 hu => ?_)
       obtain ⟨c151, rfl, ho151⟩ := hu
       refine j_subl (S' := [c151, [(g150, .cells [Value.int .u8 41].toArray 5 (0, 0))], [(g0, .cells (dcells d x).toArray 28 (0, 0))], []]) (by repeat first | exact slR _ | exact slN _ | apply slC | apply slD) ?_
       refine j_mD0 (Le.of_sub (by repeat first | exact slR _ | exact slN _ | apply slC | apply slD)) ?_
       refine j_append 0 U46 U46 (.inr ⟨_, rfl⟩) sb5 zero5 rfl ho151 rfl (.inl ⟨_, _, rfl, rd_own (off := 0) (n := 1) 1 rfl rfl, rfl⟩) (by simp [oneV]) ⟨(by first | omega | (simp only [ints_length, List.drop_zero, List.take_succ_cons, List.take_zero, List.length_append, List.length_cons, List.length_nil]; omega)), (by decide)⟩ (fun v152 c152 ho152 => ?_)
       have ho152 : Sx.Own 5 1 (ints (((((((P1 ++ cms ((x.mi.take i).map (fun m => tI m.pi))) ++ [44]) ++ [40]) ++ qt (x.mi.getD i m0).drv) ++ [44]) ++ tTs (x.mi.getD i m0).outs) ++ [41])) v152 c152 := by
        rw [ints_append]
        exact ho152
       refine j_subl (S' := [c152, [(g0, .cells (dcells d x).toArray 28 (0, 0))], []]) (by repeat first | exact slR _ | exact slN _ | apply slC | apply slD) ?_
       refine j_mR _ (.refl _) ?_
       refine j_mend ?_
       refine j_q (qs_add64 rfl rfl (by omega)) ?_
       have hob2 : Sx.Own 5 1 (ints (P1 ++ cms ((x.mi.take (i + 1)).map (fun m => tI m.pi)))) v152 c152 := by
        rw [hstep, tI_eq]
        (simp only [List.append_assoc, List.cons_append, List.nil_append, MI.pi] at ho152 ⊢; exact ho152)
       refine j_subl (S' := [c152, [(g0, .cells (dcells d x).toArray 28 (0, 0))], []]) (by repeat first | exact slR _ | exact slN _ | apply slC | apply slD) ?_
       refine j_back rfl ?_
       exact ⟨x.mi.length - (i + 1), by omega, i + 1, v152, c152, bools2 rfl (by omega), rfl, hob2, by omega, rfl⟩
     ·skip
      refine j_lit (vs := [.int .u8 41]) U46 sz5 zero5 rfl (by simp [oneV]) ⟨rfl, by decide⟩ (fun g154 v154 c154 hv154 hc154 ho154 => ?_)
      subst hv154 hc154
      refine j_mD0 (Le.of_sub (by repeat first | exact slR _ | exact slN _ | apply slC | apply slD)) ?_
      refine j_append 2 U46 U46 (.inr ⟨_, rfl⟩) sb5 zero5 rfl ho138 rfl (.inl ⟨_, _, rfl, rd_own (off := 0) (n := 1) 1 rfl rfl, rfl⟩) (by simp [oneV]) ⟨(by first | omega | (simp only [ints_length, List.drop_zero, List.take_succ_cons, List.take_zero, List.length_append, List.length_cons, List.length_nil]; omega)), (by decide)⟩ (fun v155 c155 ho155 => ?_)
      have ho155 : Sx.Own 5 1 (ints (((((P1 ++ cms ((x.mi.take i).map (fun m => tI m.pi))) ++ [44]) ++ [40]) ++ qt (x.mi.getD i m0).drv) ++ [44])) v155 c155 := by
       rw [ints_append]
       exact ho155
      refine j_subl (S' := [[(g154, .cells [Value.int .u8 41].toArray 5 (0, 0))], c155, [(g0, .cells (dcells d x).toArray 28 (0, 0))], []]) (by repeat first | exact slR _ | exact slN _ | apply slC | apply slD) ?_
      refine j_mD0 (Le.of_sub (by repeat first | exact slR _ | exact slN _ | apply slC | apply slD)) ?_
      refine j_call 1 ent77 rfl rfl rfl rfl (fun w' hw' => rlist_con _ _ _ ho155 (x.mi.getD i m0).outs (x.mi.getD i m0).v w' (strz_keep (h.io _ (getD_mem hi)) hw') (sep_rd (h.io _ (getD_mem hi)) hw' 1 rfl) (by first | omega | (simp only [ints_length, List.drop_zero, List.take_succ_cons, List.take_zero, List.length_append, List.length_cons, List.length_nil]; omega)) (fun y hy => by have := tb.out _ (hmem i hi) y hy; omega) (by omega) (by omega)) (fun v156 S2 hu => ?_)
      obtain ⟨c156, rfl, ho156⟩ := hu
      refine j_subl (S' := [c156, [(g154, .cells [Value.int .u8 41].toArray 5 (0, 0))], [(g0, .cells (dcells d x).toArray 28 (0, 0))], []]) (by repeat first | exact slR _ | exact slN _ | apply slC | apply slD) ?_
      refine j_mD0 (Le.of_sub (by repeat first | exact slR _ | exact slN _ | apply slC | apply slD)) ?_
      refine j_append 0 U46 U46 (.inr ⟨_, rfl⟩) sb5 zero5 rfl ho156 rfl (.inl ⟨_, _, rfl, rd_own (off := 0) (n := 1) 1 rfl rfl, rfl⟩) (by simp [oneV]) ⟨(by first | omega | (simp only [ints_length, List.drop_zero, List.take_succ_cons, List.take_zero, List.length_append, List.length_cons, List.length_nil]; omega)), (by decide)⟩ (fun v157 c157 ho157 => ?_)
      have ho157 : Sx.Own 5 1 (ints (((((((P1 ++ cms ((x.mi.take i).map (fun m => tI m.pi))) ++ [44]) ++ [40]) ++ qt (x.mi.getD i m0).drv) ++ [44]) ++ tTs (x.mi.getD i m0).outs) ++ [41])) v157 c157 := by
       rw [ints_append]
       exact ho157
      refine j_subl (S' := [c157, [(g0, .cells (dcells d x).toArray 28 (0, 0))], []]) (by repeat first | exact slR _ | exact slN _ | apply slC | apply slD) ?_
      refine j_mR _ (.refl _) ?_
      refine j_mend ?_
      refine j_q (qs_add64 rfl rfl (by omega)) ?_
      have hob2 : Sx.Own 5 1 (ints (P1 ++ cms ((x.mi.take (i + 1)).map (fun m => tI m.pi)))) v157 c157 := by
       rw [hstep, tI_eq]
       (simp only [List.append_assoc, List.cons_append, List.nil_append, MI.pi] at ho157 ⊢; exact ho157)
      refine j_subl (S' := [c157, [(g0, .cells (dcells d x).toArray 28 (0, 0))], []]) (by repeat first | exact slR _ | exact slN _ | apply slC | apply slD) ?_
      refine j_back rfl ?_
      exact ⟨x.mi.length - (i + 1), by omega, i + 1, v157, c157, bools2 rfl (by omega), rfl, hob2, by omega, rfl⟩
    ·skip
     refine j_lit (vs := [.int .u8 41]) U46 sz5 zero5 rfl (by simp [oneV]) ⟨rfl, by decide⟩ (fun g159 v159 c159 hv159 hc159 ho159 => ?_)
     subst hv159 hc159
     refine j_mD0 (Le.of_sub (by repeat first | exact slR _ | exact slN _ | apply slC | apply slD)) ?_
     refine j_lit (vs := [.int .u8 44]) U46 sz5 zero5 rfl (by simp [oneV]) ⟨rfl, by decide⟩ (fun g160 v160 c160 hv160 hc160 ho160 => ?_)
     subst hv160 hc160
     refine j_mD0 (Le.of_sub (by repeat first | exact slR _ | exact slN _ | apply slC | apply slD)) ?_
     refine j_append 2 U46 U46 (.inr ⟨_, rfl⟩) sb5 zero5 rfl ho138 rfl (.inl ⟨_, _, rfl, rd_own (off := 0) (n := 1) 0 rfl rfl, rfl⟩) (by simp [oneV]) ⟨(by first | omega | (simp only [ints_length, List.drop_zero, List.take_succ_cons, List.take_zero, List.length_append, List.length_cons, List.length_nil]; omega)), (by decide)⟩ (fun v161 c161 ho161 => ?_)
     have ho161 : Sx.Own 5 1 (ints (((((P1 ++ cms ((x.mi.take i).map (fun m => tI m.pi))) ++ [44]) ++ [40]) ++ qt (x.mi.getD i m0).drv) ++ [44])) v161 c161 := by
      rw [ints_append]
      exact ho161
     refine j_subl (S' := [[(g159, .cells [Value.int .u8 41].toArray 5 (0, 0))], c161, [(g0, .cells (dcells d x).toArray 28 (0, 0))], []]) (by repeat first | exact slR _ | exact slN _ | apply slC | apply slD) ?_
     refine j_mD0 (Le.of_sub (by repeat first | exact slR _ | exact slN _ | apply slC | apply slD)) ?_
     refine j_call 1 ent77 rfl rfl rfl rfl (fun w' hw' => rlist_con _ _ _ ho161 (x.mi.getD i m0).outs (x.mi.getD i m0).v w' (strz_keep (h.io _ (getD_mem hi)) hw') (sep_rd (h.io _ (getD_mem hi)) hw' 1 rfl) (by first | omega | (simp only [ints_length, List.drop_zero, List.take_succ_cons, List.take_zero, List.length_append, List.length_cons, List.length_nil]; omega)) (fun y hy => by have := tb.out _ (hmem i hi) y hy; omega) (by omega) (by omega)) (fun v162 S2 hu => ?_)
     obtain ⟨c162, rfl, ho162⟩ := hu
     refine j_subl (S' := [c162, [(g159, .cells [Value.int .u8 41].toArray 5 (0, 0))], [(g0, .cells (dcells d x).toArray 28 (0, 0))], []]) (by repeat first | exact slR _ | exact slN _ | apply slC | apply slD) ?_
     refine j_mD0 (Le.of_sub (by repeat first | exact slR _ | exact slN _ | apply slC | apply slD)) ?_
     refine j_append 0 U46 U46 (.inr ⟨_, rfl⟩) sb5 zero5 rfl ho162 rfl (.inl ⟨_, _, rfl, rd_own (off := 0) (n := 1) 1 rfl rfl, rfl⟩) (by simp [oneV]) ⟨(by first | omega | (simp only [ints_length, List.drop_zero, List.take_succ_cons, List.take_zero, List.length_append, List.length_cons, List.length_nil]; omega)), (by decide)⟩ (fun v163 c163 ho163 => ?_)
     have ho163 : Sx.Own 5 1 (ints (((((((P1 ++ cms ((x.mi.take i).map (fun m => tI m.pi))) ++ [44]) ++ [40]) ++ qt (x.mi.getD i m0).drv) ++ [44]) ++ tTs (x.mi.getD i m0).outs) ++ [41])) v163 c163 := by
      rw [ints_append]
      exact ho163
     refine j_subl (S' := [c163, [(g0, .cells (dcells d x).toArray 28 (0, 0))], []]) (by repeat first | exact slR _ | exact slN _ | apply slC | apply slD) ?_
     refine j_mR _ (.refl _) ?_
     refine j_mend ?_
     refine j_q (qs_add64 rfl rfl (by omega)) ?_
     have hob2 : Sx.Own 5 1 (ints (P1 ++ cms ((x.mi.take (i + 1)).map (fun m => tI m.pi)))) v163 c163 := by
      rw [hstep, tI_eq]
      (simp only [List.append_assoc, List.cons_append, List.nil_append, MI.pi] at ho163 ⊢; exact ho163)
     refine j_subl (S' := [c163, [(g0, .cells (dcells d x).toArray 28 (0, 0))], []]) (by repeat first | exact slR _ | exact slN _ | apply slC | apply slD) ?_
     refine j_back rfl ?_
     exact ⟨x.mi.length - (i + 1), by omega, i + 1, v163, c163, bools2 rfl (by omega), rfl, hob2, by omega, rfl⟩
   ·skip
    have h0 : i = 0 := by
     simp only [bnA] at *
     omega
    have hstep := cms_step (fun m : MI => tI m.pi) (d := m0) hi
    rw [if_pos h0] at hstep
    have hcm0 : cms ((x.mi.take i).map (fun m : MI => tI m.pi)) = [] := by
     rw [h0]
     exact cms0 _ _
    refine j_mix [[(g0, .cells (dcells d x).toArray 28 (0, 0))], []] (Le.of_sub (by repeat first | exact slR _ | exact slN _ | apply slC | apply slD)) ?_
    refine j_mq (qs_field U28 rfl sz24 (by decide) rfl) ?_
    refine j_mq (qs_load (l := dcells d x) 0 U24 rfl rfl rfl (congrArg some hvi)) ?_
    refine j_mq (qs_ixn (g := gi) (off := offi) (i := i) U24 sz68 rfl rfl (by omega)) ?_
    refine j_mq (qs_field U68 rfl sz49 (by decide) rfl) ?_
    refine j_mq (qs_loadrec (v := .string (bs (x.mi.getD i m0).drv)) (encA := encI) (rs := x.mi) (d := m0) (i := i) (fo := 0) encI_len (rd_cells hcells (by simp)) hi U49 rfl rfl rfl) ?_
    refine j_lit (vs := [.int .u8 40]) U46 sz5 zero5 rfl (by simp [oneV]) ⟨rfl, by decide⟩ (fun g170 v170 c170 hv170 hc170 ho170 => ?_)
    subst hv170 hc170
    refine j_mD0 (Le.of_sub (by repeat first | exact slR _ | exact slN _ | apply slC | apply slD)) ?_
    refine j_append 1 U46 U46 (.inr ⟨_, rfl⟩) sb5 zero5 rfl hob rfl (.inl ⟨_, _, rfl, rd_own (off := 0) (n := 1) 0 rfl rfl, rfl⟩) (by simp [oneV]) ⟨(by first | omega | (simp only [ints_length, List.drop_zero, List.take_succ_cons, List.take_zero, List.length_append, List.length_cons, List.length_nil]; omega)), (by decide)⟩ (fun v171 c171 ho171 => ?_)
    have ho171 : Sx.Own 5 1 (ints ((P1 ++ cms ((x.mi.take i).map (fun m => tI m.pi))) ++ [40])) v171 c171 := by
     rw [ints_append]
     exact ho171
    refine j_subl (S' := [c171, [(g0, .cells (dcells d x).toArray 28 (0, 0))], []]) (by repeat first | exact slR _ | exact slN _ | apply slC | apply slD) ?_
    refine j_mD0 (Le.of_sub (by repeat first | exact slR _ | exact slN _ | apply slC | apply slD)) ?_
    refine j_call 0 ent76 rfl rfl rfl rfl (fun w' hw' => rquote_con _ _ _ ho171 (x.mi.getD i m0).drv (by first | omega | (simp only [ints_length, List.drop_zero, List.take_succ_cons, List.take_zero, List.length_append, List.length_cons, List.length_nil]; omega)) (by first | omega | (simp; done)) w') (fun v172 S2 hu => ?_)
    obtain ⟨c172, rfl, ho172⟩ := hu
    refine j_subl (S' := [c172, [(g0, .cells (dcells d x).toArray 28 (0, 0))], []]) (by repeat first | exact slR _ | exact slN _ | apply slC | apply slD) ?_
    refine j_mR _ (.refl _) ?_
    refine j_mend ?_
    refine j_mix [[(g0, .cells (dcells d x).toArray 28 (0, 0))], []] (Le.of_sub (by repeat first | exact slR _ | exact slN _ | apply slC | apply slD)) ?_
    refine j_mq (qs_field U28 rfl sz24 (by decide) rfl) ?_
    refine j_mq (qs_load (l := dcells d x) 0 U24 rfl rfl rfl (congrArg some hvi)) ?_
    refine j_mq (qs_ixn (g := gi) (off := offi) (i := i) U24 sz68 rfl rfl (by omega)) ?_
    refine j_mq (qs_field U68 rfl sz22 (by decide) rfl) ?_
    refine j_mq (qs_loadrec (v := (x.mi.getD i m0).v) (encA := encI) (rs := x.mi) (d := m0) (i := i) (fo := 1) encI_len (rd_cells hcells (by simp)) hi U22 rfl rfl rfl) ?_
    refine j_both ?_ ?_
    ·skip
     refine j_lit (vs := [.int .u8 44]) U46 sz5 zero5 rfl (by simp [oneV]) ⟨rfl, by decide⟩ (fun g178 v178 c178 hv178 hc178 ho178 => ?_)
     subst hv178 hc178
     refine j_mD0 (Le.of_sub (by repeat first | exact slR _ | exact slN _ | apply slC | apply slD)) ?_
     refine j_both ?_ ?_
     ·skip
      refine j_append 1 U46 U46 (.inr ⟨_, rfl⟩) sb5 zero5 rfl ho172 rfl (.inl ⟨_, _, rfl, rd_own (off := 0) (n := 1) 0 rfl rfl, rfl⟩) (by simp [oneV]) ⟨(by first | omega | (simp only [ints_length, List.drop_zero, List.take_succ_cons, List.take_zero, List.length_append, List.length_cons, List.length_nil]; omega)), (by decide)⟩ (fun v179 c179 ho179 => ?_)
      have ho179 : Sx.Own 5 1 (ints ((((P1 ++ cms ((x.mi.take i).map (fun m => tI m.pi))) ++ [40]) ++ qt (x.mi.getD i m0).drv) ++ [44])) v179 c179 := by
       rw [ints_append]
       exact ho179
      refine j_subl (S' := [c179, [(g0, .cells (dcells d x).toArray 28 (0, 0))], []]) (by repeat first | exact slR _ | exact slN _ | apply slC | apply slD) ?_
      refine j_mD0 (Le.of_sub (by repeat first | exact slR _ | exact slN _ | apply slC | apply slD)) ?_
      refine j_both ?_ ?_
      ·skip
       refine j_call 0 ent77 rfl rfl rfl rfl (fun w' hw' => rlist_con _ _ _ ho179 (x.mi.getD i m0).outs (x.mi.getD i m0).v w' (strz_keep (h.io _ (getD_mem hi)) hw') (sep_rd (h.io _ (getD_mem hi)) hw' 0 rfl) (by first | omega | (simp only [ints_length, List.drop_zero, List.take_succ_cons, List.take_zero, List.length_append, List.length_cons, List.length_nil]; omega)) (fun y hy => by have := tb.out _ (hmem i hi) y hy; omega) (by omega) (by omega)) (fun v180 S2 hu => ?_)
       obtain ⟨c180, rfl, ho180⟩ := hu
       refine j_subl (S' := [c180, [(g0, .cells (dcells d x).toArray 28 (0, 0))], []]) (by repeat first | exact slR _ | exact slN _ | apply slC | apply slD) ?_
       refine j_mR _ (.refl _) ?_
       refine j_lit (vs := [.int .u8 41]) U46 sz5 zero5 rfl (by simp [oneV]) ⟨rfl, by decide⟩ (fun g181 v181 c181 hv181 hc181 ho181 => ?_)
       subst hv181 hc181
       refine j_mD0 (Le.of_sub (by repeat first | exact slR _ | exact slN _ | apply slC | apply slD)) ?_
       refine j_append 1 U46 U46 (.inr ⟨_, rfl⟩) sb5 zero5 rfl ho180 rfl (.inl ⟨_, _, rfl, rd_own (off := 0) (n := 1) 0 rfl rfl, rfl⟩) (by simp [oneV]) ⟨(by first | omega | (simp only [ints_length, List.drop_zero, List.take_succ_cons, List.take_zero, List.length_append, List.length_cons, List.length_nil]; omega)), (by decide)⟩ (fun v182 c182 ho182 => ?_)
       have ho182 : Sx.Own 5 1 (ints ((((((P1 ++ cms ((x.mi.take i).map (fun m => tI m.pi))) ++ [40]) ++ qt (x.mi.getD i m0).drv) ++ [44]) ++ tTs (x.mi.getD i m0).outs) ++ [41])) v182 c182 := by
        rw [ints_append]
        exact ho182
       refine j_subl (S' := [c182, [(g0, .cells (dcells d x).toArray 28 (0, 0))], []]) (by repeat first | exact slR _ | exact slN _ | apply slC | apply slD) ?_
       refine j_mR _ (.refl _) ?_
       refine j_mend ?_
       refine j_q (qs_add64 rfl rfl (by omega)) ?_
       have hob2 : Sx.Own 5 1 (ints (P1 ++ cms ((x.mi.take (i + 1)).map (fun m => tI m.pi)))) v182 c182 := by
        rw [hstep, tI_eq]
        (rw [hcm0, List.append_nil] at ho182; simp only [List.append_assoc, List.cons_append, List.nil_append, MI.pi] at ho182 ⊢; exact ho182)
       refine j_subl (S' := [c182, [(g0, .cells (dcells d x).toArray 28 (0, 0))], []]) (by repeat first | exact slR _ | exact slN _ | apply slC | apply slD) ?_
       refine j_back rfl ?_
       exact ⟨x.mi.length - (i + 1), by omega, i + 1, v182, c182, bools2 rfl (by omega), rfl, hob2, by omega, rfl⟩
      ·skip
       refine j_lit (vs := [.int .u8 41]) U46 sz5 zero5 rfl (by simp [oneV]) ⟨rfl, by decide⟩ (fun g184 v184 c184 hv184 hc184 ho184 => ?_)
       subst hv184 hc184
       refine j_mD0 (Le.of_sub (by repeat first | exact slR _ | exact slN _ | apply slC | apply slD)) ?_
       refine j_call 1 ent77 rfl rfl rfl rfl (fun w' hw' => rlist_con _ _ _ ho179 (x.mi.getD i m0).outs (x.mi.getD i m0).v w' (strz_keep (h.io _ (getD_mem hi)) hw') (sep_rd (h.io _ (getD_mem hi)) hw' 1 rfl) (by first | omega | (simp only [ints_length, List.drop_zero, List.take_succ_cons, List.take_zero, List.length_append, List.length_cons, List.length_nil]; omega)) (fun y hy => by have := tb.out _ (hmem i hi) y hy; omega) (by omega) (by omega)) (fun v185 S2 hu => ?_)
       obtain ⟨c185, rfl, ho185⟩ := hu
       refine j_subl (S' := [c185, [(g184, .cells [Value.int .u8 41].toArray 5 (0, 0))], [(g0, .cells (dcells d x).toArray 28 (0, 0))], []]) (by repeat first | exact slR _ | exact slN _ | apply slC | apply slD) ?_
       refine j_mD0 (Le.of_sub (by repeat first | exact slR _ | exact slN _ | apply slC | apply slD)) ?_
       refine j_append 0 U46 U46 (.inr ⟨_, rfl⟩) sb5 zero5 rfl ho185 rfl (.inl ⟨_, _, rfl, rd_own (off := 0) (n := 1) 1 rfl rfl, rfl⟩) (by simp [oneV]) ⟨(by first | omega | (simp only [ints_length, List.drop_zero, List.take_succ_cons, List.take_zero, List.length_append, List.length_cons, List.length_nil]; omega)), (by decide)⟩ (fun v186 c186 ho186 => ?_)
       have ho186 : Sx.Own 5 1 (ints ((((((P1 ++ cms ((x.mi.take i).map (fun m => tI m.pi))) ++ [40]) ++ qt (x.mi.getD i m0).drv) ++ [44]) ++ tTs (x.mi.getD i m0).outs) ++ [41])) v186 c186 := by
        rw [ints_append]
        exact ho186
       refine j_subl (S' := [c186, [(g0, .cells (dcells d x).toArray 28 (0, 0))], []]) (by repeat first | exact slR _ | exact slN _ | apply slC | apply slD) ?_
       refine j_mR _ (.refl _) ?_
       refine j_mend ?_
       refine j_q (qs_add64 rfl rfl (by omega)) ?_
       have hob2 : Sx.Own 5 1 (ints (P1 ++ cms ((x.mi.take (i + 1)).map (fun m => tI m.pi)))) v186 c186 := by
        rw [hstep, tI_eq]
        (rw [hcm0, List.append_nil] at ho186; simp only [List.append_assoc, List.cons_append, List.nil_append, MI.pi] at ho186 ⊢; exact ho186)
       refine j_subl (S' := [c186, [(g0, .cells (dcells d x).toArray 28 (0, 0))], []]) (by repeat first | exact slR _ | exact slN _ | apply slC | apply slD) ?_
       refine j_back rfl ?_
       exact ⟨x.mi.length - (i + 1), by omega, i + 1, v186, c186, bools2 rfl (by omega), rfl, hob2, by omega, rfl⟩
     ·skip
      refine j_lit (vs := [.int .u8 41]) U46 sz5 zero5 rfl (by simp [oneV]) ⟨rfl, by decide⟩ (fun g188 v188 c188 hv188 hc188 ho188 => ?_)
      subst hv188 hc188
      refine j_mD0 (Le.of_sub (by repeat first | exact slR _ | exact slN _ | apply slC | apply slD)) ?_
      refine j_append 2 U46 U46 (.inr ⟨_, rfl⟩) sb5 zero5 rfl ho172 rfl (.inl ⟨_, _, rfl, rd_own (off := 0) (n := 1) 1 rfl rfl, rfl⟩) (by simp [oneV]) ⟨(by first | omega | (simp only [ints_length, List.drop_zero, List.take_succ_cons, List.take_zero, List.length_append, List.length_cons, List.length_nil]; omega)), (by decide)⟩ (fun v189 c189 ho189 => ?_)
      have ho189 : Sx.Own 5 1 (ints ((((P1 ++ cms ((x.mi.take i).map (fun m => tI m.pi))) ++ [40]) ++ qt (x.mi.getD i m0).drv) ++ [44])) v189 c189 := by
       rw [ints_append]
       exact ho189
      refine j_subl (S' := [[(g188, .cells [Value.int .u8 41].toArray 5 (0, 0))], c189, [(g0, .cells (dcells d x).toArray 28 (0, 0))], []]) (by repeat first | exact slR _ | exact slN _ | apply slC | apply slD) ?_
      refine j_mD0 (Le.of_sub (by repeat first | exact slR _ | exact slN _ | apply slC | apply slD)) ?_
      refine j_call 1 ent77 rfl rfl rfl rfl (fun w' hw' => rlist_con _ _ _ ho189 (x.mi.getD i m0).outs (x.mi.getD i m0).v w' (strz_keep (h.io _ (getD_mem hi)) hw') (sep_rd (h.io _ (getD_mem hi)) hw' 1 rfl) (by first | omega | (simp only [ints_length, List.drop_zero, List.take_succ_cons, List.take_zero, List.length_append, List.length_cons, List.length_nil]; omega)) (fun y hy => by have := tb.out _ (hmem i hi) y hy; omega) (by omega) (by omega)) (fun v190 S2 hu => ?_)
      obtain ⟨c190, rfl, ho190⟩ := hu
      refine j_subl (S' := [c190, [(g188, .cells [Value.int .u8 41].toArray 5 (0, 0))], [(g0, .cells (dcells d x).toArray 28 (0, 0))], []]) (by repeat first | exact slR _ | exact slN _ | apply slC | apply slD) ?_
      refine j_mD0 (Le.of_sub (by repeat first | exact slR _ | exact slN _ | apply slC | apply slD)) ?_
      refine j_append 0 U46 U46 (.inr ⟨_, rfl⟩) sb5 zero5 rfl ho190 rfl (.inl ⟨_, _, rfl, rd_own (off := 0) (n := 1) 1 rfl rfl, rfl⟩) (by simp [oneV]) ⟨(by first | omega | (simp only [ints_length, List.drop_zero, List.take_succ_cons, List.take_zero, List.length_append, List.length_cons, List.length_nil]; omega)), (by decide)⟩ (fun v191 c191 ho191 => ?_)
      have ho191 : Sx.Own 5 1 (ints ((((((P1 ++ cms ((x.mi.take i).map (fun m => tI m.pi))) ++ [40]) ++ qt (x.mi.getD i m0).drv) ++ [44]) ++ tTs (x.mi.getD i m0).outs) ++ [41])) v191 c191 := by
       rw [ints_append]
       exact ho191
      refine j_subl (S' := [c191, [(g0, .cells (dcells d x).toArray 28 (0, 0))], []]) (by repeat first | exact slR _ | exact slN _ | apply slC | apply slD) ?_
      refine j_mR _ (.refl _) ?_
      refine j_mend ?_
      refine j_q (qs_add64 rfl rfl (by omega)) ?_
      have hob2 : Sx.Own 5 1 (ints (P1 ++ cms ((x.mi.take (i + 1)).map (fun m => tI m.pi)))) v191 c191 := by
       rw [hstep, tI_eq]
       (rw [hcm0, List.append_nil] at ho191; simp only [List.append_assoc, List.cons_append, List.nil_append, MI.pi] at ho191 ⊢; exact ho191)
      refine j_subl (S' := [c191, [(g0, .cells (dcells d x).toArray 28 (0, 0))], []]) (by repeat first | exact slR _ | exact slN _ | apply slC | apply slD) ?_
      refine j_back rfl ?_
      exact ⟨x.mi.length - (i + 1), by omega, i + 1, v191, c191, bools2 rfl (by omega), rfl, hob2, by omega, rfl⟩
    ·skip
     refine j_lit (vs := [.int .u8 41]) U46 sz5 zero5 rfl (by simp [oneV]) ⟨rfl, by decide⟩ (fun g193 v193 c193 hv193 hc193 ho193 => ?_)
     subst hv193 hc193
     refine j_mD0 (Le.of_sub (by repeat first | exact slR _ | exact slN _ | apply slC | apply slD)) ?_
     refine j_lit (vs := [.int .u8 44]) U46 sz5 zero5 rfl (by simp [oneV]) ⟨rfl, by decide⟩ (fun g194 v194 c194 hv194 hc194 ho194 => ?_)
     subst hv194 hc194
     refine j_mD0 (Le.of_sub (by repeat first | exact slR _ | exact slN _ | apply slC | apply slD)) ?_
     refine j_append 2 U46 U46 (.inr ⟨_, rfl⟩) sb5 zero5 rfl ho172 rfl (.inl ⟨_, _, rfl, rd_own (off := 0) (n := 1) 0 rfl rfl, rfl⟩) (by simp [oneV]) ⟨(by first | omega | (simp only [ints_length, List.drop_zero, List.take_succ_cons, List.take_zero, List.length_append, List.length_cons, List.length_nil]; omega)), (by decide)⟩ (fun v195 c195 ho195 => ?_)
     have ho195 : Sx.Own 5 1 (ints ((((P1 ++ cms ((x.mi.take i).map (fun m => tI m.pi))) ++ [40]) ++ qt (x.mi.getD i m0).drv) ++ [44])) v195 c195 := by
      rw [ints_append]
      exact ho195
     refine j_subl (S' := [[(g193, .cells [Value.int .u8 41].toArray 5 (0, 0))], c195, [(g0, .cells (dcells d x).toArray 28 (0, 0))], []]) (by repeat first | exact slR _ | exact slN _ | apply slC | apply slD) ?_
     refine j_mD0 (Le.of_sub (by repeat first | exact slR _ | exact slN _ | apply slC | apply slD)) ?_
     refine j_call 1 ent77 rfl rfl rfl rfl (fun w' hw' => rlist_con _ _ _ ho195 (x.mi.getD i m0).outs (x.mi.getD i m0).v w' (strz_keep (h.io _ (getD_mem hi)) hw') (sep_rd (h.io _ (getD_mem hi)) hw' 1 rfl) (by first | omega | (simp only [ints_length, List.drop_zero, List.take_succ_cons, List.take_zero, List.length_append, List.length_cons, List.length_nil]; omega)) (fun y hy => by have := tb.out _ (hmem i hi) y hy; omega) (by omega) (by omega)) (fun v196 S2 hu => ?_)
     obtain ⟨c196, rfl, ho196⟩ := hu
     refine j_subl (S' := [c196, [(g193, .cells [Value.int .u8 41].toArray 5 (0, 0))], [(g0, .cells (dcells d x).toArray 28 (0, 0))], []]) (by repeat first | exact slR _ | exact slN _ | apply slC | apply slD) ?_
     refine j_mD0 (Le.of_sub (by repeat first | exact slR _ | exact slN _ | apply slC | apply slD)) ?_
     refine j_append 0 U46 U46 (.inr ⟨_, rfl⟩) sb5 zero5 rfl ho196 rfl (.inl ⟨_, _, rfl, rd_own (off := 0) (n := 1) 1 rfl rfl, rfl⟩) (by simp [oneV]) ⟨(by first | omega | (simp only [ints_length, List.drop_zero, List.take_succ_cons, List.take_zero, List.length_append, List.length_cons, List.length_nil]; omega)), (by decide)⟩ (fun v197 c197 ho197 => ?_)
     have ho197 : Sx.Own 5 1 (ints ((((((P1 ++ cms ((x.mi.take i).map (fun m => tI m.pi))) ++ [40]) ++ qt (x.mi.getD i m0).drv) ++ [44]) ++ tTs (x.mi.getD i m0).outs) ++ [41])) v197 c197 := by
      rw [ints_append]
      exact ho197
     refine j_subl (S' := [c197, [(g0, .cells (dcells d x).toArray 28 (0, 0))], []]) (by repeat first | exact slR _ | exact slN _ | apply slC | apply slD) ?_
     refine j_mR _ (.refl _) ?_
     refine j_mend ?_
     refine j_q (qs_add64 rfl rfl (by omega)) ?_
     have hob2 : Sx.Own 5 1 (ints (P1 ++ cms ((x.mi.take (i + 1)).map (fun m => tI m.pi)))) v197 c197 := by
      rw [hstep, tI_eq]
      (rw [hcm0, List.append_nil] at ho197; simp only [List.append_assoc, List.cons_append, List.nil_append, MI.pi] at ho197 ⊢; exact ho197)
     refine j_subl (S' := [c197, [(g0, .cells (dcells d x).toArray 28 (0, 0))], []]) (by repeat first | exact slR _ | exact slN _ | apply slC | apply slD) ?_
     refine j_back rfl ?_
     exact ⟨x.mi.length - (i + 1), by omega, i + 1, v197, c197, bools2 rfl (by omega), rfl, hob2, by omega, rfl⟩
  ·skip
   obtain rfl : i = x.mi.length := by
    simp only [bnA] at *
    omega
   rw [List.take_length] at hob
   have hci := hcli x.mi.length
   rw [List.take_length] at hci
   refine j_lit (vs := [.int .u8 93, .int .u8 44]) U46 sz5 zero5 rfl (by simp [oneV]) ⟨rfl, by decide⟩ (fun g199 v199 c199 hv199 hc199 ho199 => ?_)
   subst hv199 hc199
   refine j_append 1 U46 U46 (.inr ⟨_, rfl⟩) sb5 zero5 rfl hob rfl (.inl ⟨_, _, rfl, rd_own (off := 0) (n := 2) 0 rfl rfl, rfl⟩) (by simp [oneV]) ⟨(by first | omega | (simp only [ints_length, List.drop_zero, List.take_succ_cons, List.take_zero, List.length_append, List.length_cons, List.length_nil]; omega)), (by decide)⟩ (fun v200 c200 ho200 => ?_)
   have ho200 : Sx.Own 5 1 (ints ((P1 ++ cms (x.mi.map (fun m => tI m.pi))) ++ [93, 44])) v200 c200 := by
    rw [ints_append]
    exact ho200
   refine j_subl (S' := [c200, [(g0, .cells (dcells d x).toArray 28 (0, 0))], []]) (by repeat first | exact slR _ | exact slN _ | apply slC | apply slD) ?_
   obtain ⟨P2, hP2⟩ : ∃ p, p = ((P1 ++ cms (x.mi.map (fun m => tI m.pi))) ++ [93, 44]) := ⟨_, rfl⟩
   rw [← hP2] at ho200
   have hP2l : P2.length ≤ 2000000000 := by
    rw [hP2]
    simp only [List.length_append, List.length_cons, List.length_nil]
    omega
   refine j_q (qs_ac) ?_
   refine j_q (qs_ac) ?_
   refine j_perm (S' := [[], c200, [(g0, .cells (dcells d x).toArray 28 (0, 0))], []]) (by simp) ?_
   refine j_loop (fun m vs S' => ∃ (i : Nat) (sv : Value) (cs : SH), vs = [sv, .int .i64 (i : Int)] ∧ S' = [cs, c200, [(g0, .cells (dcells d x).toArray 28 (0, 0))], []] ∧ Sx.Own 9 1 (strs (d.srcs.take i)) sv cs ∧ i ≤ d.srcs.length ∧ m = d.srcs.length - i) ⟨_, 0, .slice none 0 0, [], rfl, rfl, own_nil, Nat.zero_le _, rfl⟩ ?_
   rintro m vs S' hlen ⟨i, sv, cs, rfl, rfl, hos, hin, rfl⟩
   refine j_q (qs_field U28 rfl sz25 (by decide) rfl) ?_
   refine j_q (qs_load (l := dcells d x) 2 U25 rfl rfl rfl (congrArg some hvs)) ?_
   refine j_q (qs_lenl U25 rfl) ?_
   refine j_q (qs_lss rfl rfl) ?_
   refine j_cond rfl (fun hc6 => ?_) (fun hc6 => ?_)
   ·skip
    have hi : i < d.srcs.length := by
     simp only [bnA] at *
     omega
    obtain ⟨ga, off, rfl, hga, hcells⟩ := strz_addr (hvs ▸ h.s) (by omega)
    refine j_q (qs_field U28 rfl sz25 (by decide) rfl) ?_
    refine j_q (qs_load (l := dcells d x) 2 U25 rfl rfl rfl (congrArg some hvs)) ?_
    refine j_q (qs_ixl0 U25 sz49 rfl rfl (by omega)) ?_
    refine j_q (qs_loadrs (rd_cells hcells (by simp)) U49 rfl (by simp only [Int.toNat_natCast]; omega)) ?_
    simp only [Int.toNat_natCast]
    refine j_lit (vs := [.string (bs _)]) U22 sz9 zero9 rfl (by simp [oneV]) ⟨rfl, by decide⟩ (fun g211 v211 c211 hv211 hc211 ho211 => ?_)
    subst hv211 hc211
    refine j_append 1 U22 U22 (.inr ⟨_, rfl⟩) sb9 zero9 rfl hos rfl (.inl ⟨_, _, rfl, rd_own (off := 0) (n := 1) 0 rfl rfl, rfl⟩) (by simp [oneV]) ⟨(by rw [strs_length, List.length_take]; simp; omega), (by decide)⟩ (fun v212 c212 ho212 => ?_)
    have ho212 : Sx.Own 9 1 (strs (d.srcs.take (i + 1))) v212 c212 := by
     rw [takeS hi, strs_append]
     exact ho212
    refine j_subl (S' := [c212, c200, [(g0, .cells (dcells d x).toArray 28 (0, 0))], []]) (by repeat first | exact slR _ | exact slN _ | apply slC | apply slD) ?_
    refine j_q (qs_add64 rfl rfl (by omega)) ?_
    refine j_back rfl ?_
    exact ⟨d.srcs.length - (i + 1), by omega, i + 1, v212, c212, bools2 rfl (by omega), rfl, ho212, by omega, rfl⟩
   ·skip
    obtain rfl : i = d.srcs.length := by
     simp only [bnA] at *
     omega
    rw [List.take_length] at hos
    refine j_call 1 ent77 rfl rfl rfl rfl (fun w' hw' => rlist_con _ _ _ ho200 d.srcs _ w' (strz_own hos 0 rfl hw') (sep_own hos hw') (by first | omega | (simp only [ints_length, List.drop_zero, List.take_succ_cons, List.take_zero, List.length_append, List.length_cons, List.length_nil]; omega)) (fun y hy => by have := few.sr y hy; omega) (by omega) (by omega)) (fun v214 S2 hu => ?_)
    obtain ⟨c214, rfl, ho214⟩ := hu
    refine j_subl (S' := [c214, [(g0, .cells (dcells d x).toArray 28 (0, 0))], []]) (by repeat first | exact slR _ | exact slN _ | apply slC | apply slD) ?_
    refine j_lit (vs := [.int .u8 44]) U46 sz5 zero5 rfl (by simp [oneV]) ⟨rfl, by decide⟩ (fun g215 v215 c215 hv215 hc215 ho215 => ?_)
    subst hv215 hc215
    refine j_append 1 U46 U46 (.inr ⟨_, rfl⟩) sb5 zero5 rfl ho214 rfl (.inl ⟨_, _, rfl, rd_own (off := 0) (n := 1) 0 rfl rfl, rfl⟩) (by simp [oneV]) ⟨(by first | omega | (simp only [ints_length, List.drop_zero, List.take_succ_cons, List.take_zero, List.length_append, List.length_cons, List.length_nil]; omega)), (by decide)⟩ (fun v216 c216 ho216 => ?_)
    have ho216 : Sx.Own 5 1 (ints ((P2 ++ tTs d.srcs) ++ [44])) v216 c216 := by
     rw [ints_append]
     exact ho216
    refine j_subl (S' := [c216, [(g0, .cells (dcells d x).toArray 28 (0, 0))], []]) (by repeat first | exact slR _ | exact slN _ | apply slC | apply slD) ?_
    refine j_q (qs_field U28 rfl sz9 (by decide) rfl) ?_
    refine j_q (qs_load (l := dcells d x) 1 U9 rfl rfl rfl rfl) ?_
    refine j_call 0 ent76 rfl rfl rfl rfl (fun w' hw' => rquote_con _ _ _ ho216 d.sys (by first | omega | (simp only [ints_length, List.drop_zero, List.take_succ_cons, List.take_zero, List.length_append, List.length_cons, List.length_nil]; omega)) (by first | omega | (simp; done)) w') (fun v219 S2 hu => ?_)
    obtain ⟨c219, rfl, ho219⟩ := hu
    refine j_subl (S' := [c219, [(g0, .cells (dcells d x).toArray 28 (0, 0))], []]) (by repeat first | exact slR _ | exact slN _ | apply slC | apply slD) ?_
    refine j_lit (vs := [.int .u8 44]) U46 sz5 zero5 rfl (by simp [oneV]) ⟨rfl, by decide⟩ (fun g220 v220 c220 hv220 hc220 ho220 => ?_)
    subst hv220 hc220
    refine j_append 1 U46 U46 (.inr ⟨_, rfl⟩) sb5 zero5 rfl ho219 rfl (.inl ⟨_, _, rfl, rd_own (off := 0) (n := 1) 0 rfl rfl, rfl⟩) (by simp [oneV]) ⟨(by first | omega | (simp only [ints_length, List.drop_zero, List.take_succ_cons, List.take_zero, List.length_append, List.length_cons, List.length_nil]; omega)), (by decide)⟩ (fun v221 c221 ho221 => ?_)
    have ho221 : Sx.Own 5 1 (ints ((((P2 ++ tTs d.srcs) ++ [44]) ++ qt d.sys) ++ [44])) v221 c221 := by
     rw [ints_append]
     exact ho221
    refine j_subl (S' := [c221, [(g0, .cells (dcells d x).toArray 28 (0, 0))], []]) (by repeat first | exact slR _ | exact slN _ | apply slC | apply slD) ?_
    refine j_q (qs_field U28 rfl sz9 (by decide) rfl) ?_
    refine j_q (qs_load (l := dcells d x) 1 U9 rfl rfl rfl rfl) ?_
    refine j_call 0 ent76 rfl rfl rfl rfl (fun w' hw' => rquote_con _ _ _ ho221 d.bld (by first | omega | (simp only [ints_length, List.drop_zero, List.take_succ_cons, List.take_zero, List.length_append, List.length_cons, List.length_nil]; omega)) (by first | omega | (simp; done)) w') (fun v224 S2 hu => ?_)
    obtain ⟨c224, rfl, ho224⟩ := hu
    refine j_subl (S' := [c224, [(g0, .cells (dcells d x).toArray 28 (0, 0))], []]) (by repeat first | exact slR _ | exact slN _ | apply slC | apply slD) ?_
    refine j_lit (vs := [.int .u8 44]) U46 sz5 zero5 rfl (by simp [oneV]) ⟨rfl, by decide⟩ (fun g225 v225 c225 hv225 hc225 ho225 => ?_)
    subst hv225 hc225
    refine j_append 1 U46 U46 (.inr ⟨_, rfl⟩) sb5 zero5 rfl ho224 rfl (.inl ⟨_, _, rfl, rd_own (off := 0) (n := 1) 0 rfl rfl, rfl⟩) (by simp [oneV]) ⟨(by first | omega | (simp only [ints_length, List.drop_zero, List.take_succ_cons, List.take_zero, List.length_append, List.length_cons, List.length_nil]; omega)), (by decide)⟩ (fun v226 c226 ho226 => ?_)
    have ho226 : Sx.Own 5 1 (ints ((((((P2 ++ tTs d.srcs) ++ [44]) ++ qt d.sys) ++ [44]) ++ qt d.bld) ++ [44])) v226 c226 := by
     rw [ints_append]
     exact ho226
    refine j_subl (S' := [c226, [(g0, .cells (dcells d x).toArray 28 (0, 0))], []]) (by repeat first | exact slR _ | exact slN _ | apply slC | apply slD) ?_
    refine j_q (qs_field U28 rfl sz22 (by decide) rfl) ?_
    refine j_q (qs_load (l := dcells d x) 1 U22 rfl rfl rfl rfl) ?_
    refine j_call 0 ent77 rfl rfl rfl rfl (fun w' hw' => rlist_con _ _ _ ho226 d.args _ w' (strz_keep h.a hw') (sep_rd h.a hw' 0 rfl) (by first | omega | (simp only [ints_length, List.drop_zero, List.take_succ_cons, List.take_zero, List.length_append, List.length_cons, List.length_nil]; omega)) (fun y hy => by have := few.ar y hy; omega) (by omega) (by omega)) (fun v229 S2 hu => ?_)
    obtain ⟨c229, rfl, ho229⟩ := hu
    refine j_subl (S' := [c229, [(g0, .cells (dcells d x).toArray 28 (0, 0))], []]) (by repeat first | exact slR _ | exact slN _ | apply slC | apply slD) ?_
    refine j_lit (vs := [.int .u8 44, .int .u8 91]) U46 sz5 zero5 rfl (by simp [oneV]) ⟨rfl, by decide⟩ (fun g230 v230 c230 hv230 hc230 ho230 => ?_)
    subst hv230 hc230
    refine j_append 1 U46 U46 (.inr ⟨_, rfl⟩) sb5 zero5 rfl ho229 rfl (.inl ⟨_, _, rfl, rd_own (off := 0) (n := 2) 0 rfl rfl, rfl⟩) (by simp [oneV]) ⟨(by first | omega | (simp only [ints_length, List.drop_zero, List.take_succ_cons, List.take_zero, List.length_append, List.length_cons, List.length_nil]; omega)), (by decide)⟩ (fun v231 c231 ho231 => ?_)
    have ho231 : Sx.Own 5 1 (ints ((((((((P2 ++ tTs d.srcs) ++ [44]) ++ qt d.sys) ++ [44]) ++ qt d.bld) ++ [44]) ++ tTs d.args) ++ [44, 91])) v231 c231 := by
     rw [ints_append]
     exact ho231
    refine j_subl (S' := [c231, [(g0, .cells (dcells d x).toArray 28 (0, 0))], []]) (by repeat first | exact slR _ | exact slN _ | apply slC | apply slD) ?_
    obtain ⟨P3, hP3⟩ : ∃ p, p = ((((((((P2 ++ tTs d.srcs) ++ [44]) ++ qt d.sys) ++ [44]) ++ qt d.bld) ++ [44]) ++ tTs d.args) ++ [44, 91]) := ⟨_, rfl⟩
    rw [← hP3] at ho231
    have hP3l : P3.length ≤ 5000000000 := by
     rw [hP3]
     simp only [List.length_append, List.length_cons, List.length_nil]
     omega
    refine j_q (qs_ac) ?_
    refine j_loop (fun m vs S' => ∃ (i : Nat) (bv : Value) (cb : SH), vs = [bv, .int .i64 (i : Int)] ∧ S' = [cb, [(g0, .cells (dcells d x).toArray 28 (0, 0))], []] ∧ Sx.Own 5 1 (ints (P3 ++ cms ((d.env.take i).map tV))) bv cb ∧ i ≤ d.env.length ∧ m = d.env.length - i) ⟨_, 0, v231, c231, rfl, rfl, by rw [cms0, List.append_nil]; exact ho231, Nat.zero_le _, rfl⟩ ?_
    rintro m vs S' hlen ⟨i, bv, cb, rfl, rfl, hob, hin, rfl⟩
    refine j_q (qs_field U28 rfl sz23 (by decide) rfl) ?_
    refine j_q (qs_load (l := dcells d x) 1 U23 rfl rfl rfl (congrArg some hve)) ?_
    refine j_q (qs_lenl U23 rfl) ?_
    refine j_q (qs_lss rfl rfl) ?_
    refine j_cond rfl (fun hc7 => ?_) (fun hc7 => ?_)
    ·skip
     have hi : i < d.env.length := by
      simp only [bnA] at *
      omega
     obtain ⟨rfl, hga, hcells⟩ := hAe (by omega)
     have hev := few.ev _ (getD_mem (d := v0) hi)
     have r1 := qt_le (d.env.getD i v0).name
     have r2 := qt_le (d.env.getD i v0).val
     have hci := hcle i
     refine j_q (qs_gtr rfl rfl) ?_
     refine j_cond rfl (fun hc8 => ?_) (fun hc8 => ?_)
     ·skip
      have h0 : ¬ i = 0 := by
       simp only [bnA] at *
       omega
      have hstep := cms_step tV (d := v0) hi
      rw [if_neg h0] at hstep
      refine j_lit (vs := [.int .u8 44]) U46 sz5 zero5 rfl (by simp [oneV]) ⟨rfl, by decide⟩ (fun g238 v238 c238 hv238 hc238 ho238 => ?_)
      subst hv238 hc238
      refine j_append 1 U46 U46 (.inr ⟨_, rfl⟩) sb5 zero5 rfl hob rfl (.inl ⟨_, _, rfl, rd_own (off := 0) (n := 1) 0 rfl rfl, rfl⟩) (by simp [oneV]) ⟨(by first | omega | (simp only [ints_length, List.drop_zero, List.take_succ_cons, List.take_zero, List.length_append, List.length_cons, List.length_nil]; omega)), (by decide)⟩ (fun v239 c239 ho239 => ?_)
      have ho239 : Sx.Own 5 1 (ints ((P3 ++ cms ((d.env.take i).map tV)) ++ [44])) v239 c239 := by
       rw [ints_append]
       exact ho239
      refine j_subl (S' := [c239, [(g0, .cells (dcells d x).toArray 28 (0, 0))], []]) (by repeat first | exact slR _ | exact slN _ | apply slC | apply slD) ?_
      refine j_mix [[(g0, .cells (dcells d x).toArray 28 (0, 0))], []] (Le.of_sub (by repeat first | exact slR _ | exact slN _ | apply slC | apply slD)) ?_
      refine j_mq (qs_field U28 rfl sz23 (by decide) rfl) ?_
      refine j_mq (qs_load (l := dcells d x) 0 U23 rfl rfl rfl (congrArg some hve)) ?_
      refine j_mq (qs_ixn (g := ge) (off := offe) (i := i) U23 sz48 rfl rfl (by omega)) ?_
      refine j_mq (qs_field U48 rfl sz9 (by decide) rfl) ?_
      refine j_mq (qs_loadrec (v := .string (bs (d.env.getD i v0).name)) (encA := encV) (rs := d.env) (d := v0) (i := i) (fo := 0) encV_len (rd_cells hcells (by simp)) hi U9 rfl rfl rfl) ?_
      refine j_lit (vs := [.int .u8 40]) U46 sz5 zero5 rfl (by simp [oneV]) ⟨rfl, by decide⟩ (fun g245 v245 c245 hv245 hc245 ho245 => ?_)
      subst hv245 hc245
      refine j_mD0 (Le.of_sub (by repeat first | exact slR _ | exact slN _ | apply slC | apply slD)) ?_
      refine j_append 1 U46 U46 (.inr ⟨_, rfl⟩) sb5 zero5 rfl ho239 rfl (.inl ⟨_, _, rfl, rd_own (off := 0) (n := 1) 0 rfl rfl, rfl⟩) (by simp [oneV]) ⟨(by first | omega | (simp only [ints_length, List.drop_zero, List.take_succ_cons, List.take_zero, List.length_append, List.length_cons, List.length_nil]; omega)), (by decide)⟩ (fun v246 c246 ho246 => ?_)
      have ho246 : Sx.Own 5 1 (ints (((P3 ++ cms ((d.env.take i).map tV)) ++ [44]) ++ [40])) v246 c246 := by
       rw [ints_append]
       exact ho246
      refine j_subl (S' := [c246, [(g0, .cells (dcells d x).toArray 28 (0, 0))], []]) (by repeat first | exact slR _ | exact slN _ | apply slC | apply slD) ?_
      refine j_mD0 (Le.of_sub (by repeat first | exact slR _ | exact slN _ | apply slC | apply slD)) ?_
      refine j_call 0 ent76 rfl rfl rfl rfl (fun w' hw' => rquote_con _ _ _ ho246 (d.env.getD i v0).name (by first | omega | (simp only [ints_length, List.drop_zero, List.take_succ_cons, List.take_zero, List.length_append, List.length_cons, List.length_nil]; omega)) (by first | omega | (simp; done)) w') (fun v247 S2 hu => ?_)
      obtain ⟨c247, rfl, ho247⟩ := hu
      refine j_subl (S' := [c247, [(g0, .cells (dcells d x).toArray 28 (0, 0))], []]) (by repeat first | exact slR _ | exact slN _ | apply slC | apply slD) ?_
      refine j_mR _ (.refl _) ?_
      refine j_mend ?_
      refine j_mix [[(g0, .cells (dcells d x).toArray 28 (0, 0))], []] (Le.of_sub (by repeat first | exact slR _ | exact slN _ | apply slC | apply slD)) ?_
      refine j_mq (qs_field U28 rfl sz23 (by decide) rfl) ?_
      refine j_mq (qs_load (l := dcells d x) 0 U23 rfl rfl rfl (congrArg some hve)) ?_
      refine j_mq (qs_ixn (g := ge) (off := offe) (i := i) U23 sz48 rfl rfl (by omega)) ?_
      refine j_mq (qs_field U48 rfl sz9 (by decide) rfl) ?_
      refine j_mq (qs_loadrec (v := .string (bs (d.env.getD i v0).val)) (encA := encV) (rs := d.env) (d := v0) (i := i) (fo := 1) encV_len (rd_cells hcells (by simp)) hi U9 rfl rfl rfl) ?_
      refine j_both ?_ ?_
      ·skip
       refine j_lit (vs := [.int .u8 44]) U46 sz5 zero5 rfl (by simp [oneV]) ⟨rfl, by decide⟩ (fun g253 v253 c253 hv253 hc253 ho253 => ?_)
       subst hv253 hc253
       refine j_mD0 (Le.of_sub (by repeat first | exact slR _ | exact slN _ | apply slC | apply slD)) ?_
       refine j_both ?_ ?_
       ·skip
        refine j_append 1 U46 U46 (.inr ⟨_, rfl⟩) sb5 zero5 rfl ho247 rfl (.inl ⟨_, _, rfl, rd_own (off := 0) (n := 1) 0 rfl rfl, rfl⟩) (by simp [oneV]) ⟨(by first | omega | (simp only [ints_length, List.drop_zero, List.take_succ_cons, List.take_zero, List.length_append, List.length_cons, List.length_nil]; omega)), (by decide)⟩ (fun v254 c254 ho254 => ?_)
        have ho254 : Sx.Own 5 1 (ints (((((P3 ++ cms ((d.env.take i).map tV)) ++ [44]) ++ [40]) ++ qt (d.env.getD i v0).name) ++ [44])) v254 c254 := by
         rw [ints_append]
         exact ho254
        refine j_subl (S' := [c254, [(g0, .cells (dcells d x).toArray 28 (0, 0))], []]) (by repeat first | exact slR _ | exact slN _ | apply slC | apply slD) ?_
        refine j_mD0 (Le.of_sub (by repeat first | exact slR _ | exact slN _ | apply slC | apply slD)) ?_
        refine j_both ?_ ?_
        ·skip
         refine j_call 0 ent76 rfl rfl rfl rfl (fun w' hw' => rquote_con _ _ _ ho254 (d.env.getD i v0).val (by first | omega | (simp only [ints_length, List.drop_zero, List.take_succ_cons, List.take_zero, List.length_append, List.length_cons, List.length_nil]; omega)) (by first | omega | (simp; done)) w') (fun v255 S2 hu => ?_)
         obtain ⟨c255, rfl, ho255⟩ := hu
         refine j_subl (S' := [c255, [(g0, .cells (dcells d x).toArray 28 (0, 0))], []]) (by repeat first | exact slR _ | exact slN _ | apply slC | apply slD) ?_
         refine j_mR _ (.refl _) ?_
         refine j_lit (vs := [.int .u8 41]) U46 sz5 zero5 rfl (by simp [oneV]) ⟨rfl, by decide⟩ (fun g256 v256 c256 hv256 hc256 ho256 => ?_)
         subst hv256 hc256
         refine j_mD0 (Le.of_sub (by repeat first | exact slR _ | exact slN _ | apply slC | apply slD)) ?_
         refine j_append 1 U46 U46 (.inr ⟨_, rfl⟩) sb5 zero5 rfl ho255 rfl (.inl ⟨_, _, rfl, rd_own (off := 0) (n := 1) 0 rfl rfl, rfl⟩) (by simp [oneV]) ⟨(by first | omega | (simp only [ints_length, List.drop_zero, List.take_succ_cons, List.take_zero, List.length_append, List.length_cons, List.length_nil]; omega)), (by decide)⟩ (fun v257 c257 ho257 => ?_)
         have ho257 : Sx.Own 5 1 (ints (((((((P3 ++ cms ((d.env.take i).map tV)) ++ [44]) ++ [40]) ++ qt (d.env.getD i v0).name) ++ [44]) ++ qt (d.env.getD i v0).val) ++ [41])) v257 c257 := by
          rw [ints_append]
          exact ho257
         refine j_subl (S' := [c257, [(g0, .cells (dcells d x).toArray 28 (0, 0))], []]) (by repeat first | exact slR _ | exact slN _ | apply slC | apply slD) ?_
         refine j_mR _ (.refl _) ?_
         refine j_mend ?_
         refine j_q (qs_add64 rfl rfl (by omega)) ?_
         have hob2 : Sx.Own 5 1 (ints (P3 ++ cms ((d.env.take (i + 1)).map tV))) v257 c257 := by
          rw [hstep, tV_eq]
          (simp only [List.append_assoc, List.cons_append, List.nil_append, MI.pi] at ho257 ⊢; exact ho257)
         refine j_subl (S' := [c257, [(g0, .cells (dcells d x).toArray 28 (0, 0))], []]) (by repeat first | exact slR _ | exact slN _ | apply slC | apply slD) ?_
         refine j_back rfl ?_
         exact ⟨d.env.length - (i + 1), by omega, i + 1, v257, c257, bools2 rfl (by omega), rfl, hob2, by omega, rfl⟩
        ·skip
         refine j_lit (vs := [.int .u8 41]) U46 sz5 zero5 rfl (by simp [oneV]) ⟨rfl, by decide⟩ (fun g259 v259 c259 hv259 hc259 ho259 => ?_)
         subst hv259 hc259
         refine j_mD0 (Le.of_sub (by repeat first | exact slR _ | exact slN _ | apply slC | apply slD)) ?_
         refine j_call 1 ent76 rfl rfl rfl rfl (fun w' hw' => rquote_con _ _ _ ho254 (d.env.getD i v0).val (by first | omega | (simp only [ints_length, List.drop_zero, List.take_succ_cons, List.take_zero, List.length_append, List.length_cons, List.length_nil]; omega)) (by first | omega | (simp; done)) w') (fun v260 S2 hu => ?_)
         obtain ⟨c260, rfl, ho260⟩ := hu
         refine j_subl (S' := [c260, [(g259, .cells [Value.int .u8 41].toArray 5 (0, 0))], [(g0, .cells (dcells d x).toArray 28 (0, 0))], []]) (by repeat first | exact slR _ | exact slN _ | apply slC | apply slD) ?_
         refine j_mD0 (Le.of_sub (by repeat first | exact slR _ | exact slN _ | apply slC | apply slD)) ?_
         refine j_append 0 U46 U46 (.inr ⟨_, rfl⟩) sb5 zero5 rfl ho260 rfl (.inl ⟨_, _, rfl, rd_own (off := 0) (n := 1) 1 rfl rfl, rfl⟩) (by simp [oneV]) ⟨(by first | omega | (simp only [ints_length, List.drop_zero, List.take_succ_cons, List.take_zero, List.length_append, List.length_cons, List.length_nil]; omega)), (by decide)⟩ (fun v261 c261 ho261 => ?_)
         have ho261 : Sx.Own 5 1 (ints (((((((P3 ++ cms ((d.env.take i).map tV)) ++ [44]) ++ [40]) ++ qt (d.env.getD i v0).name) ++ [44]) ++ qt (d.env.getD i v0).val) ++ [41])) v261 c261 := by
          rw [ints_append]
          exact ho261
         refine j_subl (S' := [c261, [(g0, .cells (dcells d x).toArray 28 (0, 0))], []]) (by repeat first | exact slR _ | exact slN _ | apply slC | apply slD) ?_
         refine j_mR _ (.refl _) ?_
         refine j_mend ?_
         refine j_q (qs_add64 rfl rfl (by omega)) ?_
         have hob2 : Sx.Own 5 1 (ints (P3 ++ cms ((d.env.take (i + 1)).map tV))) v261 c261 := by
          rw [hstep, tV_eq]
          (simp only [List.append_assoc, List.cons_append, List.nil_append, MI.pi] at ho261 ⊢; exact ho261)
         refine j_subl (S' := [c261, [(g0, .cells (dcells d x).toArray 28 (0, 0))], []]) (by repeat first | exact slR _ | exact slN _ | apply slC | apply slD) ?_
         refine j_back rfl ?_
         exact ⟨d.env.length - (i + 1), by omega, i + 1, v261, c261, bools2 rfl (by omega), rfl, hob2, by omega, rfl⟩
       ·skip
        refine j_lit (vs := [.int .u8 41]) U46 sz5 zero5 rfl (by simp [oneV]) ⟨rfl, by decide⟩ (fun g263 v263 c263 hv263 hc263 ho263 => ?_)
        subst hv263 hc263
        refine j_mD0 (Le.of_sub (by repeat first | exact slR _ | exact slN _ | apply slC | apply slD)) ?_
        refine j_append 2 U46 U46 (.inr ⟨_, rfl⟩) sb5 zero5 rfl ho247 rfl (.inl ⟨_, _, rfl, rd_own (off := 0) (n := 1) 1 rfl rfl, rfl⟩) (by simp [oneV]) ⟨(by first | omega | (simp only [ints_length, List.drop_zero, List.take_succ_cons, List.take_zero, List.length_append, List.length_cons, List.length_nil]; omega)), (by decide)⟩ (fun v264 c264 ho264 => ?_)
        have ho264 : Sx.Own 5 1 (ints (((((P3 ++ cms ((d.env.take i).map tV)) ++ [44]) ++ [40]) ++ qt (d.env.getD i v0).name) ++ [44])) v264 c264 := by
         rw [ints_append]
         exact ho264
        refine j_subl (S' := [[(g263, .cells [Value.int .u8 41].toArray 5 (0, 0))], c264, [(g0, .cells (dcells d x).toArray 28 (0, 0))], []]) (by repeat first | exact slR _ | exact slN _ | apply slC | apply slD) ?_
        refine j_mD0 (Le.of_sub (by repeat first | exact slR _ | exact slN _ | apply slC | apply slD)) ?_
        refine j_call 1 ent76 rfl rfl rfl rfl (fun w' hw' => rquote_con _ _ _ ho264 (d.env.getD i v0).val (by first | omega | (simp only [ints_length, List.drop_zero, List.take_succ_cons, List.take_zero, List.length_append, List.length_cons, List.length_nil]; omega)) (by first | omega | (simp; done)) w') (fun v265 S2 hu => ?_)
        obtain ⟨c265, rfl, ho265⟩ := hu
        refine j_subl (S' := [c265, [(g263, .cells [Value.int .u8 41].toArray 5 (0, 0))], [(g0, .cells (dcells d x).toArray 28 (0, 0))], []]) (by repeat first | exact slR _ | exact slN _ | apply slC | apply slD) ?_
        refine j_mD0 (Le.of_sub (by repeat first | exact slR _ | exact slN _ | apply slC | apply slD)) ?_
        refine j_append 0 U46 U46 (.inr ⟨_, rfl⟩) sb5 zero5 rfl ho265 rfl (.inl ⟨_, _, rfl, rd_own (off := 0) (n := 1) 1 rfl rfl, rfl⟩) (by simp [oneV]) ⟨(by first | omega | (simp only [ints_length, List.drop_zero, List.take_succ_cons, List.take_zero, List.length_append, List.length_cons, List.length_nil]; omega)), (by decide)⟩ (fun v266 c266 ho266 => ?_)
        have ho266 : Sx.Own 5 1 (ints (((((((P3 ++ cms ((d.env.take i).map tV)) ++ [44]) ++ [40]) ++ qt (d.env.getD i v0).name) ++ [44]) ++ qt (d.env.getD i v0).val) ++ [41])) v266 c266 := by
         rw [ints_append]
         exact ho266
        refine j_subl (S' := [c266, [(g0, .cells (dcells d x).toArray 28 (0, 0))], []]) (by repeat first | exact slR _ | exact slN _ | apply slC | apply slD) ?_
        refine j_mR _ (.refl _) ?_
        refine j_mend ?_
        refine j_q (qs_add64 rfl rfl (by omega)) ?_
        have hob2 : Sx.Own 5 1 (ints (P3 ++ cms ((d.env.take (i + 1)).map tV))) v266 c266 := by
         rw [hstep, tV_eq]
         (simp only [List.append_assoc, List.cons_append, List.nil_append, MI.pi] at ho266 ⊢; exact ho266)
        refine j_subl (S' := [c266, [(g0, .cells (dcells d x).toArray 28 (0, 0))], []]) (by repeat first | exact slR _ | exact slN _ | apply slC | apply slD) ?_
        refine j_back rfl ?_
        exact ⟨d.env.length - (i + 1), by omega, i + 1, v266, c266, bools2 rfl (by omega), rfl, hob2, by omega, rfl⟩
      ·skip
       refine j_lit (vs := [.int .u8 41]) U46 sz5 zero5 rfl (by simp [oneV]) ⟨rfl, by decide⟩ (fun g268 v268 c268 hv268 hc268 ho268 => ?_)
       subst hv268 hc268
       refine j_mD0 (Le.of_sub (by repeat first | exact slR _ | exact slN _ | apply slC | apply slD)) ?_
       refine j_lit (vs := [.int .u8 44]) U46 sz5 zero5 rfl (by simp [oneV]) ⟨rfl, by decide⟩ (fun g269 v269 c269 hv269 hc269 ho269 => ?_)
       subst hv269 hc269
       refine j_mD0 (Le.of_sub (by repeat first | exact slR _ | exact slN _ | apply slC | apply slD)) ?_
       refine j_append 2 U46 U46 (.inr ⟨_, rfl⟩) sb5 zero5 rfl ho247 rfl (.inl ⟨_, _, rfl, rd_own (off := 0) (n := 1) 0 rfl rfl, rfl⟩) (by simp [oneV]) ⟨(by first | omega | (simp only [ints_length, List.drop_zero, List.take_succ_cons, List.take_zero, List.length_append, List.length_cons, List.length_nil]; omega)), (by decide)⟩ (fun v270 c270 ho270 => ?_)
       have ho270 : Sx.Own 5 1 (ints (((((P3 ++ cms ((d.env.take i).map tV)) ++ [44]) ++ [40]) ++ qt (d.env.getD i v0).name) ++ [44])) v270 c270 := by
        rw [ints_append]
        exact ho270
       refine j_subl (S' := [[(g268, .cells [Value.int .u8 41].toArray 5 (0, 0))], c270, [(g0, .cells (dcells d x).toArray 28 (0, 0))], []]) (by repeat first | exact slR _ | exact slN _ | apply slC | apply slD) ?_
       refine j_mD0 (Le.of_sub (by repeat first | exact slR _ | exact slN _ | apply slC | apply slD)) ?_
       refine j_call 1 ent76 rfl rfl rfl rfl (fun w' hw' => rquote_con _ _ _ ho270 (d.env.getD i v0).val (by first | omega | (simp only [ints_length, List.drop_zero, List.take_succ_cons, List.take_zero, List.length_append, List.length_cons, List.length_nil]; omega)) (by first | omega | (simp; done)) w') (fun v271 S2 hu => ?_)
       obtain ⟨c271, rfl, ho271⟩ := hu
       refine j_subl (S' := [c271, [(g268, .cells [Value.int .u8 41].toArray 5 (0, 0))], [(g0, .cells (dcells d x).toArray 28 (0, 0))], []]) (by repeat first | exact slR _ | exact slN _ | apply slC | apply slD) ?_
       refine j_mD0 (Le.of_sub (by repeat first | exact slR _ | exact slN _ | apply slC | apply slD)) ?_
       refine j_append 0 U46 U46 (.inr ⟨_, rfl⟩) sb5 zero5 rfl ho271 rfl (.inl ⟨_, _, rfl, rd_own (off := 0) (n := 1) 1 rfl rfl, rfl⟩) (by simp [oneV]) ⟨(by first | omega | (simp only [ints_length, List.drop_zero, List.take_succ_cons, List.take_zero, List.length_append, List.length_cons, List.length_nil]; omega)), (by decide)⟩ (fun v272 c272 ho272 => ?_)
       have ho272 : Sx.Own 5 1 (ints (((((((P3 ++ cms ((d.env.take i).map tV)) ++ [44]) ++ [40]) ++ qt (d.env.getD i v0).name) ++ [44]) ++ qt (d.env.getD i v0).val) ++ [41])) v272 c272 := by
        rw [ints_append]
        exact ho272
       refine j_subl (S' := [c272, [(g0, .cells (dcells d x).toArray 28 (0, 0))], []]) (by repeat first | exact slR _ | exact slN _ | apply slC | apply slD) ?_
       refine j_mR _ (.refl _) ?_
       refine j_mend ?_
       refine j_q (qs_add64 rfl rfl (by omega)) ?_
       have hob2 : Sx.Own 5 1 (ints (P3 ++ cms ((d.env.take (i + 1)).map tV))) v272 c272 := by
        rw [hstep, tV_eq]
        (simp only [List.append_assoc, List.cons_append, List.nil_append, MI.pi] at ho272 ⊢; exact ho272)
       refine j_subl (S' := [c272, [(g0, .cells (dcells d x).toArray 28 (0, 0))], []]) (by repeat first | exact slR _ | exact slN _ | apply slC | apply slD) ?_
       refine j_back rfl ?_
       exact ⟨d.env.length - (i + 1), by omega, i + 1, v272, c272, bools2 rfl (by omega), rfl, hob2, by omega, rfl⟩
     ·skip
      have h0 : i = 0 := by
       simp only [bnA] at *
       omega
      have hstep := cms_step tV (d := v0) hi
      rw [if_pos h0] at hstep
      have hcm0 : cms ((d.env.take i).map tV) = [] := by
       rw [h0]
       exact cms0 _ _
      refine j_mix [[(g0, .cells (dcells d x).toArray 28 (0, 0))], []] (Le.of_sub (by repeat first | exact slR _ | exact slN _ | apply slC | apply slD)) ?_
      refine j_mq (qs_field U28 rfl sz23 (by decide) rfl) ?_
      refine j_mq (qs_load (l := dcells d x) 0 U23 rfl rfl rfl (congrArg some hve)) ?_
      refine j_mq (qs_ixn (g := ge) (off := offe) (i := i) U23 sz48 rfl rfl (by omega)) ?_
      refine j_mq (qs_field U48 rfl sz9 (by decide) rfl) ?_
      refine j_mq (qs_loadrec (v := .string (bs (d.env.getD i v0).name)) (encA := encV) (rs := d.env) (d := v0) (i := i) (fo := 0) encV_len (rd_cells hcells (by simp)) hi U9 rfl rfl rfl) ?_
      refine j_lit (vs := [.int .u8 40]) U46 sz5 zero5 rfl (by simp [oneV]) ⟨rfl, by decide⟩ (fun g279 v279 c279 hv279 hc279 ho279 => ?_)
      subst hv279 hc279
      refine j_mD0 (Le.of_sub (by repeat first | exact slR _ | exact slN _ | apply slC | apply slD)) ?_
      refine j_append 1 U46 U46 (.inr ⟨_, rfl⟩) sb5 zero5 rfl hob rfl (.inl ⟨_, _, rfl, rd_own (off := 0) (n := 1) 0 rfl rfl, rfl⟩) (by simp [oneV]) ⟨(by first | omega | (simp only [ints_length, List.drop_zero, List.take_succ_cons, List.take_zero, List.length_append, List.length_cons, List.length_nil]; omega)), (by decide)⟩ (fun v280 c280 ho280 => ?_)
      have ho280 : Sx.Own 5 1 (ints ((P3 ++ cms ((d.env.take i).map tV)) ++ [40])) v280 c280 := by
       rw [ints_append]
       exact ho280
      refine j_subl (S' := [c280, [(g0, .cells (dcells d x).toArray 28 (0, 0))], []]) (by repeat first | exact slR _ | exact slN _ | apply slC | apply slD) ?_
      refine j_mD0 (Le.of_sub (by repeat first | exact slR _ | exact slN _ | apply slC | apply slD)) ?_
      refine j_call 0 ent76 rfl rfl rfl rfl (fun w' hw' => rquote_con _ _ _ ho280 (d.env.getD i v0).name (by first | omega | (simp only [ints_length, List.drop_zero, List.take_succ_cons, List.take_zero, List.length_append, List.length_cons, List.length_nil]; omega)) (by first | omega | (simp; done)) w') (fun v281 S2 hu => ?_)
      obtain ⟨c281, rfl, ho281⟩ := hu
      refine j_subl (S' := [c281, [(g0, .cells (dcells d x).toArray 28 (0, 0))], []]) (by repeat first | exact slR _ | exact slN _ | apply slC | apply slD) ?_
      refine j_mR _ (.refl _) ?_
      refine j_mend ?_
      refine j_mix [[(g0, .cells (dcells d x).toArray 28 (0, 0))], []] (Le.of_sub (by repeat first | exact slR _ | exact slN _ | apply slC | apply slD)) ?_
      refine j_mq (qs_field U28 rfl sz23 (by decide) rfl) ?_
      refine j_mq (qs_load (l := dcells d x) 0 U23 rfl rfl rfl (congrArg some hve)) ?_
      refine j_mq (qs_ixn (g := ge) (off := offe) (i := i) U23 sz48 rfl rfl (by omega)) ?_
      refine j_mq (qs_field U48 rfl sz9 (by decide) rfl) ?_
      refine j_mq (qs_loadrec (v := .string (bs (d.env.getD i v0).val)) (encA := encV) (rs := d.env) (d := v0) (i := i) (fo := 1) encV_len (rd_cells hcells (by simp)) hi U9 rfl rfl rfl) ?_
      refine j_both ?_ ?_
      ·skip
       refine j_lit (vs := [.int .u8 44]) U46 sz5 zero5 rfl (by simp [oneV]) ⟨rfl, by decide⟩ (fun g287 v287 c287 hv287 hc287 ho287 => ?_)
       subst hv287 hc287
       refine j_mD0 (Le.of_sub (by repeat first | exact slR _ | exact slN _ | apply slC | apply slD)) ?_
       refine j_both ?_ ?_
       ·skip
        refine j_append 1 U46 U46 (.inr ⟨_, rfl⟩) sb5 zero5 rfl ho281 rfl (.inl ⟨_, _, rfl, rd_own (off := 0) (n := 1) 0 rfl rfl, rfl⟩) (by simp [oneV]) ⟨(by first | omega | (simp only [ints_length, List.drop_zero, List.take_succ_cons, List.take_zero, List.length_append, List.length_cons, List.length_nil]; omega)), (by decide)⟩ (fun v288 c288 ho288 => ?_)
        have ho288 : Sx.Own 5 1 (ints ((((P3 ++ cms ((d.env.take i).map tV)) ++ [40]) ++ qt (d.env.getD i v0).name) ++ [44])) v288 c288 := by
         rw [ints_append]
         exact ho288
        refine j_subl (S' := [c288, [(g0, .cells (dcells d x).toArray 28 (0, 0))], []]) (by repeat first | exact slR _ | exact slN _ | apply slC | apply slD) ?_
        refine j_mD0 (Le.of_sub (by repeat first | exact slR _ | exact slN _ | apply slC | apply slD)) ?_
        refine j_both ?_ ?_
        ·skip
         refine j_call 0 ent76 rfl rfl rfl rfl (fun w' hw' => rquote_con _ _ _ ho288 (d.env.getD i v0).val (by first | omega | (simp only [ints_length, List.drop_zero, List.take_succ_cons, List.take_zero, List.length_append, List.length_cons, List.length_nil]; omega)) (by first | omega | (simp; done)) w') (fun v289 S2 hu => ?_)
         obtain ⟨c289, rfl, ho289⟩ := hu
         refine j_subl (S' := [c289, [(g0, .cells (dcells d x).toArray 28 (0, 0))], []]) (by repeat first | exact slR _ | exact slN _ | apply slC | apply slD) ?_
         refine j_mR _ (.refl _) ?_
         refine j_lit (vs := [.int .u8 41]) U46 sz5 zero5 rfl (by simp [oneV]) ⟨rfl, by decide⟩ (fun g290 v290 c290 hv290 hc290 ho290 => ?_)
         subst hv290 hc290
         refine j_mD0 (Le.of_sub (by repeat first | exact slR _ | exact slN _ | apply slC | apply slD)) ?_
         refine j_append 1 U46 U46 (.inr ⟨_, rfl⟩) sb5 zero5 rfl ho289 rfl (.inl ⟨_, _, rfl, rd_own (off := 0) (n := 1) 0 rfl rfl, rfl⟩) (by simp [oneV]) ⟨(by first | omega | (simp only [ints_length, List.drop_zero, List.take_succ_cons, List.take_zero, List.length_append, List.length_cons, List.length_nil]; omega)), (by decide)⟩ (fun v291 c291 ho291 => ?_)
         have ho291 : Sx.Own 5 1 (ints ((((((P3 ++ cms ((d.env.take i).map tV)) ++ [40]) ++ qt (d.env.getD i v0).name) ++ [44]) ++ qt (d.env.getD i v0).val) ++ [41])) v291 c291 := by
          rw [ints_append]
          exact ho291
         refine j_subl (S' := [c291, [(g0, .cells (dcells d x).toArray 28 (0, 0))], []]) (by repeat first | exact slR _ | exact slN _ | apply slC | apply slD) ?_
         refine j_mR _ (.refl _) ?_
         refine j_mend ?_
         refine j_q (qs_add64 rfl rfl (by omega)) ?_
         have hob2 : Sx.Own 5 1 (ints (P3 ++ cms ((d.env.take (i + 1)).map tV))) v291 c291 := by
          rw [hstep, tV_eq]
          (rw [hcm0, List.append_nil] at ho291; simp only [List.append_assoc, List.cons_append, List.nil_append, MI.pi] at ho291 ⊢; exact ho291)
         refine j_subl (S' := [c291, [(g0, .cells (dcells d x).toArray 28 (0, 0))], []]) (by repeat first | exact slR _ | exact slN _ | apply slC | apply slD) ?_
         refine j_back rfl ?_
         exact ⟨d.env.length - (i + 1), by omega, i + 1, v291, c291, bools2 rfl (by omega), rfl, hob2, by omega, rfl⟩
        ·skip
         refine j_lit (vs := [.int .u8 41]) U46 sz5 zero5 rfl (by simp [oneV]) ⟨rfl, by decide⟩ (fun g293 v293 c293 hv293 hc293 ho293 => ?_)
         subst hv293 hc293
         refine j_mD0 (Le.of_sub (by repeat first | exact slR _ | exact slN _ | apply slC | apply slD)) ?_
         refine j_call 1 ent76 rfl rfl rfl rfl (fun w' hw' => rquote_con _ _ _ ho288 (d.env.getD i v0).val (by first | omega | (simp only [ints_length, List.drop_zero, List.take_succ_cons, List.take_zero, List.length_append, List.length_cons, List.length_nil]; omega)) (by first | omega | (simp; done)) w') (fun v294 S2 hu => ?_)
         obtain ⟨c294, rfl, ho294⟩ := hu
         refine j_subl (S' := [c294, [(g293, .cells [Value.int .u8 41].toArray 5 (0, 0))], [(g0, .cells (dcells d x).toArray 28 (0, 0))], []]) (by repeat first | exact slR _ | exact slN _ | apply slC | apply slD) ?_
         refine j_mD0 (Le.of_sub (by repeat first | exact slR _ | exact slN _ | apply slC | apply slD)) ?_
         refine j_append 0 U46 U46 (.inr ⟨_, rfl⟩) sb5 zero5 rfl ho294 rfl (.inl ⟨_, _, rfl, rd_own (off := 0) (n := 1) 1 rfl rfl, rfl⟩) (by simp [oneV]) ⟨(by first | omega | (simp only [ints_length, List.drop_zero, List.take_succ_cons, List.take_zero, List.length_append, List.length_cons, List.length_nil]; omega)), (by decide)⟩ (fun v295 c295 ho295 => ?_)
         have ho295 : Sx.Own 5 1 (ints ((((((P3 ++ cms ((d.env.take i).map tV)) ++ [40]) ++ qt (d.env.getD i v0).name) ++ [44]) ++ qt (d.env.getD i v0).val) ++ [41])) v295 c295 := by
          rw [ints_append]
          exact ho295
         refine j_subl (S' := [c295, [(g0, .cells (dcells d x).toArray 28 (0, 0))], []]) (by repeat first | exact slR _ | exact slN _ | apply slC | apply slD) ?_
         refine j_mR _ (.refl _) ?_
         refine j_mend ?_
         refine j_q (qs_add64 rfl rfl (by omega)) ?_
         have hob2 : Sx.Own 5 1 (ints (P3 ++ cms ((d.env.take (i + 1)).map tV))) v295 c295 := by
          rw [hstep, tV_eq]
          (rw [hcm0, List.append_nil] at ho295; simp only [List.append_assoc, List.cons_append, List.nil_append, MI.pi] at ho295 ⊢; exact ho295)
         refine j_subl (S' := [c295, [(g0, .cells (dcells d x).toArray 28 (0, 0))], []]) (by repeat first | exact slR _ | exact slN _ | apply slC | apply slD) ?_
         refine j_back rfl ?_
         exact ⟨d.env.length - (i + 1), by omega, i + 1, v295, c295, bools2 rfl (by omega), rfl, hob2, by omega, rfl⟩
       ·skip
        refine j_lit (vs := [.int .u8 41]) U46 sz5 zero5 rfl (by simp [oneV]) ⟨rfl, by decide⟩ (fun g297 v297 c297 hv297 hc297 ho297 => ?_)
        subst hv297 hc297
        refine j_mD0 (Le.of_sub (by repeat first | exact slR _ | exact slN _ | apply slC | apply slD)) ?_
        refine j_append 2 U46 U46 (.inr ⟨_, rfl⟩) sb5 zero5 rfl ho281 rfl (.inl ⟨_, _, rfl, rd_own (off := 0) (n := 1) 1 rfl rfl, rfl⟩) (by simp [oneV]) ⟨(by first | omega | (simp only [ints_length, List.drop_zero, List.take_succ_cons, List.take_zero, List.length_append, List.length_cons, List.length_nil]; omega)), (by decide)⟩ (fun v298 c298 ho298 => ?_)
        have ho298 : Sx.Own 5 1 (ints ((((P3 ++ cms ((d.env.take i).map tV)) ++ [40]) ++ qt (d.env.getD i v0).name) ++ [44])) v298 c298 := by
         rw [ints_append]
         exact ho298
        refine j_subl (S' := [[(g297, .cells [Value.int .u8 41].toArray 5 (0, 0))], c298, [(g0, .cells (dcells d x).toArray 28 (0, 0))], []]) (by repeat first | exact slR _ | exact slN _ | apply slC | apply slD) ?_
        refine j_mD0 (Le.of_sub (by repeat first | exact slR _ | exact slN _ | apply slC | apply slD)) ?_
        refine j_call 1 ent76 rfl rfl rfl rfl (fun w' hw' => rquote_con _ _ _ ho298 (d.env.getD i v0).val (by first | omega | (simp only [ints_length, List.drop_zero, List.take_succ_cons, List.take_zero, List.length_append, List.length_cons, List.length_nil]; omega)) (by first | omega | (simp; done)) w') (fun v299 S2 hu => ?_)
        obtain ⟨c299, rfl, ho299⟩ := hu
        refine j_subl (S' := [c299, [(g297, .cells [Value.int .u8 41].toArray 5 (0, 0))], [(g0, .cells (dcells d x).toArray 28 (0, 0))], []]) (by repeat first | exact slR _ | exact slN _ | apply slC | apply slD) ?_
        refine j_mD0 (Le.of_sub (by repeat first | exact slR _ | exact slN _ | apply slC | apply slD)) ?_
        refine j_append 0 U46 U46 (.inr ⟨_, rfl⟩) sb5 zero5 rfl ho299 rfl (.inl ⟨_, _, rfl, rd_own (off := 0) (n := 1) 1 rfl rfl, rfl⟩) (by simp [oneV]) ⟨(by first | omega | (simp only [ints_length, List.drop_zero, List.take_succ_cons, List.take_zero, List.length_append, List.length_cons, List.length_nil]; omega)), (by decide)⟩ (fun v300 c300 ho300 => ?_)
        have ho300 : Sx.Own 5 1 (ints ((((((P3 ++ cms ((d.env.take i).map tV)) ++ [40]) ++ qt (d.env.getD i v0).name) ++ [44]) ++ qt (d.env.getD i v0).val) ++ [41])) v300 c300 := by
         rw [ints_append]
         exact ho300
        refine j_subl (S' := [c300, [(g0, .cells (dcells d x).toArray 28 (0, 0))], []]) (by repeat first | exact slR _ | exact slN _ | apply slC | apply slD) ?_
        refine j_mR _ (.refl _) ?_
        refine j_mend ?_
        refine j_q (qs_add64 rfl rfl (by omega)) ?_
        have hob2 : Sx.Own 5 1 (ints (P3 ++ cms ((d.env.take (i + 1)).map tV))) v300 c300 := by
         rw [hstep, tV_eq]
         (rw [hcm0, List.append_nil] at ho300; simp only [List.append_assoc, List.cons_append, List.nil_append, MI.pi] at ho300 ⊢; exact ho300)
        refine j_subl (S' := [c300, [(g0, .cells (dcells d x).toArray 28 (0, 0))], []]) (by repeat first | exact slR _ | exact slN _ | apply slC | apply slD) ?_
        refine j_back rfl ?_
        exact ⟨d.env.length - (i + 1), by omega, i + 1, v300, c300, bools2 rfl (by omega), rfl, hob2, by omega, rfl⟩
      ·skip
       refine j_lit (vs := [.int .u8 41]) U46 sz5 zero5 rfl (by simp [oneV]) ⟨rfl, by decide⟩ (fun g302 v302 c302 hv302 hc302 ho302 => ?_)
       subst hv302 hc302
       refine j_mD0 (Le.of_sub (by repeat first | exact slR _ | exact slN _ | apply slC | apply slD)) ?_
       refine j_lit (vs := [.int .u8 44]) U46 sz5 zero5 rfl (by simp [oneV]) ⟨rfl, by decide⟩ (fun g303 v303 c303 hv303 hc303 ho303 => ?_)
       subst hv303 hc303
       refine j_mD0 (Le.of_sub (by repeat first | exact slR _ | exact slN _ | apply slC | apply slD)) ?_
       refine j_append 2 U46 U46 (.inr ⟨_, rfl⟩) sb5 zero5 rfl ho281 rfl (.inl ⟨_, _, rfl, rd_own (off := 0) (n := 1) 0 rfl rfl, rfl⟩) (by simp [oneV]) ⟨(by first | omega | (simp only [ints_length, List.drop_zero, List.take_succ_cons, List.take_zero, List.length_append, List.length_cons, List.length_nil]; omega)), (by decide)⟩ (fun v304 c304 ho304 => ?_)
       have ho304 : Sx.Own 5 1 (ints ((((P3 ++ cms ((d.env.take i).map tV)) ++ [40]) ++ qt (d.env.getD i v0).name) ++ [44])) v304 c304 := by
        rw [ints_append]
        exact ho304
       refine j_subl (S' := [[(g302, .cells [Value.int .u8 41].toArray 5 (0, 0))], c304, [(g0, .cells (dcells d x).toArray 28 (0, 0))], []]) (by repeat first | exact slR _ | exact slN _ | apply slC | apply slD) ?_
       refine j_mD0 (Le.of_sub (by repeat first | exact slR _ | exact slN _ | apply slC | apply slD)) ?_
       refine j_call 1 ent76 rfl rfl rfl rfl (fun w' hw' => rquote_con _ _ _ ho304 (d.env.getD i v0).val (by first | omega | (simp only [ints_length, List.drop_zero, List.take_succ_cons, List.take_zero, List.length_append, List.length_cons, List.length_nil]; omega)) (by first | omega | (simp; done)) w') (fun v305 S2 hu => ?_)
       obtain ⟨c305, rfl, ho305⟩ := hu
       refine j_subl (S' := [c305, [(g302, .cells [Value.int .u8 41].toArray 5 (0, 0))], [(g0, .cells (dcells d x).toArray 28 (0, 0))], []]) (by repeat first | exact slR _ | exact slN _ | apply slC | apply slD) ?_
       refine j_mD0 (Le.of_sub (by repeat first | exact slR _ | exact slN _ | apply slC | apply slD)) ?_
       refine j_append 0 U46 U46 (.inr ⟨_, rfl⟩) sb5 zero5 rfl ho305 rfl (.inl ⟨_, _, rfl, rd_own (off := 0) (n := 1) 1 rfl rfl, rfl⟩) (by simp [oneV]) ⟨(by first | omega | (simp only [ints_length, List.drop_zero, List.take_succ_cons, List.take_zero, List.length_append, List.length_cons, List.length_nil]; omega)), (by decide)⟩ (fun v306 c306 ho306 => ?_)
       have ho306 : Sx.Own 5 1 (ints ((((((P3 ++ cms ((d.env.take i).map tV)) ++ [40]) ++ qt (d.env.getD i v0).name) ++ [44]) ++ qt (d.env.getD i v0).val) ++ [41])) v306 c306 := by
        rw [ints_append]
        exact ho306
       refine j_subl (S' := [c306, [(g0, .cells (dcells d x).toArray 28 (0, 0))], []]) (by repeat first | exact slR _ | exact slN _ | apply slC | apply slD) ?_
       refine j_mR _ (.refl _) ?_
       refine j_mend ?_
       refine j_q (qs_add64 rfl rfl (by omega)) ?_
       have hob2 : Sx.Own 5 1 (ints (P3 ++ cms ((d.env.take (i + 1)).map tV))) v306 c306 := by
        rw [hstep, tV_eq]
        (rw [hcm0, List.append_nil] at ho306; simp only [List.append_assoc, List.cons_append, List.nil_append, MI.pi] at ho306 ⊢; exact ho306)
       refine j_subl (S' := [c306, [(g0, .cells (dcells d x).toArray 28 (0, 0))], []]) (by repeat first | exact slR _ | exact slN _ | apply slC | apply slD) ?_
       refine j_back rfl ?_
       exact ⟨d.env.length - (i + 1), by omega, i + 1, v306, c306, bools2 rfl (by omega), rfl, hob2, by omega, rfl⟩
    ·skip
     obtain rfl : i = d.env.length := by
      simp only [bnA] at *
      omega
     rw [List.take_length] at hob
     have hci := hcle d.env.length
     rw [List.take_length] at hci
     refine j_lit (vs := [.int .u8 93, .int .u8 41]) U46 sz5 zero5 rfl (by simp [oneV]) ⟨rfl, by decide⟩ (fun g308 v308 c308 hv308 hc308 ho308 => ?_)
     subst hv308 hc308
     refine j_append 1 U46 U46 (.inr ⟨_, rfl⟩) sb5 zero5 rfl hob rfl (.inl ⟨_, _, rfl, rd_own (off := 0) (n := 2) 0 rfl rfl, rfl⟩) (by simp [oneV]) ⟨(by first | omega | (simp only [ints_length, List.drop_zero, List.take_succ_cons, List.take_zero, List.length_append, List.length_cons, List.length_nil]; omega)), (by decide)⟩ (fun v309 c309 ho309 => ?_)
     have ho309 : Sx.Own 5 1 (ints ((P3 ++ cms (d.env.map tV)) ++ [93, 41])) v309 c309 := by
      rw [ints_append]
      exact ho309
     refine j_subl (S' := [c309, [(g0, .cells (dcells d x).toArray 28 (0, 0))], []]) (by repeat first | exact slR _ | exact slN _ | apply slC | apply slD) ?_
     refine j_subl (S' := [c309]) (by repeat first | exact slR _ | exact slN _ | apply slC | apply slD) ?_
     refine j_ret_con (vs := [_]) (fun w' hw' => ⟨rfl, trivial⟩) ?_
     refine ⟨c309, rfl, ?_⟩
     rw [dtext_eq, hmap]
     rw [hP3, hP2, hP1, hP0] at ho309
     simp only [List.append_assoc, List.cons_append, List.nil_append] at ho309 ⊢
     exact ho309
end Go.Proofs.YtfeabbeebkkhaaaGreat
/-! Sx22 -/
namespace Go.Sx
open Go
set_option linter.unusedVariables false
variable {P : Program} {R : Ending → World → Prop} {env : Env} {b : Base} {S : List SH} {B : JB} {T : Tree} {v : Value} {ty : TypeId}
theorem jq_ggg {o : Oper} {qs : List Q} {next : Env → Prop} {c : Operand} {b0 w0 b1 w1 b2 want : Bool} (hc : ev env c = gd b0 w0 (gd b1 w1 (.bool b2))) (hq : b0 = w0 → b1 = w1 → b2 = want → QS P o env b S v) (h : JQ P b S qs (gd b0 w0 (gd b1 w1 (gd b2 want v)) :: env) next) : JQ P b S (⟨some (c, want), o⟩ :: qs) env next := by
 by_cases h0 : b0 = w0
 ·rw [gd_eq h0] at hc h
  exact jq_gg hc (hq h0) h
 ·refine ⟨fun e => ?_, fun _ => ?_⟩
  ·rw [hc, gd, if_neg h0] at e
   cases e
  ·have := h
   rwa [gd, if_neg h0] at this
end Go.Sx
