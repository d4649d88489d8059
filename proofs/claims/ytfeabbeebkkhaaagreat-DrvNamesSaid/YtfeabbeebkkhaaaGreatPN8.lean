/- Part 8. -/
import Derived.Test.YtfeabbeebkkhaaaGreatPN3
import Derived.Test.YtfeabbeebkkhaaaGreatPN4
import Derived.Test.YtfeabbeebkkhaaaGreatPN7
import Derived.Test.YtfeabbeebkkhaaaGreatPN6
import Derived.Test.YtfeabbeebkkhaaaGreatPN5
import Derived.Tactics
import Derived.Defers
import Derived.Recover
/-! Dv5 -/
namespace Go.Proofs.YtfeabbeebkkhaaaGreat
open Go Go.Sx
set_option maxRecDepth 100000
set_option maxHeartbeats 4000000
set_option linter.unusedVariables false
set_option linter.unusedSimpArgs false
attribute [local irreducible] J JQ QS Con W opW
theorem mem_sum {α : Type} (f : α → Nat) {l : List α} {x : α} (h : x ∈ l) : f x ≤ (l.map f).sum := by
 induction l with
 | nil => cases h
 | cons a l ih =>
  rw [List.map_cons, List.sum_cons]
  rcases List.mem_cons.1 h with rfl | h
  ·omega
  ·have := ih h
   omega
theorem getD_mem {α : Type} {l : List α} {i : Nat} {d : α} (h : i < l.length) : l.getD i d ∈ l := by
 rw [List.getD_eq_getElem?_getD, List.getElem?_eq_getElem h]
 exact List.getElem_mem h
structure Few (d : PD) : Prop where
 nm : d.name.length ≤ 200000
 sy : d.sys.length ≤ 200000
 bl : d.bld.length ≤ 200000
 ar : ∀ x ∈ d.args, x.length ≤ 200000
 ev : ∀ x ∈ d.env, x.name.length + x.val.length ≤ 200000
 ip : ∀ x ∈ d.ins, x.drv.length + 10 * x.outs.length ≤ 200000
 ou : ∀ x ∈ d.outs, x.name.length + x.path.length ≤ 200000
 sr : ∀ x ∈ d.srcs, x.length ≤ 200000
 la : d.args.length ≤ 200000
 le : d.env.length ≤ 200000
 li : d.ins.length ≤ 200000
 lo : d.outs.length ≤ 200000
 ls : d.srcs.length ≤ 200000
theorem few_of {d : PD} (h : big2 d ≤ 200000) : Few d := by
 unfold big2 big1 at h
 refine ⟨by omega, by omega, by omega, fun x hx => ?_, fun x hx => ?_, fun x hx => ?_, fun x hx => ?_, fun x hx => ?_, by omega, by omega, by omega, by omega, by omega⟩
 ·have := mem_sum List.length hx; unfold sl at h; omega
 ·have := mem_sum (fun v : PV => v.name.length + v.val.length) hx; omega
 ·have := mem_sum (fun x : PI => x.drv.length + 10 * x.outs.length) hx; omega
 ·have := mem_sum (fun o : PO => o.name.length + o.path.length) hx; omega
 ·have := mem_sum List.length hx; unfold sl at h; omega
theorem map_idB (l : List Bs) : l.map (fun s => s) = l := List.map_id' l
theorem lst_tTs (l : List Bs) : lst [91] (l.map qt) [93] = tTs l := rfl
attribute [local irreducible] es qt cms hex Tbl Half lst
theorem tuple1_con (s : Bs) (w : World) : Con Tryz.prog 119 [.string (bs s)] w [] fun v _ => v = .string (bs s) := by
 refine con_of_tree mix Tryz.func119 T119_ok (by kernel_rfl) ?_
 unfold T119
 refine j_q (qs_ac) ?_
 refine j_ret_con (vs := [_]) (fun w' hw' => ⟨rfl, trivial⟩) ?_
 rfl
theorem texts122_con (s : Bs) (w : World) (hs : s.length ≤ 1099511627776) : Con Tryz.prog 122 [.string (bs s)] w [] fun v _ => v = .string (bs (qt s)) := by
 refine con_of_tree mix Tryz.func122 T122_ok (by kernel_rfl) ?_
 unfold T122
 refine j_q (qs_ac) ?_
 refine j_q (qs_call ent69 rfl rfl rfl (fun w' hw' => quote_con s w' (by omega))) ?_
 refine j_ret_con (vs := [_]) (fun w' hw' => ⟨rfl, trivial⟩) ?_
 rfl
theorem texts124_con (s : Bs) (w : World) (hs : s.length ≤ 1099511627776) : Con Tryz.prog 124 [.string (bs s)] w [] fun v _ => v = .string (bs (qt s)) := by
 refine con_of_tree mix Tryz.func124 T124_ok (by kernel_rfl) ?_
 unfold T124
 refine j_q (qs_ac) ?_
 refine j_q (qs_call ent69 rfl rfl rfl (fun w' hw' => quote_con s w' (by omega))) ?_
 refine j_ret_con (vs := [_]) (fun w' hw' => ⟨rfl, trivial⟩) ?_
 rfl
theorem tuple_con (l : List Bs) (v : Value) (w : World) (hv : StrZ w v l) (hn : l.length ≤ 1000) (hl : (tup l).length ≤ 1099511627776) : Con Tryz.prog 68 [v] w [] fun u _ => u = .string (bs (tup l)) := by
 refine con_of_tree mix Tryz.func68 T68_ok (by kernel_rfl) ?_
 unfold T68
 refine j_q (qs_ac) ?_
 refine j_q (qs_call ent118 rfl rfl rfl (fun w' hw' => listS_con l _ [40] [41] 119 (fun s => s) w' (strz_keep hv hw') ent119 (fun i hi S w2 hs => tuple1_con _ w2) (by simp) (by omega) (by rw [map_idB]; exact hl))) ?_
 refine j_ret_con (vs := [_]) (fun w' hw' => ⟨rfl, trivial⟩) ?_
 rw [map_idB]
 rfl
theorem texts_72_con (l : List Bs) (v : Value) (w : World) (hv : StrZ w v l) (hm : ∀ x ∈ l, x.length ≤ 1099511627776) (hn : l.length ≤ 1000000) (hl : (tTs l).length ≤ 1099511627776) : Con Tryz.prog 72 [v] w [] fun u _ => u = .string (bs (tTs l)) := by
 refine con_of_tree mix Tryz.func72 T72_ok (by kernel_rfl) ?_
 unfold T72
 refine j_q (qs_ac) ?_
 refine j_q (qs_call ent118 rfl rfl rfl (fun w' hw' => listS_con l _ [91] [93] 122 qt w' (strz_keep hv hw') ent122 (fun i hi S w2 hs => texts122_con _ w2 (hm _ (getD_mem hi))) (by simp) (by omega) (by rw [lst_tTs]; exact hl))) ?_
 refine j_ret_con (vs := [_]) (fun w' hw' => ⟨rfl, trivial⟩) ?_
 rw [lst_tTs]
 rfl
theorem texts_75_con (l : List Bs) (v : Value) (w : World) (hv : StrZ w v l) (hm : ∀ x ∈ l, x.length ≤ 1099511627776) (hn : l.length ≤ 1000000) (hl : (tTs l).length ≤ 1099511627776) : Con Tryz.prog 75 [v] w [] fun u _ => u = .string (bs (tTs l)) := by
 refine con_of_tree mix Tryz.func75 T75_ok (by kernel_rfl) ?_
 unfold T75
 refine j_q (qs_ac) ?_
 refine j_q (qs_call ent123 rfl rfl rfl (fun w' hw' => listP_con l _ [91] [93] 124 qt w' (strz_keep hv hw') ent124 (fun i hi S w2 hs => texts124_con _ w2 (hm _ (getD_mem hi))) (by simp) (by omega) (by rw [lst_tTs]; exact hl))) ?_
 refine j_ret_con (vs := [_]) (fun w' hw' => ⟨rfl, trivial⟩) ?_
 rw [lst_tTs]
 rfl
theorem textO_con (o : PO) (w : World) (ho : o.name.length + o.path.length ≤ 1000000) : Con Tryz.prog 67 [.agg (encO o).toArray] w [] fun v _ => v = .string (bs (tO o)) := by
 refine con_of_tree mix Tryz.func67 T67_ok (by kernel_rfl) ?_
 unfold T67
 have hto := tO_le o
 have hhx : (hex o.hash.1).length = 64 := hexL _
 refine j_box (l := encO o) rfl (fun g0 hg0 hs0 => ?_)
 refine j_q (qs_ac) ?_
 refine j_q (qs_ac) ?_
 refine j_q (qs_ac) ?_
 refine j_q (qs_field U53 rfl sz4 (by decide) rfl) ?_
 refine j_q (qs_load 0 U4 rfl rfl rfl rfl) ?_
 refine j_cond rfl (fun hc0 => ?_) (fun hc0 => ?_)
 ·skip
  have htoT : o.fixed = true → (tO o).length ≤ 1099511627776 := fun _ => by omega
  refine j_q (qs_field U53 rfl sz51 (by decide) rfl) ?_
  refine j_q (qs_loada (i := 3) (n := 32) (l := encO o) 0 U51 rfl sz51 rfl rfl (by rw [encO_len]; omega)) ?_
  rw [show ((encO o).drop 3).take 32 = ints o.hash.1 by show (ints o.hash.1).take 32 = _; rw [List.take_of_length_le (by rw [ints_length, o.hash.2]; omega)]]
  refine j_q (qs_call ent54 rfl rfl rfl (fun w' hw' => hex_con o.hash.1 w' o.hash.2)) ?_
  refine j_q (qs_ac) ?_
  refine j_draw ?_
  refine jq_q (qs_field U53 rfl sz9 (by decide) rfl) ?_
  refine jq_q (qs_load 0 U9 rfl rfl rfl rfl) ?_
  refine jq_q (qs_call ent69 rfl rfl rfl (fun w' hw' => quote_con o.name w' (by first | omega | simp))) ?_
  refine jq_q (qs_field U53 rfl sz49 (by decide) rfl) ?_
  refine jq_q (qs_load 0 U49 rfl rfl rfl rfl) ?_
  refine jq_q (qs_call ent69 rfl rfl rfl (fun w' hw' => quote_con o.path w' (by first | omega | simp))) ?_
  refine jq_q (qs_call ent69 rfl rfl rfl (fun w' hw' => quote_con sSha w' (by simp))) ?_
  refine jq_q (qs_call ent69 rfl rfl rfl (fun w' hw' => quote_con (hex o.hash.1) w' (by first | omega | simp))) ?_
  refine jq_nil ?_
  refine j_lit (vs := [.string (bs _), .string (bs _), .string (bs _), .string (bs _)]) U22 sz9 zero9 rfl (by simp [oneV]) ⟨rfl, by decide⟩ (fun g18 v18 c18 hv18 hc18 ho18 => ?_)
  subst hv18 hc18
  refine j_q (qs_call ent68 rfl rfl rfl (fun w' hw' => tuple_con [qt o.name, qt o.path, qt sSha, qt (hex o.hash.1)] _ w' (strz_own (by exact ho18) 0 rfl hw') (by simp) (by have e := htoT hc0; unfold tO at e; rw [if_pos hc0, if_pos hc0] at e; exact e))) ?_
  refine j_ret_con (vs := [_]) (fun w' hw' => ⟨rfl, trivial⟩) ?_
  unfold tO
  rw [if_pos hc0, if_pos hc0]
  rfl
 ·skip
  have htoT : o.fixed = false → (tO o).length ≤ 1099511627776 := fun _ => by omega
  refine j_draw ?_
  refine jq_q (qs_field U53 rfl sz9 (by decide) rfl) ?_
  refine jq_q (qs_load 0 U9 rfl rfl rfl rfl) ?_
  refine jq_q (qs_call ent69 rfl rfl rfl (fun w' hw' => quote_con o.name w' (by first | omega | simp))) ?_
  refine jq_q (qs_field U53 rfl sz49 (by decide) rfl) ?_
  refine jq_q (qs_load 0 U49 rfl rfl rfl rfl) ?_
  refine jq_q (qs_call ent69 rfl rfl rfl (fun w' hw' => quote_con o.path w' (by first | omega | simp))) ?_
  refine jq_q (qs_call ent69 rfl rfl rfl (fun w' hw' => quote_con [] w' (by first | omega | simp))) ?_
  refine jq_q (qs_call ent69 rfl rfl rfl (fun w' hw' => quote_con [] w' (by first | omega | simp))) ?_
  refine jq_nil ?_
  refine j_lit (vs := [.string (bs _), .string (bs _), .string (bs _), .string (bs _)]) U22 sz9 zero9 rfl (by simp [oneV]) ⟨rfl, by decide⟩ (fun g28 v28 c28 hv28 hc28 ho28 => ?_)
  subst hv28 hc28
  refine j_q (qs_call ent68 rfl rfl rfl (fun w' hw' => tuple_con [qt o.name, qt o.path, qt [], qt []] _ w' (strz_own (by exact ho28) 0 rfl hw') (by simp) (by have e := htoT hc0; unfold tO at e; rw [if_neg (by rw [hc0]; decide), if_neg (by rw [hc0]; decide)] at e; exact e))) ?_
  refine j_ret_con (vs := [_]) (fun w' hw' => ⟨rfl, trivial⟩) ?_
  unfold tO
  rw [if_neg (by rw [hc0]; decide), if_neg (by rw [hc0]; decide)]
  rfl
theorem textI_con (m : MI) (w : World) (hs : StrZ w m.v m.outs) (h1 : m.drv.length ≤ 1000000) (h2 : ∀ x ∈ m.outs, x.length ≤ 1000000) (h3 : m.outs.length ≤ 1000000) (h4 : (tI m.pi).length ≤ 1099511627776) (h5 : (tTs m.outs).length ≤ 1099511627776) : Con Tryz.prog 71 [.agg (encI m).toArray] w [] fun v _ => v = .string (bs (tI m.pi)) := by
 refine con_of_tree mix Tryz.func71 T71_ok (by kernel_rfl) ?_
 unfold T71
 refine j_box (l := encI m) rfl (fun g0 hg0 hs0 => ?_)
 refine j_q (qs_ac) ?_
 refine j_draw ?_
 refine jq_q (qs_field U68 rfl sz49 (by decide) rfl) ?_
 refine jq_q (qs_load 0 U49 rfl rfl rfl rfl) ?_
 refine jq_q (qs_call ent69 rfl rfl rfl (fun w' hw' => quote_con m.drv w' (by omega))) ?_
 refine jq_q (qs_field U68 rfl sz22 (by decide) rfl) ?_
 refine jq_q (qs_load 0 U22 rfl rfl rfl rfl) ?_
 refine jq_q (qs_call ent72 rfl rfl rfl (fun w' hw' => texts_72_con m.outs m.v w' (strz_keep hs hw') (fun x hx => by have := h2 x hx; omega) h3 h5)) ?_
 refine jq_nil ?_
 refine j_lit (vs := [.string (bs _), .string (bs _)]) U22 sz9 zero9 rfl (by simp [oneV]) ⟨rfl, by decide⟩ (fun g8 v8 c8 hv8 hc8 ho8 => ?_)
 subst hv8 hc8
 refine j_q (qs_call ent68 rfl rfl rfl (fun w' hw' => tuple_con [qt m.drv, tTs m.outs] _ w' (strz_own (by exact ho8) 0 rfl hw') (by simp) h4)) ?_
 refine j_ret_con (vs := [_]) (fun w' hw' => ⟨rfl, trivial⟩) ?_
 rfl
theorem textV_con (x : PV) (w : World) (h1 : x.name.length + x.val.length ≤ 1000000) : Con Tryz.prog 74 [.agg (encV x).toArray] w [] fun v _ => v = .string (bs (tV x)) := by
 refine con_of_tree mix Tryz.func74 T74_ok (by kernel_rfl) ?_
 unfold T74
 have htv := tV_le x
 refine j_box (l := encV x) rfl (fun g0 hg0 hs0 => ?_)
 refine j_q (qs_ac) ?_
 refine j_draw ?_
 refine jq_q (qs_field U48 rfl sz9 (by decide) rfl) ?_
 refine jq_q (qs_load 0 U9 rfl rfl rfl rfl) ?_
 refine jq_q (qs_call ent69 rfl rfl rfl (fun w' hw' => quote_con x.name w' (by omega))) ?_
 refine jq_q (qs_field U48 rfl sz9 (by decide) rfl) ?_
 refine jq_q (qs_load 0 U9 rfl rfl rfl rfl) ?_
 refine jq_q (qs_call ent69 rfl rfl rfl (fun w' hw' => quote_con x.val w' (by omega))) ?_
 refine jq_nil ?_
 refine j_lit (vs := [.string (bs _), .string (bs _)]) U22 sz9 zero9 rfl (by simp [oneV]) ⟨rfl, by decide⟩ (fun g8 v8 c8 hv8 hc8 ho8 => ?_)
 subst hv8 hc8
 refine j_q (qs_call ent68 rfl rfl rfl (fun w' hw' => tuple_con [qt x.name, qt x.val] _ w' (strz_own (by exact ho8) 0 rfl hw') (by simp) (by unfold tV at htv; omega))) ?_
 refine j_ret_con (vs := [_]) (fun w' hw' => ⟨rfl, trivial⟩) ?_
 rfl
theorem dtext_con (d : PD) (x : DV) (w : World) (h : DR w d x) (tb : TB d) : Con Tryz.prog 36 [dval d x] w [] fun v _ => v = .string (bs (dtext d)) := by
 refine con_of_tree mix Tryz.func36 T36_ok (by kernel_rfl) ?_
 unfold T36
 have few := few_of tb.sm
 have hdl := dtext_le tb
 have hni : d.ins.length = x.mi.length := by rw [h.im, List.length_map]
 have tbo := tb.o
 have tbi := tb.i
 have tbe := tb.e
 have tbs := tb.s
 have tba := tb.a
 have few1 := few.nm
 have few2 := few.sy
 have few3 := few.bl
 have few4 := few.la
 have few5 := few.le
 have few6 := few.li
 have few7 := few.lo
 have few8 := few.ls
 have hmem : ∀ i, i < x.mi.length → (x.mi.getD i m0).pi ∈ d.ins := fun i hi => by rw [h.im]; exact List.mem_map_of_mem (getD_mem hi)
 have hmap : d.ins.map tI = x.mi.map (fun m => tI m.pi) := by rw [h.im, List.map_map]; rfl
 refine j_box (l := dcells d x) rfl (fun g0 hg0 hs0 => ?_)
 refine j_q (qs_ac) ?_
 refine j_q (qs_field U28 rfl sz26 (by decide) rfl) ?_
 refine j_q (qs_load 0 U26 rfl rfl rfl rfl) ?_
 refine j_q (qs_call ent66 rfl rfl rfl (fun w' hw' => listO_con d.outs x.vo [91] [93] 67 tO w' (rsln_keep h.o hw') ent67 (fun i hi S w2 hs => textO_con _ w2 (by have := few.ou _ (getD_mem (d := o0) hi); omega)) (by simp) (by omega) (by omega))) ?_
 refine j_q (qs_field U28 rfl sz24 (by decide) rfl) ?_
 refine j_q (qs_load 0 U24 rfl rfl rfl rfl) ?_
 refine j_q (qs_call ent70 rfl rfl rfl (fun w' hw' => listI_con x.mi x.vi [91] [93] 71 (fun m => tI m.pi) w' (rsln_keep h.i hw') (fun i hi => MI.one (h.io _ (getD_mem hi))) ent71 (fun i hi S w2 hs => textI_con _ w2 (strz_keep (strz_keep (h.io _ (getD_mem hi)) hw') hs) (by have := few.ip _ (hmem i hi); simp only [MI.pi] at this; omega) (fun y hy => by have := tb.out _ (hmem i hi) y hy; omega) (by have := few.ip _ (hmem i hi); simp only [MI.pi] at this; omega) (by have := tI_le _ (tb.out _ (hmem i hi)); have := few.ip _ (hmem i hi); omega) (by have h1 := tTs_le (x.mi.getD i m0).outs; have h2 := sl_le80 (tb.out _ (hmem i hi)); have h3 := few.ip _ (hmem i hi); simp only [MI.pi] at h2 h3; omega)) (by simp) (by omega) (by rw [← hmap]; omega))) ?_
 rw [← hmap]
 refine j_q (qs_field U28 rfl sz23 (by decide) rfl) ?_
 refine j_q (qs_load 0 U23 rfl rfl rfl rfl) ?_
 refine j_q (qs_call ent73 rfl rfl rfl (fun w' hw' => listV_con d.env x.ve [91] [93] 74 tV w' (rsln_keep h.e hw') ent74 (fun i hi S w2 hs => textV_con _ w2 (by have := few.ev _ (getD_mem (d := v0) hi); omega)) (by simp) (by omega) (by omega))) ?_
 refine j_draw ?_
 refine jq_q (qs_field U28 rfl sz9 (by decide) rfl) ?_
 refine jq_q (qs_load 0 U9 rfl rfl rfl rfl) ?_
 refine jq_q (qs_call ent69 rfl rfl rfl (fun w' hw' => quote_con d.name w' (by omega))) ?_
 refine jq_q (qs_field U28 rfl sz25 (by decide) rfl) ?_
 refine jq_q (qs_load 0 U25 rfl rfl rfl rfl) ?_
 refine jq_q (qs_call ent75 rfl rfl rfl (fun w' hw' => texts_75_con d.srcs x.vs w' (strz_keep h.s hw') (fun y hy => by have := few.sr y hy; omega) (by omega) (by omega))) ?_
 refine jq_q (qs_field U28 rfl sz9 (by decide) rfl) ?_
 refine jq_q (qs_load 0 U9 rfl rfl rfl rfl) ?_
 refine jq_q (qs_call ent69 rfl rfl rfl (fun w' hw' => quote_con d.sys w' (by omega))) ?_
 refine jq_q (qs_field U28 rfl sz9 (by decide) rfl) ?_
 refine jq_q (qs_load 0 U9 rfl rfl rfl rfl) ?_
 refine jq_q (qs_call ent69 rfl rfl rfl (fun w' hw' => quote_con d.bld w' (by omega))) ?_
 refine jq_q (qs_field U28 rfl sz22 (by decide) rfl) ?_
 refine jq_q (qs_load 0 U22 rfl rfl rfl rfl) ?_
 refine jq_q (qs_call ent72 rfl rfl rfl (fun w' hw' => texts_72_con d.args x.va w' (strz_keep h.a hw') (fun y hy => by have := few.ar y hy; omega) (by omega) (by omega))) ?_
 refine jq_nil ?_
 refine j_lit (vs := [.string (bs _), .string (bs _), .string (bs _), .string (bs _), .string (bs _), .string (bs _), .string (bs _), .string (bs _)]) U22 sz9 zero9 rfl (by simp [oneV]) ⟨rfl, by decide⟩ (fun g26 v26 c26 hv26 hc26 ho26 => ?_)
 subst hv26 hc26
 refine j_q (qs_call ent68 rfl rfl rfl (fun w' hw' => tuple_con [qt d.name, lst [91] (d.outs.map tO) [93], lst [91] (d.ins.map tI) [93], tTs d.srcs, qt d.sys, qt d.bld, tTs d.args, lst [91] (d.env.map tV) [93]] _ w' (strz_own (by exact ho26) 0 rfl hw') (by simp) (by unfold dtext at hdl; rw [List.length_append] at hdl; omega))) ?_
 refine j_q (qs_sadd (l := sDerive) rfl rfl (by unfold dtext at hdl; rw [List.length_append] at hdl; omega)) ?_
 refine j_ret_con (vs := [_]) (fun w' hw' => ⟨rfl, trivial⟩) ?_
 rfl
end Go.Proofs.YtfeabbeebkkhaaaGreat
/-! Dv6 -/
namespace Go.Proofs.YtfeabbeebkkhaaaGreat
open Go Go.Sx
set_option maxRecDepth 100000
set_option maxHeartbeats 4000000
set_option linter.unusedVariables false
set_option linter.unusedSimpArgs false
attribute [local irreducible] J JQ QS Con W opW
theorem qs_ixm {P : Program} {env : Env} {b : Base} {S : List SH} {ty t e : TypeId} {x y : Operand} {n c sz g off i : Nat} {k : IntKind} {m : Int} (ht : P.underlying t = some (.slice e)) (hz : (P.info? e).map (·.size) = some sz) (hx : ev env x = .slice (some ⟨g, off, none⟩) n c) (hy : ev env y = .int k m) (hm : m = (i : Int)) (h : i < n) :
  QS P (O (.indexAddr t x y) ty) env b S (.pointer (some ⟨g, off + i * sz, none⟩)) := qs_ixn ht hz hx (by rw [hy, hm]) h
theorem gt0 (i : Nat) : decide ((i : Int) > 0) = decide (0 < i) := by
 rw [Bool.eq_iff_iff, decide_eq_true_eq, decide_eq_true_eq]
 omega
theorem suf4 {n : Bs} (h : isName n = true) : (decide (4 ≤ n.length) && (n.drop (n.length - 4) == sDrv)) = (decide (4 < n.length) && (n.drop (n.length - 4) == sDrv)) := by
 by_cases h4 : n.length = 4
 ·have hne : (n.drop (n.length - 4) == sDrv) = false := by
   rw [h4, Nat.sub_self, List.drop_zero, beq_eq_false_iff_ne]
   rintro rfl
   revert h
   decide
  rw [hne, Bool.and_false, Bool.and_false]
 ·congr 1
  rw [Bool.eq_iff_iff, decide_eq_true_eq, decide_eq_true_eq]
  omega
theorem isPath_name {p : Bs} (h : isPath p = true) : isName (p.drop 33) = true := by
 simp only [isPath, Bool.and_eq_true] at h
 exact h.1.2
theorem chkO_name {l : List PO} {i : Nat} (h : isName (l.getD i o0).name = false) : chkO l i = 9 := by unfold chkO; rw [h]; rfl
theorem chkO_bad {l : List PO} {i : Nat} (h : isName (l.getD i o0).name = true) (hb : badO l i = true) : chkO l i = 3 := by unfold chkO; rw [h, hb]; rfl
theorem chkO_ok {l : List PO} {i : Nat} (h : isName (l.getD i o0).name = true) (hb : badO l i = false) : chkO l i = 0 := by unfold chkO; rw [h, hb]; rfl
theorem chkOuts_at {l : List PO} {i : Nat} {e : Int} (hn : ¬ (l.length < 1 ∨ 16 < l.length)) (hz : ∀ j < i, chkO l j = 0) (hi : i < l.length) (h : chkO l i = e) (he : e ≠ 0) : chkOuts l = e := by
 unfold chkOuts
 rw [if_neg hn, firstE_at hz hi (by rw [h]; exact he), h]
theorem chkN_name {l : List Bs} {i : Nat} (h : isName (l.getD i []) = false) : chkN l i = 9 := by unfold chkN; rw [h]; rfl
theorem chkN_at {l : List Bs} {i : Nat} {b : Bool} (h : isName (l.getD i []) = true) (hb : (decide (0 < i) && (Op.bytesLess (l.getD i []) (l.getD (i - 1) []) || l.getD i [] == l.getD (i - 1) [])) = b) : chkN l i = if b then 3 else 0 := by
 have hb2 : (decide (0 < i) && leB (l.getD i []) (l.getD (i - 1) [])) = b := hb
 unfold chkN
 rw [h, hb2]
 rfl
abbrev badI (l : List PI) (i : Nat) : Bool := !isDrvP (l.getD i i0).drv || (decide (0 < i) && leB (l.getD i i0).drv (l.getD (i - 1) i0).drv) || (l.getD i i0).outs.length == 0
theorem chkI_bad {l : List PI} {i : Nat} (h : badI l i = true) : chkI l i = 3 := by unfold chkI; rw [if_pos h]
theorem chkI_in {l : List PI} {i : Nat} (h : badI l i = false) : chkI l i = firstE (chkN (l.getD i i0).outs) (l.getD i i0).outs.length := by unfold chkI; rw [if_neg (by unfold badI at h; rw [h]; decide)]
theorem getD_pi (l : List MI) (i : Nat) : (l.map MI.pi).getD i i0 = (l.getD i m0).pi := by
 rw [List.getD_eq_getElem?_getD, List.getD_eq_getElem?_getD, List.getElem?_map]
 cases l[i]? <;> rfl
section
variable {l : List PO} {i : Nat}
abbrev bo1 (l : List PO) (i : Nat) : Bool := decide (0 < i) && (Op.bytesLess (l.getD i o0).name (l.getD (i - 1) o0).name || (l.getD i o0).name == (l.getD (i - 1) o0).name)
abbrev bo2 (l : List PO) (i : Nat) : Bool := !((l.getD i o0).path == []) && !isPath (l.getD i o0).path
abbrev bo3 (l : List PO) (i : Nat) : Bool := (l.getD i o0).fixed && (decide ((l.length : Int) > 1) || !((l.getD i o0).name == sOut))
abbrev bo4 (l : List PO) (i : Nat) : Bool := !(l.getD i o0).fixed && !((l.getD i o0).hash.1 == List.replicate 32 0)
theorem badO_eq : badO l i = (bo1 l i || bo2 l i || bo3 l i || bo4 l i) := by
 have h : decide ((l.length : Int) > 1) = decide (1 < l.length) := by
  rw [Bool.eq_iff_iff, decide_eq_true_eq, decide_eq_true_eq]
  omega
 unfold badO leB bo1 bo2 bo3 bo4
 rw [h]
theorem badO_1 (h : bo1 l i = true) : badO l i = true := by rw [badO_eq, h]; rfl
theorem badO_2 (h : bo2 l i = true) : badO l i = true := by rw [badO_eq, h, Bool.or_true]; rfl
theorem badO_3 (h : bo3 l i = true) : badO l i = true := by rw [badO_eq, h, Bool.or_true]; rfl
theorem badO_4 (h : bo4 l i = true) : badO l i = true := by rw [badO_eq, h, Bool.or_true]
theorem badO_0 (h1 : bo1 l i = false) (h2 : bo2 l i = false) (h3 : bo3 l i = false) (h4 : bo4 l i = false) : badO l i = false := by rw [badO_eq, h1, h2, h3, h4]; rfl
end
theorem bi_eq {l : List MI} {i : Nat} : (!isDrvP (l.getD i m0).drv || (decide ((i : Int) > 0) && (Op.bytesLess (l.getD i m0).drv (l.getD (i - 1) m0).drv || (l.getD i m0).drv == (l.getD (i - 1) m0).drv)) || (((l.getD i m0).outs.length : Int) == 0)) = badI (l.map MI.pi) i := by
 have h : (((l.getD i m0).outs.length : Int) == 0) = ((l.getD i m0).outs.length == 0) := by
  rw [Bool.eq_iff_iff, beq_iff_eq, beq_iff_eq]
  omega
 unfold badI leB
 rw [gt0, getD_pi, getD_pi, h]
 rfl
attribute [local irreducible] es qt cms hex Tbl Half lst isName isPath isDrvP leB chkO chkOuts chkN chkI chkIns firstE spA spB spE
theorem disPath_con (p : Bs) (w : World) (hp : p.length ≤ 9223372036854775807) : Con Tryz.prog 41 [.string (bs p)] w [] fun v _ => v = .bool (isPath p) := by
 refine con_of_tree mix Tryz.func41 T41_ok (by kernel_rfl) ?_
 unfold T41
 refine j_q (qs_ac) ?_
 refine j_q (qs_call ent79 rfl rfl rfl (fun w' hw' => split_con p w' hp)) ?_
 unfold spl
 refine j_q (qs_ext (vs := [.string (bs (spA p)), .string (bs (spB p)), .int .i64 (spE p)]) rfl rfl) ?_
 refine j_q (qs_ext (vs := [.string (bs (spA p)), .string (bs (spB p)), .int .i64 (spE p)]) rfl rfl) ?_
 refine j_q (qs_ext (vs := [.string (bs (spA p)), .string (bs (spB p)), .int .i64 (spE p)]) rfl rfl) ?_
 refine j_q (qs_eql rfl rfl) ?_
 refine j_ret_con (vs := [_]) (fun w' hw' => ⟨rfl, trivial⟩) ?_
 show Value.bool _ = _
 congr 1
 unfold spE
 cases isPath p <;> rfl
theorem hasSuf0_con (s t : Bs) (w : World) (hs : s.length ≤ 9223372036854775807) (ht : t.length ≤ 9223372036854775807) : Con Tryz.prog 146 [.string (bs s), .string (bs t)] w [] fun v _ => v = .bool (decide (t.length ≤ s.length) && (s.drop (s.length - t.length) == t)) := by
 refine con_of_tree mix Tryz.func146 T146_ok (by kernel_rfl) ?_
 unfold T146
 refine j_q (qs_ac) ?_
 refine j_q (qs_lens U9 rfl) ?_
 refine j_q (qs_lens U9 rfl) ?_
 refine j_q (qs_geq rfl rfl) ?_
 refine j_g rfl (fun hb => qs_mt rfl) ?_
 refine j_g rfl (fun hb => qs_mt rfl) ?_
 refine j_g rfl (fun hb => qs_lens U9 (gd_eq hb)) ?_
 refine j_g rfl (fun hb => qs_mt rfl) ?_
 refine j_g rfl (fun hb => qs_lens U9 (gd_eq hb)) ?_
 refine j_g rfl (fun hb => qs_sub64 (gd_eq hb) (gd_eq hb) (by omega)) ?_
 refine j_g rfl (fun hb => qs_cuts (a := s.length - t.length) (z := s.length) U9 (gd_eq hb) ⟨.i64, (gd_eq hb).trans (congrArg (Value.int .i64) (by simp only [bnA] at *; omega))⟩ rfl (by omega) (by omega)) ?_
 rw [List.take_length]
 refine j_g rfl (fun hb => qs_mt rfl) ?_
 refine j_g rfl (fun hb => qs_seql (gd_eq hb) (gd_eq hb)) ?_
 refine j_q (qs_and rfl rfl) ?_
 refine j_ret_con (vs := [_]) (fun w' hw' => ⟨rfl, trivial⟩) ?_
 show Value.bool _ = _
 congr 2
 rw [Bool.eq_iff_iff, decide_eq_true_eq, decide_eq_true_eq]
 omega
theorem hasSuf_con (s t : Bs) (w : World) (hs : s.length ≤ 9223372036854775807) (ht : t.length ≤ 9223372036854775807) : Con Tryz.prog 125 [.string (bs s), .string (bs t)] w [] fun v _ => v = .bool (decide (t.length ≤ s.length) && (s.drop (s.length - t.length) == t)) := by
 refine con_of_tree mix Tryz.func125 T125_ok (by kernel_rfl) ?_
 unfold T125
 refine j_q (qs_ac) ?_
 refine j_q (qs_call ent146 rfl rfl rfl (fun w' hw' => hasSuf0_con s t w' hs ht)) ?_
 refine j_ret_con (vs := [_]) (fun w' hw' => ⟨rfl, trivial⟩) ?_
 rfl
theorem isDrv_con (p : Bs) (w : World) (hp : p.length ≤ 9223372036854775807) : Con Tryz.prog 78 [.string (bs p)] w [] fun v _ => v = .bool (isDrvP p) := by
 refine con_of_tree mix Tryz.func78 T78_ok (by kernel_rfl) ?_
 unfold T78
 refine j_q (qs_ac) ?_
 refine j_q (qs_call ent79 rfl rfl rfl (fun w' hw' => split_con p w' hp)) ?_
 unfold spl
 refine j_q (qs_ext (vs := [.string (bs (spA p)), .string (bs (spB p)), .int .i64 (spE p)]) rfl rfl) ?_
 refine j_q (qs_ext (vs := [.string (bs (spA p)), .string (bs (spB p)), .int .i64 (spE p)]) rfl rfl) ?_
 refine j_q (qs_ext (vs := [.string (bs (spA p)), .string (bs (spB p)), .int .i64 (spE p)]) rfl rfl) ?_
 refine j_q (qs_eql rfl rfl) ?_
 refine j_g rfl (fun hb => qs_mt rfl) ?_
 refine j_g rfl (fun hb => qs_call ent125 rfl rfl (args2 (gd_eq hb) rfl) (fun w' hw' => hasSuf_con (spB p) sDrv w' (by unfold spB; split <;> simp <;> omega) (by simp))) ?_
 refine j_q (qs_and rfl rfl) ?_
 refine j_ret_con (vs := [_]) (fun w' hw' => ⟨rfl, trivial⟩) ?_
 show Value.bool _ = _
 congr 1
 unfold spE spB isDrvP
 cases hp : isPath p
 ·rfl
 ·rw [if_pos rfl, if_pos rfl, show sDrv.length = 4 from rfl, suf4 (isPath_name hp)]
  rfl
theorem outputs_con (l : List PO) (v : Value) (w : World) (hv : RSlN 35 w v (l.map encO).flatten l.length) (hl : ∀ x ∈ l, x.name.length ≤ 1000000 ∧ x.path.length ≤ 1000000) : Con Tryz.prog 39 [v] w [] fun u _ => u = .int .i64 (chkOuts l) := by
 refine con_of_tree mix Tryz.func39 T39_ok (by kernel_rfl) ?_
 unfold T39
 obtain ⟨A, cap, ga, off, rfl, hcap, hA⟩ := rsln_form hv
 refine j_q (qs_ac) ?_
 refine j_q (qs_lenl U26 rfl) ?_
 refine j_q (qs_lss rfl rfl) ?_
 refine j_g rfl (fun hb => qs_mt rfl) ?_
 refine j_g rfl (fun hb => qs_lenl U26 (gd_eq hb)) ?_
 refine j_g rfl (fun hb => qs_gtr (gd_eq hb) rfl) ?_
 refine j_q (qs_or rfl rfl) ?_
 refine j_cond rfl (fun hc0 => ?_) (fun hc0 => ?_)
 ·skip
  refine j_q (qs_ac) ?_
  refine j_ret_con (vs := [_]) (fun w' hw' => ⟨rfl, trivial⟩) ?_
  symm
  show _ = Value.int .i64 1
  congr 1
  unfold chkOuts
  rw [if_pos (by simp only [bnA] at *; omega)]
 ·skip
  have hnn : ¬ (l.length < 1 ∨ 16 < l.length) := by
   simp only [bnA] at *
   omega
  refine j_q (qs_lenl U26 rfl) ?_
  refine j_q (qs_mc) ?_
  refine j_loop (fun m vs S' => ∃ i : Nat, vs = [.int .i64 (i : Int)] ∧ S' = [[]] ∧ i ≤ l.length ∧ (∀ j < i, chkO l j = 0) ∧ m = l.length - i) ⟨_, 0, rfl, rfl, Nat.zero_le _, (fun j hj => absurd hj (Nat.not_lt_zero _)), rfl⟩ ?_
  rintro m vs S' hlen ⟨i, rfl, rfl, hin, hz, rfl⟩
  refine j_q (qs_lss rfl rfl) ?_
  refine j_cond rfl (fun hc1 => ?_) (fun hc1 => ?_)
  ·skip
   have hi : i < l.length := by
    simp only [bnA] at *
    omega
   obtain ⟨rfl, hga, hcells⟩ := hA (by omega)
   obtain ⟨hl1, hl2⟩ := hl _ (getD_mem (d := o0) hi)
   refine j_q (qs_ixn (g := ga) (off := off) (i := i) U26 sz53 rfl rfl (by omega)) ?_
   refine j_q (qs_loadrecw (encA := encO) (rs := l) (d := o0) (i := i) encO_len (rd_cells hcells (by simp)) hi U53 rfl sz53 rfl) ?_
   refine j_alloc zero53 (fun g13 hg13 hs13 => ?_)
   refine j_storew (vs := encO (l.getD i o0)) 0 sz53 rfl rfl (encO_len _) (encO_one _) rfl rfl ?_
   refine j_q (qs_field U53 rfl sz9 (by decide) rfl) ?_
   refine j_q (qs_load 0 U9 rfl rfl rfl rfl) ?_
   refine j_q (qs_call ent38 rfl rfl rfl (fun w' hw' => isName_con _ w' (by omega))) ?_
   refine j_q (qs_not rfl) ?_
   refine j_cond rfl (fun hc2 => ?_) (fun hc2 => ?_)
   ·skip
    have hnm : isName (l.getD i o0).name = false := by simpa using hc2
    refine j_q (qs_ac) ?_
    refine j_ret_con (vs := [_]) (fun w' hw' => ⟨rfl, trivial⟩) ?_
    symm
    show _ = Value.int .i64 9
    congr 1
    exact chkOuts_at hnn hz hi (chkO_name hnm) (by decide)
   ·skip
    have hnm : isName (l.getD i o0).name = true := by simpa using hc2
    refine j_draw ?_
    refine jq_q (qs_gtr rfl rfl) ?_
    refine jq_g rfl (fun hb => qs_field U53 rfl sz9 (by decide) rfl) ?_
    refine jq_g rfl (fun hb => qs_load 0 U9 rfl (gd_eq hb) rfl rfl) ?_
    refine jq_g rfl (fun hb => qs_mt rfl) ?_
    refine jq_g rfl (fun hb => qs_mt rfl) ?_
    refine jq_g rfl (fun hb => qs_sub64 (gd_eq hb) rfl (by omega)) ?_
    refine jq_g rfl (fun hb => qs_ixm (g := ga) (off := off) (i := i - 1) U26 sz53 (gd_eq hb) (gd_eq hb) (by simp only [bnA] at *; omega) (by omega)) ?_
    refine jq_g rfl (fun hb => qs_field U53 rfl sz9 (by decide) (gd_eq hb)) ?_
    refine jq_g rfl (fun hb => qs_loadrec (v := .string (bs (l.getD (i - 1) o0).name)) (encA := encO) (rs := l) (d := o0) (i := i - 1) (fo := 0) encO_len (rd_cells hcells (by simp)) (by omega) U9 rfl (gd_eq hb) rfl) ?_
    refine jq_g rfl (fun hb => qs_sleq (gd_eq hb) (gd_eq hb)) ?_
    refine jq_q (qs_and rfl rfl) ?_
    refine jq_nil ?_
    refine j_cond rfl (fun hc3 => ?_) (fun hc3 => ?_)
    ·skip
     rw [gt0] at hc3
     refine j_cond rfl (fun hc4 => ?_) (fun hc4 => ?_)
     ·skip
      refine j_q (qs_ac) ?_
      refine j_ret_con (vs := [_]) (fun w' hw' => ⟨rfl, trivial⟩) ?_
      symm
      show _ = Value.int .i64 3
      congr 1
      exact chkOuts_at hnn hz hi (chkO_bad hnm (badO_1 hc3)) (by decide)
     ·skip
      rw [gt0, hc3] at hc4
      cases hc4
    ·skip
     rw [gt0] at hc3
     refine j_q (qs_field U53 rfl sz49 (by decide) rfl) ?_
     refine j_q (qs_load 0 U49 rfl rfl rfl rfl) ?_
     refine j_q (qs_sneq rfl rfl) ?_
     refine j_g rfl (fun hb => qs_field U53 rfl sz49 (by decide) rfl) ?_
     refine j_g rfl (fun hb => qs_load 0 U49 rfl (gd_eq hb) rfl rfl) ?_
     refine j_g rfl (fun hb => qs_call ent41 rfl rfl (args1 (gd_eq hb)) (fun w' hw' => disPath_con _ w' (by omega))) ?_
     refine j_g rfl (fun hb => qs_not (gd_eq hb)) ?_
     refine j_q (qs_and rfl rfl) ?_
     refine j_cond rfl (fun hc8 => ?_) (fun hc8 => ?_)
     ·skip
      refine j_q (qs_ac) ?_
      refine j_ret_con (vs := [_]) (fun w' hw' => ⟨rfl, trivial⟩) ?_
      symm
      show _ = Value.int .i64 3
      congr 1
      exact chkOuts_at hnn hz hi (chkO_bad hnm (badO_2 hc8)) (by decide)
     ·skip
      refine j_q (qs_field U53 rfl sz4 (by decide) rfl) ?_
      refine j_q (qs_load 0 U4 rfl rfl rfl rfl) ?_
      refine j_g rfl (fun hb => qs_mt rfl) ?_
      refine j_g rfl (fun hb => qs_lenl U26 (gd_eq hb)) ?_
      refine j_g rfl (fun hb => qs_gtr (gd_eq hb) rfl) ?_
      refine j_g rfl (fun hb => qs_move (gd_eq hb)) ?_
      refine j_gg rfl (fun hb hb1 => qs_field U53 rfl sz9 (by decide) rfl) ?_
      refine j_gg rfl (fun hb hb1 => qs_load 0 U9 rfl (gd_eq2 hb hb1) rfl rfl) ?_
      refine j_gg rfl (fun hb hb1 => qs_sneq (gd_eq2 hb hb1) rfl) ?_
      refine j_g rfl (fun hb => qs_or (gd_eq hb) (gd_eq hb)) ?_
      refine j_q (qs_and rfl rfl) ?_
      refine j_cond rfl (fun hc9 => ?_) (fun hc9 => ?_)
      ·skip
       refine j_cond rfl (fun hc10 => ?_) (fun hc10 => ?_)
       ·skip
        refine j_q (qs_ac) ?_
        refine j_ret_con (vs := [_]) (fun w' hw' => ⟨rfl, trivial⟩) ?_
        symm
        show _ = Value.int .i64 3
        congr 1
        exact chkOuts_at hnn hz hi (chkO_bad hnm (badO_3 hc9)) (by decide)
       ·skip
        rw [hc9] at hc10
        cases hc10
      ·skip
       refine j_q (qs_field U53 rfl sz4 (by decide) rfl) ?_
       refine j_q (qs_load 0 U4 rfl rfl rfl rfl) ?_
       refine j_q (qs_not rfl) ?_
       refine j_g rfl (fun hb => qs_field U53 rfl sz51 (by decide) rfl) ?_
       refine j_g rfl (fun hb => qs_loada (i := 3) (n := 32) (l := encO (l.getD i o0)) 0 U51 rfl sz51 (gd_eq hb) rfl (by rw [encO_len]; omega)) ?_
       rw [show ((encO (l.getD i o0)).drop 3).take 32 = ints (l.getD i o0).hash.1 by show (ints _).take 32 = _; rw [List.take_of_length_le (by rw [ints_length, (l.getD i o0).hash.2]; omega)]]
       refine j_g rfl (fun hb => qs_run (v := .agg (ints (List.replicate 32 0)).toArray) (fun w => by kernel_rfl)) ?_
       refine j_g rfl (fun hb => qs_ane (l := (l.getD i o0).hash.1) (m := List.replicate 32 0) U51 U5 (by kernel_rfl) (by kernel_rfl) (by kernel_rfl) (gd_eq hb) (gd_eq hb) (l.getD i o0).hash.2 (by simp)) ?_
       refine j_q (qs_and rfl rfl) ?_
       refine j_cond rfl (fun hc11 => ?_) (fun hc11 => ?_)
       ·skip
        refine j_q (qs_ac) ?_
        refine j_ret_con (vs := [_]) (fun w' hw' => ⟨rfl, trivial⟩) ?_
        symm
        show _ = Value.int .i64 3
        congr 1
        exact chkOuts_at hnn hz hi (chkO_bad hnm (badO_4 hc11)) (by decide)
       ·skip
        refine j_q (qs_add64 rfl rfl (by omega)) ?_
        refine j_subl (S' := [[]]) (by repeat first | exact slR _ | exact slN _ | apply slC | apply slD) ?_
        refine j_back rfl ?_
        exact ⟨l.length - (i + 1), by omega, i + 1, rfl, rfl, by omega, zero_snoc hz (chkO_ok hnm (badO_0 hc3 hc8 hc9 hc11)), rfl⟩
  ·skip
   obtain rfl : i = l.length := by
    simp only [bnA] at *
    omega
   refine j_q (qs_ac) ?_
   refine j_ret_con (vs := [_]) (fun w' hw' => ⟨rfl, trivial⟩) ?_
   symm
   show _ = Value.int .i64 0
   congr 1
   unfold chkOuts
   rw [if_neg hnn]
   exact firstE_zero hz
theorem inputs_con (l : List MI) (v : Value) (w : World) (hv : RSlN 2 w v (l.map encI).flatten l.length) (hio : ∀ m ∈ l, StrZ w m.v m.outs) (hl : ∀ x ∈ l, x.drv.length ≤ 1000000 ∧ x.outs.length ≤ 1000000 ∧ ∀ o ∈ x.outs, o.length ≤ 9223372036854775807) (hn : l.length ≤ 1000000) : Con Tryz.prog 40 [v] w [] fun u _ => u = .int .i64 (chkIns (l.map MI.pi)) := by
 refine con_of_tree mix Tryz.func40 T40_ok (by kernel_rfl) ?_
 unfold T40
 obtain ⟨A, cap, ga, off, rfl, hcap, hA⟩ := rsln_form hv
 refine j_q (qs_ac) ?_
 refine j_q (qs_lenl U24 rfl) ?_
 refine j_q (qs_mc) ?_
 refine j_loop (fun m vs S' => ∃ i : Nat, vs = [.int .i64 (i : Int)] ∧ S' = [[]] ∧ i ≤ l.length ∧ (∀ j < i, chkI (l.map MI.pi) j = 0) ∧ m = l.length - i) ⟨_, 0, rfl, rfl, Nat.zero_le _, (fun j hj => absurd hj (Nat.not_lt_zero _)), rfl⟩ ?_
 rintro m vs S' hlen ⟨i, rfl, rfl, hin, hz, rfl⟩
 refine j_q (qs_lss rfl rfl) ?_
 refine j_cond rfl (fun hc0 => ?_) (fun hc0 => ?_)
 ·skip
  have hi : i < l.length := by
   simp only [bnA] at *
   omega
  obtain ⟨rfl, hga, hcells⟩ := hA (by omega)
  obtain ⟨hl1, hl2, hl3⟩ := hl _ (getD_mem (d := m0) hi)
  have hsx := hio _ (getD_mem (d := m0) hi)
  obtain ⟨Ax, capx, hvx, hcapx⟩ := strz_form hsx
  have hone := MI.one hsx
  refine j_q (qs_ixn (g := ga) (off := off) (i := i) U24 sz68 rfl rfl (by omega)) ?_
  refine j_q (qs_loadrecw (encA := encI) (rs := l) (d := m0) (i := i) encI_len (rd_cells hcells (by simp)) hi U68 rfl sz68 rfl) ?_
  refine j_alloc zero68 (fun g6 hg6 hs6 => ?_)
  refine j_storew (vs := encI (l.getD i m0)) 0 sz68 rfl rfl (encI_len _) hone rfl rfl ?_
  refine j_draw ?_
  refine jq_q (qs_field U68 rfl sz49 (by decide) rfl) ?_
  refine jq_q (qs_load 0 U49 rfl rfl rfl rfl) ?_
  refine jq_q (qs_call ent78 rfl rfl rfl (fun w' hw' => isDrv_con _ w' (by omega))) ?_
  refine jq_q (qs_not rfl) ?_
  refine jq_g rfl (fun hb => qs_mt rfl) ?_
  refine jq_g rfl (fun hb => qs_gtr (gd_eq hb) rfl) ?_
  refine jq_g rfl (fun hb => qs_move (gd_eq hb)) ?_
  refine jq_gg rfl (fun hb hb1 => qs_field U68 rfl sz49 (by decide) rfl) ?_
  refine jq_gg rfl (fun hb hb1 => qs_load 0 U49 rfl (gd_eq2 hb hb1) rfl rfl) ?_
  refine jq_gg rfl (fun hb hb1 => qs_mt rfl) ?_
  refine jq_gg rfl (fun hb hb1 => qs_mt rfl) ?_
  refine jq_gg rfl (fun hb hb1 => qs_sub64 (gd_eq2 hb hb1) rfl (by omega)) ?_
  refine jq_gg rfl (fun hb hb1 => qs_ixm (g := ga) (off := off) (i := i - 1) U24 sz68 (gd_eq2 hb hb1) (gd_eq2 hb hb1) (by simp only [bnA] at *; omega) (by omega)) ?_
  refine jq_gg rfl (fun hb hb1 => qs_field U68 rfl sz49 (by decide) (gd_eq2 hb hb1)) ?_
  refine jq_gg rfl (fun hb hb1 => qs_loadrec (v := .string (bs (l.getD (i - 1) m0).drv)) (encA := encI) (rs := l) (d := m0) (i := i - 1) (fo := 0) encI_len (rd_cells hcells (by simp)) (by omega) U49 rfl (gd_eq2 hb hb1) rfl) ?_
  refine jq_gg rfl (fun hb hb1 => qs_sleq (gd_eq2 hb hb1) (gd_eq2 hb hb1)) ?_
  refine jq_g rfl (fun hb => qs_and (gd_eq hb) (gd_eq hb)) ?_
  refine jq_q (qs_or rfl rfl) ?_
  refine jq_g rfl (fun hb => qs_field U68 rfl sz22 (by decide) rfl) ?_
  refine jq_g rfl (fun hb => qs_load (v := .slice Ax (l.getD i m0).outs.length capx) 0 U22 rfl (gd_eq hb) rfl (congrArg some hvx)) ?_
  refine jq_g rfl (fun hb => qs_lenl U22 (gd_eq hb)) ?_
  refine jq_g rfl (fun hb => qs_eql (gd_eq hb) rfl) ?_
  refine jq_q (qs_or rfl rfl) ?_
  refine jq_nil ?_
  refine j_cond rfl (fun hc1 => ?_) (fun hc1 => ?_)
  ·skip
   have hbad : badI (l.map MI.pi) i = true := by
    rw [← bi_eq]
    exact hc1
   refine j_q (qs_ac) ?_
   refine j_ret_con (vs := [_]) (fun w' hw' => ⟨rfl, trivial⟩) ?_
   symm
   show _ = Value.int .i64 3
   congr 1
   unfold chkIns
   rw [List.length_map, firstE_at hz hi (by rw [chkI_bad hbad]; decide), chkI_bad hbad]
  ·skip
   have hbad : badI (l.map MI.pi) i = false := by
    rw [← bi_eq]
    exact hc1
   have hci := chkI_in hbad
   rw [getD_pi] at hci
   change chkI (l.map MI.pi) i = firstE (chkN (l.getD i m0).outs) (l.getD i m0).outs.length at hci
   refine j_q (qs_field U68 rfl sz22 (by decide) rfl) ?_
   refine j_q (qs_load (v := .slice Ax (l.getD i m0).outs.length capx) 0 U22 rfl rfl rfl (congrArg some hvx)) ?_
   refine j_q (qs_lenl U22 rfl) ?_
   refine j_q (qs_mc) ?_
   refine j_loop (fun m vs S' => ∃ k : Nat, vs = [.int .i64 (k : Int)] ∧ S' = [[(g6, .cells (encI (l.getD i m0)).toArray 68 (0, 0))], []] ∧ k ≤ (l.getD i m0).outs.length ∧ (∀ j < k, chkN (l.getD i m0).outs j = 0) ∧ m = (l.getD i m0).outs.length - k) ⟨_, 0, rfl, rfl, Nat.zero_le _, (fun j hj => absurd hj (Nat.not_lt_zero _)), rfl⟩ ?_
   rintro m vs S' hlen ⟨k, rfl, rfl, hkn, hzk, rfl⟩
   refine j_q (qs_lss rfl rfl) ?_
   refine j_cond rfl (fun hc2 => ?_) (fun hc2 => ?_)
   ·skip
    have hk : k < (l.getD i m0).outs.length := by
     simp only [bnA] at *
     omega
    obtain ⟨gx, offx, rfl, hgx, hcellx⟩ := strz_addr (hvx ▸ hsx) (by omega)
    have hl4 := hl3 _ (getD_mem (d := []) hk)
    refine j_q (qs_ixl0 U22 sz9 rfl rfl (by omega)) ?_
    refine j_q (qs_loadrs (rd_cells hcellx (by simp)) U9 rfl (by simp only [Int.toNat_natCast]; omega)) ?_
    simp only [Int.toNat_natCast]
    refine j_q (qs_call ent38 rfl rfl rfl (fun w' hw' => isName_con _ w' (by omega))) ?_
    refine j_q (qs_not rfl) ?_
    refine j_cond rfl (fun hc3 => ?_) (fun hc3 => ?_)
    ·skip
     have hnm : isName ((l.getD i m0).outs.getD k []) = false := by simpa using hc3
     refine j_q (qs_ac) ?_
     refine j_ret_con (vs := [_]) (fun w' hw' => ⟨rfl, trivial⟩) ?_
     symm
     show _ = Value.int .i64 9
     congr 1
     have h9 : chkI (l.map MI.pi) i = 9 := by rw [hci, firstE_at hzk hk (by rw [chkN_name hnm]; decide), chkN_name hnm]
     unfold chkIns
     rw [List.length_map, firstE_at hz hi (by rw [h9]; decide), h9]
    ·skip
     have hnm : isName ((l.getD i m0).outs.getD k []) = true := by simpa using hc3
     refine j_q (qs_gtr rfl rfl) ?_
     refine j_g rfl (fun hb => qs_mt rfl) ?_
     refine j_g rfl (fun hb => qs_field U68 rfl sz22 (by decide) rfl) ?_
     refine j_g rfl (fun hb => qs_load (v := .slice (some ⟨gx, offx, none⟩) (l.getD i m0).outs.length capx) 0 U22 rfl (gd_eq hb) rfl (congrArg some hvx)) ?_
     refine j_g rfl (fun hb => qs_mt rfl) ?_
     refine j_g rfl (fun hb => qs_sub64 (gd_eq hb) rfl (by omega)) ?_
     refine j_g rfl (fun hb => qs_ixm (g := gx) (off := offx) (i := k - 1) U22 sz9 (gd_eq hb) (gd_eq hb) (by simp only [bnA] at *; omega) (by omega)) ?_
     refine j_g rfl (fun hb => qs_loadrs (i := k - 1) (rd_cells hcellx (by simp)) U9 ((gd_eq hb).trans (by rw [add_off, Nat.mul_one])) (by omega)) ?_
     refine j_g rfl (fun hb => qs_sleq (gd_eq hb) (gd_eq hb)) ?_
     refine j_q (qs_and rfl rfl) ?_
     refine j_cond rfl (fun hc4 => ?_) (fun hc4 => ?_)
     ·skip
      rw [gt0] at hc4
      have hck := chkN_at hnm hc4
      refine j_q (qs_ac) ?_
      refine j_ret_con (vs := [_]) (fun w' hw' => ⟨rfl, trivial⟩) ?_
      symm
      show _ = Value.int .i64 3
      congr 1
      have h9 : chkI (l.map MI.pi) i = 3 := by rw [hci, firstE_at hzk hk (by rw [hck]; decide), hck]; rfl
      unfold chkIns
      rw [List.length_map, firstE_at hz hi (by rw [h9]; decide), h9]
     ·skip
      rw [gt0] at hc4
      have hck := chkN_at hnm hc4
      refine j_q (qs_add64 rfl rfl (by omega)) ?_
      refine j_back rfl ?_
      exact ⟨(l.getD i m0).outs.length - (k + 1), by omega, k + 1, rfl, rfl, by omega, zero_snoc hzk hck, rfl⟩
   ·skip
    obtain rfl : k = (l.getD i m0).outs.length := by
     simp only [bnA] at *
     omega
    have hc0' : chkI (l.map MI.pi) i = 0 := by rw [hci]; exact firstE_zero hzk
    refine j_q (qs_add64 rfl rfl (by omega)) ?_
    refine j_subl (S' := [[]]) (by repeat first | exact slR _ | exact slN _ | apply slC | apply slD) ?_
    refine j_back rfl ?_
    exact ⟨l.length - (i + 1), by omega, i + 1, rfl, rfl, by omega, zero_snoc hz hc0', rfl⟩
 ·skip
  obtain rfl : i = l.length := by
   simp only [bnA] at *
   omega
  refine j_q (qs_ac) ?_
  refine j_ret_con (vs := [_]) (fun w' hw' => ⟨rfl, trivial⟩) ?_
  symm
  show _ = Value.int .i64 0
  congr 1
  unfold chkIns
  rw [List.length_map]
  exact firstE_zero hz
end Go.Proofs.YtfeabbeebkkhaaaGreat
/-! Dv7 -/
namespace Go.Proofs.YtfeabbeebkkhaaaGreat
open Go Go.Sx
set_option maxRecDepth 100000
set_option maxHeartbeats 4000000
set_option linter.unusedVariables false
set_option linter.unusedSimpArgs false
attribute [local irreducible] J JQ QS Con W opW
theorem chkS_at {l : List Bs} {i : Nat} {b : Bool} (hb : (!isPath (l.getD i []) || (decide ((i : Int) > 0) && (Op.bytesLess (l.getD i []) (l.getD (i - 1) []) || l.getD i [] == l.getD (i - 1) []))) = b) : chkS l i = if b then 3 else 0 := by
 rw [gt0] at hb
 unfold chkS leB
 rw [hb]
theorem chkV_at {l : List PV} {i : Nat} {b : Bool} (hb : ((l.getD i v0).name == [] || (decide ((i : Int) > 0) && (Op.bytesLess (l.getD i v0).name (l.getD (i - 1) v0).name || (l.getD i v0).name == (l.getD (i - 1) v0).name))) = b) : chkV l i = if b then 3 else 0 := by
 rw [gt0] at hb
 unfold chkV leB
 rw [hb]
theorem nm_or {a b : Bool} (h : (!a || !b) = true) : (a && b) = false := by cases a <;> cases b <;> simp_all
theorem nm_and {a b : Bool} (h : (!a || !b) = false) : (a && b) = true := by cases a <;> cases b <;> simp_all
section
variable {d : PD}
theorem chk_1 (h : (isName d.name && isName (d.name ++ sDrv)) = false) : chk d = 9 := by unfold chk chk0 orE; rw [h]; rfl
theorem chk_2 {e : Int} (h : (isName d.name && isName (d.name ++ sDrv)) = true) (h2 : chkOuts d.outs = e) (he : e ≠ 0) : chk d = e := by
 unfold chk chk0
 rw [if_pos h, h2]
 unfold orE
 rw [if_neg he, if_neg he]
theorem chk_3 {e : Int} (h : (isName d.name && isName (d.name ++ sDrv)) = true) (h2 : chkOuts d.outs = 0) (h3 : chkIns d.ins = e) (he : e ≠ 0) : chk d = e := by
 unfold chk chk0
 rw [if_pos h, h2, h3]
 unfold orE
 rw [if_pos rfl, if_neg he, if_neg he]
theorem chk_4 {e : Int} (h : (isName d.name && isName (d.name ++ sDrv)) = true) (h2 : chkOuts d.outs = 0) (h3 : chkIns d.ins = 0) (h4 : firstE (chkS d.srcs) d.srcs.length = e) (he : e ≠ 0) : chk d = e := by
 unfold chk chk0
 rw [if_pos h, h2, h3, h4]
 unfold orE
 rw [if_pos rfl, if_pos rfl, if_neg he, if_neg he]
theorem chk_5 {e : Int} (h : (isName d.name && isName (d.name ++ sDrv)) = true) (h2 : chkOuts d.outs = 0) (h3 : chkIns d.ins = 0) (h4 : firstE (chkS d.srcs) d.srcs.length = 0) (h5 : firstE (chkV d.env) d.env.length = e) (he : e ≠ 0) : chk d = e := by
 unfold chk chk0
 rw [if_pos h, h2, h3, h4, h5]
 unfold orE
 rw [if_pos rfl, if_pos rfl, if_pos rfl, if_neg he]
theorem chk_6 (h : (isName d.name && isName (d.name ++ sDrv)) = true) (h2 : chkOuts d.outs = 0) (h3 : chkIns d.ins = 0) (h4 : firstE (chkS d.srcs) d.srcs.length = 0) (h5 : firstE (chkV d.env) d.env.length = 0) : chk d = if 262144 < (dtext d).length then 5 else 0 := by
 unfold chk chk0
 rw [if_pos h, h2, h3, h4, h5]
 unfold orE
 rw [if_pos rfl, if_pos rfl, if_pos rfl, if_pos rfl]
end
theorem chk_zero {d : PD} (h : chk d = 0) : chk0 d = 0 := by
 unfold chk at h
 exact (orE_zero.1 h).1
theorem tb_chk {d : PD} (h : chk d = 0) (hb : big2 d ≤ 200000) : TB d := tb_of (chk0_parts (chk_zero h)).2.2.2.1 hb
def prS (d : PD) : Bs := if chk d = 0 then dtext d else []
attribute [local irreducible] es qt cms hex Tbl Half lst isName isPath isDrvP leB chkO chkOuts chkN chkI chkIns firstE spA spB spE chkS chkV dtext chk chk0
theorem dcheck_con (d : PD) (x : DV) (w : World) (h : DR w d x) (hb : big2 d ≤ 200000) (hou : ∀ y ∈ d.ins, ∀ o ∈ y.outs, o.length ≤ 9223372036854775807) : Con Tryz.prog 15 [dval d x] w [] fun v _ => v = .int .i64 (chk d) := by
 refine con_of_tree mix Tryz.func15 T15_ok (by kernel_rfl) ?_
 unfold T15
 have few := few_of hb
 have few1 := few.nm
 have few4 := few.la
 have few5 := few.le
 have few6 := few.li
 have few7 := few.lo
 have few8 := few.ls
 have hni : d.ins.length = x.mi.length := by rw [h.im, List.length_map]
 obtain ⟨As, caps, hvs, hcaps⟩ := strz_form h.s
 obtain ⟨Ae, cape, ge, offe, hve, hcape, hAe⟩ := rsln_form h.e
 have hmem : ∀ m ∈ x.mi, m.pi ∈ d.ins := fun m hm => by rw [h.im]; exact List.mem_map_of_mem hm
 refine j_box (l := dcells d x) rfl (fun g0 hg0 hs0 => ?_)
 refine j_q (qs_ac) ?_
 refine j_q (qs_field U28 rfl sz9 (by decide) rfl) ?_
 refine j_q (qs_load 0 U9 rfl rfl rfl rfl) ?_
 refine j_q (qs_call ent38 rfl rfl rfl (fun w' hw' => isName_con d.name w' (by omega))) ?_
 refine j_q (qs_not rfl) ?_
 refine j_g rfl (fun hb => qs_field U28 rfl sz9 (by decide) rfl) ?_
 refine j_g rfl (fun hb => qs_load 0 U9 rfl (gd_eq hb) rfl rfl) ?_
 refine j_g rfl (fun hb1 => qs_sadd (l' := sDrv) (gd_eq hb1) rfl (by simp only [List.length_cons, List.length_nil]; omega)) ?_
 refine j_g rfl (fun hb => qs_call ent38 rfl rfl (args1 (gd_eq hb)) (fun w' hw' => isName_con (d.name ++ sDrv) w' (by simp only [List.length_append, List.length_cons, List.length_nil]; omega))) ?_
 refine j_g rfl (fun hb => qs_not (gd_eq hb)) ?_
 refine j_q (qs_or rfl rfl) ?_
 refine j_cond rfl (fun hc0 => ?_) (fun hc0 => ?_)
 ·skip
  have hn0 := nm_or hc0
  refine j_q (qs_ac) ?_
  refine j_ret_con (vs := [_]) (fun w' hw' => ⟨rfl, trivial⟩) ?_
  symm
  show _ = Value.int .i64 9
  congr 1
  exact chk_1 hn0
 ·skip
  have hn0 := nm_and hc0
  refine j_q (qs_field U28 rfl sz26 (by decide) rfl) ?_
  refine j_q (qs_load 0 U26 rfl rfl rfl rfl) ?_
  refine j_q (qs_call ent39 rfl rfl rfl (fun w' hw' => outputs_con d.outs x.vo w' (rsln_keep h.o hw') (fun y hy => by have := few.ou y hy; omega))) ?_
  refine j_q (qs_neq rfl rfl) ?_
  refine j_cond rfl (fun hc1 => ?_) (fun hc1 => ?_)
  ·skip
   have ho1 : chkOuts d.outs ≠ 0 := by simpa using hc1
   refine j_ret_con (vs := [_]) (fun w' hw' => ⟨rfl, trivial⟩) ?_
   symm
   show _ = Value.int .i64 (chkOuts d.outs)
   congr 1
   exact chk_2 hn0 rfl ho1
  ·skip
   have ho1 : chkOuts d.outs = 0 := by simpa using hc1
   refine j_q (qs_field U28 rfl sz24 (by decide) rfl) ?_
   refine j_q (qs_load 0 U24 rfl rfl rfl rfl) ?_
   refine j_q (qs_call ent40 rfl rfl rfl (fun w' hw' => inputs_con x.mi x.vi w' (rsln_keep h.i hw') (fun m hm => strz_keep (h.io m hm) hw') (fun m hm => ⟨by have := few.ip _ (hmem m hm); simp only [MI.pi] at this; omega, by have := few.ip _ (hmem m hm); simp only [MI.pi] at this; omega, hou _ (hmem m hm)⟩) (by omega))) ?_
   refine j_q (qs_neq rfl rfl) ?_
   refine j_cond rfl (fun hc2 => ?_) (fun hc2 => ?_)
   ·skip
    have hi1 : chkIns d.ins ≠ 0 := by rw [h.im]; simpa using hc2
    refine j_ret_con (vs := [_]) (fun w' hw' => ⟨rfl, trivial⟩) ?_
    symm
    show _ = Value.int .i64 (chkIns (x.mi.map MI.pi))
    congr 1
    rw [← h.im]
    exact chk_3 hn0 ho1 rfl hi1
   ·skip
    have hi1 : chkIns d.ins = 0 := by rw [h.im]; simpa using hc2
    refine j_q (qs_field U28 rfl sz25 (by decide) rfl) ?_
    refine j_q (qs_load (l := dcells d x) (v := .slice As d.srcs.length caps) 0 U25 rfl rfl rfl (congrArg some hvs)) ?_
    refine j_q (qs_lenl U25 rfl) ?_
    refine j_q (qs_mc) ?_
    refine j_loop (fun m vs S' => ∃ i : Nat, vs = [.int .i64 (i : Int)] ∧ S' = [[(g0, .cells (dcells d x).toArray 28 (0, 0))], []] ∧ i ≤ d.srcs.length ∧ (∀ j < i, chkS d.srcs j = 0) ∧ m = d.srcs.length - i) ⟨_, 0, rfl, rfl, Nat.zero_le _, (fun j hj => absurd hj (Nat.not_lt_zero _)), rfl⟩ ?_
    rintro m vs S' hlen ⟨i, rfl, rfl, hin, hz, rfl⟩
    refine j_q (qs_lss rfl rfl) ?_
    refine j_cond rfl (fun hc3 => ?_) (fun hc3 => ?_)
    ·skip
     have hi : i < d.srcs.length := by
      simp only [bnA] at *
      omega
     obtain ⟨gs, offs, rfl, hgs, hcells⟩ := strz_addr (hvs ▸ h.s) (by omega)
     have hsl := few.sr _ (getD_mem (d := []) hi)
     refine j_q (qs_ixl0 U25 sz49 rfl rfl (by omega)) ?_
     refine j_q (qs_loadrs (rd_cells hcells (by simp)) U49 rfl (by simp only [Int.toNat_natCast]; omega)) ?_
     simp only [Int.toNat_natCast]
     refine j_q (qs_call ent41 rfl rfl rfl (fun w' hw' => disPath_con _ w' (by omega))) ?_
     refine j_q (qs_not rfl) ?_
     refine j_g rfl (fun hb => qs_mt rfl) ?_
     refine j_g rfl (fun hb => qs_gtr (gd_eq hb) rfl) ?_
     refine j_g rfl (fun hb => qs_move (gd_eq hb)) ?_
     refine j_gg rfl (fun hb hb1 => qs_mt rfl) ?_
     refine j_gg rfl (fun hb hb1 => qs_field U28 rfl sz25 (by decide) rfl) ?_
     refine j_gg rfl (fun hb1 hb2 => qs_load (l := dcells d x) (v := .slice (some ⟨gs, offs, none⟩) d.srcs.length caps) 0 U25 rfl (gd_eq2 hb1 hb2) rfl (congrArg some hvs)) ?_
     refine j_gg rfl (fun hb hb1 => qs_mt rfl) ?_
     refine j_gg rfl (fun hb hb1 => qs_sub64 (gd_eq2 hb hb1) rfl (by omega)) ?_
     refine j_gg rfl (fun hb1 hb2 => qs_ixm (g := gs) (off := offs) (i := i - 1) U25 sz49 (gd_eq2 hb1 hb2) (gd_eq2 hb1 hb2) (by simp only [bnA] at *; omega) (by omega)) ?_
     refine j_gg rfl (fun hb1 hb2 => qs_loadrs (i := i - 1) (rd_cells hcells (by simp)) U49 ((gd_eq2 hb1 hb2).trans (by rw [add_off, Nat.mul_one])) (by omega)) ?_
     refine j_gg rfl (fun hb hb1 => qs_sleq (gd_eq2 hb hb1) (gd_eq2 hb hb1)) ?_
     refine j_g rfl (fun hb => qs_and (gd_eq hb) (gd_eq hb)) ?_
     refine j_q (qs_or rfl rfl) ?_
     refine j_cond rfl (fun hc4 => ?_) (fun hc4 => ?_)
     ·skip
      have hcs := chkS_at hc4
      refine j_q (qs_ac) ?_
      refine j_ret_con (vs := [_]) (fun w' hw' => ⟨rfl, trivial⟩) ?_
      symm
      show _ = Value.int .i64 3
      congr 1
      exact chk_4 hn0 ho1 hi1 (by rw [firstE_at hz hi (by rw [hcs]; decide), hcs]; rfl) (by decide)
     ·skip
      have hcs := chkS_at hc4
      refine j_q (qs_add64 rfl rfl (by omega)) ?_
      refine j_back rfl ?_
      exact ⟨d.srcs.length - (i + 1), by omega, i + 1, rfl, rfl, by omega, zero_snoc hz hcs, rfl⟩
    ·skip
     obtain rfl : i = d.srcs.length := by
      simp only [bnA] at *
      omega
     have hS0 := firstE_zero hz
     refine j_q (qs_field U28 rfl sz23 (by decide) rfl) ?_
     refine j_q (qs_load (l := dcells d x) (v := .slice Ae d.env.length cape) 0 U23 rfl rfl rfl (congrArg some hve)) ?_
     refine j_q (qs_lenl U23 rfl) ?_
     refine j_q (qs_mc) ?_
     refine j_loop (fun m vs S' => ∃ i : Nat, vs = [.int .i64 (i : Int)] ∧ S' = [[(g0, .cells (dcells d x).toArray 28 (0, 0))], []] ∧ i ≤ d.env.length ∧ (∀ j < i, chkV d.env j = 0) ∧ m = d.env.length - i) ⟨_, 0, rfl, rfl, Nat.zero_le _, (fun j hj => absurd hj (Nat.not_lt_zero _)), rfl⟩ ?_
     rintro m vs S' hlen ⟨i, rfl, rfl, hin, hz, rfl⟩
     refine j_q (qs_lss rfl rfl) ?_
     refine j_cond rfl (fun hc5 => ?_) (fun hc5 => ?_)
     ·skip
      have hi : i < d.env.length := by
       simp only [bnA] at *
       omega
      obtain ⟨rfl, hge, hcells⟩ := hAe (by omega)
      have hsl := few.ev _ (getD_mem (d := v0) hi)
      refine j_q (qs_ixn (g := ge) (off := offe) (i := i) U23 sz48 rfl rfl (by omega)) ?_
      refine j_q (qs_loadrecw (encA := encV) (rs := d.env) (d := v0) (i := i) encV_len (rd_cells hcells (by simp)) hi U48 rfl sz48 rfl) ?_
      refine j_alloc zero48 (fun g52 hg52 hs52 => ?_)
      refine j_storew (vs := encV (d.env.getD i v0)) 0 sz48 rfl rfl (encV_len _) (encV_one _) rfl rfl ?_
      refine j_draw ?_
      refine jq_q (qs_field U48 rfl sz9 (by decide) rfl) ?_
      refine jq_q (qs_load 0 U9 rfl rfl rfl rfl) ?_
      refine jq_q (qs_seql (l' := []) rfl rfl) ?_
      refine jq_g rfl (fun hb => qs_mt rfl) ?_
      refine jq_g rfl (fun hb => qs_gtr (gd_eq hb) rfl) ?_
      refine jq_g rfl (fun hb => qs_move (gd_eq hb)) ?_
      refine jq_gg rfl (fun hb hb1 => qs_field U48 rfl sz9 (by decide) rfl) ?_
      refine jq_gg rfl (fun hb hb1 => qs_load 0 U9 rfl (gd_eq2 hb hb1) rfl rfl) ?_
      refine jq_gg rfl (fun hb hb1 => qs_field U28 rfl sz23 (by decide) rfl) ?_
      refine jq_gg rfl (fun hb1 hb2 => qs_load (l := dcells d x) (v := .slice (some ⟨ge, offe, none⟩) d.env.length cape) 1 U23 rfl (gd_eq2 hb1 hb2) rfl (congrArg some hve)) ?_
      refine jq_gg rfl (fun hb hb1 => qs_mt rfl) ?_
      refine jq_gg rfl (fun hb hb1 => qs_sub64 (gd_eq2 hb hb1) rfl (by omega)) ?_
      refine jq_gg rfl (fun hb1 hb2 => qs_ixm (g := ge) (off := offe) (i := i - 1) U23 sz48 (gd_eq2 hb1 hb2) (gd_eq2 hb1 hb2) (by simp only [bnA] at *; omega) (by omega)) ?_
      refine jq_gg rfl (fun hb hb1 => qs_field U48 rfl sz9 (by decide) (gd_eq2 hb hb1)) ?_
      refine jq_gg rfl (fun hb1 hb2 => qs_loadrec (v := .string (bs (d.env.getD (i - 1) v0).name)) (encA := encV) (rs := d.env) (d := v0) (i := i - 1) (fo := 0) encV_len (rd_cells hcells (by simp)) (by omega) U9 rfl (gd_eq2 hb1 hb2) rfl) ?_
      refine jq_gg rfl (fun hb hb1 => qs_sleq (gd_eq2 hb hb1) (gd_eq2 hb hb1)) ?_
      refine jq_g rfl (fun hb => qs_and (gd_eq hb) (gd_eq hb)) ?_
      refine jq_q (qs_or rfl rfl) ?_
      refine jq_nil ?_
      refine j_cond rfl (fun hc6 => ?_) (fun hc6 => ?_)
      ·skip
       have hcs := chkV_at hc6
       refine j_q (qs_ac) ?_
       refine j_ret_con (vs := [_]) (fun w' hw' => ⟨rfl, trivial⟩) ?_
       symm
       show _ = Value.int .i64 3
       congr 1
       exact chk_5 hn0 ho1 hi1 hS0 (by rw [firstE_at hz hi (by rw [hcs]; decide), hcs]; rfl) (by decide)
      ·skip
       have hcs := chkV_at hc6
       refine j_q (qs_add64 rfl rfl (by omega)) ?_
       refine j_subl (S' := [[(g0, .cells (dcells d x).toArray 28 (0, 0))], []]) (by repeat first | exact slR _ | exact slN _ | apply slC | apply slD) ?_
       refine j_back rfl ?_
       exact ⟨d.env.length - (i + 1), by omega, i + 1, rfl, rfl, by omega, zero_snoc hz hcs, rfl⟩
     ·skip
      obtain rfl : i = d.env.length := by
       simp only [bnA] at *
       omega
      have hV0 := firstE_zero hz
      have hchk := chk_6 hn0 ho1 hi1 hS0 hV0
      have tb : TB d := tb_of hi1 hb
      refine j_q (qs_loadw (l := dcells d x) 0 U28 rfl sz28 rfl rfl rfl) ?_
      refine j_q (qs_call ent36 rfl rfl rfl (fun w' hw' => dtext_con d x w' (h.keep hw') tb)) ?_
      refine j_q (qs_lens U9 rfl) ?_
      refine j_q (qs_gtr rfl rfl) ?_
      refine j_cond rfl (fun hc7 => ?_) (fun hc7 => ?_)
      ·skip
       refine j_q (qs_ac) ?_
       refine j_ret_con (vs := [_]) (fun w' hw' => ⟨rfl, trivial⟩) ?_
       symm
       show _ = Value.int .i64 5
       congr 1
       rw [hchk, if_pos (by simp only [bnA] at *; omega)]
      ·skip
       refine j_q (qs_ac) ?_
       refine j_ret_con (vs := [_]) (fun w' hw' => ⟨rfl, trivial⟩) ?_
       symm
       show _ = Value.int .i64 0
       congr 1
       rw [hchk, if_neg (by simp only [bnA] at *; omega)]
theorem dprint_con (d : PD) (x : DV) (w : World) (h : DR w d x) (hb : big2 d ≤ 200000) (hou : ∀ y ∈ d.ins, ∀ o ∈ y.outs, o.length ≤ 9223372036854775807) : Con Tryz.prog 13 [dval d x] w [] fun v _ => v = .tuple #[.string (bs (prS d)), .int .i64 (chk d)] := by
 refine con_of_tree mix Tryz.func13 T13_ok (by kernel_rfl) ?_
 unfold T13
 refine j_box (l := dcells d x) rfl (fun g0 hg0 hs0 => ?_)
 refine j_q (qs_ac) ?_
 refine j_q (qs_ac) ?_
 refine j_q (qs_loadw (l := dcells d x) 0 U28 rfl sz28 rfl rfl rfl) ?_
 refine j_q (qs_call ent15 rfl rfl rfl (fun w' hw' => dcheck_con d x w' (h.keep hw') hb hou)) ?_
 refine j_q (qs_neq rfl rfl) ?_
 refine j_cond rfl (fun hc0 => ?_) (fun hc0 => ?_)
 ·skip
  have hck : chk d ≠ 0 := by simpa using hc0
  refine j_q (qs_ac) ?_
  refine j_ret_con (vs := [_, _]) (fun w' hw' => ⟨rfl, rfl, trivial⟩) ?_
  show Value.tuple #[_, _] = _
  unfold prS
  rw [if_neg hck]
  rfl
 ·skip
  have hck : chk d = 0 := by simpa using hc0
  refine j_q (qs_loadw (l := dcells d x) 0 U28 rfl sz28 rfl rfl rfl) ?_
  refine j_q (qs_call ent36 rfl rfl rfl (fun w' hw' => dtext_con d x w' (h.keep hw') (tb_chk hck hb))) ?_
  refine j_q (qs_ac) ?_
  refine j_ret_con (vs := [_, _]) (fun w' hw' => ⟨rfl, rfl, trivial⟩) ?_
  show Value.tuple #[_, _] = _
  unfold prS
  rw [if_pos hck, hck]
  rfl
end Go.Proofs.YtfeabbeebkkhaaaGreat
/-! Sx23 -/
namespace Go.Sx
open Go
set_option linter.unusedVariables false
variable {P : Program} {R : Ending → World → Prop} {env : Env} {b : Base} {S : List SH} {B : JB} {T : Tree} {v : Value} {ty : TypeId}
theorem j_lit0 {t e : TypeId} {sz : Nat} (ht : P.underlying t = some (.slice e)) (hz : (P.info? e).map (·.size) = some sz)
  (h : ∀ g, b.w0.heap.size ≤ g → Own e sz [] (.slice (some ⟨g, 0, none⟩) 0 0) [(g, .cells [].toArray e (0, 0))] → J P R T (.slice (some ⟨g, 0, none⟩) 0 0 :: env) ([(g, .cells [].toArray e (0, 0))] :: S) b B) : J P R (.op (O (.buildSlice t 0 #[]) ty) T) env S b B := fun w hw => by
 have hrun : (execOp (ev env) (O (.buildSlice t 0 #[]) ty)).run P w = .ok (.value (.slice (some ⟨w.heap.size, 0, none⟩) 0 0)) (w.alloc (.cells [].toArray e)) := by
  have hgt : ¬ (0 * sz > 2 ^ 24) := by omega
  have hn0 : 0 * sz = 0 := Nat.zero_mul _
  simp only [O, execOp, Instr.buildSlice, Sem.run_bind, run_underlying_ok ht, Result.andThen_ok, run_sizeOf_ok hz, if_neg hgt, if_pos hn0, Sem.run_pure]
  have e1 : (Array.map (fun p : Nat × Operand => (p.1, ev env p.2)) #[]).toList = [] := by simp
  rw [e1]
  simp only [Nat.zero_mul, Instr.fill]
  have e2 : ∀ f : Nat → Value, Array.map f (Array.range 0) = #[] := fun f => by simp
  rw [e2]
  rfl
 show opW _ _ _ _ _ _
 unfold opW
 rw [hrun]
 obtain ⟨h1, h2, h3⟩ := hw.new (o := .cells [].toArray e) (w' := w.alloc (.cells [].toArray e)) rfl rfl rfl rfl
 exact h w.heap.size h3 (.inr ⟨w.heap.size, 0, 0, [], (0, 0), rfl, rfl, by simp, by simp, Nat.le_refl _, fun _ _ h => by omega⟩) _ h1
theorem src_rsln {w : World} {A : Option Addr} {n sz cap : Nat} {vs : List Value} (h : RSlN sz w (.slice A n cap) vs n) : Src ⟨w, dom []⟩ S sz (.slice A n cap) n vs := by
 obtain ⟨hl, ⟨hv, rfl⟩ | ⟨g, off, cap', hv, h1, h2, h3⟩⟩ := h
 ·injection hv with hA hn hc
  subst hA hc
  exact .inr (.inl ⟨0, rfl, rfl, List.eq_nil_of_length_eq_zero (by omega)⟩)
 ·injection hv with hA hn hc
  subst hA hc
  exact .inl ⟨_, _, rfl, rd_cells (b := ⟨w, dom []⟩) h3 (by simp), hl⟩
theorem rsln_ownw {w : World} {e : TypeId} {sz len : Nat} {xs : List Value} {v : Value} {c : SH} (ho : Own e sz xs v c) (h0 : 0 < sz) (hl : xs.length = len * sz) (h : ∀ p ∈ c, w.heap[p.1]? = some p.2) : RSlN sz w v xs len := by
 rcases ho with ⟨rfl, rfl, rfl⟩ | ⟨g, n, cap, rest, fz, rfl, rfl, h1, h2, h3, h4⟩
 ·refine ⟨hl, .inl ⟨rfl, ?_⟩⟩
  rcases Nat.eq_zero_or_pos len with h | h
  ·exact h
  ·have := Nat.mul_pos h h0
   simp at hl
   omega
 ·obtain rfl : n = len := Nat.eq_of_mul_eq_mul_right h0 (h1.symm.trans hl)
  have hg := h (g, _) (List.mem_singleton.2 rfl)
  exact ⟨hl, .inr ⟨g, 0, cap, rfl, lt_of_get hg, h3, fun j u hu => by
   rw [add_off, Nat.zero_add, cell_of hg, List.getElem?_append_left (List.getElem?_eq_some_iff.1 hu).1]
   exact hu⟩⟩
end Go.Sx
/-! Dv11 -/
namespace Go.Proofs.YtfeabbeebkkhaaaGreat
open Go Go.Sx
set_option maxRecDepth 100000
set_option maxHeartbeats 4000000
set_option linter.unusedVariables false
set_option linter.unusedSimpArgs false
attribute [local irreducible] J JQ QS Con W opW
theorem sum_step {α : Type} (f : α → Nat) {l : List α} {i : Nat} {d : α} (h : i < l.length) : ((l.take (i + 1)).map f).sum = ((l.take i).map f).sum + f (l.getD i d) := by
 rw [List.take_succ_eq_append_getElem h, List.map_append, List.sum_append, List.getD_eq_getElem?_getD, List.getElem?_eq_getElem h]
 simp
theorem sum_take_le {α : Type} (f : α → Nat) {l : List α} {k : Nat} (h : ∀ x ∈ l, f x ≤ k) (n : Nat) (hn : l.length ≤ n) : ∀ i, ((l.take i).map f).sum ≤ n * k := fun i => by
 have h1 : ∀ l : List α, (∀ x ∈ l, f x ≤ k) → (l.map f).sum ≤ l.length * k := fun l hl => by
  induction l with
  | nil => simp
  | cons a l ih =>
   have ha := hl a (by simp)
   have := ih fun x hx => hl x (by simp [hx])
   simp only [List.map_cons, List.sum_cons, List.length_cons, Nat.add_mul, Nat.one_mul]
   omega
 refine Nat.le_trans (h1 _ fun x hx => h x (List.mem_of_mem_take hx)) (Nat.mul_le_mul_right k ?_)
 rw [List.length_take]
 omega
structure Szd (d : PD) : Prop where
 nm : d.name.length ≤ 140737488355328
 sy : d.sys.length ≤ 140737488355328
 bl : d.bld.length ≤ 140737488355328
 ar : ∀ x ∈ d.args, x.length ≤ 140737488355328
 ev : ∀ x ∈ d.env, x.name.length ≤ 140737488355328 ∧ x.val.length ≤ 140737488355328
 ip : ∀ x ∈ d.ins, x.drv.length ≤ 140737488355328 ∧ x.outs.length ≤ 140737488355328 ∧ ∀ o ∈ x.outs, o.length ≤ 140737488355328
 ou : ∀ x ∈ d.outs, x.name.length ≤ 140737488355328 ∧ x.path.length ≤ 140737488355328
 sr : ∀ x ∈ d.srcs, x.length ≤ 140737488355328
 la : d.args.length ≤ 140737488355328
 le : d.env.length ≤ 140737488355328
 li : d.ins.length ≤ 140737488355328
 lo : d.outs.length ≤ 140737488355328
 ls : d.srcs.length ≤ 140737488355328
theorem vni {v : Value} {a a' b b' : Int} (h1 : a = a') (h2 : b = b') : [Value.int .i64 a, Value.int .i64 b] = [Value.int .i64 a', Value.int .i64 b'] := by rw [h1, h2]
theorem flat_one {α : Type} {enc : α → List Value} {l : List α} (h : ∀ x ∈ l, ∀ u ∈ enc x, oneV u = true) : ∀ u ∈ (l.map enc).flatten, oneV u = true := fun u hu => by
 obtain ⟨c, hc, huc⟩ := List.mem_flatten.1 hu
 obtain ⟨x, hx, rfl⟩ := List.mem_map.1 hc
 exact h x hx u huc
def Mine (mi : List MI) (F : SH) : Prop := ∀ m ∈ mi, ∃ c, Sx.Own 9 1 (strs m.outs) m.v c ∧ ∀ p ∈ c, p ∈ F
theorem mine_nil : Mine [] [] := fun m hm => by cases hm
theorem mine_snoc {mi : List MI} {F c : SH} {m : MI} (h : Mine mi F) (ho : Sx.Own 9 1 (strs m.outs) m.v c) : Mine (mi ++ [m]) (c ++ F) := fun y hy => by
 rcases List.mem_append.1 hy with hy | hy
 ·obtain ⟨c', h1, h2⟩ := h y hy
  exact ⟨c', h1, fun p hp => List.mem_append_right _ (h2 p hp)⟩
 ·rw [List.mem_singleton] at hy
  subst hy
  exact ⟨c, ho, fun p hp => List.mem_append_left _ hp⟩
theorem strs_one (l : List Bs) : ∀ u ∈ strs l, oneV u = true := fun u hu => by
 obtain ⟨x, _, rfl⟩ := List.mem_map.1 hu
 rfl
theorem ins_take {x : List MI} {mi : List MI} {i : Nat} (h : mi.map MI.pi = (x.take i).map MI.pi) (hi : i < x.length) (v : Value) : (mi ++ [MI.mk (x.getD i m0).drv (x.getD i m0).outs v]).map MI.pi = (x.take (i + 1)).map MI.pi := by
 rw [List.map_append, h, List.take_succ_eq_append_getElem hi, List.map_append]
 congr 1
 rw [List.getD_eq_getElem?_getD, List.getElem?_eq_getElem hi]
 rfl
attribute [local irreducible] es qt cms hex Tbl Half lst isName isPath isDrvP leB chkO chkOuts chkN chkI chkIns firstE spA spB spE chkS chkV dtext chk chk0 tTs
theorem heavy_con (d : PD) (x : DV) (w : World) (h : DR w d x) (sz : Szd d) : Con Tryz.prog 11 [dval d x] w [] fun v _ => v = .bool (heavyP d) := by
 refine con_of_tree mix Tryz.func11 T11_ok (by kernel_rfl) ?_
 unfold T11
 have hni : d.ins.length = x.mi.length := by rw [h.im, List.length_map]
 obtain ⟨Ao, capo, go, offo, hvo, hcapo, hAo⟩ := rsln_form h.o
 obtain ⟨Ai, capi, gi, offi, hvi, hcapi, hAi⟩ := rsln_form h.i
 obtain ⟨Ae, cape, ge, offe, hve, hcape, hAe⟩ := rsln_form h.e
 obtain ⟨As, caps, hvs, hcaps⟩ := strz_form h.s
 obtain ⟨Aa, capa, hva, hcapa⟩ := strz_form h.a
 have hmem : ∀ m ∈ x.mi, m.pi ∈ d.ins := fun m hm => by rw [h.im]; exact List.mem_map_of_mem hm
 obtain ⟨z1, z2, z3, z4, z5, z6, z7, z8, z9, z10, z11, z12, z13⟩ := id sz
 refine j_box (l := dcells d x) rfl (fun g0 hg0 hs0 => ?_)
 refine j_q (qs_ac) ?_
 refine j_q (qs_field U28 rfl sz9 (by decide) rfl) ?_
 refine j_q (qs_load 0 U9 rfl rfl rfl rfl) ?_
 refine j_q (qs_lens U9 rfl) ?_
 refine j_q (qs_field U28 rfl sz9 (by decide) rfl) ?_
 refine j_q (qs_load 0 U9 rfl rfl rfl rfl) ?_
 refine j_q (qs_lens U9 rfl) ?_
 refine j_q (qs_add64 rfl rfl (by omega)) ?_
 refine j_q (qs_field U28 rfl sz9 (by decide) rfl) ?_
 refine j_q (qs_load 0 U9 rfl rfl rfl rfl) ?_
 refine j_q (qs_lens U9 rfl) ?_
 refine j_q (qs_add64 rfl rfl (by omega)) ?_
 refine j_q (qs_field U28 rfl sz26 (by decide) rfl) ?_
 refine j_q (qs_load (l := dcells d x) 0 U26 rfl rfl rfl (congrArg some hvo)) ?_
 refine j_q (qs_lenl U26 rfl) ?_
 refine j_q (qs_field U28 rfl sz24 (by decide) rfl) ?_
 refine j_q (qs_load (l := dcells d x) 0 U24 rfl rfl rfl (congrArg some hvi)) ?_
 refine j_q (qs_lenl U24 rfl) ?_
 refine j_q (qs_add64 rfl rfl (by omega)) ?_
 refine j_q (qs_field U28 rfl sz25 (by decide) rfl) ?_
 refine j_q (qs_load (l := dcells d x) 0 U25 rfl rfl rfl (congrArg some hvs)) ?_
 refine j_q (qs_lenl U25 rfl) ?_
 refine j_q (qs_add64 rfl rfl (by omega)) ?_
 refine j_q (qs_field U28 rfl sz23 (by decide) rfl) ?_
 refine j_q (qs_load (l := dcells d x) 0 U23 rfl rfl rfl (congrArg some hve)) ?_
 refine j_q (qs_lenl U23 rfl) ?_
 refine j_q (qs_add64 rfl rfl (by omega)) ?_
 refine j_q (qs_field U28 rfl sz22 (by decide) rfl) ?_
 refine j_q (qs_load (l := dcells d x) 0 U22 rfl rfl rfl (congrArg some hva)) ?_
 refine j_q (qs_lenl U22 rfl) ?_
 refine j_q (qs_add64 rfl rfl (by omega)) ?_
 refine j_q (qs_mul64 rfl rfl (by omega)) ?_
 refine j_q (qs_add64 rfl rfl (by omega)) ?_
 have hb1 : (big1 d : Int) = ((d.name.length : Int) + d.sys.length + d.bld.length + 10 * ((d.outs.length : Int) + x.mi.length + d.srcs.length + d.env.length + d.args.length)) := by
  unfold big1
  push_cast
  omega
 refine j_q (qs_gtr rfl rfl) ?_
 refine j_cond rfl (fun hc0 => ?_) (fun hc0 => ?_)
 ·skip
  have hbig : 4000 < big1 d := by simp only [bnA] at *; omega
  refine j_q (qs_ac) ?_
  refine j_ret_con (vs := [_]) (fun w' hw' => ⟨rfl, trivial⟩) ?_
  show Value.bool true = _
  congr 1
  symm
  unfold heavyP
  simp only [Bool.or_eq_true, decide_eq_true_eq]
  exact .inl hbig
 ·skip
  have hbig : ¬ 4000 < big1 d := by simp only [bnA] at *; omega
  have hb2 := hbig
  unfold big1 at hb2
  have t1 := sum_take_le (fun v : PV => v.name.length + v.val.length) (l := d.env) (k := 281474976710656) (fun y hy => by have := sz.ev y hy; omega) 400 (by omega)
  have t2 := sum_take_le List.length (l := d.args) (k := 281474976710656) (fun y hy => by have := sz.ar y hy; omega) 400 (by omega)
  have t3 := sum_take_le (fun y : MI => y.drv.length + 10 * y.outs.length) (l := x.mi) (k := 2814749767106560) (fun y hy => by have := sz.ip _ (hmem y hy); simp only [MI.pi] at this; omega) 400 (by omega)
  have t4 := sum_take_le (fun o : PO => o.name.length + o.path.length) (l := d.outs) (k := 281474976710656) (fun y hy => by have := sz.ou y hy; omega) 400 (by omega)
  have t5 := sum_take_le List.length (l := d.srcs) (k := 281474976710656) (fun y hy => by have := sz.sr y hy; omega) 400 (by omega)
  have f1 := t1 d.env.length
  have f2 := t2 d.args.length
  have f3 := t3 x.mi.length
  have f4 := t4 d.outs.length
  rw [List.take_length] at f1 f2 f3 f4
  refine j_q (qs_ac) ?_
  refine j_loop (fun m vs S' => ∃ i : Nat, vs = [.int .i64 ((big1 d + ((d.env.take i).map fun v => v.name.length + v.val.length).sum : Nat) : Int), .int .i64 (i : Int)] ∧ S' = [[(g0, .cells (dcells d x).toArray 28 (0, 0))], []] ∧ i ≤ d.env.length ∧ m = d.env.length - i) ⟨_, 0, by simp only [List.take_zero, List.map_nil, List.sum_nil, Nat.add_zero]; exact vni (v := .nilIface) hb1.symm rfl, rfl, Nat.zero_le _, rfl⟩ ?_
  rintro m vs S' hlen ⟨i, rfl, rfl, hin, rfl⟩
  refine j_q (qs_field U28 rfl sz23 (by decide) rfl) ?_
  refine j_q (qs_load (l := dcells d x) 0 U23 rfl rfl rfl (congrArg some hve)) ?_
  refine j_q (qs_lenl U23 rfl) ?_
  refine j_q (qs_lss rfl rfl) ?_
  refine j_cond rfl (fun hc1 => ?_) (fun hc1 => ?_)
  ·skip
   have hi : i < d.env.length := by
    simp only [bnA] at *
    omega
   obtain ⟨rfl, hge, hcells⟩ := hAe (by omega)
   have hsl := sz.ev _ (getD_mem (d := v0) hi)
   have hst := sum_step (fun v : PV => v.name.length + v.val.length) (d := v0) hi
   have hti := t1 i
   refine j_draw ?_
   refine jq_q (qs_field U28 rfl sz23 (by decide) rfl) ?_
   refine jq_q (qs_load (l := dcells d x) 0 U23 rfl rfl rfl (congrArg some hve)) ?_
   refine jq_q (qs_ixn (g := ge) (off := offe) (i := i) U23 sz48 rfl rfl (by omega)) ?_
   refine jq_q (qs_field U48 rfl sz9 (by decide) rfl) ?_
   refine jq_q (qs_loadrec (v := .string (bs (d.env.getD i v0).name)) (encA := encV) (rs := d.env) (d := v0) (i := i) (fo := 0) encV_len (rd_cells hcells (by simp)) hi U9 rfl rfl rfl) ?_
   refine jq_q (qs_lens U9 rfl) ?_
   refine jq_q (qs_add64 rfl rfl (by omega)) ?_
   refine jq_q (qs_field U28 rfl sz23 (by decide) rfl) ?_
   refine jq_q (qs_load (l := dcells d x) 0 U23 rfl rfl rfl (congrArg some hve)) ?_
   refine jq_q (qs_ixn (g := ge) (off := offe) (i := i) U23 sz48 rfl rfl (by omega)) ?_
   refine jq_q (qs_field U48 rfl sz9 (by decide) rfl) ?_
   refine jq_q (qs_loadrec (v := .string (bs (d.env.getD i v0).val)) (encA := encV) (rs := d.env) (d := v0) (i := i) (fo := 1) encV_len (rd_cells hcells (by simp)) hi U9 rfl rfl rfl) ?_
   refine jq_q (qs_lens U9 rfl) ?_
   refine jq_q (qs_add64 rfl rfl (by omega)) ?_
   refine jq_nil ?_
   refine j_q (qs_add64 rfl rfl (by omega)) ?_
   refine j_back rfl ?_
   exact ⟨d.env.length - (i + 1), by omega, i + 1, vni (v := .nilIface) (by rw [hst]; push_cast; omega) (by omega), rfl, by omega, rfl⟩
  ·skip
   obtain rfl : i = d.env.length := by
    simp only [bnA] at *
    omega
   rw [List.take_length]
   refine j_q (qs_ac) ?_
   refine j_loop (fun m vs S' => ∃ i : Nat, vs = [.int .i64 ((big1 d + (d.env.map fun v => v.name.length + v.val.length).sum + ((d.args.take i).map List.length).sum : Nat) : Int), .int .i64 (i : Int)] ∧ S' = [[(g0, .cells (dcells d x).toArray 28 (0, 0))], []] ∧ i ≤ d.args.length ∧ m = d.args.length - i) ⟨_, 0, by simp only [List.take_zero, List.map_nil, List.sum_nil, Nat.add_zero]; rfl, rfl, Nat.zero_le _, rfl⟩ ?_
   rintro m vs S' hlen ⟨i, rfl, rfl, hin, rfl⟩
   refine j_q (qs_field U28 rfl sz22 (by decide) rfl) ?_
   refine j_q (qs_load (l := dcells d x) 0 U22 rfl rfl rfl (congrArg some hva)) ?_
   refine j_q (qs_lenl U22 rfl) ?_
   refine j_q (qs_lss rfl rfl) ?_
   refine j_cond rfl (fun hc2 => ?_) (fun hc2 => ?_)
   ·skip
    have hi : i < d.args.length := by
     simp only [bnA] at *
     omega
    obtain ⟨ga, offa, rfl, hga, hcells⟩ := strz_addr (hva ▸ h.a) (by omega)
    have hsl := sz.ar _ (getD_mem (d := []) hi)
    have hst := sum_step List.length (l := d.args) (d := []) hi
    have hti := t2 i
    refine j_q (qs_field U28 rfl sz22 (by decide) rfl) ?_
    refine j_q (qs_load (l := dcells d x) 0 U22 rfl rfl rfl (congrArg some hva)) ?_
    refine j_q (qs_ixn (g := ga) (off := offa) (i := i) U22 sz9 rfl rfl (by omega)) ?_
    refine j_q (qs_loadrs (i := i) (rd_cells hcells (by simp)) U9 (by rw [add_off, Nat.mul_one]; rfl) (by omega)) ?_
    refine j_q (qs_lens U9 rfl) ?_
    refine j_q (qs_add64 rfl rfl (by omega)) ?_
    refine j_q (qs_add64 rfl rfl (by omega)) ?_
    refine j_back rfl ?_
    exact ⟨d.args.length - (i + 1), by omega, i + 1, vni (v := .nilIface) (by rw [hst]; push_cast; omega) (by omega), rfl, by omega, rfl⟩
   ·skip
    obtain rfl : i = d.args.length := by
     simp only [bnA] at *
     omega
    rw [List.take_length]
    refine j_q (qs_ac) ?_
    refine j_loop (fun m vs S' => ∃ i : Nat, vs = [.int .i64 ((big1 d + (d.env.map fun v => v.name.length + v.val.length).sum + (d.args.map List.length).sum + ((x.mi.take i).map fun y => y.drv.length + 10 * y.outs.length).sum : Nat) : Int), .int .i64 (i : Int)] ∧ S' = [[(g0, .cells (dcells d x).toArray 28 (0, 0))], []] ∧ i ≤ x.mi.length ∧ m = x.mi.length - i) ⟨_, 0, by simp only [List.take_zero, List.map_nil, List.sum_nil, Nat.add_zero]; rfl, rfl, Nat.zero_le _, rfl⟩ ?_
    rintro m vs S' hlen ⟨i, rfl, rfl, hin, rfl⟩
    refine j_q (qs_field U28 rfl sz24 (by decide) rfl) ?_
    refine j_q (qs_load (l := dcells d x) 0 U24 rfl rfl rfl (congrArg some hvi)) ?_
    refine j_q (qs_lenl U24 rfl) ?_
    refine j_q (qs_lss rfl rfl) ?_
    refine j_cond rfl (fun hc3 => ?_) (fun hc3 => ?_)
    ·skip
     have hi : i < x.mi.length := by
      simp only [bnA] at *
      omega
     obtain ⟨rfl, hgi, hcells⟩ := hAi (by omega)
     have hsl := sz.ip _ (hmem _ (getD_mem (d := m0) hi))
     simp only [MI.pi] at hsl
     have hst := sum_step (fun y : MI => y.drv.length + 10 * y.outs.length) (d := m0) hi
     have hti := t3 i
     obtain ⟨Ax, capx, hvx, hcapx⟩ := strz_form (h.io _ (getD_mem (d := m0) hi))
     refine j_draw ?_
     refine jq_q (qs_field U28 rfl sz24 (by decide) rfl) ?_
     refine jq_q (qs_load (l := dcells d x) 0 U24 rfl rfl rfl (congrArg some hvi)) ?_
     refine jq_q (qs_ixn (g := gi) (off := offi) (i := i) U24 sz68 rfl rfl (by omega)) ?_
     refine jq_q (qs_field U68 rfl sz49 (by decide) rfl) ?_
     refine jq_q (qs_loadrec (v := .string (bs (x.mi.getD i m0).drv)) (encA := encI) (rs := x.mi) (d := m0) (i := i) (fo := 0) encI_len (rd_cells hcells (by simp)) hi U49 rfl rfl rfl) ?_
     refine jq_q (qs_lens U49 rfl) ?_
     refine jq_q (qs_add64 rfl rfl (by omega)) ?_
     refine jq_q (qs_field U28 rfl sz24 (by decide) rfl) ?_
     refine jq_q (qs_load (l := dcells d x) 0 U24 rfl rfl rfl (congrArg some hvi)) ?_
     refine jq_q (qs_ixn (g := gi) (off := offi) (i := i) U24 sz68 rfl rfl (by omega)) ?_
     refine jq_q (qs_field U68 rfl sz22 (by decide) rfl) ?_
     refine jq_q (qs_loadrec (v := .slice Ax (x.mi.getD i m0).outs.length capx) (encA := encI) (rs := x.mi) (d := m0) (i := i) (fo := 1) encI_len (rd_cells hcells (by simp)) hi U22 rfl rfl (congrArg some hvx)) ?_
     refine jq_q (qs_lenl U22 rfl) ?_
     refine jq_q (qs_mul64 rfl rfl (by omega)) ?_
     refine jq_q (qs_add64 rfl rfl (by omega)) ?_
     refine jq_nil ?_
     refine j_q (qs_add64 rfl rfl (by omega)) ?_
     refine j_back rfl ?_
     exact ⟨x.mi.length - (i + 1), by omega, i + 1, vni (v := .nilIface) (by rw [hst]; push_cast; omega) (by omega), rfl, by omega, rfl⟩
    ·skip
     obtain rfl : i = x.mi.length := by
      simp only [bnA] at *
      omega
     rw [List.take_length]
     refine j_q (qs_ac) ?_
     refine j_loop (fun m vs S' => ∃ i : Nat, vs = [.int .i64 ((big1 d + (d.env.map fun v => v.name.length + v.val.length).sum + (d.args.map List.length).sum + (x.mi.map fun y => y.drv.length + 10 * y.outs.length).sum + ((d.outs.take i).map fun o => o.name.length + o.path.length).sum : Nat) : Int), .int .i64 (i : Int)] ∧ S' = [[(g0, .cells (dcells d x).toArray 28 (0, 0))], []] ∧ i ≤ d.outs.length ∧ m = d.outs.length - i) ⟨_, 0, by simp only [List.take_zero, List.map_nil, List.sum_nil, Nat.add_zero]; rfl, rfl, Nat.zero_le _, rfl⟩ ?_
     rintro m vs S' hlen ⟨i, rfl, rfl, hin, rfl⟩
     refine j_q (qs_field U28 rfl sz26 (by decide) rfl) ?_
     refine j_q (qs_load (l := dcells d x) 0 U26 rfl rfl rfl (congrArg some hvo)) ?_
     refine j_q (qs_lenl U26 rfl) ?_
     refine j_q (qs_lss rfl rfl) ?_
     refine j_cond rfl (fun hc4 => ?_) (fun hc4 => ?_)
     ·skip
      have hi : i < d.outs.length := by
       simp only [bnA] at *
       omega
      obtain ⟨rfl, hgo, hcells⟩ := hAo (by omega)
      have hsl := sz.ou _ (getD_mem (d := o0) hi)
      have hst := sum_step (fun o : PO => o.name.length + o.path.length) (d := o0) hi
      have hti := t4 i
      refine j_draw ?_
      refine jq_q (qs_field U28 rfl sz26 (by decide) rfl) ?_
      refine jq_q (qs_load (l := dcells d x) 0 U26 rfl rfl rfl (congrArg some hvo)) ?_
      refine jq_q (qs_ixn (g := go) (off := offo) (i := i) U26 sz53 rfl rfl (by omega)) ?_
      refine jq_q (qs_field U53 rfl sz9 (by decide) rfl) ?_
      refine jq_q (qs_loadrec (v := .string (bs (d.outs.getD i o0).name)) (encA := encO) (rs := d.outs) (d := o0) (i := i) (fo := 0) encO_len (rd_cells hcells (by simp)) hi U9 rfl rfl rfl) ?_
      refine jq_q (qs_lens U9 rfl) ?_
      refine jq_q (qs_add64 rfl rfl (by omega)) ?_
      refine jq_q (qs_field U28 rfl sz26 (by decide) rfl) ?_
      refine jq_q (qs_load (l := dcells d x) 0 U26 rfl rfl rfl (congrArg some hvo)) ?_
      refine jq_q (qs_ixn (g := go) (off := offo) (i := i) U26 sz53 rfl rfl (by omega)) ?_
      refine jq_q (qs_field U53 rfl sz49 (by decide) rfl) ?_
      refine jq_q (qs_loadrec (v := .string (bs (d.outs.getD i o0).path)) (encA := encO) (rs := d.outs) (d := o0) (i := i) (fo := 1) encO_len (rd_cells hcells (by simp)) hi U49 rfl rfl rfl) ?_
      refine jq_q (qs_lens U49 rfl) ?_
      refine jq_q (qs_add64 rfl rfl (by omega)) ?_
      refine jq_nil ?_
      refine j_q (qs_add64 rfl rfl (by omega)) ?_
      refine j_back rfl ?_
      exact ⟨d.outs.length - (i + 1), by omega, i + 1, vni (v := .nilIface) (by rw [hst]; push_cast; omega) (by omega), rfl, by omega, rfl⟩
     ·skip
      obtain rfl : i = d.outs.length := by
       simp only [bnA] at *
       omega
      rw [List.take_length]
      refine j_q (qs_ac) ?_
      refine j_loop (fun m vs S' => ∃ i : Nat, vs = [.int .i64 ((big1 d + (d.env.map fun v => v.name.length + v.val.length).sum + (d.args.map List.length).sum + (x.mi.map fun y => y.drv.length + 10 * y.outs.length).sum + (d.outs.map fun o => o.name.length + o.path.length).sum + ((d.srcs.take i).map List.length).sum : Nat) : Int), .int .i64 (i : Int)] ∧ S' = [[(g0, .cells (dcells d x).toArray 28 (0, 0))], []] ∧ i ≤ d.srcs.length ∧ m = d.srcs.length - i) ⟨_, 0, by simp only [List.take_zero, List.map_nil, List.sum_nil, Nat.add_zero]; rfl, rfl, Nat.zero_le _, rfl⟩ ?_
      rintro m vs S' hlen ⟨i, rfl, rfl, hin, rfl⟩
      refine j_q (qs_field U28 rfl sz25 (by decide) rfl) ?_
      refine j_q (qs_load (l := dcells d x) 0 U25 rfl rfl rfl (congrArg some hvs)) ?_
      refine j_q (qs_lenl U25 rfl) ?_
      refine j_q (qs_lss rfl rfl) ?_
      refine j_cond rfl (fun hc5 => ?_) (fun hc5 => ?_)
      ·skip
       have hi : i < d.srcs.length := by
        simp only [bnA] at *
        omega
       obtain ⟨gs, offs, rfl, hgs, hcells⟩ := strz_addr (hvs ▸ h.s) (by omega)
       have hsl := sz.sr _ (getD_mem (d := []) hi)
       have hst := sum_step List.length (l := d.srcs) (d := []) hi
       have hti := t5 i
       refine j_q (qs_field U28 rfl sz25 (by decide) rfl) ?_
       refine j_q (qs_load (l := dcells d x) 0 U25 rfl rfl rfl (congrArg some hvs)) ?_
       refine j_q (qs_ixn (g := gs) (off := offs) (i := i) U25 sz49 rfl rfl (by omega)) ?_
       refine j_q (qs_loadrs (i := i) (rd_cells hcells (by simp)) U49 (by rw [add_off, Nat.mul_one]; rfl) (by omega)) ?_
       refine j_q (qs_lens U49 rfl) ?_
       refine j_q (qs_add64 rfl rfl (by omega)) ?_
       refine j_q (qs_add64 rfl rfl (by omega)) ?_
       refine j_back rfl ?_
       exact ⟨d.srcs.length - (i + 1), by omega, i + 1, vni (v := .nilIface) (by rw [hst]; push_cast; omega) (by omega), rfl, by omega, rfl⟩
      ·skip
       obtain rfl : i = d.srcs.length := by
        simp only [bnA] at *
        omega
       rw [List.take_length]
       refine j_q (qs_gtr rfl rfl) ?_
       refine j_ret_con (vs := [_]) (fun w' hw' => ⟨rfl, trivial⟩) ?_
       show Value.bool _ = _
       congr 1
       have e : big2 d = big1 d + (d.env.map fun v => v.name.length + v.val.length).sum + (d.args.map List.length).sum + (x.mi.map fun y => y.drv.length + 10 * y.outs.length).sum + (d.outs.map fun o => o.name.length + o.path.length).sum + (d.srcs.map List.length).sum := by
        unfold big2 sl
        rw [h.im, List.map_map]
        rfl
       unfold heavyP
       rw [e, Bool.eq_iff_iff]
       simp only [Bool.or_eq_true, decide_eq_true_eq]
       omega
end Go.Proofs.YtfeabbeebkkhaaaGreat
/-! Dv30 -/
namespace Go.Proofs.YtfeabbeebkkhaaaGreat
open Go Go.Sx
set_option linter.unusedVariables false
set_option linter.unusedSimpArgs false
set_option maxRecDepth 100000
attribute [local irreducible] fold sum hex text32 pathOf allDig isName isPath spA spB spE cp sortS rise refsOf withP withE mkP mkE outP outE es qt cms Tbl Half isDrvP leB dtext
abbrev pdZ : PD := ⟨[], [], [], [], [], [], [], []⟩
abbrev HM := List (Bs × Hsh)
def hlook (M : HM) (k : Bs) : Option Hsh := (M.find? fun p => decide (p.1 = k)).map (·.2)
def mIv (M : HM) (k : Bs) : Bs := match hlook M k with | some h => hex h.1 | none => k
def mI (M : HM) (x : PI) : PI := ⟨mIv M x.drv, x.outs⟩
def mO (o : PO) : PO := ⟨o.name, [], o.fixed, o.hash⟩
def isOutN (l : List PO) (n : Bs) : Bool := l.any fun o => decide (o.name = n)
def mV (l : List PO) (v : PV) : PV := ⟨v.name, if isOutN l v.name then [] else v.val⟩
def masked (M : HM) (d : PD) : PD := ⟨d.name, d.sys, d.bld, d.args, d.env.map (mV d.outs), d.ins.map (mI M), d.srcs, d.outs.map mO⟩
def sFix : Bs := [102, 105, 120, 101, 100, 58, 111, 117, 116, 58]
def isFix (d : PD) : Bool := (d.outs.getD 0 o0).fixed
def allIn (M : HM) (l : List PI) : Bool := l.all fun x => (hlook M x.drv).isSome
def modE (M : HM) (d : PD) : Int := orE (chk d) (if isFix d then 0 else if allIn M d.ins then 0 else 11)
def fixT (d : PD) : Bs := sFix ++ hex (d.outs.getD 0 o0).hash.1 ++ [58] ++ d.name
def sumH (l : Bs) : Hsh := ⟨sum l, sum_length l⟩
def modH (M : HM) (d : PD) : Hsh := if modE M d = 0 then (if isFix d then sumH (fixT d) else sumH (dtext (masked M d))) else zHash
def oP (h : Hsh) (nm : Bs) (o : PO) : Bs := if o.fixed then mkP kFixed o.hash.1 nm else outP h.1 o.name nm
def oE (nm : Bs) (o : PO) : Int := if o.fixed then mkE nm else outE o.name nm
def fO (h : Hsh) (nm : Bs) (o : PO) : PO := ⟨o.name, oP h nm o, o.fixed, o.hash⟩
def fVv (l : List PO) (n : Bs) (z : Bs) : Bs := match l.reverse.find? (fun o => decide (o.name = n)) with | some o => o.path | none => z
def fV (l : List PO) (v : PV) : PV := ⟨v.name, fVv l v.name v.val⟩
def fillOs (M : HM) (d : PD) : List PO := d.outs.map (fO (modH M d) d.name)
def fillD (M : HM) (d : PD) : PD := ⟨d.name, d.sys, d.bld, d.args, d.env.map (fV (fillOs M d)), d.ins, d.srcs, fillOs M d⟩
def outsE (d : PD) : Int := firstE (fun i => oE d.name (d.outs.getD i o0)) d.outs.length
def fillE (M : HM) (d : PD) : Int := orE (modE M d) (outsE d)
def fillR (M : HM) (d : PD) : PD := if fillE M d = 0 then fillD M d else pdZ
theorem sum_le_add {α β : Type} (f : α → Nat) (g : β → Nat) (t : α → β) (k : Nat) (l : List α) (h : ∀ x ∈ l, g (t x) ≤ f x + k) : ((l.map t).map g).sum ≤ (l.map f).sum + k * l.length := by
 induction l with
 | nil => simp
 | cons a l ih =>
  have h1 := h a (by simp)
  have h2 := ih fun x hx => h x (by simp [hx])
  simp only [List.map_cons, List.sum_cons, List.length_cons, Nat.mul_add, Nat.mul_one] at h2 ⊢
  omega
theorem outs16 {d : PD} (h : chkOuts d.outs = 0) : 1 ≤ d.outs.length ∧ d.outs.length ≤ 16 := by
 unfold chkOuts at h
 split at h
 ·cases h
 ·omega
theorem outP_le (h o n : Bs) : (outP h o n).length ≤ 113 := by
 unfold outP
 split
 ·unfold mkP
  split
  ·rename_i h1 h2
   rw [pathOf_length]
   have := (isName_len h2).2
   omega
  ·simp
 ·simp
theorem mkP_le2 (k h n : Bs) : (mkP k h n).length ≤ 113 := by
 unfold mkP
 split
 ·rename_i h2
  rw [pathOf_length]
  have := (isName_len h2).2
  omega
 ·simp
theorem oP_le (h : Hsh) (n : Bs) (o : PO) : (oP h n o).length ≤ 113 := by
 unfold oP
 split
 ·exact mkP_le2 _ _ _
 ·exact outP_le _ _ _
theorem fVv_le {l : List PO} (h : ∀ o ∈ l, o.path.length ≤ 113) (n z : Bs) : (fVv l n z).length ≤ z.length + 113 := by
 unfold fVv
 split
 ·rename_i o ho
  have := h o (List.mem_reverse.1 (List.mem_of_find?_eq_some ho))
  omega
 ·omega
theorem fillOs_le (M : HM) (d : PD) : ∀ o ∈ fillOs M d, o.path.length ≤ 113 := fun o ho => by
 unfold fillOs at ho
 obtain ⟨x, _, rfl⟩ := List.mem_map.1 ho
 exact oP_le _ _ _
theorem fill_sum_o (M : HM) (d : PD) : ((fillOs M d).map fun o : PO => o.name.length + o.path.length).sum ≤ (d.outs.map fun o : PO => o.name.length + o.path.length).sum + 113 * d.outs.length :=
 sum_le_add _ _ _ 113 _ fun o _ => by
  have := oP_le (modH M d) d.name o
  show o.name.length + (oP (modH M d) d.name o).length ≤ _
  omega
theorem fill_sum_e (M : HM) (d : PD) : ((d.env.map (fV (fillOs M d))).map fun v : PV => v.name.length + v.val.length).sum ≤ (d.env.map fun v : PV => v.name.length + v.val.length).sum + 113 * d.env.length :=
 sum_le_add _ _ _ 113 _ fun v _ => by
  have := fVv_le (fillOs_le M d) v.name v.val
  show v.name.length + (fVv (fillOs M d) v.name v.val).length ≤ _
  omega
attribute [local irreducible] lst tTs tO tI tV tup
theorem fill_big {M : HM} {d : PD} (hc : chk0 d = 0) (h1 : big1 d ≤ 4000) (h2 : big2 d ≤ 16000) : big2 (fillD M d) ≤ 200000 := by
 obtain ⟨_, _, ho, hi, _, _⟩ := chk0_parts hc
 have h16 := outs16 ho
 have s1 := fill_sum_o M d
 have s2 := fill_sum_e M d
 have l1 : (fillOs M d).length = d.outs.length := List.length_map _
 have l2 : (d.env.map (fV (fillOs M d))).length = d.env.length := List.length_map _
 unfold big2 big1 at h2 ⊢
 unfold big1 at h1
 have e1 : (fillD M d).name = d.name := rfl
 have e2 : (fillD M d).sys = d.sys := rfl
 have e3 : (fillD M d).bld = d.bld := rfl
 have e4 : (fillD M d).srcs = d.srcs := rfl
 have e5 : (fillD M d).args = d.args := rfl
 have e6 : (fillD M d).ins = d.ins := rfl
 have e7 : (fillD M d).outs = fillOs M d := rfl
 have e8 : (fillD M d).env = d.env.map (fV (fillOs M d)) := rfl
 rw [e1, e2, e3, e4, e5, e6, e7, e8, l1, l2]
 generalize ((d.env.map (fV (fillOs M d))).map fun v : PV => v.name.length + v.val.length).sum = m1 at *
 generalize ((fillOs M d).map fun o : PO => o.name.length + o.path.length).sum = m2 at *
 generalize (d.env.map fun v => v.name.length + v.val.length).sum = n1 at *
 generalize (d.ins.map fun x => x.drv.length + 10 * x.outs.length).sum = n2 at *
 generalize (d.outs.map fun o => o.name.length + o.path.length).sum = n3 at *
 omega
theorem mIv_le (M : HM) (k : Bs) : (mIv M k).length ≤ k.length + 64 := by
 unfold mIv
 split
 ·rw [hexL]; omega
 ·omega
theorem masked_big {M : HM} {d : PD} (h1 : big2 d ≤ 20000) : big2 (masked M d) ≤ 200000 := by
 have s1 : ((d.ins.map (mI M)).map fun x : PI => x.drv.length + 10 * x.outs.length).sum ≤ (d.ins.map fun x : PI => x.drv.length + 10 * x.outs.length).sum + 64 * d.ins.length :=
  sum_le_add _ _ _ 64 _ fun x _ => by
   have := mIv_le M x.drv
   show (mIv M x.drv).length + 10 * x.outs.length ≤ _
   omega
 have s2 : ((d.env.map (mV d.outs)).map fun v : PV => v.name.length + v.val.length).sum ≤ (d.env.map fun v : PV => v.name.length + v.val.length).sum + 0 * d.env.length :=
  sum_le_add _ _ _ 0 _ fun v _ => by
   show v.name.length + (if isOutN d.outs v.name then [] else v.val).length ≤ _
   split <;> simp
 have s3 : ((d.outs.map mO).map fun o : PO => o.name.length + o.path.length).sum ≤ (d.outs.map fun o : PO => o.name.length + o.path.length).sum + 0 * d.outs.length :=
  sum_le_add _ _ _ 0 _ fun o _ => by
   show o.name.length + ([] : Bs).length ≤ _
   simp
 unfold big2 big1 at h1 ⊢
 simp only [masked, List.length_map] at *
 generalize ((d.ins.map (mI M)).map fun x : PI => x.drv.length + 10 * x.outs.length).sum = m1 at *
 generalize ((d.env.map (mV d.outs)).map fun v : PV => v.name.length + v.val.length).sum = m2 at *
 generalize ((d.outs.map mO).map fun o : PO => o.name.length + o.path.length).sum = m3 at *
 generalize (d.env.map fun v => v.name.length + v.val.length).sum = n1 at *
 generalize (d.ins.map fun x => x.drv.length + 10 * x.outs.length).sum = n2 at *
 generalize (d.outs.map fun o => o.name.length + o.path.length).sum = n3 at *
 omega
theorem tb_of2 {d : PD} (h : ∀ x ∈ d.ins, ∀ o ∈ x.outs, o.length ≤ 80) (hb : big2 d ≤ 200000) : TB d := by
 have h1 := lst_le tO (fun o : PO => o.name.length + o.path.length) 170 d.outs (fun x hx => tO_le x) 91 93
 have h2 := lst_le tI (fun x : PI => 100 * (x.drv.length + 10 * x.outs.length)) 10 d.ins (fun x hx => tI_le x (h x hx)) 91 93
 rw [sum_mul] at h2
 have h3 := lst_le tV (fun v : PV => v.name.length + v.val.length) 10 d.env (fun x _ => tV_le x) 91 93
 have h4 := tTs_le d.srcs
 have h5 := tTs_le d.args
 have hb' := hb
 unfold big2 big1 at hb
 generalize (d.env.map fun v => v.name.length + v.val.length).sum = n1 at *
 generalize (d.ins.map fun x => x.drv.length + 10 * x.outs.length).sum = n2 at *
 generalize (d.outs.map fun o => o.name.length + o.path.length).sum = n3 at *
 exact ⟨by omega, by omega, by omega, by omega, by omega, hb', h⟩
theorem tb_maskedK {M : HM} {d : PD} (hc : chk0 d = 0) (h1 : big2 d ≤ 20000) : TB (masked M d) := by
 refine tb_of2 (fun x hx o ho => ?_) (masked_big h1)
 obtain ⟨_, _, _, hi, _, _⟩ := chk0_parts hc
 obtain ⟨y, hy, rfl⟩ := List.mem_map.1 hx
 exact chkI_outs hi y hy o ho
theorem tb_masked {M : HM} {d : PD} (hc : chk0 d = 0) (h1 : big2 d ≤ 16000) : TB (masked M d) := tb_maskedK hc (Nat.le_trans h1 (by decide))
theorem fillE_parts {M : HM} {d : PD} (h : fillE M d = 0) : chk d = 0 ∧ modE M d = 0 ∧ outsE d = 0 := by
 unfold fillE at h
 rw [orE_zero] at h
 have h2 := h.1
 unfold modE at h2
 rw [orE_zero] at h2
 exact ⟨h2.1, h.1, h.2⟩
end Go.Proofs.YtfeabbeebkkhaaaGreat
/-! Sx24 -/
namespace Go.Sx
open Go
set_option linter.unusedVariables false
variable {P : Program} {R : Ending → World → Prop} {env : Env} {b : Base} {S : List SH} {B : JB} {T : Tree} {v : Value} {ty : TypeId}
end Go.Sx
/-! Sx25 -/
namespace Go.Sx
open Go
set_option linter.unusedVariables false
variable {P : Program} {R : Ending → World → Prop} {ds : List Deferred}
section
variable {ops : Array Oper} {Q : Exit → Act → World → Prop} {a : Act} {w w' : World} {l : List Oper} {o : Oper} {v : Value}
end
theorem j_ret_sub {env : Env} {S : List SH} {B : JB} {w : World} {Fp : SH} {post : Value → List SH → Prop} {rs : List RV} {vs : List Value} (S1 : List SH) (hs : S1.Sublist S) (hv : ∀ w', Sig ⟨w, dom Fp⟩ S w' → rvsW P env w' rs vs) (h : post (retVal vs) S1) :
  J P (fun e w' => ∃ v S', e = .returned v ∧ post v S' ∧ Sig ⟨w, dom Fp⟩ S' w') (.ret rs) env S ⟨w, dom Fp⟩ B := j_ret hv fun _ hw => ⟨_, S1, rfl, h, hw.sub (sub_flatten hs)⟩
theorem j_ret_fl {P : Program} {env : Env} {S : List SH} {B : JB} {w : World} {Fp : SH} {post : Value → List SH → Prop} {rs : List RV} {vs : List Value} (S1 : List SH) (hs : S1.flatten.Sublist S.flatten) (hv : ∀ w', Sig ⟨w, dom Fp⟩ S w' → rvsW P env w' rs vs) (h : post (retVal vs) S1) :
  J P (fun e w' => ∃ v S', e = .returned v ∧ post v S' ∧ Sig ⟨w, dom Fp⟩ S' w') (.ret rs) env S ⟨w, dom Fp⟩ B := j_ret hv fun _ hw => ⟨_, S1, rfl, h, hw.sub hs⟩
end Go.Sx
/-! Sx26 -/
namespace Go.Sx
open Go Go.MapKept Go.WideMaps Go.Maps
set_option linter.unusedVariables false
set_option linter.unusedSimpArgs false
set_option linter.unusedSectionVars false
variable {P : Program} {R : Ending → World → Prop} {env : Env} {b : Base} {S : List SH} {B : JB} {T : Tree} {v : Value} {ty : TypeId}
theorem flat_set {α : Type} {encA : α → List Value} {n : Nat} (hl : ∀ a, (encA a).length = n) {fo : Nat} (hfo : fo < n) (v : Value) (a' d : α) : ∀ (rs : List α) (i : Nat), i < rs.length → encA a' = (encA (rs.getD i d)).set fo v → ((rs.map encA).flatten).set (i * n + fo) v = ((rs.set i a').map encA).flatten
 | [], _, h, _ => by simp at h
 | a :: rs, 0, _, ha => by
  simp only [List.getD_cons_zero] at ha
  simp only [List.map_cons, List.flatten_cons, List.set_cons_zero, Nat.zero_mul, Nat.zero_add]
  rw [List.set_append_left _ _ (by rw [hl]; exact hfo), ha]
 | a :: rs, i + 1, h, ha => by
  simp only [List.getD_cons_succ] at ha
  simp only [List.map_cons, List.flatten_cons, List.set_cons_succ]
  rw [List.set_append_right _ _ (by rw [hl, Nat.add_mul]; omega), hl, ← flat_set hl hfo v a' d rs i (by simpa using h) ha]
  congr 2
  rw [Nat.add_mul]
  omega
theorem own_mk {e : TypeId} {sz n cap g : Nat} {xs rest : List Value} {fz : Nat × Nat} (h1 : xs.length = n * sz) (h2 : (xs ++ rest).length = cap * sz) (h3 : n ≤ cap) (h4 : ∀ j, j < (xs ++ rest).length → ¬ (fz.1 ≤ j ∧ j < fz.2)) : Own e sz xs (.slice (some ⟨g, 0, none⟩) n cap) [(g, .cells (xs ++ rest).toArray e fz)] := .inr ⟨g, n, cap, rest, fz, rfl, rfl, h1, h2, h3, h4⟩
theorem j_storerec {α : Type} {encA : α → List Value} {n : Nat} {rs : List α} {d : α} {t : TypeId} {x y : Operand} {g i fo len cap : Nat} {c : SH} {e : TypeId} (a' : α) (k : Nat) (hl : ∀ a, (encA a).length = n) (ho : Own e n ((rs.map encA).flatten) (.slice (some ⟨g, 0, none⟩) len cap) c) (hk : S[k]? = some c) (hi : i < rs.length) (hz : (P.info? t).map (·.size) = some 1)
  (hx : ev env x = .pointer (some ⟨g, 0 + i * n + fo, none⟩)) (hy : ev env y = v) (hv : oneV v = true) (hfo : fo < n) (ha : encA a' = (encA (rs.getD i d)).set fo v)
  (h : ∀ c', Own e n (((rs.set i a').map encA).flatten) (.slice (some ⟨g, 0, none⟩) len cap) c' → J P R T (undef :: env) (S.set k c') b B) : J P R (.op (O (.store t x y) ty) T) env S b B := by
 obtain ⟨rest, fz, rfl, h1, h2, h3, h4⟩ := own_row ho
 have hlen : ((rs.map encA).flatten).length = rs.length * n := by
  clear h hi hx ha ho hk h1 h2 h4
  induction rs with
  | nil => simp
  | cons a rs ih => simp only [List.map_cons, List.flatten_cons, List.length_append, hl, List.length_cons, Nat.add_mul, Nat.one_mul, ih]; omega
 have hlt : i * n + fo < ((rs.map encA).flatten).length := by
  rw [hlen]
  have : (i + 1) * n ≤ rs.length * n := Nat.mul_le_mul_right _ hi
  rw [Nat.add_mul] at this
  omega
 refine j_store k hz (by rw [hx, Nat.zero_add]) hy hv hk (by rw [List.length_append]; omega) (h4 _ (by rw [List.length_append]; omega)) ?_
 rw [List.set_append_left _ _ hlt, flat_set hl hfo v a' d rs i hi ha]
 have he : (((rs.set i a').map encA).flatten).length = ((rs.map encA).flatten).length := by
  rw [← flat_set hl hfo v a' d rs i hi ha, List.length_set]
 refine h _ (own_mk (by rw [he]; exact h1) (by rw [List.length_append, he, ← List.length_append]; exact h2) h3 (fun j hj => h4 j (by rw [List.length_append, he, ← List.length_append] at hj; exact hj)))
end Go.Sx
/-! Sx27 -/
namespace Go.Sx
open Go Go.MapKept Go.WideMaps Go.Maps
set_option linter.unusedVariables false
set_option linter.unusedSimpArgs false
set_option linter.unusedSectionVars false
variable {P : Program} {R : Ending → World → Prop} {env : Env} {b : Base} {S : List SH} {B : JB} {T : Tree} {v : Value} {ty : TypeId}
variable {κ : Type} [DecidableEq κ] {enc : κ → Value} {ok : κ → Prop} {m : List (κ × Value)} {kt : TypeId}
def MapR (enc : κ → Value) (ok : κ → Prop) (w : World) (v : Value) (m : List (κ × Value)) : Prop := (v = .map none ∧ m = []) ∨ ∃ g es clock, v = .map (some g) ∧ w.heap[g]? = some (.map es clock) ∧ MapOk enc ok es clock m
theorem mapr_keep {w w' : World} {S : List SH} (h : MapR enc ok w v m) (hs : Sig ⟨w, dom []⟩ S w') : MapR enc ok w' v m := by
 rcases h with h | ⟨g, es, clock, rfl, hg, hm⟩
 ·exact .inl h
 ·exact .inr ⟨g, es, clock, rfl, (hs.frame g (lt_of_get hg) (by simp)).trans hg, hm⟩
def MapRd (enc : κ → Value) (ok : κ → Prop) (b : Base) (S : List SH) (v : Value) (m : List (κ × Value)) : Prop := (v = .map none ∧ m = []) ∨ ∃ g es clock, v = .map (some g) ∧ RdO b S g (.map es clock) ∧ MapOk enc ok es clock m
theorem mapr_rd {w : World} (h : MapR enc ok w v m) : MapRd enc ok ⟨w, dom []⟩ S v m := by
 rcases h with h | ⟨g, es, clock, rfl, hg, hm⟩
 ·exact .inl h
 ·exact .inr ⟨g, es, clock, rfl, rdo_base hg (by simp), hm⟩
theorem run_lookup_nil (KE : KeyE P kt enc ok) {t vt : TypeId} {key : κ} {z : Value} (ht : P.underlying t = some (.map kt vt)) (hz : (P.info? vt).bind (·.zero) = some z) (hok : ok key) (c : Bool) (w : World) :
  (Instr.lookup t (.map none) (enc key) c).run P w = .ok (if c then .tuple #[z, .bool false] else z) w := by
 obtain ⟨l, hl⟩ := KE.lit key hok
 have hck := fun em => KE.keyed.check w em hl
 have hf : (Instr.findKey kt (enc key) ([] : List MapEntry)).run P w = .ok none w := by
  rcases KE.keyed.find w hl [] (fun e he => by cases he) with ⟨h1, _⟩ | ⟨j, e, _, h2, _⟩
  ·exact h1
  ·simp at h2
 simp only [Instr.lookup, Sem.run_bind, run_underlying_ok ht, Result.andThen_ok, Sem.run_pure, hck, Array.toList_empty, hf, run_zeroV hz]
 all_goals (cases c <;> rfl)
theorem qs_lookup2M (KE : KeyE P kt enc ok) {t vt : TypeId} {x y : Operand} {key : κ} {z : Value} (hr : MapRd enc ok b S v m) (ht : P.underlying t = some (.map kt vt)) (hz : (P.info? vt).bind (·.zero) = some z) (hx : ev env x = v) (hy : ev env y = enc key) (hok : ok key) :
  QS P (O (.lookup t x y true) ty) env b S (.tuple #[(mlook m key).getD z, .bool (mlook m key).isSome]) := by
 rcases hr with ⟨rfl, rfl⟩ | ⟨g, es, clock, rfl, hg, hm⟩
 ·refine qs_val fun w hw => ?_
  simp only [O, execOp, hx, hy, Sem.run_bind, run_lookup_nil KE ht hz hok true, Result.andThen_ok, Sem.run_pure]
  rfl
 ·exact qs_lookup2R KE hg ht hz hx hy hm hok
theorem qs_maplenM {t kt vt : TypeId} {x : Operand} (hr : MapRd enc ok b S v m) (ht : P.underlying t = some (.map kt vt)) (hx : ev env x = v) : QS P (O (.call ⟨.builtin .len, #[x], #[t]⟩) ty) env b S (.int .i64 (m.length : Nat)) := by
 rcases hr with ⟨rfl, rfl⟩ | ⟨g, es, clock, rfl, hg, hm⟩
 ·refine qs_val fun w hw => ?_
  simp [O, execOp, resolve, invoke, builtin, Builtin.len_, Sem.run_bind, Sem.run_pure, Result.andThen_ok, hx, run_underlying_ok ht, goInt]
 ·exact qs_maplen hg ht hx hm
theorem mlook_mput (m : List (κ × Value)) (k : κ) (v : Value) (n : κ) : mlook (mput m k v) n = if n = k ∧ (mlook m k).isSome then some v else mlook m n := by
 induction m with
 | nil => simp [mlook, mput]
 | cons p m ih =>
  have e : mput (p :: m) k v = (if p.1 = k then (p.1, v) else p) :: mput m k v := rfl
  unfold mlook at ih ⊢
  rw [e]
  by_cases hp : p.1 = k
  ·rw [if_pos hp]
   by_cases hn : n = k
   ·subst hn
    simp [hp]
   ·have h1 : ¬ p.1 = n := fun h => hn (by rw [← h, hp])
    simp only [List.find?_cons, h1, decide_false, hn, false_and, if_false]
    simpa [hn] using ih
  ·rw [if_neg hp]
   by_cases hn : p.1 = n
   ·have h2 : ¬ n = k := fun h => hp (by rw [hn, h])
    simp [List.find?_cons, hn, h2]
   ·simp only [List.find?_cons, hn, decide_false, hp]
    exact ih
theorem mlook_mset (m : List (κ × Value)) (k : κ) (v : Value) (n : κ) : mlook (mset m k v) n = if n = k then some v else mlook m n := by
 unfold mset
 by_cases h : (mlook m k).isSome = true
 ·rw [if_pos h, mlook_mput]
  simp [h]
 ·rw [if_neg h]
  have h0 : mlook m k = none := by simpa using h
  by_cases hn : n = k
  ·subst hn
   rw [if_pos rfl]
   unfold mlook at h0 ⊢
   rw [List.find?_append]
   have := Option.map_eq_none_iff.1 h0
   rw [this]
   simp
  ·rw [if_neg hn]
   unfold mlook
   rw [List.find?_append]
   have : ¬ k = n := fun h => hn h.symm
   simp [List.find?_cons, this]
def upd {α : Type} (f : α → α) (l : List α) (i : Nat) : List α := (l.take i).map f ++ l.drop i
theorem upd_zero {α : Type} (f : α → α) (l : List α) : upd f l 0 = l := by simp [upd]
theorem upd_all {α : Type} (f : α → α) (l : List α) : upd f l l.length = l.map f := by simp [upd]
theorem upd_len {α : Type} (f : α → α) (l : List α) (i : Nat) : (upd f l i).length = l.length := by
 simp only [upd, List.length_append, List.length_map, List.length_take, List.length_drop]
 omega
theorem upd_get {α : Type} (f : α → α) {l : List α} {i : Nat} (d : α) (h : i < l.length) : (upd f l i).getD i d = l.getD i d := by
 unfold upd
 rw [List.getD_eq_getElem?_getD, List.getD_eq_getElem?_getD, List.getElem?_append_right (by simp; omega)]
 simp only [List.length_map, List.length_take, List.getElem?_drop]
 congr 2
 omega
theorem upd_set {α : Type} (f : α → α) {l : List α} {i : Nat} (d : α) (h : i < l.length) : (upd f l i).set i (f (l.getD i d)) = upd f l (i + 1) := by
 unfold upd
 have hl : ((l.take i).map f).length = i := by simp; omega
 rw [List.set_append_right _ _ (by omega), hl, Nat.sub_self, List.drop_eq_getElem_cons h, List.set_cons_zero, List.take_succ_eq_append_getElem h, List.map_append, List.append_assoc]
 congr 2
 rw [List.getD_eq_getElem?_getD, List.getElem?_eq_getElem h]
 rfl
theorem upd_same {α : Type} (f : α → α) {l : List α} {i : Nat} (d : α) (h : i < l.length) (hf : f (l.getD i d) = l.getD i d) : upd f l (i + 1) = upd f l i := by
 rw [← upd_set f d h, hf]
 have := upd_get f d h
 apply List.ext_getElem?
 intro j
 rw [List.getElem?_set]
 split
 ·rename_i e
  subst e
  rw [if_pos (by rw [upd_len]; exact h), ← this, List.getD_eq_getElem?_getD, List.getElem?_eq_getElem (by rw [upd_len]; exact h)]
  rfl
 ·rfl
end Go.Sx
/-! Dv12 -/
namespace Go.Proofs.YtfeabbeebkkhaaaGreat
open Go Go.Sx
set_option maxRecDepth 100000
set_option maxHeartbeats 4000000
set_option linter.unusedVariables false
set_option linter.unusedSimpArgs false
attribute [local irreducible] J JQ QS Con W opW
def sO (o : PO) : Bs := [124, 111] ++ o.name ++ o.path ++ o.hash.1 ++ (if o.fixed then [102, 105, 120, 101, 100] else [])
def cm1 (o : Bs) : Bs := [44] ++ o
def sC (l : List Bs) : Bs := (l.map cm1).flatten
def sI (x : PI) : Bs := [124, 105] ++ x.drv ++ sC x.outs
def sS (p : Bs) : Bs := [124, 115] ++ p
def sA (p : Bs) : Bs := [124, 97] ++ p
def sV (v : PV) : Bs := [124, 101] ++ v.name ++ [61] ++ v.val
def dshow (d : PD) : Bs := d.name ++ [124] ++ d.sys ++ [124] ++ d.bld ++ (d.outs.map sO).flatten ++ (d.ins.map sI).flatten ++ (d.srcs.map sS).flatten ++ (d.args.map sA).flatten ++ (d.env.map sV).flatten
theorem fl_step {α : Type} (f : α → Bs) {l : List α} {i : Nat} {d : α} (h : i < l.length) : ((l.take (i + 1)).map f).flatten = ((l.take i).map f).flatten ++ f (l.getD i d) := by
 rw [take_map_snoc f (d := d) h, List.flatten_append]
 simp
theorem fl_zero {α : Type} (f : α → Bs) (l : List α) : ((l.take 0).map f).flatten = [] := by simp
theorem fl_take_le {α : Type} (f : α → Bs) (l : List α) (n : Nat) (h : ((l.map f).flatten).length ≤ n) : ∀ i, (((l.take i).map f).flatten).length ≤ n := fun i => by
 have : (l.map f).flatten = ((l.take i).map f).flatten ++ ((l.drop i).map f).flatten := by
  conv => lhs; rw [← List.take_append_drop i l]
  rw [List.map_append, List.flatten_append]
 rw [this, List.length_append] at h
 omega
theorem fl_len {α : Type} (f : α → Bs) (g : α → Nat) (k c : Nat) (l : List α) (h : ∀ x ∈ l, (f x).length ≤ k * g x + c) : ((l.map f).flatten).length ≤ k * (l.map g).sum + c * l.length := by
 induction l with
 | nil => simp
 | cons a l ih =>
  have h1 := h a (by simp)
  have h2 := ih fun x hx => h x (by simp [hx])
  simp only [List.map_cons, List.flatten_cons, List.length_append, List.sum_cons, List.length_cons, Nat.mul_add, Nat.mul_one]
  omega
theorem sC_len (l : List Bs) (h : ∀ o ∈ l, o.length ≤ 140737488355328) : (sC l).length ≤ 140737488355329 * l.length := by
 have := fl_len cm1 (fun _ => 0) 0 140737488355329 l (fun x hx => by have := h x hx; unfold cm1; simp only [List.length_append, List.length_cons, List.length_nil]; omega)
 unfold sC
 omega
structure ShB (d : PD) : Prop where
 o : ((d.outs.map sO).flatten).length ≤ 100000000000
 i : ((d.ins.map sI).flatten).length ≤ 2300000000000000000
 s : ((d.srcs.map sS).flatten).length ≤ 100000000000
 a : ((d.args.map sA).flatten).length ≤ 100000000000
 e : ((d.env.map sV).flatten).length ≤ 100000000000
theorem sC_lenK (K : Nat) (l : List Bs) (h : ∀ o ∈ l, o.length ≤ K) : (sC l).length ≤ (K + 1) * l.length := by
 have := fl_len cm1 (fun _ => 0) 0 (K + 1) l (fun x hx => by have := h x hx; unfold cm1; simp only [List.length_append, List.length_cons, List.length_nil]; omega)
 unfold sC
 omega
theorem shb_of {d : PD} (hb : big2 d ≤ 200000) (hou : ∀ y ∈ d.ins, ∀ o ∈ y.outs, o.length ≤ 140737488355328) (hor : big2 d ≤ 16000 ∨ ∀ y ∈ d.ins, ∀ o ∈ y.outs, o.length ≤ 3000000) : ShB d := by
 have few := few_of (Nat.le_trans hb (by decide))
 have h1 := fl_len sO (fun _ => 0) 0 300000 d.outs (fun x hx => by
  have := few.ou x hx
  have h32 := x.hash.2
  unfold sO
  simp only [List.length_append, List.length_cons, List.length_nil, h32]
  split <;> simp <;> omega)
 have hs : (d.ins.map fun x => x.drv.length + 10 * x.outs.length).sum ≤ big2 d := by
  unfold big2 big1
  omega
 have h2 : ((d.ins.map sI).flatten).length ≤ 2300000000000000000 := by
  have g2 := few.li
  rcases hor with ho | ho
  ·have := fl_len sI (fun x : PI => x.drv.length + 10 * x.outs.length) 140737488355329 2 d.ins (fun x hx => by
    have := sC_len x.outs (hou x hx)
    unfold sI
    simp only [List.length_append, List.length_cons, List.length_nil]
    omega)
   omega
  ·have := fl_len sI (fun x : PI => x.drv.length + 10 * x.outs.length) 3000001 2 d.ins (fun x hx => by
    have := sC_lenK 3000000 x.outs (ho x hx)
    unfold sI
    simp only [List.length_append, List.length_cons, List.length_nil]
    omega)
   omega
 have h3 := fl_len sS (fun _ => 0) 0 300000 d.srcs (fun x hx => by
  have := few.sr x hx
  unfold sS
  simp only [List.length_append, List.length_cons, List.length_nil]
  omega)
 have h4 := fl_len sA (fun _ => 0) 0 300000 d.args (fun x hx => by
  have := few.ar x hx
  unfold sA
  simp only [List.length_append, List.length_cons, List.length_nil]
  omega)
 have h5 := fl_len sV (fun _ => 0) 0 300000 d.env (fun x hx => by
  have := few.ev x hx
  unfold sV
  simp only [List.length_append, List.length_cons, List.length_nil]
  omega)
 have g1 := few.lo
 have g2 := few.li
 have g3 := few.ls
 have g4 := few.la
 have g5 := few.le
 exact ⟨by omega, h2, by omega, by omega, by omega⟩
theorem rd_rec {w : World} {S : List SH} {α : Type} {enc : α → List Value} {N : Nat} {rs : List α} {d : α} {g off i fo : Nat} {vs : List Value} (hl : ∀ a, (enc a).length = N) (h : Cells w ⟨g, off, none⟩ (rs.map enc).flatten) (hi : i < rs.length) (hv : ∀ j u, vs[j]? = some u → (enc (rs.getD i d))[fo + j]? = some u) : Rd ⟨w, dom []⟩ S ⟨g, off + i * N + fo, none⟩ vs := fun w' hw' j u hu => by
 have h1 := hv j u hu
 have hlt : fo + j < N := by
  have := (List.getElem?_eq_some_iff.1 h1).1
  rwa [hl] at this
 have h2 := rd_w (rd_cells (b := ⟨w, dom []⟩) h (by simp)) hw' (i * N + (fo + j)) u (by
  rw [flat_get hl rs i (fo + j) hlt, List.getElem?_eq_getElem hi]
  rw [List.getD_eq_getElem?_getD, List.getElem?_eq_getElem hi] at h1
  exact h1)
 rw [add_off] at h2 ⊢
 rw [← h2]
 congr 2
 omega
theorem vsi {a b : Bs} {m n : Int} (h1 : a = b) (h2 : m = n) : [Value.string (bs a), .int .i64 m] = [Value.string (bs b), .int .i64 n] := by rw [h1, h2]
attribute [local irreducible] es qt cms hex Tbl Half lst isName isPath isDrvP leB chkO chkOuts chkN chkI chkIns firstE spA spB spE chkS chkV dtext chk chk0 tTs
theorem ltext_con (d : PD) (x : DV) (w : World) (h : DR w d x) (hb : big2 d ≤ 200000) (hou : ∀ y ∈ d.ins, ∀ o ∈ y.outs, o.length ≤ 140737488355328) (hor : big2 d ≤ 16000 ∨ ∀ y ∈ d.ins, ∀ o ∈ y.outs, o.length ≤ 3000000) : Con Tryz.prog 17 [dval d x] w [] fun v _ => v = .string (bs (dshow d)) := by
 refine con_of_tree mix Tryz.func17 T17_ok (by kernel_rfl) ?_
 unfold T17
 have hni : d.ins.length = x.mi.length := by rw [h.im, List.length_map]
 obtain ⟨Ao, capo, go, offo, hvo, hcapo, hAo⟩ := rsln_form h.o
 obtain ⟨Ai, capi, gi, offi, hvi, hcapi, hAi⟩ := rsln_form h.i
 obtain ⟨Ae, cape, ge, offe, hve, hcape, hAe⟩ := rsln_form h.e
 obtain ⟨As, caps, hvs, hcaps⟩ := strz_form h.s
 obtain ⟨Aa, capa, hva, hcapa⟩ := strz_form h.a
 have hmem : ∀ m ∈ x.mi, m.pi ∈ d.ins := fun m hm => by rw [h.im]; exact List.mem_map_of_mem hm
 have few := few_of (Nat.le_trans hb (by decide))
 have few1 := few.nm
 have few2 := few.sy
 have few3 := few.bl
 have few4 := few.la
 have few5 := few.le
 have few6 := few.li
 have few7 := few.lo
 have few8 := few.ls
 have sh := shb_of hb hou hor
 have hmap : d.ins.map sI = x.mi.map (fun m => sI m.pi) := by rw [h.im, List.map_map]; rfl
 have s1 := sh.o
 have s2 := sh.i
 have s3 := sh.s
 have s4 := sh.a
 have s5 := sh.e
 rw [hmap] at s2
 have t1 := fl_take_le sO d.outs _ s1
 have t2 := fl_take_le (fun m : MI => sI m.pi) x.mi _ s2
 have t3 := fl_take_le sS d.srcs _ s3
 have t4 := fl_take_le sA d.args _ s4
 have t5 := fl_take_le sV d.env _ s5
 refine j_box (l := dcells d x) rfl (fun g0 hg0 hs0 => ?_)
 refine j_q (qs_ac) ?_
 refine j_q (qs_field U28 rfl sz9 (by decide) rfl) ?_
 refine j_q (qs_load (l := dcells d x) 0 U9 rfl rfl rfl rfl) ?_
 refine j_q (qs_sadd (l := d.name) (l' := [124]) rfl rfl (by first | omega | (simp only [List.length_append, List.length_cons, List.length_nil]; omega))) ?_
 refine j_q (qs_field U28 rfl sz9 (by decide) rfl) ?_
 refine j_q (qs_load (l := dcells d x) 0 U9 rfl rfl rfl rfl) ?_
 refine j_q (qs_sadd (l := (d.name ++ [124])) (l' := d.sys) rfl rfl (by first | omega | (simp only [List.length_append, List.length_cons, List.length_nil]; omega))) ?_
 refine j_q (qs_sadd (l := ((d.name ++ [124]) ++ d.sys)) (l' := [124]) rfl rfl (by first | omega | (simp only [List.length_append, List.length_cons, List.length_nil]; omega))) ?_
 refine j_q (qs_field U28 rfl sz9 (by decide) rfl) ?_
 refine j_q (qs_load (l := dcells d x) 0 U9 rfl rfl rfl rfl) ?_
 refine j_q (qs_sadd (l := (((d.name ++ [124]) ++ d.sys) ++ [124])) (l' := d.bld) rfl rfl (by first | omega | (simp only [List.length_append, List.length_cons, List.length_nil]; omega))) ?_
 obtain ⟨P0, hP0⟩ : ∃ p, p = ((((d.name ++ [124]) ++ d.sys) ++ [124]) ++ d.bld) := ⟨_, rfl⟩
 rw [← hP0]
 have hP0l : P0.length ≤ 1000000 := by
  rw [hP0]
  simp only [List.length_append, List.length_cons, List.length_nil]
  omega
 refine j_q (qs_ac) ?_
 refine j_loop (fun m vs S' => ∃ i : Nat, vs = [.string (bs (P0 ++ ((d.outs.take i).map sO).flatten)), .int .i64 (i : Int)] ∧ S' = [[(g0, .cells (dcells d x).toArray 28 (0, 0))], []] ∧ i ≤ d.outs.length ∧ m = d.outs.length - i) ⟨_, 0, by rw [fl_zero, List.append_nil]; rfl, rfl, Nat.zero_le _, rfl⟩ ?_
 rintro m vs S' hlen ⟨i, rfl, rfl, hin, rfl⟩
 refine j_q (qs_field U28 rfl sz26 (by decide) rfl) ?_
 refine j_q (qs_load (l := dcells d x) 0 U26 rfl rfl rfl (congrArg some hvo)) ?_
 refine j_q (qs_lenl U26 rfl) ?_
 refine j_q (qs_lss rfl rfl) ?_
 refine j_cond rfl (fun hc0 => ?_) (fun hc0 => ?_)
 ·skip
  have hi : i < d.outs.length := by
   simp only [bnA] at *
   omega
  obtain ⟨rfl, hgo, hcells⟩ := hAo (by omega)
  have hsl := few.ou _ (getD_mem (d := o0) hi)
  have h32 := (d.outs.getD i o0).hash.2
  have hti := t1 i
  refine j_draw ?_
  refine jq_q (qs_sadd (l := (P0 ++ ((d.outs.take i).map sO).flatten)) (l' := [124, 111]) rfl rfl (by first | omega | (simp only [List.length_append, List.length_cons, List.length_nil]; omega))) ?_
  refine jq_q (qs_field U28 rfl sz26 (by decide) rfl) ?_
  refine jq_q (qs_load (l := dcells d x) 0 U26 rfl rfl rfl (congrArg some hvo)) ?_
  refine jq_q (qs_ixn (g := go) (off := offo) (i := i) U26 sz53 rfl rfl (by omega)) ?_
  refine jq_q (qs_field U53 rfl sz9 (by decide) rfl) ?_
  refine jq_q (qs_loadrec (v := .string (bs (d.outs.getD i o0).name)) (encA := encO) (rs := d.outs) (d := o0) (i := i) (fo := 0) encO_len (rd_cells hcells (by simp)) hi U9 rfl rfl rfl) ?_
  refine jq_q (qs_sadd (l := ((P0 ++ ((d.outs.take i).map sO).flatten) ++ [124, 111])) (l' := (d.outs.getD i o0).name) rfl rfl (by first | omega | (simp only [List.length_append, List.length_cons, List.length_nil]; omega))) ?_
  refine jq_q (qs_field U28 rfl sz26 (by decide) rfl) ?_
  refine jq_q (qs_load (l := dcells d x) 0 U26 rfl rfl rfl (congrArg some hvo)) ?_
  refine jq_q (qs_ixn (g := go) (off := offo) (i := i) U26 sz53 rfl rfl (by omega)) ?_
  refine jq_q (qs_field U53 rfl sz49 (by decide) rfl) ?_
  refine jq_q (qs_loadrec (v := .string (bs (d.outs.getD i o0).path)) (encA := encO) (rs := d.outs) (d := o0) (i := i) (fo := 1) encO_len (rd_cells hcells (by simp)) hi U49 rfl rfl rfl) ?_
  refine jq_q (qs_sadd (l := (((P0 ++ ((d.outs.take i).map sO).flatten) ++ [124, 111]) ++ (d.outs.getD i o0).name)) (l' := (d.outs.getD i o0).path) rfl rfl (by first | omega | (simp only [List.length_append, List.length_cons, List.length_nil]; omega))) ?_
  refine jq_q (qs_field U28 rfl sz26 (by decide) rfl) ?_
  refine jq_q (qs_load (l := dcells d x) 0 U26 rfl rfl rfl (congrArg some hvo)) ?_
  refine jq_q (qs_ixn (g := go) (off := offo) (i := i) U26 sz53 rfl rfl (by omega)) ?_
  refine jq_q (qs_field U53 rfl sz51 (by decide) rfl) ?_
  refine jq_q (qs_cuta (a := 0) (z := 32) U51 sz5 rfl rfl rfl (by omega) (by omega)) ?_
  refine jq_q (qs_str (l := (d.outs.getD i o0).hash.1) (c := 32) U46 U5 U9 (by simp only [ev, (d.outs.getD i o0).hash.2]; rfl) (rd_rec (fo := 3) (d := o0) encO_len hcells hi (fun j u hu => by rw [Nat.add_comm]; exact hu))) ?_
  refine jq_q (qs_sadd (l := ((((P0 ++ ((d.outs.take i).map sO).flatten) ++ [124, 111]) ++ (d.outs.getD i o0).name) ++ (d.outs.getD i o0).path)) (l' := (d.outs.getD i o0).hash.1) rfl rfl (by first | omega | (simp only [List.length_append, List.length_cons, List.length_nil]; omega))) ?_
  refine jq_nil ?_
  refine j_q (qs_field U28 rfl sz26 (by decide) rfl) ?_
  refine j_q (qs_load (l := dcells d x) 0 U26 rfl rfl rfl (congrArg some hvo)) ?_
  refine j_q (qs_ixn (g := go) (off := offo) (i := i) U26 sz53 rfl rfl (by omega)) ?_
  refine j_q (qs_field U53 rfl sz4 (by decide) rfl) ?_
  refine j_q (qs_loadrec (v := .bool (d.outs.getD i o0).fixed) (encA := encO) (rs := d.outs) (d := o0) (i := i) (fo := 2) encO_len (rd_cells hcells (by simp)) hi U4 rfl rfl rfl) ?_
  refine j_cond rfl (fun hc1 => ?_) (fun hc1 => ?_)
  ·skip
   refine j_q (qs_sadd (l := (((((P0 ++ ((d.outs.take i).map sO).flatten) ++ [124, 111]) ++ (d.outs.getD i o0).name) ++ (d.outs.getD i o0).path) ++ (d.outs.getD i o0).hash.1)) (l' := [102, 105, 120, 101, 100]) rfl rfl (by first | omega | (simp only [List.length_append, List.length_cons, List.length_nil]; omega))) ?_
   refine j_q (qs_add64 rfl rfl (by omega)) ?_
   refine j_back rfl ?_
   exact ⟨d.outs.length - (i + 1), by omega, i + 1, vsi (by rw [fl_step sO (d := o0) hi]; unfold sO; rw [if_pos hc1]; simp only [List.append_assoc, List.cons_append, List.nil_append]) (by omega), rfl, by omega, rfl⟩
  ·skip
   refine j_q (qs_add64 rfl rfl (by omega)) ?_
   refine j_back rfl ?_
   exact ⟨d.outs.length - (i + 1), by omega, i + 1, vsi (by rw [fl_step sO (d := o0) hi]; unfold sO; rw [if_neg (by rw [hc1]; decide)]; simp only [List.append_assoc, List.cons_append, List.nil_append]; rw [List.append_nil]) (by omega), rfl, by omega, rfl⟩
 ·skip
  obtain rfl : i = d.outs.length := by
   simp only [bnA] at *
   omega
  rw [List.take_length]
  obtain ⟨P1, hP1⟩ : ∃ p, p = P0 ++ (d.outs.map sO).flatten := ⟨_, rfl⟩
  rw [← hP1]
  have hP1l : P1.length ≤ 200000000000 := by
   rw [hP1, List.length_append]
   omega
  refine j_q (qs_ac) ?_
  refine j_loop (fun m vs S' => ∃ i : Nat, vs = [.string (bs (P1 ++ ((x.mi.take i).map (fun m => sI m.pi)).flatten)), .int .i64 (i : Int)] ∧ S' = [[(g0, .cells (dcells d x).toArray 28 (0, 0))], []] ∧ i ≤ x.mi.length ∧ m = x.mi.length - i) ⟨_, 0, by rw [fl_zero, List.append_nil]; rfl, rfl, Nat.zero_le _, rfl⟩ ?_
  rintro m vs S' hlen ⟨i, rfl, rfl, hin, rfl⟩
  refine j_q (qs_field U28 rfl sz24 (by decide) rfl) ?_
  refine j_q (qs_load (l := dcells d x) 0 U24 rfl rfl rfl (congrArg some hvi)) ?_
  refine j_q (qs_lenl U24 rfl) ?_
  refine j_q (qs_lss rfl rfl) ?_
  refine j_cond rfl (fun hc2 => ?_) (fun hc2 => ?_)
  ·skip
   have hi : i < x.mi.length := by
    simp only [bnA] at *
    omega
   obtain ⟨rfl, hgi, hcells⟩ := hAi (by omega)
   have hsl := few.ip _ (hmem _ (getD_mem (d := m0) hi))
   simp only [MI.pi] at hsl
   have hti := t2 i
   have hso := sC_len _ (hou _ (hmem _ (getD_mem (d := m0) hi)))
   simp only [MI.pi] at hso
   have hsx := h.io _ (getD_mem (d := m0) hi)
   obtain ⟨Ax, capx, hvx, hcapx⟩ := strz_form hsx
   have htk := fl_take_le cm1 (x.mi.getD i m0).outs _ hso
   obtain ⟨Q, hQ⟩ : ∃ q, q = P1 ++ ((x.mi.take i).map (fun m => sI m.pi)).flatten ++ [124, 105] ++ (x.mi.getD i m0).drv := ⟨_, rfl⟩
   have hQl : Q.length ≤ 2400000000000000000 := by
    rw [hQ]
    simp only [List.length_append, List.length_cons, List.length_nil]
    omega
   refine j_q (qs_sadd (l := (P1 ++ ((x.mi.take i).map (fun m => sI m.pi)).flatten)) (l' := [124, 105]) rfl rfl (by first | omega | (simp only [List.length_append, List.length_cons, List.length_nil]; omega))) ?_
   refine j_q (qs_field U28 rfl sz24 (by decide) rfl) ?_
   refine j_q (qs_load (l := dcells d x) 0 U24 rfl rfl rfl (congrArg some hvi)) ?_
   refine j_q (qs_ixn (g := gi) (off := offi) (i := i) U24 sz68 rfl rfl (by omega)) ?_
   refine j_q (qs_field U68 rfl sz49 (by decide) rfl) ?_
   refine j_q (qs_loadrec (v := .string (bs (x.mi.getD i m0).drv)) (encA := encI) (rs := x.mi) (d := m0) (i := i) (fo := 0) encI_len (rd_cells hcells (by simp)) hi U49 rfl rfl rfl) ?_
   refine j_q (qs_sadd (l := ((P1 ++ ((x.mi.take i).map (fun m => sI m.pi)).flatten) ++ [124, 105])) (l' := (x.mi.getD i m0).drv) rfl rfl (by first | omega | (simp only [List.length_append, List.length_cons, List.length_nil]; omega))) ?_
   rw [← hQ]
   refine j_q (qs_ac) ?_
   refine j_loop (fun m vs S' => ∃ k : Nat, vs = [.string (bs (Q ++ (((x.mi.getD i m0).outs.take k).map cm1).flatten)), .int .i64 (k : Int)] ∧ S' = [[(g0, .cells (dcells d x).toArray 28 (0, 0))], []] ∧ k ≤ (x.mi.getD i m0).outs.length ∧ m = (x.mi.getD i m0).outs.length - k) ⟨_, 0, by rw [fl_zero, List.append_nil]; rfl, rfl, Nat.zero_le _, rfl⟩ ?_
   rintro m vs S' hlen ⟨k, rfl, rfl, hkn, rfl⟩
   refine j_q (qs_field U28 rfl sz24 (by decide) rfl) ?_
   refine j_q (qs_load (l := dcells d x) 0 U24 rfl rfl rfl (congrArg some hvi)) ?_
   refine j_q (qs_ixn (g := gi) (off := offi) (i := i) U24 sz68 rfl rfl (by omega)) ?_
   refine j_q (qs_field U68 rfl sz22 (by decide) rfl) ?_
   refine j_q (qs_loadrec (v := .slice Ax (x.mi.getD i m0).outs.length capx) (encA := encI) (rs := x.mi) (d := m0) (i := i) (fo := 1) encI_len (rd_cells hcells (by simp)) hi U22 rfl rfl (congrArg some hvx)) ?_
   refine j_q (qs_lenl U22 rfl) ?_
   refine j_q (qs_lss rfl rfl) ?_
   refine j_cond rfl (fun hc3 => ?_) (fun hc3 => ?_)
   ·skip
    have hk : k < (x.mi.getD i m0).outs.length := by
     simp only [bnA] at *
     omega
    obtain ⟨gx, offx, rfl, hgx, hcellx⟩ := strz_addr (hvx ▸ hsx) (by omega)
    have hkl := hou _ (hmem _ (getD_mem (d := m0) hi)) _ (getD_mem (l := (x.mi.getD i m0).outs) (d := []) hk)
    have htkk := htk k
    refine j_q (qs_sadd (l := (Q ++ (((x.mi.getD i m0).outs.take k).map cm1).flatten)) (l' := [44]) rfl rfl (by first | omega | (simp only [List.length_append, List.length_cons, List.length_nil]; omega))) ?_
    refine j_q (qs_field U28 rfl sz24 (by decide) rfl) ?_
    refine j_q (qs_load (l := dcells d x) 0 U24 rfl rfl rfl (congrArg some hvi)) ?_
    refine j_q (qs_ixn (g := gi) (off := offi) (i := i) U24 sz68 rfl rfl (by omega)) ?_
    refine j_q (qs_field U68 rfl sz22 (by decide) rfl) ?_
    refine j_q (qs_loadrec (v := .slice (some ⟨gx, offx, none⟩) (x.mi.getD i m0).outs.length capx) (encA := encI) (rs := x.mi) (d := m0) (i := i) (fo := 1) encI_len (rd_cells hcells (by simp)) hi U22 rfl rfl (congrArg some hvx)) ?_
    refine j_q (qs_ixn (g := gx) (off := offx) (i := k) U22 sz9 rfl rfl (by omega)) ?_
    refine j_q (qs_loadrs (i := k) (rd_cells hcellx (by simp)) U9 (by rw [add_off, Nat.mul_one]; rfl) (by omega)) ?_
    refine j_q (qs_sadd (l := ((Q ++ (((x.mi.getD i m0).outs.take k).map cm1).flatten) ++ [44])) (l' := ((x.mi.getD i m0).outs.getD k [])) rfl rfl (by first | omega | (simp only [List.length_append, List.length_cons, List.length_nil]; omega))) ?_
    refine j_q (qs_add64 rfl rfl (by omega)) ?_
    refine j_back rfl ?_
    exact ⟨(x.mi.getD i m0).outs.length - (k + 1), by omega, k + 1, vsi (by rw [fl_step cm1 (d := []) hk]; unfold cm1; simp only [List.append_assoc, List.cons_append, List.nil_append]) (by omega), rfl, by omega, rfl⟩
   ·skip
    obtain rfl : k = (x.mi.getD i m0).outs.length := by
     simp only [bnA] at *
     omega
    rw [List.take_length]
    refine j_q (qs_add64 rfl rfl (by omega)) ?_
    refine j_back rfl ?_
    exact ⟨x.mi.length - (i + 1), by omega, i + 1, vsi (by rw [fl_step (fun m : MI => sI m.pi) (d := m0) hi]; rw [hQ]; simp only [sI, MI.pi, sC]; simp only [List.append_assoc, List.cons_append, List.nil_append]) (by omega), rfl, by omega, rfl⟩
  ·skip
   obtain rfl : i = x.mi.length := by
    simp only [bnA] at *
    omega
   rw [List.take_length]
   obtain ⟨P2, hP2⟩ : ∃ p, p = P1 ++ (x.mi.map (fun m => sI m.pi)).flatten := ⟨_, rfl⟩
   rw [← hP2]
   have hP2l : P2.length ≤ 2310000000000000000 := by
    rw [hP2, List.length_append]
    omega
   refine j_q (qs_ac) ?_
   refine j_loop (fun m vs S' => ∃ i : Nat, vs = [.string (bs (P2 ++ ((d.srcs.take i).map sS).flatten)), .int .i64 (i : Int)] ∧ S' = [[(g0, .cells (dcells d x).toArray 28 (0, 0))], []] ∧ i ≤ d.srcs.length ∧ m = d.srcs.length - i) ⟨_, 0, by rw [fl_zero, List.append_nil]; rfl, rfl, Nat.zero_le _, rfl⟩ ?_
   rintro m vs S' hlen ⟨i, rfl, rfl, hin, rfl⟩
   refine j_q (qs_field U28 rfl sz25 (by decide) rfl) ?_
   refine j_q (qs_load (l := dcells d x) 0 U25 rfl rfl rfl (congrArg some hvs)) ?_
   refine j_q (qs_lenl U25 rfl) ?_
   refine j_q (qs_lss rfl rfl) ?_
   refine j_cond rfl (fun hc4 => ?_) (fun hc4 => ?_)
   ·skip
    have hi : i < d.srcs.length := by
     simp only [bnA] at *
     omega
    obtain ⟨gs, offs, rfl, hgs, hcells⟩ := strz_addr (hvs ▸ h.s) (by omega)
    have hsl := few.sr _ (getD_mem (d := []) hi)
    have hti := t3 i
    refine j_q (qs_sadd (l := (P2 ++ ((d.srcs.take i).map sS).flatten)) (l' := [124, 115]) rfl rfl (by first | omega | (simp only [List.length_append, List.length_cons, List.length_nil]; omega))) ?_
    refine j_q (qs_field U28 rfl sz25 (by decide) rfl) ?_
    refine j_q (qs_load (l := dcells d x) 0 U25 rfl rfl rfl (congrArg some hvs)) ?_
    refine j_q (qs_ixn (g := gs) (off := offs) (i := i) U25 sz49 rfl rfl (by omega)) ?_
    refine j_q (qs_loadrs (i := i) (rd_cells hcells (by simp)) U49 (by rw [add_off, Nat.mul_one]; rfl) (by omega)) ?_
    refine j_q (qs_sadd (l := ((P2 ++ ((d.srcs.take i).map sS).flatten) ++ [124, 115])) (l' := (d.srcs.getD i [])) rfl rfl (by first | omega | (simp only [List.length_append, List.length_cons, List.length_nil]; omega))) ?_
    refine j_q (qs_add64 rfl rfl (by omega)) ?_
    refine j_back rfl ?_
    exact ⟨d.srcs.length - (i + 1), by omega, i + 1, vsi (by rw [fl_step sS (d := []) hi]; unfold sS; simp only [List.append_assoc, List.cons_append, List.nil_append]) (by omega), rfl, by omega, rfl⟩
   ·skip
    obtain rfl : i = d.srcs.length := by
     simp only [bnA] at *
     omega
    rw [List.take_length]
    obtain ⟨P3, hP3⟩ : ∃ p, p = P2 ++ (d.srcs.map sS).flatten := ⟨_, rfl⟩
    rw [← hP3]
    have hP3l : P3.length ≤ 2320000000000000000 := by
     rw [hP3, List.length_append]
     omega
    refine j_q (qs_ac) ?_
    refine j_loop (fun m vs S' => ∃ i : Nat, vs = [.string (bs (P3 ++ ((d.args.take i).map sA).flatten)), .int .i64 (i : Int)] ∧ S' = [[(g0, .cells (dcells d x).toArray 28 (0, 0))], []] ∧ i ≤ d.args.length ∧ m = d.args.length - i) ⟨_, 0, by rw [fl_zero, List.append_nil]; rfl, rfl, Nat.zero_le _, rfl⟩ ?_
    rintro m vs S' hlen ⟨i, rfl, rfl, hin, rfl⟩
    refine j_q (qs_field U28 rfl sz22 (by decide) rfl) ?_
    refine j_q (qs_load (l := dcells d x) 0 U22 rfl rfl rfl (congrArg some hva)) ?_
    refine j_q (qs_lenl U22 rfl) ?_
    refine j_q (qs_lss rfl rfl) ?_
    refine j_cond rfl (fun hc5 => ?_) (fun hc5 => ?_)
    ·skip
     have hi : i < d.args.length := by
      simp only [bnA] at *
      omega
     obtain ⟨ga, offa, rfl, hga, hcells⟩ := strz_addr (hva ▸ h.a) (by omega)
     have hsl := few.ar _ (getD_mem (d := []) hi)
     have hti := t4 i
     refine j_q (qs_sadd (l := (P3 ++ ((d.args.take i).map sA).flatten)) (l' := [124, 97]) rfl rfl (by first | omega | (simp only [List.length_append, List.length_cons, List.length_nil]; omega))) ?_
     refine j_q (qs_field U28 rfl sz22 (by decide) rfl) ?_
     refine j_q (qs_load (l := dcells d x) 0 U22 rfl rfl rfl (congrArg some hva)) ?_
     refine j_q (qs_ixn (g := ga) (off := offa) (i := i) U22 sz9 rfl rfl (by omega)) ?_
     refine j_q (qs_loadrs (i := i) (rd_cells hcells (by simp)) U9 (by rw [add_off, Nat.mul_one]; rfl) (by omega)) ?_
     refine j_q (qs_sadd (l := ((P3 ++ ((d.args.take i).map sA).flatten) ++ [124, 97])) (l' := (d.args.getD i [])) rfl rfl (by first | omega | (simp only [List.length_append, List.length_cons, List.length_nil]; omega))) ?_
     refine j_q (qs_add64 rfl rfl (by omega)) ?_
     refine j_back rfl ?_
     exact ⟨d.args.length - (i + 1), by omega, i + 1, vsi (by rw [fl_step sA (d := []) hi]; unfold sA; simp only [List.append_assoc, List.cons_append, List.nil_append]) (by omega), rfl, by omega, rfl⟩
    ·skip
     obtain rfl : i = d.args.length := by
      simp only [bnA] at *
      omega
     rw [List.take_length]
     obtain ⟨P4, hP4⟩ : ∃ p, p = P3 ++ (d.args.map sA).flatten := ⟨_, rfl⟩
     rw [← hP4]
     have hP4l : P4.length ≤ 2330000000000000000 := by
      rw [hP4, List.length_append]
      omega
     refine j_q (qs_ac) ?_
     refine j_loop (fun m vs S' => ∃ i : Nat, vs = [.string (bs (P4 ++ ((d.env.take i).map sV).flatten)), .int .i64 (i : Int)] ∧ S' = [[(g0, .cells (dcells d x).toArray 28 (0, 0))], []] ∧ i ≤ d.env.length ∧ m = d.env.length - i) ⟨_, 0, by rw [fl_zero, List.append_nil]; rfl, rfl, Nat.zero_le _, rfl⟩ ?_
     rintro m vs S' hlen ⟨i, rfl, rfl, hin, rfl⟩
     refine j_q (qs_field U28 rfl sz23 (by decide) rfl) ?_
     refine j_q (qs_load (l := dcells d x) 0 U23 rfl rfl rfl (congrArg some hve)) ?_
     refine j_q (qs_lenl U23 rfl) ?_
     refine j_q (qs_lss rfl rfl) ?_
     refine j_cond rfl (fun hc6 => ?_) (fun hc6 => ?_)
     ·skip
      have hi : i < d.env.length := by
       simp only [bnA] at *
       omega
      obtain ⟨rfl, hge, hcells⟩ := hAe (by omega)
      have hsl := few.ev _ (getD_mem (d := v0) hi)
      have hti := t5 i
      refine j_draw ?_
      refine jq_q (qs_sadd (l := (P4 ++ ((d.env.take i).map sV).flatten)) (l' := [124, 101]) rfl rfl (by first | omega | (simp only [List.length_append, List.length_cons, List.length_nil]; omega))) ?_
      refine jq_q (qs_field U28 rfl sz23 (by decide) rfl) ?_
      refine jq_q (qs_load (l := dcells d x) 0 U23 rfl rfl rfl (congrArg some hve)) ?_
      refine jq_q (qs_ixn (g := ge) (off := offe) (i := i) U23 sz48 rfl rfl (by omega)) ?_
      refine jq_q (qs_field U48 rfl sz9 (by decide) rfl) ?_
      refine jq_q (qs_loadrec (v := .string (bs (d.env.getD i v0).name)) (encA := encV) (rs := d.env) (d := v0) (i := i) (fo := 0) encV_len (rd_cells hcells (by simp)) hi U9 rfl rfl rfl) ?_
      refine jq_q (qs_sadd (l := ((P4 ++ ((d.env.take i).map sV).flatten) ++ [124, 101])) (l' := (d.env.getD i v0).name) rfl rfl (by first | omega | (simp only [List.length_append, List.length_cons, List.length_nil]; omega))) ?_
      refine jq_q (qs_sadd (l := (((P4 ++ ((d.env.take i).map sV).flatten) ++ [124, 101]) ++ (d.env.getD i v0).name)) (l' := [61]) rfl rfl (by first | omega | (simp only [List.length_append, List.length_cons, List.length_nil]; omega))) ?_
      refine jq_q (qs_field U28 rfl sz23 (by decide) rfl) ?_
      refine jq_q (qs_load (l := dcells d x) 0 U23 rfl rfl rfl (congrArg some hve)) ?_
      refine jq_q (qs_ixn (g := ge) (off := offe) (i := i) U23 sz48 rfl rfl (by omega)) ?_
      refine jq_q (qs_field U48 rfl sz9 (by decide) rfl) ?_
      refine jq_q (qs_loadrec (v := .string (bs (d.env.getD i v0).val)) (encA := encV) (rs := d.env) (d := v0) (i := i) (fo := 1) encV_len (rd_cells hcells (by simp)) hi U9 rfl rfl rfl) ?_
      refine jq_q (qs_sadd (l := ((((P4 ++ ((d.env.take i).map sV).flatten) ++ [124, 101]) ++ (d.env.getD i v0).name) ++ [61])) (l' := (d.env.getD i v0).val) rfl rfl (by first | omega | (simp only [List.length_append, List.length_cons, List.length_nil]; omega))) ?_
      refine jq_nil ?_
      refine j_q (qs_add64 rfl rfl (by omega)) ?_
      refine j_back rfl ?_
      exact ⟨d.env.length - (i + 1), by omega, i + 1, vsi (by rw [fl_step sV (d := v0) hi]; unfold sV; simp only [List.append_assoc, List.cons_append, List.nil_append]) (by omega), rfl, by omega, rfl⟩
     ·skip
      obtain rfl : i = d.env.length := by
       simp only [bnA] at *
       omega
      rw [List.take_length]
      refine j_ret_con (vs := [_]) (fun w' hw' => ⟨rfl, trivial⟩) ?_
      show Value.string _ = _
      congr 2
      unfold dshow
      rw [hP4, hP3, hP2, hP1, hP0, hmap]
end Go.Proofs.YtfeabbeebkkhaaaGreat
/-! Dvk -/
namespace Go.Proofs.YtfeabbeebkkhaaaGreat
open Go Go.Sx
set_option maxRecDepth 100000
set_option maxHeartbeats 4000000
set_option linter.unusedVariables false
set_option linter.unusedSimpArgs false
attribute [local irreducible] J JQ QS Con W opW
abbrev kd : PD := ⟨[120], [115], [98], [], [], [], [], [⟨sOut, [], false, zHash⟩]⟩
theorem kd_chk : chk kd = 0 := by decide +kernel
theorem kd_text : dtext kd = [68, 101, 114, 105, 118, 101, 40, 34, 120, 34, 44, 91, 40, 34, 111, 117, 116, 34, 44, 34, 34, 44, 34, 34, 44, 34, 34, 41, 93, 44, 91, 93, 44, 91, 93, 44, 34, 115, 34, 44, 34, 98, 34, 44, 91, 93, 44, 91, 93, 41] := by decide +kernel
theorem Szd.outs {d : PD} (h : Szd d) : ∀ y ∈ d.ins, ∀ o ∈ y.outs, o.length ≤ 140737488355328 := fun y hy => (h.ip y hy).2.2
theorem Szd.outs2 {d : PD} (h : Szd d) : ∀ y ∈ d.ins, ∀ o ∈ y.outs, o.length ≤ 9223372036854775807 := fun y hy o ho => by
 have := h.outs y hy o ho
 omega
attribute [local irreducible] es qt cms hex Tbl Half lst isName isPath isDrvP leB chkO chkOuts chkN chkI chkIns firstE spA spB spE chkS chkV dtext chk chk0 tTs dshow big1 big2 heavyP
theorem known_con (w : World) : Con Tryz.prog 18 [] w [] fun v _ => v = .bool true := by
 refine con_of_tree mix Tryz.func18 T18_ok (by kernel_rfl) ?_
 unfold T18
 refine j_q (qs_ac) ?_
 refine j_q (v := .agg (encO ⟨sOut, [], false, zHash⟩).toArray) (qs_build (places := [(0, 1), (1, 1), (2, 1), (3, 32)]) (offs := [(0, [.string (bs sOut)])]) U53 zero53 (by kernel_rfl) rfl (by rintro (_ | j) p q hp hq <;> first | (simp at hp hq; subst hp hq; exact ⟨rfl, rfl, by simp⟩) | (simp at hp))) ?_
 refine j_litw (vs := encO ⟨sOut, [], false, zHash⟩) U26 sz53 zero53 rfl rfl ⟨rfl, by decide, by decide⟩ (fun g2 hg2 ho2 => ?_)
 refine j_q (v := dval kd ⟨.slice none 0 0, .slice none 0 0, .slice none 0 0, .slice none 0 0, .slice (some ⟨g2, 0, none⟩) 1 1, []⟩) (qs_build (places := [(0, 1), (1, 1), (2, 1), (3, 1), (4, 1), (5, 1), (6, 1), (7, 1)]) (offs := [(0, [.string (bs [120])]), (1, [.string (bs [115])]), (2, [.string (bs [98])]), (7, [.slice (some ⟨g2, 0, none⟩) 1 1])]) U28 zero28 (by kernel_rfl) rfl (by rintro (_ | _ | _ | _ | j) p q hp hq <;> first | (simp at hp hq; subst hp hq; exact ⟨rfl, rfl, by simp⟩) | (simp at hp))) ?_
 refine j_q (qs_call ent13 rfl rfl rfl (fun w' hw' => dprint_con kd _ w' ⟨strz_nil, ⟨rfl, .inl ⟨rfl, rfl⟩⟩, ⟨rfl, .inl ⟨rfl, rfl⟩⟩, (fun m hm => by cases hm), rfl, strz_nil, rsln_ownw (len := 1) (xs := (kd.outs.map encO).flatten) (by simpa using ho2) (by decide) rfl (fun p hp => hw'.own p (by simp at hp; subst hp; simp))⟩ (by unfold big2 big1; decide) (fun y hy => by cases hy))) ?_
 refine j_q (qs_ext (vs := [.string (bs (prS kd)), .int .i64 (chk kd)]) rfl rfl) ?_
 refine j_q (qs_ext (vs := [.string (bs (prS kd)), .int .i64 (chk kd)]) rfl rfl) ?_
 refine j_q (qs_eql rfl rfl) ?_
 refine j_g rfl (fun hb => qs_mt rfl) ?_
 refine j_g rfl (fun hb => qs_seql (gd_eq hb) rfl) ?_
 refine j_q (qs_and rfl rfl) ?_
 refine j_ret_con (vs := [_]) (fun w' hw' => ⟨rfl, trivial⟩) ?_
 show Value.bool _ = Value.bool true
 congr 1
 unfold prS
 rw [kd_chk, if_pos rfl, kd_text]
 rfl
end Go.Proofs.YtfeabbeebkkhaaaGreat
