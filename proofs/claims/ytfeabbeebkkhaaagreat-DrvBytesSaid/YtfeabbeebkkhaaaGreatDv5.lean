/- Derivations: their text, whole. -/
import Derived.Test.YtfeabbeebkkhaaaGreatTa
import Derived.Test.YtfeabbeebkkhaaaGreatDv4
namespace Go.Proofs.YtfeabbeebkkhaaaGreat
open Go Go.Sx
set_option maxRecDepth 100000
set_option maxHeartbeats 4000000
set_option linter.unusedVariables false
set_option linter.unusedSimpArgs false
attribute [local irreducible] J JQ QS Con W opW
theorem ent54 : Sx.Enters Tryz.prog 54 := ⟨_, Tryz.func54, by kernel_rfl, by kernel_rfl⟩
theorem ent66 : Sx.Enters Tryz.prog 66 := ⟨_, Tryz.func66, by kernel_rfl, by kernel_rfl⟩
theorem ent67 : Sx.Enters Tryz.prog 67 := ⟨_, Tryz.func67, by kernel_rfl, by kernel_rfl⟩
theorem ent68 : Sx.Enters Tryz.prog 68 := ⟨_, Tryz.func68, by kernel_rfl, by kernel_rfl⟩
theorem ent69 : Sx.Enters Tryz.prog 69 := ⟨_, Tryz.func69, by kernel_rfl, by kernel_rfl⟩
theorem ent70 : Sx.Enters Tryz.prog 70 := ⟨_, Tryz.func70, by kernel_rfl, by kernel_rfl⟩
theorem ent71 : Sx.Enters Tryz.prog 71 := ⟨_, Tryz.func71, by kernel_rfl, by kernel_rfl⟩
theorem ent72 : Sx.Enters Tryz.prog 72 := ⟨_, Tryz.func72, by kernel_rfl, by kernel_rfl⟩
theorem ent73 : Sx.Enters Tryz.prog 73 := ⟨_, Tryz.func73, by kernel_rfl, by kernel_rfl⟩
theorem ent74 : Sx.Enters Tryz.prog 74 := ⟨_, Tryz.func74, by kernel_rfl, by kernel_rfl⟩
theorem ent75 : Sx.Enters Tryz.prog 75 := ⟨_, Tryz.func75, by kernel_rfl, by kernel_rfl⟩
theorem ent118 : Sx.Enters Tryz.prog 118 := ⟨_, Tryz.func118, by kernel_rfl, by kernel_rfl⟩
theorem ent119 : Sx.Enters Tryz.prog 119 := ⟨_, Tryz.func119, by kernel_rfl, by kernel_rfl⟩
theorem ent122 : Sx.Enters Tryz.prog 122 := ⟨_, Tryz.func122, by kernel_rfl, by kernel_rfl⟩
theorem ent123 : Sx.Enters Tryz.prog 123 := ⟨_, Tryz.func123, by kernel_rfl, by kernel_rfl⟩
theorem ent124 : Sx.Enters Tryz.prog 124 := ⟨_, Tryz.func124, by kernel_rfl, by kernel_rfl⟩
theorem sz4 : (Tryz.prog.info? 4).map (·.size) = some 1 := by kernel_rfl

theorem mem_sum {α : Type} (f : α → Nat) {l : List α} {x : α} (h : x ∈ l) : f x ≤ (l.map f).sum := by
  induction l with
  | nil => cases h
  | cons a l ih =>
    rw [List.map_cons, List.sum_cons]
    rcases List.mem_cons.1 h with rfl | h
    · omega
    · have := ih h
      omega
theorem getD_mem {α : Type} {l : List α} {i : Nat} {d : α} (h : i < l.length) : l.getD i d ∈ l := by
  rw [List.getD_eq_getElem?_getD, List.getElem?_eq_getElem h]
  exact List.getElem_mem h
structure Few (d : PD) : Prop where
  nm : d.name.length ≤ 200000
  sy : d.sys.length ≤ 200000
  bl : d.bld.length ≤ 200000
  ar : ∀ x ∈ d.args, x.length ≤ 200000
  ev : ∀ x ∈ d.env, x.name.length + x.val.length ≤ 200000
  ip : ∀ x ∈ d.ins, x.drv.length + 10 * x.outs.length ≤ 200000
  ou : ∀ x ∈ d.outs, x.name.length + x.path.length ≤ 200000
  sr : ∀ x ∈ d.srcs, x.length ≤ 200000
  la : d.args.length ≤ 200000
  le : d.env.length ≤ 200000
  li : d.ins.length ≤ 200000
  lo : d.outs.length ≤ 200000
  ls : d.srcs.length ≤ 200000
theorem few_of {d : PD} (h : big2 d ≤ 200000) : Few d := by
  unfold big2 big1 at h
  refine ⟨by omega, by omega, by omega, fun x hx => ?_, fun x hx => ?_, fun x hx => ?_, fun x hx => ?_, fun x hx => ?_, by omega, by omega, by omega, by omega, by omega⟩
  · have := mem_sum List.length hx; unfold sl at h; omega
  · have := mem_sum (fun v : PV => v.name.length + v.val.length) hx; omega
  · have := mem_sum (fun x : PI => x.drv.length + 10 * x.outs.length) hx; omega
  · have := mem_sum (fun o : PO => o.name.length + o.path.length) hx; omega
  · have := mem_sum List.length hx; unfold sl at h; omega
theorem map_idB (l : List Bs) : l.map (fun s => s) = l := List.map_id' l
theorem lst_tTs (l : List Bs) : lst [91] (l.map qt) [93] = tTs l := rfl
attribute [local irreducible] es qt cms hex Tbl Half lst
/-- pantry.drv.tuple$1 -/
theorem tuple1_con (s : Bs) (w : World) : Con Tryz.prog 119 [.string (bs s)] w [] fun v _ => v = .string (bs s) := by
  refine con_of_tree mix Tryz.func119 T119_ok (by kernel_rfl) ?_
  unfold T119
  refine j_q (qs_ac) ?_
  refine j_ret_con (vs := [_]) (fun w' hw' => ⟨rfl, trivial⟩) ?_
  rfl
/-- pantry.drv.texts[string]$1 -/
theorem texts122_con (s : Bs) (w : World) (hs : s.length ≤ 1099511627776) : Con Tryz.prog 122 [.string (bs s)] w [] fun v _ => v = .string (bs (qt s)) := by
  refine con_of_tree mix Tryz.func122 T122_ok (by kernel_rfl) ?_
  unfold T122
  refine j_q (qs_ac) ?_
  refine j_q (qs_call ent69 rfl rfl rfl (fun w' hw' => quote_con s w' (by omega))) ?_
  refine j_ret_con (vs := [_]) (fun w' hw' => ⟨rfl, trivial⟩) ?_
  rfl
/-- pantry.drv.texts[pantry.api.Path]$1 -/
theorem texts124_con (s : Bs) (w : World) (hs : s.length ≤ 1099511627776) : Con Tryz.prog 124 [.string (bs s)] w [] fun v _ => v = .string (bs (qt s)) := by
  refine con_of_tree mix Tryz.func124 T124_ok (by kernel_rfl) ?_
  unfold T124
  refine j_q (qs_ac) ?_
  refine j_q (qs_call ent69 rfl rfl rfl (fun w' hw' => quote_con s w' (by omega))) ?_
  refine j_ret_con (vs := [_]) (fun w' hw' => ⟨rfl, trivial⟩) ?_
  rfl
/-- pantry.drv.tuple -/
theorem tuple_con (l : List Bs) (v : Value) (w : World) (hv : StrZ w v l) (hn : l.length ≤ 1000) (hl : (tup l).length ≤ 1099511627776) : Con Tryz.prog 68 [v] w [] fun u _ => u = .string (bs (tup l)) := by
  refine con_of_tree mix Tryz.func68 T68_ok (by kernel_rfl) ?_
  unfold T68
  refine j_q (qs_ac) ?_
  refine j_q (qs_call ent118 rfl rfl rfl (fun w' hw' => listS_con l _ [40] [41] 119 (fun s => s) w' (strz_keep hv hw') ent119 (fun i hi S w2 hs => tuple1_con _ w2) (by simp) (by omega) (by rw [map_idB]; exact hl))) ?_
  refine j_ret_con (vs := [_]) (fun w' hw' => ⟨rfl, trivial⟩) ?_
  rw [map_idB]
  rfl
/-- pantry.drv.texts[string] -/
theorem texts_72_con (l : List Bs) (v : Value) (w : World) (hv : StrZ w v l) (hm : ∀ x ∈ l, x.length ≤ 1099511627776) (hn : l.length ≤ 1000000) (hl : (tTs l).length ≤ 1099511627776) : Con Tryz.prog 72 [v] w [] fun u _ => u = .string (bs (tTs l)) := by
  refine con_of_tree mix Tryz.func72 T72_ok (by kernel_rfl) ?_
  unfold T72
  refine j_q (qs_ac) ?_
  refine j_q (qs_call ent118 rfl rfl rfl (fun w' hw' => listS_con l _ [91] [93] 122 qt w' (strz_keep hv hw') ent122 (fun i hi S w2 hs => texts122_con _ w2 (hm _ (getD_mem hi))) (by simp) (by omega) (by rw [lst_tTs]; exact hl))) ?_
  refine j_ret_con (vs := [_]) (fun w' hw' => ⟨rfl, trivial⟩) ?_
  rw [lst_tTs]
  rfl
/-- pantry.drv.texts[pantry.api.Path] -/
theorem texts_75_con (l : List Bs) (v : Value) (w : World) (hv : StrZ w v l) (hm : ∀ x ∈ l, x.length ≤ 1099511627776) (hn : l.length ≤ 1000000) (hl : (tTs l).length ≤ 1099511627776) : Con Tryz.prog 75 [v] w [] fun u _ => u = .string (bs (tTs l)) := by
  refine con_of_tree mix Tryz.func75 T75_ok (by kernel_rfl) ?_
  unfold T75
  refine j_q (qs_ac) ?_
  refine j_q (qs_call ent123 rfl rfl rfl (fun w' hw' => listP_con l _ [91] [93] 124 qt w' (strz_keep hv hw') ent124 (fun i hi S w2 hs => texts124_con _ w2 (hm _ (getD_mem hi))) (by simp) (by omega) (by rw [lst_tTs]; exact hl))) ?_
  refine j_ret_con (vs := [_]) (fun w' hw' => ⟨rfl, trivial⟩) ?_
  rw [lst_tTs]
  rfl
/-- pantry.drv.text$1 -/
theorem textO_con (o : PO) (w : World) (ho : o.name.length + o.path.length ≤ 1000000) : Con Tryz.prog 67 [.agg (encO o).toArray] w [] fun v _ => v = .string (bs (tO o)) := by
  refine con_of_tree mix Tryz.func67 T67_ok (by kernel_rfl) ?_
  unfold T67
  have hto := tO_le o
  have hhx : (hex o.hash.1).length = 64 := hexL _
  refine j_box (l := encO o) rfl (fun g0 hg0 hs0 => ?_)
  refine j_q (qs_ac) ?_
  refine j_q (qs_ac) ?_
  refine j_q (qs_ac) ?_
  refine j_q (qs_field Tryz.underlying53 rfl sz4 (by decide) rfl) ?_
  first
    | refine j_q (qs_load 0 Tryz.underlying4 rfl rfl rfl rfl) ?_
    | refine j_q (qs_load 1 Tryz.underlying4 rfl rfl rfl rfl) ?_
    | refine j_q (qs_load 2 Tryz.underlying4 rfl rfl rfl rfl) ?_
    | refine j_q (qs_load 3 Tryz.underlying4 rfl rfl rfl rfl) ?_
  refine j_cond rfl (fun hc0 => ?_) (fun hc0 => ?_)
  · skip
    have htoT : o.fixed = true → (tO o).length ≤ 1099511627776 := fun _ => by omega
    refine j_q (qs_field Tryz.underlying53 rfl sz51 (by decide) rfl) ?_
    refine j_q (qs_loada (i := 3) (n := 32) (l := encO o) 0 Tryz.underlying51 rfl sz51 rfl rfl (by rw [encO_len]; omega)) ?_
    rw [show ((encO o).drop 3).take 32 = ints o.hash.1 by show (ints o.hash.1).take 32 = _; rw [List.take_of_length_le (by rw [ints_length, o.hash.2]; omega)]]
    refine j_q (qs_call ent54 rfl rfl rfl (fun w' hw' => hex_con o.hash.1 w' o.hash.2)) ?_
    refine j_q (qs_ac) ?_
    refine j_draw ?_
    refine jq_q (qs_field Tryz.underlying53 rfl sz9 (by decide) rfl) ?_
    first
      | refine jq_q (qs_load 0 Tryz.underlying9 rfl rfl rfl rfl) ?_
      | refine jq_q (qs_load 1 Tryz.underlying9 rfl rfl rfl rfl) ?_
      | refine jq_q (qs_load 2 Tryz.underlying9 rfl rfl rfl rfl) ?_
      | refine jq_q (qs_load 3 Tryz.underlying9 rfl rfl rfl rfl) ?_
    refine jq_q (qs_call ent69 rfl rfl rfl (fun w' hw' => quote_con o.name w' (by first | omega | simp))) ?_
    refine jq_q (qs_field Tryz.underlying53 rfl sz49 (by decide) rfl) ?_
    first
      | refine jq_q (qs_load 0 Tryz.underlying49 rfl rfl rfl rfl) ?_
      | refine jq_q (qs_load 1 Tryz.underlying49 rfl rfl rfl rfl) ?_
      | refine jq_q (qs_load 2 Tryz.underlying49 rfl rfl rfl rfl) ?_
      | refine jq_q (qs_load 3 Tryz.underlying49 rfl rfl rfl rfl) ?_
    refine jq_q (qs_call ent69 rfl rfl rfl (fun w' hw' => quote_con o.path w' (by first | omega | simp))) ?_
    refine jq_q (qs_call ent69 rfl rfl rfl (fun w' hw' => quote_con sSha w' (by simp))) ?_
    refine jq_q (qs_call ent69 rfl rfl rfl (fun w' hw' => quote_con (hex o.hash.1) w' (by first | omega | simp))) ?_
    refine jq_nil ?_
    refine j_lit (vs := [.string (bs _), .string (bs _), .string (bs _), .string (bs _)]) Tryz.underlying22 sz9 zero9 rfl (by simp [oneV]) ⟨rfl, by decide⟩ (fun g18 v18 c18 hv18 hc18 ho18 => ?_)
    subst hv18 hc18
    refine j_q (qs_call ent68 rfl rfl rfl (fun w' hw' => tuple_con [qt o.name, qt o.path, qt sSha, qt (hex o.hash.1)] _ w' (strz_own (by exact ho18) 0 rfl hw') (by simp) (by have e := htoT hc0; unfold tO at e; rw [if_pos hc0, if_pos hc0] at e; exact e))) ?_
    refine j_ret_con (vs := [_]) (fun w' hw' => ⟨rfl, trivial⟩) ?_
    unfold tO
    rw [if_pos hc0, if_pos hc0]
    rfl
  · skip
    have htoT : o.fixed = false → (tO o).length ≤ 1099511627776 := fun _ => by omega
    refine j_draw ?_
    refine jq_q (qs_field Tryz.underlying53 rfl sz9 (by decide) rfl) ?_
    first
      | refine jq_q (qs_load 0 Tryz.underlying9 rfl rfl rfl rfl) ?_
      | refine jq_q (qs_load 1 Tryz.underlying9 rfl rfl rfl rfl) ?_
      | refine jq_q (qs_load 2 Tryz.underlying9 rfl rfl rfl rfl) ?_
      | refine jq_q (qs_load 3 Tryz.underlying9 rfl rfl rfl rfl) ?_
    refine jq_q (qs_call ent69 rfl rfl rfl (fun w' hw' => quote_con o.name w' (by first | omega | simp))) ?_
    refine jq_q (qs_field Tryz.underlying53 rfl sz49 (by decide) rfl) ?_
    first
      | refine jq_q (qs_load 0 Tryz.underlying49 rfl rfl rfl rfl) ?_
      | refine jq_q (qs_load 1 Tryz.underlying49 rfl rfl rfl rfl) ?_
      | refine jq_q (qs_load 2 Tryz.underlying49 rfl rfl rfl rfl) ?_
      | refine jq_q (qs_load 3 Tryz.underlying49 rfl rfl rfl rfl) ?_
    refine jq_q (qs_call ent69 rfl rfl rfl (fun w' hw' => quote_con o.path w' (by first | omega | simp))) ?_
    refine jq_q (qs_call ent69 rfl rfl rfl (fun w' hw' => quote_con [] w' (by first | omega | simp))) ?_
    refine jq_q (qs_call ent69 rfl rfl rfl (fun w' hw' => quote_con [] w' (by first | omega | simp))) ?_
    refine jq_nil ?_
    refine j_lit (vs := [.string (bs _), .string (bs _), .string (bs _), .string (bs _)]) Tryz.underlying22 sz9 zero9 rfl (by simp [oneV]) ⟨rfl, by decide⟩ (fun g28 v28 c28 hv28 hc28 ho28 => ?_)
    subst hv28 hc28
    refine j_q (qs_call ent68 rfl rfl rfl (fun w' hw' => tuple_con [qt o.name, qt o.path, qt [], qt []] _ w' (strz_own (by exact ho28) 0 rfl hw') (by simp) (by have e := htoT hc0; unfold tO at e; rw [if_neg (by rw [hc0]; decide), if_neg (by rw [hc0]; decide)] at e; exact e))) ?_
    refine j_ret_con (vs := [_]) (fun w' hw' => ⟨rfl, trivial⟩) ?_
    unfold tO
    rw [if_neg (by rw [hc0]; decide), if_neg (by rw [hc0]; decide)]
    rfl
/-- pantry.drv.text$2 -/
theorem textI_con (m : MI) (w : World) (hs : StrZ w m.v m.outs) (h1 : m.drv.length ≤ 1000000) (h2 : ∀ x ∈ m.outs, x.length ≤ 1000000) (h3 : m.outs.length ≤ 1000000) (h4 : (tI m.pi).length ≤ 1099511627776) (h5 : (tTs m.outs).length ≤ 1099511627776) : Con Tryz.prog 71 [.agg (encI m).toArray] w [] fun v _ => v = .string (bs (tI m.pi)) := by
  refine con_of_tree mix Tryz.func71 T71_ok (by kernel_rfl) ?_
  unfold T71
  refine j_box (l := encI m) rfl (fun g0 hg0 hs0 => ?_)
  refine j_q (qs_ac) ?_
  refine j_draw ?_
  refine jq_q (qs_field Tryz.underlying68 rfl sz49 (by decide) rfl) ?_
  first
    | refine jq_q (qs_load 0 Tryz.underlying49 rfl rfl rfl rfl) ?_
    | refine jq_q (qs_load 1 Tryz.underlying49 rfl rfl rfl rfl) ?_
    | refine jq_q (qs_load 2 Tryz.underlying49 rfl rfl rfl rfl) ?_
    | refine jq_q (qs_load 3 Tryz.underlying49 rfl rfl rfl rfl) ?_
  refine jq_q (qs_call ent69 rfl rfl rfl (fun w' hw' => quote_con m.drv w' (by omega))) ?_
  refine jq_q (qs_field Tryz.underlying68 rfl sz22 (by decide) rfl) ?_
  first
    | refine jq_q (qs_load 0 Tryz.underlying22 rfl rfl rfl rfl) ?_
    | refine jq_q (qs_load 1 Tryz.underlying22 rfl rfl rfl rfl) ?_
    | refine jq_q (qs_load 2 Tryz.underlying22 rfl rfl rfl rfl) ?_
    | refine jq_q (qs_load 3 Tryz.underlying22 rfl rfl rfl rfl) ?_
  refine jq_q (qs_call ent72 rfl rfl rfl (fun w' hw' => texts_72_con m.outs m.v w' (strz_keep hs hw') (fun x hx => by have := h2 x hx; omega) h3 h5)) ?_
  refine jq_nil ?_
  refine j_lit (vs := [.string (bs _), .string (bs _)]) Tryz.underlying22 sz9 zero9 rfl (by simp [oneV]) ⟨rfl, by decide⟩ (fun g8 v8 c8 hv8 hc8 ho8 => ?_)
  subst hv8 hc8
  refine j_q (qs_call ent68 rfl rfl rfl (fun w' hw' => tuple_con [qt m.drv, tTs m.outs] _ w' (strz_own (by exact ho8) 0 rfl hw') (by simp) h4)) ?_
  refine j_ret_con (vs := [_]) (fun w' hw' => ⟨rfl, trivial⟩) ?_
  rfl
/-- pantry.drv.text$3 -/
theorem textV_con (x : PV) (w : World) (h1 : x.name.length + x.val.length ≤ 1000000) : Con Tryz.prog 74 [.agg (encV x).toArray] w [] fun v _ => v = .string (bs (tV x)) := by
  refine con_of_tree mix Tryz.func74 T74_ok (by kernel_rfl) ?_
  unfold T74
  have htv := tV_le x
  refine j_box (l := encV x) rfl (fun g0 hg0 hs0 => ?_)
  refine j_q (qs_ac) ?_
  refine j_draw ?_
  refine jq_q (qs_field Tryz.underlying48 rfl sz9 (by decide) rfl) ?_
  first
    | refine jq_q (qs_load 0 Tryz.underlying9 rfl rfl rfl rfl) ?_
    | refine jq_q (qs_load 1 Tryz.underlying9 rfl rfl rfl rfl) ?_
    | refine jq_q (qs_load 2 Tryz.underlying9 rfl rfl rfl rfl) ?_
    | refine jq_q (qs_load 3 Tryz.underlying9 rfl rfl rfl rfl) ?_
  refine jq_q (qs_call ent69 rfl rfl rfl (fun w' hw' => quote_con x.name w' (by omega))) ?_
  refine jq_q (qs_field Tryz.underlying48 rfl sz9 (by decide) rfl) ?_
  first
    | refine jq_q (qs_load 0 Tryz.underlying9 rfl rfl rfl rfl) ?_
    | refine jq_q (qs_load 1 Tryz.underlying9 rfl rfl rfl rfl) ?_
    | refine jq_q (qs_load 2 Tryz.underlying9 rfl rfl rfl rfl) ?_
    | refine jq_q (qs_load 3 Tryz.underlying9 rfl rfl rfl rfl) ?_
  refine jq_q (qs_call ent69 rfl rfl rfl (fun w' hw' => quote_con x.val w' (by omega))) ?_
  refine jq_nil ?_
  refine j_lit (vs := [.string (bs _), .string (bs _)]) Tryz.underlying22 sz9 zero9 rfl (by simp [oneV]) ⟨rfl, by decide⟩ (fun g8 v8 c8 hv8 hc8 ho8 => ?_)
  subst hv8 hc8
  refine j_q (qs_call ent68 rfl rfl rfl (fun w' hw' => tuple_con [qt x.name, qt x.val] _ w' (strz_own (by exact ho8) 0 rfl hw') (by simp) (by unfold tV at htv; omega))) ?_
  refine j_ret_con (vs := [_]) (fun w' hw' => ⟨rfl, trivial⟩) ?_
  rfl
/-- pantry.drv.text -/
theorem dtext_con (d : PD) (x : DV) (w : World) (h : DR w d x) (tb : TB d) : Con Tryz.prog 36 [dval d x] w [] fun v _ => v = .string (bs (dtext d)) := by
  refine con_of_tree mix Tryz.func36 T36_ok (by kernel_rfl) ?_
  unfold T36
  have few := few_of tb.sm
  have hdl := dtext_le tb
  have hni : d.ins.length = x.mi.length := by rw [h.im, List.length_map]
  have tbo := tb.o
  have tbi := tb.i
  have tbe := tb.e
  have tbs := tb.s
  have tba := tb.a
  have few1 := few.nm
  have few2 := few.sy
  have few3 := few.bl
  have few4 := few.la
  have few5 := few.le
  have few6 := few.li
  have few7 := few.lo
  have few8 := few.ls
  have hmem : ∀ i, i < x.mi.length → (x.mi.getD i m0).pi ∈ d.ins := fun i hi => by rw [h.im]; exact List.mem_map_of_mem (getD_mem hi)
  have hmap : d.ins.map tI = x.mi.map (fun m => tI m.pi) := by rw [h.im, List.map_map]; rfl
  refine j_box (l := dcells d x) rfl (fun g0 hg0 hs0 => ?_)
  refine j_q (qs_ac) ?_
  refine j_q (qs_field Tryz.underlying28 rfl sz26 (by decide) rfl) ?_
  first
    | refine j_q (qs_load 0 Tryz.underlying26 rfl rfl rfl rfl) ?_
    | refine j_q (qs_load 1 Tryz.underlying26 rfl rfl rfl rfl) ?_
    | refine j_q (qs_load 2 Tryz.underlying26 rfl rfl rfl rfl) ?_
    | refine j_q (qs_load 3 Tryz.underlying26 rfl rfl rfl rfl) ?_
  refine j_q (qs_call ent66 rfl rfl rfl (fun w' hw' => listO_con d.outs x.vo [91] [93] 67 tO w' (rsln_keep h.o hw') ent67 (fun i hi S w2 hs => textO_con _ w2 (by have := few.ou _ (getD_mem (d := o0) hi); omega)) (by simp) (by omega) (by omega))) ?_
  refine j_q (qs_field Tryz.underlying28 rfl sz24 (by decide) rfl) ?_
  first
    | refine j_q (qs_load 0 Tryz.underlying24 rfl rfl rfl rfl) ?_
    | refine j_q (qs_load 1 Tryz.underlying24 rfl rfl rfl rfl) ?_
    | refine j_q (qs_load 2 Tryz.underlying24 rfl rfl rfl rfl) ?_
    | refine j_q (qs_load 3 Tryz.underlying24 rfl rfl rfl rfl) ?_
  refine j_q (qs_call ent70 rfl rfl rfl (fun w' hw' => listI_con x.mi x.vi [91] [93] 71 (fun m => tI m.pi) w' (rsln_keep h.i hw') (fun i hi => MI.one (h.io _ (getD_mem hi))) ent71 (fun i hi S w2 hs => textI_con _ w2 (strz_keep (strz_keep (h.io _ (getD_mem hi)) hw') hs) (by have := few.ip _ (hmem i hi); simp only [MI.pi] at this; omega) (fun y hy => by have := tb.out _ (hmem i hi) y hy; omega) (by have := few.ip _ (hmem i hi); simp only [MI.pi] at this; omega) (by have := tI_le _ (tb.out _ (hmem i hi)); have := few.ip _ (hmem i hi); omega) (by have h1 := tTs_le (x.mi.getD i m0).outs; have h2 := sl_le80 (tb.out _ (hmem i hi)); have h3 := few.ip _ (hmem i hi); simp only [MI.pi] at h2 h3; omega)) (by simp) (by omega) (by rw [← hmap]; omega))) ?_
  rw [← hmap]
  refine j_q (qs_field Tryz.underlying28 rfl sz23 (by decide) rfl) ?_
  first
    | refine j_q (qs_load 0 Tryz.underlying23 rfl rfl rfl rfl) ?_
    | refine j_q (qs_load 1 Tryz.underlying23 rfl rfl rfl rfl) ?_
    | refine j_q (qs_load 2 Tryz.underlying23 rfl rfl rfl rfl) ?_
    | refine j_q (qs_load 3 Tryz.underlying23 rfl rfl rfl rfl) ?_
  refine j_q (qs_call ent73 rfl rfl rfl (fun w' hw' => listV_con d.env x.ve [91] [93] 74 tV w' (rsln_keep h.e hw') ent74 (fun i hi S w2 hs => textV_con _ w2 (by have := few.ev _ (getD_mem (d := v0) hi); omega)) (by simp) (by omega) (by omega))) ?_
  refine j_draw ?_
  refine jq_q (qs_field Tryz.underlying28 rfl sz9 (by decide) rfl) ?_
  first
    | refine jq_q (qs_load 0 Tryz.underlying9 rfl rfl rfl rfl) ?_
    | refine jq_q (qs_load 1 Tryz.underlying9 rfl rfl rfl rfl) ?_
    | refine jq_q (qs_load 2 Tryz.underlying9 rfl rfl rfl rfl) ?_
    | refine jq_q (qs_load 3 Tryz.underlying9 rfl rfl rfl rfl) ?_
  refine jq_q (qs_call ent69 rfl rfl rfl (fun w' hw' => quote_con d.name w' (by omega))) ?_
  refine jq_q (qs_field Tryz.underlying28 rfl sz25 (by decide) rfl) ?_
  first
    | refine jq_q (qs_load 0 Tryz.underlying25 rfl rfl rfl rfl) ?_
    | refine jq_q (qs_load 1 Tryz.underlying25 rfl rfl rfl rfl) ?_
    | refine jq_q (qs_load 2 Tryz.underlying25 rfl rfl rfl rfl) ?_
    | refine jq_q (qs_load 3 Tryz.underlying25 rfl rfl rfl rfl) ?_
  refine jq_q (qs_call ent75 rfl rfl rfl (fun w' hw' => texts_75_con d.srcs x.vs w' (strz_keep h.s hw') (fun y hy => by have := few.sr y hy; omega) (by omega) (by omega))) ?_
  refine jq_q (qs_field Tryz.underlying28 rfl sz9 (by decide) rfl) ?_
  first
    | refine jq_q (qs_load 0 Tryz.underlying9 rfl rfl rfl rfl) ?_
    | refine jq_q (qs_load 1 Tryz.underlying9 rfl rfl rfl rfl) ?_
    | refine jq_q (qs_load 2 Tryz.underlying9 rfl rfl rfl rfl) ?_
    | refine jq_q (qs_load 3 Tryz.underlying9 rfl rfl rfl rfl) ?_
  refine jq_q (qs_call ent69 rfl rfl rfl (fun w' hw' => quote_con d.sys w' (by omega))) ?_
  refine jq_q (qs_field Tryz.underlying28 rfl sz9 (by decide) rfl) ?_
  first
    | refine jq_q (qs_load 0 Tryz.underlying9 rfl rfl rfl rfl) ?_
    | refine jq_q (qs_load 1 Tryz.underlying9 rfl rfl rfl rfl) ?_
    | refine jq_q (qs_load 2 Tryz.underlying9 rfl rfl rfl rfl) ?_
    | refine jq_q (qs_load 3 Tryz.underlying9 rfl rfl rfl rfl) ?_
  refine jq_q (qs_call ent69 rfl rfl rfl (fun w' hw' => quote_con d.bld w' (by omega))) ?_
  refine jq_q (qs_field Tryz.underlying28 rfl sz22 (by decide) rfl) ?_
  first
    | refine jq_q (qs_load 0 Tryz.underlying22 rfl rfl rfl rfl) ?_
    | refine jq_q (qs_load 1 Tryz.underlying22 rfl rfl rfl rfl) ?_
    | refine jq_q (qs_load 2 Tryz.underlying22 rfl rfl rfl rfl) ?_
    | refine jq_q (qs_load 3 Tryz.underlying22 rfl rfl rfl rfl) ?_
  refine jq_q (qs_call ent72 rfl rfl rfl (fun w' hw' => texts_72_con d.args x.va w' (strz_keep h.a hw') (fun y hy => by have := few.ar y hy; omega) (by omega) (by omega))) ?_
  refine jq_nil ?_
  refine j_lit (vs := [.string (bs _), .string (bs _), .string (bs _), .string (bs _), .string (bs _), .string (bs _), .string (bs _), .string (bs _)]) Tryz.underlying22 sz9 zero9 rfl (by simp [oneV]) ⟨rfl, by decide⟩ (fun g26 v26 c26 hv26 hc26 ho26 => ?_)
  subst hv26 hc26
  refine j_q (qs_call ent68 rfl rfl rfl (fun w' hw' => tuple_con [qt d.name, lst [91] (d.outs.map tO) [93], lst [91] (d.ins.map tI) [93], tTs d.srcs, qt d.sys, qt d.bld, tTs d.args, lst [91] (d.env.map tV) [93]] _ w' (strz_own (by exact ho26) 0 rfl hw') (by simp) (by unfold dtext at hdl; rw [List.length_append] at hdl; omega))) ?_
  refine j_q (qs_sadd (l := sDerive) rfl rfl (by unfold dtext at hdl; rw [List.length_append] at hdl; omega)) ?_
  refine j_ret_con (vs := [_]) (fun w' hw' => ⟨rfl, trivial⟩) ?_
  rfl
end Go.Proofs.YtfeabbeebkkhaaaGreat
