/- Part 7. -/
import Derived.Test.YtfeabbeebkkhaaaGreatPD2
import Derived.Test.YtfeabbeebkkhaaaGreatPD6
import Derived.Test.YtfeabbeebkkhaaaGreatPD3
/-! Dv12 -/
namespace Go.Proofs.YtfeabbeebkkhaaaGreat
open Go Go.Sx
set_option maxRecDepth 100000
set_option maxHeartbeats 4000000
set_option linter.unusedVariables false
set_option linter.unusedSimpArgs false
attribute [local irreducible] J JQ QS Con W opW
def sO (o : PO) : Bs := [124, 111] ++ o.name ++ o.path ++ o.hash.1 ++ (if o.fixed then [102, 105, 120, 101, 100] else [])
def cm1 (o : Bs) : Bs := [44] ++ o
def sC (l : List Bs) : Bs := (l.map cm1).flatten
def sI (x : PI) : Bs := [124, 105] ++ x.drv ++ sC x.outs
def sS (p : Bs) : Bs := [124, 115] ++ p
def sA (p : Bs) : Bs := [124, 97] ++ p
def sV (v : PV) : Bs := [124, 101] ++ v.name ++ [61] ++ v.val
def dshow (d : PD) : Bs := d.name ++ [124] ++ d.sys ++ [124] ++ d.bld ++ (d.outs.map sO).flatten ++ (d.ins.map sI).flatten ++ (d.srcs.map sS).flatten ++ (d.args.map sA).flatten ++ (d.env.map sV).flatten
theorem fl_step {α : Type} (f : α → Bs) {l : List α} {i : Nat} {d : α} (h : i < l.length) : ((l.take (i + 1)).map f).flatten = ((l.take i).map f).flatten ++ f (l.getD i d) := by
  rw [take_map_snoc f (d := d) h, List.flatten_append]
  simp
theorem fl_zero {α : Type} (f : α → Bs) (l : List α) : ((l.take 0).map f).flatten = [] := by simp
theorem fl_take_le {α : Type} (f : α → Bs) (l : List α) (n : Nat) (h : ((l.map f).flatten).length ≤ n) : ∀ i, (((l.take i).map f).flatten).length ≤ n := fun i => by
  have : (l.map f).flatten = ((l.take i).map f).flatten ++ ((l.drop i).map f).flatten := by
    conv => lhs; rw [← List.take_append_drop i l]
    rw [List.map_append, List.flatten_append]
  rw [this, List.length_append] at h
  omega
theorem fl_len {α : Type} (f : α → Bs) (g : α → Nat) (k c : Nat) (l : List α) (h : ∀ x ∈ l, (f x).length ≤ k * g x + c) : ((l.map f).flatten).length ≤ k * (l.map g).sum + c * l.length := by
  induction l with
  | nil => simp
  | cons a l ih =>
    have h1 := h a (by simp)
    have h2 := ih fun x hx => h x (by simp [hx])
    simp only [List.map_cons, List.flatten_cons, List.length_append, List.sum_cons, List.length_cons, Nat.mul_add, Nat.mul_one]
    omega
theorem sC_len (l : List Bs) (h : ∀ o ∈ l, o.length ≤ 140737488355328) : (sC l).length ≤ 140737488355329 * l.length := by
  have := fl_len cm1 (fun _ => 0) 0 140737488355329 l (fun x hx => by have := h x hx; unfold cm1; simp only [List.length_append, List.length_cons, List.length_nil]; omega)
  unfold sC
  omega
structure ShB (d : PD) : Prop where
  o : ((d.outs.map sO).flatten).length ≤ 100000000000
  i : ((d.ins.map sI).flatten).length ≤ 2300000000000000000
  s : ((d.srcs.map sS).flatten).length ≤ 100000000000
  a : ((d.args.map sA).flatten).length ≤ 100000000000
  e : ((d.env.map sV).flatten).length ≤ 100000000000
theorem sC_lenK (K : Nat) (l : List Bs) (h : ∀ o ∈ l, o.length ≤ K) : (sC l).length ≤ (K + 1) * l.length := by
  have := fl_len cm1 (fun _ => 0) 0 (K + 1) l (fun x hx => by have := h x hx; unfold cm1; simp only [List.length_append, List.length_cons, List.length_nil]; omega)
  unfold sC
  omega
theorem shb_of {d : PD} (hb : big2 d ≤ 200000) (hou : ∀ y ∈ d.ins, ∀ o ∈ y.outs, o.length ≤ 140737488355328) (hor : big2 d ≤ 16000 ∨ ∀ y ∈ d.ins, ∀ o ∈ y.outs, o.length ≤ 3000000) : ShB d := by
  have few := few_of (Nat.le_trans hb (by decide))
  have h1 := fl_len sO (fun _ => 0) 0 300000 d.outs (fun x hx => by
    have := few.ou x hx
    have h32 := x.hash.2
    unfold sO
    simp only [List.length_append, List.length_cons, List.length_nil, h32]
    split <;> simp <;> omega)
  have hs : (d.ins.map fun x => x.drv.length + 10 * x.outs.length).sum ≤ big2 d := by
    unfold big2 big1
    omega
  have h2 : ((d.ins.map sI).flatten).length ≤ 2300000000000000000 := by
    have g2 := few.li
    rcases hor with ho | ho
    · have := fl_len sI (fun x : PI => x.drv.length + 10 * x.outs.length) 140737488355329 2 d.ins (fun x hx => by
        have := sC_len x.outs (hou x hx)
        unfold sI
        simp only [List.length_append, List.length_cons, List.length_nil]
        omega)
      omega
    · have := fl_len sI (fun x : PI => x.drv.length + 10 * x.outs.length) 3000001 2 d.ins (fun x hx => by
        have := sC_lenK 3000000 x.outs (ho x hx)
        unfold sI
        simp only [List.length_append, List.length_cons, List.length_nil]
        omega)
      omega
  have h3 := fl_len sS (fun _ => 0) 0 300000 d.srcs (fun x hx => by
    have := few.sr x hx
    unfold sS
    simp only [List.length_append, List.length_cons, List.length_nil]
    omega)
  have h4 := fl_len sA (fun _ => 0) 0 300000 d.args (fun x hx => by
    have := few.ar x hx
    unfold sA
    simp only [List.length_append, List.length_cons, List.length_nil]
    omega)
  have h5 := fl_len sV (fun _ => 0) 0 300000 d.env (fun x hx => by
    have := few.ev x hx
    unfold sV
    simp only [List.length_append, List.length_cons, List.length_nil]
    omega)
  have g1 := few.lo
  have g2 := few.li
  have g3 := few.ls
  have g4 := few.la
  have g5 := few.le
  exact ⟨by omega, h2, by omega, by omega, by omega⟩
theorem rd_rec {w : World} {S : List SH} {α : Type} {enc : α → List Value} {N : Nat} {rs : List α} {d : α} {g off i fo : Nat} {vs : List Value} (hl : ∀ a, (enc a).length = N) (h : Cells w ⟨g, off, none⟩ (rs.map enc).flatten) (hi : i < rs.length) (hv : ∀ j u, vs[j]? = some u → (enc (rs.getD i d))[fo + j]? = some u) : Rd ⟨w, dom []⟩ S ⟨g, off + i * N + fo, none⟩ vs := fun w' hw' j u hu => by
  have h1 := hv j u hu
  have hlt : fo + j < N := by
    have := (List.getElem?_eq_some_iff.1 h1).1
    rwa [hl] at this
  have h2 := rd_w (rd_cells (b := ⟨w, dom []⟩) h (by simp)) hw' (i * N + (fo + j)) u (by
    rw [flat_get hl rs i (fo + j) hlt, List.getElem?_eq_getElem hi]
    rw [List.getD_eq_getElem?_getD, List.getElem?_eq_getElem hi] at h1
    exact h1)
  rw [add_off] at h2 ⊢
  rw [← h2]
  congr 2
  omega
theorem vsi {a b : Bs} {m n : Int} (h1 : a = b) (h2 : m = n) : [Value.string (bs a), .int .i64 m] = [Value.string (bs b), .int .i64 n] := by rw [h1, h2]
attribute [local irreducible] es qt cms hex Tbl Half lst isName isPath isDrvP leB chkO chkOuts chkN chkI chkIns firstE spA spB spE chkS chkV dtext chk chk0 tTs
theorem ltext_con (d : PD) (x : DV) (w : World) (h : DR w d x) (hb : big2 d ≤ 200000) (hou : ∀ y ∈ d.ins, ∀ o ∈ y.outs, o.length ≤ 140737488355328) (hor : big2 d ≤ 16000 ∨ ∀ y ∈ d.ins, ∀ o ∈ y.outs, o.length ≤ 3000000) : Con Tryz.prog 17 [dval d x] w [] fun v _ => v = .string (bs (dshow d)) := by
  refine con_of_tree mix Tryz.func17 T17_ok (by kernel_rfl) ?_
  unfold T17
  have hni : d.ins.length = x.mi.length := by rw [h.im, List.length_map]
  obtain ⟨Ao, capo, go, offo, hvo, hcapo, hAo⟩ := rsln_form h.o
  obtain ⟨Ai, capi, gi, offi, hvi, hcapi, hAi⟩ := rsln_form h.i
  obtain ⟨Ae, cape, ge, offe, hve, hcape, hAe⟩ := rsln_form h.e
  obtain ⟨As, caps, hvs, hcaps⟩ := strz_form h.s
  obtain ⟨Aa, capa, hva, hcapa⟩ := strz_form h.a
  have hmem : ∀ m ∈ x.mi, m.pi ∈ d.ins := fun m hm => by rw [h.im]; exact List.mem_map_of_mem hm
  have few := few_of (Nat.le_trans hb (by decide))
  have few1 := few.nm
  have few2 := few.sy
  have few3 := few.bl
  have few4 := few.la
  have few5 := few.le
  have few6 := few.li
  have few7 := few.lo
  have few8 := few.ls
  have sh := shb_of hb hou hor
  have hmap : d.ins.map sI = x.mi.map (fun m => sI m.pi) := by rw [h.im, List.map_map]; rfl
  have s1 := sh.o
  have s2 := sh.i
  have s3 := sh.s
  have s4 := sh.a
  have s5 := sh.e
  rw [hmap] at s2
  have t1 := fl_take_le sO d.outs _ s1
  have t2 := fl_take_le (fun m : MI => sI m.pi) x.mi _ s2
  have t3 := fl_take_le sS d.srcs _ s3
  have t4 := fl_take_le sA d.args _ s4
  have t5 := fl_take_le sV d.env _ s5
  refine j_box (l := dcells d x) rfl (fun g0 hg0 hs0 => ?_)
  refine j_q (qs_ac) ?_
  refine j_q (qs_field Tryz.underlying28 rfl sz9 (by decide) rfl) ?_
  refine j_q (qs_load (l := dcells d x) 0 Tryz.underlying9 rfl rfl rfl rfl) ?_
  refine j_q (qs_sadd (l := d.name) (l' := [124]) rfl rfl (by first | omega | (simp only [List.length_append, List.length_cons, List.length_nil]; omega))) ?_
  refine j_q (qs_field Tryz.underlying28 rfl sz9 (by decide) rfl) ?_
  refine j_q (qs_load (l := dcells d x) 0 Tryz.underlying9 rfl rfl rfl rfl) ?_
  refine j_q (qs_sadd (l := (d.name ++ [124])) (l' := d.sys) rfl rfl (by first | omega | (simp only [List.length_append, List.length_cons, List.length_nil]; omega))) ?_
  refine j_q (qs_sadd (l := ((d.name ++ [124]) ++ d.sys)) (l' := [124]) rfl rfl (by first | omega | (simp only [List.length_append, List.length_cons, List.length_nil]; omega))) ?_
  refine j_q (qs_field Tryz.underlying28 rfl sz9 (by decide) rfl) ?_
  refine j_q (qs_load (l := dcells d x) 0 Tryz.underlying9 rfl rfl rfl rfl) ?_
  refine j_q (qs_sadd (l := (((d.name ++ [124]) ++ d.sys) ++ [124])) (l' := d.bld) rfl rfl (by first | omega | (simp only [List.length_append, List.length_cons, List.length_nil]; omega))) ?_
  obtain ⟨P0, hP0⟩ : ∃ p, p = ((((d.name ++ [124]) ++ d.sys) ++ [124]) ++ d.bld) := ⟨_, rfl⟩
  rw [← hP0]
  have hP0l : P0.length ≤ 1000000 := by
    rw [hP0]
    simp only [List.length_append, List.length_cons, List.length_nil]
    omega
  refine j_q (qs_ac) ?_
  refine j_loop (fun m vs S' => ∃ i : Nat, vs = [.string (bs (P0 ++ ((d.outs.take i).map sO).flatten)), .int .i64 (i : Int)] ∧ S' = [[(g0, .cells (dcells d x).toArray 28 (0, 0))], []] ∧ i ≤ d.outs.length ∧ m = d.outs.length - i) ⟨_, 0, by rw [fl_zero, List.append_nil]; rfl, rfl, Nat.zero_le _, rfl⟩ ?_
  rintro m vs S' hlen ⟨i, rfl, rfl, hin, rfl⟩
  refine j_q (qs_field Tryz.underlying28 rfl sz26 (by decide) rfl) ?_
  refine j_q (qs_load (l := dcells d x) 0 Tryz.underlying26 rfl rfl rfl (congrArg some hvo)) ?_
  refine j_q (qs_lenl Tryz.underlying26 rfl) ?_
  refine j_q (qs_lss rfl rfl) ?_
  refine j_cond rfl (fun hc0 => ?_) (fun hc0 => ?_)
  · skip
    have hi : i < d.outs.length := by
      simp only [bnA] at *
      omega
    obtain ⟨rfl, hgo, hcells⟩ := hAo (by omega)
    have hsl := few.ou _ (getD_mem (d := o0) hi)
    have h32 := (d.outs.getD i o0).hash.2
    have hti := t1 i
    refine j_draw ?_
    refine jq_q (qs_sadd (l := (P0 ++ ((d.outs.take i).map sO).flatten)) (l' := [124, 111]) rfl rfl (by first | omega | (simp only [List.length_append, List.length_cons, List.length_nil]; omega))) ?_
    refine jq_q (qs_field Tryz.underlying28 rfl sz26 (by decide) rfl) ?_
    refine jq_q (qs_load (l := dcells d x) 0 Tryz.underlying26 rfl rfl rfl (congrArg some hvo)) ?_
    refine jq_q (qs_ixn (g := go) (off := offo) (i := i) Tryz.underlying26 sz53 rfl rfl (by omega)) ?_
    refine jq_q (qs_field Tryz.underlying53 rfl sz9 (by decide) rfl) ?_
    refine jq_q (qs_loadrec (v := .string (bs (d.outs.getD i o0).name)) (encA := encO) (rs := d.outs) (d := o0) (i := i) (fo := 0) encO_len (rd_cells hcells (by simp)) hi Tryz.underlying9 rfl rfl rfl) ?_
    refine jq_q (qs_sadd (l := ((P0 ++ ((d.outs.take i).map sO).flatten) ++ [124, 111])) (l' := (d.outs.getD i o0).name) rfl rfl (by first | omega | (simp only [List.length_append, List.length_cons, List.length_nil]; omega))) ?_
    refine jq_q (qs_field Tryz.underlying28 rfl sz26 (by decide) rfl) ?_
    refine jq_q (qs_load (l := dcells d x) 0 Tryz.underlying26 rfl rfl rfl (congrArg some hvo)) ?_
    refine jq_q (qs_ixn (g := go) (off := offo) (i := i) Tryz.underlying26 sz53 rfl rfl (by omega)) ?_
    refine jq_q (qs_field Tryz.underlying53 rfl sz49 (by decide) rfl) ?_
    refine jq_q (qs_loadrec (v := .string (bs (d.outs.getD i o0).path)) (encA := encO) (rs := d.outs) (d := o0) (i := i) (fo := 1) encO_len (rd_cells hcells (by simp)) hi Tryz.underlying49 rfl rfl rfl) ?_
    refine jq_q (qs_sadd (l := (((P0 ++ ((d.outs.take i).map sO).flatten) ++ [124, 111]) ++ (d.outs.getD i o0).name)) (l' := (d.outs.getD i o0).path) rfl rfl (by first | omega | (simp only [List.length_append, List.length_cons, List.length_nil]; omega))) ?_
    refine jq_q (qs_field Tryz.underlying28 rfl sz26 (by decide) rfl) ?_
    refine jq_q (qs_load (l := dcells d x) 0 Tryz.underlying26 rfl rfl rfl (congrArg some hvo)) ?_
    refine jq_q (qs_ixn (g := go) (off := offo) (i := i) Tryz.underlying26 sz53 rfl rfl (by omega)) ?_
    refine jq_q (qs_field Tryz.underlying53 rfl sz51 (by decide) rfl) ?_
    refine jq_q (qs_cuta (a := 0) (z := 32) Tryz.underlying51 sz5 rfl rfl rfl (by omega) (by omega)) ?_
    refine jq_q (qs_str (l := (d.outs.getD i o0).hash.1) (c := 32) Tryz.underlying46 Tryz.underlying5 Tryz.underlying9 (by simp only [ev, (d.outs.getD i o0).hash.2]; rfl) (rd_rec (fo := 3) (d := o0) encO_len hcells hi (fun j u hu => by rw [Nat.add_comm]; exact hu))) ?_
    refine jq_q (qs_sadd (l := ((((P0 ++ ((d.outs.take i).map sO).flatten) ++ [124, 111]) ++ (d.outs.getD i o0).name) ++ (d.outs.getD i o0).path)) (l' := (d.outs.getD i o0).hash.1) rfl rfl (by first | omega | (simp only [List.length_append, List.length_cons, List.length_nil]; omega))) ?_
    refine jq_nil ?_
    refine j_q (qs_field Tryz.underlying28 rfl sz26 (by decide) rfl) ?_
    refine j_q (qs_load (l := dcells d x) 0 Tryz.underlying26 rfl rfl rfl (congrArg some hvo)) ?_
    refine j_q (qs_ixn (g := go) (off := offo) (i := i) Tryz.underlying26 sz53 rfl rfl (by omega)) ?_
    refine j_q (qs_field Tryz.underlying53 rfl sz4 (by decide) rfl) ?_
    refine j_q (qs_loadrec (v := .bool (d.outs.getD i o0).fixed) (encA := encO) (rs := d.outs) (d := o0) (i := i) (fo := 2) encO_len (rd_cells hcells (by simp)) hi Tryz.underlying4 rfl rfl rfl) ?_
    refine j_cond rfl (fun hc1 => ?_) (fun hc1 => ?_)
    · skip
      refine j_q (qs_sadd (l := (((((P0 ++ ((d.outs.take i).map sO).flatten) ++ [124, 111]) ++ (d.outs.getD i o0).name) ++ (d.outs.getD i o0).path) ++ (d.outs.getD i o0).hash.1)) (l' := [102, 105, 120, 101, 100]) rfl rfl (by first | omega | (simp only [List.length_append, List.length_cons, List.length_nil]; omega))) ?_
      refine j_q (qs_add64 rfl rfl (by first | omega | (simp only [bnA] at *; omega))) ?_
      refine j_back rfl ?_
      exact ⟨d.outs.length - (i + 1), by omega, i + 1, vsi (by rw [fl_step sO (d := o0) hi]; unfold sO; rw [if_pos hc1]; simp only [List.append_assoc, List.cons_append, List.nil_append]) (by omega), rfl, by omega, rfl⟩
    · skip
      refine j_q (qs_add64 rfl rfl (by first | omega | (simp only [bnA] at *; omega))) ?_
      refine j_back rfl ?_
      exact ⟨d.outs.length - (i + 1), by omega, i + 1, vsi (by rw [fl_step sO (d := o0) hi]; unfold sO; rw [if_neg (by rw [hc1]; decide)]; simp only [List.append_assoc, List.cons_append, List.nil_append]; rw [List.append_nil]) (by omega), rfl, by omega, rfl⟩
  · skip
    obtain rfl : i = d.outs.length := by
      simp only [bnA] at *
      omega
    rw [List.take_length]
    obtain ⟨P1, hP1⟩ : ∃ p, p = P0 ++ (d.outs.map sO).flatten := ⟨_, rfl⟩
    rw [← hP1]
    have hP1l : P1.length ≤ 200000000000 := by
      rw [hP1, List.length_append]
      omega
    refine j_q (qs_ac) ?_
    refine j_loop (fun m vs S' => ∃ i : Nat, vs = [.string (bs (P1 ++ ((x.mi.take i).map (fun m => sI m.pi)).flatten)), .int .i64 (i : Int)] ∧ S' = [[(g0, .cells (dcells d x).toArray 28 (0, 0))], []] ∧ i ≤ x.mi.length ∧ m = x.mi.length - i) ⟨_, 0, by rw [fl_zero, List.append_nil]; rfl, rfl, Nat.zero_le _, rfl⟩ ?_
    rintro m vs S' hlen ⟨i, rfl, rfl, hin, rfl⟩
    refine j_q (qs_field Tryz.underlying28 rfl sz24 (by decide) rfl) ?_
    refine j_q (qs_load (l := dcells d x) 0 Tryz.underlying24 rfl rfl rfl (congrArg some hvi)) ?_
    refine j_q (qs_lenl Tryz.underlying24 rfl) ?_
    refine j_q (qs_lss rfl rfl) ?_
    refine j_cond rfl (fun hc2 => ?_) (fun hc2 => ?_)
    · skip
      have hi : i < x.mi.length := by
        simp only [bnA] at *
        omega
      obtain ⟨rfl, hgi, hcells⟩ := hAi (by omega)
      have hsl := few.ip _ (hmem _ (getD_mem (d := m0) hi))
      simp only [MI.pi] at hsl
      have hti := t2 i
      have hso := sC_len _ (hou _ (hmem _ (getD_mem (d := m0) hi)))
      simp only [MI.pi] at hso
      have hsx := h.io _ (getD_mem (d := m0) hi)
      obtain ⟨Ax, capx, hvx, hcapx⟩ := strz_form hsx
      have htk := fl_take_le cm1 (x.mi.getD i m0).outs _ hso
      obtain ⟨Q, hQ⟩ : ∃ q, q = P1 ++ ((x.mi.take i).map (fun m => sI m.pi)).flatten ++ [124, 105] ++ (x.mi.getD i m0).drv := ⟨_, rfl⟩
      have hQl : Q.length ≤ 2400000000000000000 := by
        rw [hQ]
        simp only [List.length_append, List.length_cons, List.length_nil]
        omega
      refine j_q (qs_sadd (l := (P1 ++ ((x.mi.take i).map (fun m => sI m.pi)).flatten)) (l' := [124, 105]) rfl rfl (by first | omega | (simp only [List.length_append, List.length_cons, List.length_nil]; omega))) ?_
      refine j_q (qs_field Tryz.underlying28 rfl sz24 (by decide) rfl) ?_
      refine j_q (qs_load (l := dcells d x) 0 Tryz.underlying24 rfl rfl rfl (congrArg some hvi)) ?_
      refine j_q (qs_ixn (g := gi) (off := offi) (i := i) Tryz.underlying24 sz68 rfl rfl (by omega)) ?_
      refine j_q (qs_field Tryz.underlying68 rfl sz49 (by decide) rfl) ?_
      refine j_q (qs_loadrec (v := .string (bs (x.mi.getD i m0).drv)) (encA := encI) (rs := x.mi) (d := m0) (i := i) (fo := 0) encI_len (rd_cells hcells (by simp)) hi Tryz.underlying49 rfl rfl rfl) ?_
      refine j_q (qs_sadd (l := ((P1 ++ ((x.mi.take i).map (fun m => sI m.pi)).flatten) ++ [124, 105])) (l' := (x.mi.getD i m0).drv) rfl rfl (by first | omega | (simp only [List.length_append, List.length_cons, List.length_nil]; omega))) ?_
      rw [← hQ]
      refine j_q (qs_ac) ?_
      refine j_loop (fun m vs S' => ∃ k : Nat, vs = [.string (bs (Q ++ (((x.mi.getD i m0).outs.take k).map cm1).flatten)), .int .i64 (k : Int)] ∧ S' = [[(g0, .cells (dcells d x).toArray 28 (0, 0))], []] ∧ k ≤ (x.mi.getD i m0).outs.length ∧ m = (x.mi.getD i m0).outs.length - k) ⟨_, 0, by rw [fl_zero, List.append_nil]; rfl, rfl, Nat.zero_le _, rfl⟩ ?_
      rintro m vs S' hlen ⟨k, rfl, rfl, hkn, rfl⟩
      refine j_q (qs_field Tryz.underlying28 rfl sz24 (by decide) rfl) ?_
      refine j_q (qs_load (l := dcells d x) 0 Tryz.underlying24 rfl rfl rfl (congrArg some hvi)) ?_
      refine j_q (qs_ixn (g := gi) (off := offi) (i := i) Tryz.underlying24 sz68 rfl rfl (by omega)) ?_
      refine j_q (qs_field Tryz.underlying68 rfl sz22 (by decide) rfl) ?_
      refine j_q (qs_loadrec (v := .slice Ax (x.mi.getD i m0).outs.length capx) (encA := encI) (rs := x.mi) (d := m0) (i := i) (fo := 1) encI_len (rd_cells hcells (by simp)) hi Tryz.underlying22 rfl rfl (congrArg some hvx)) ?_
      refine j_q (qs_lenl Tryz.underlying22 rfl) ?_
      refine j_q (qs_lss rfl rfl) ?_
      refine j_cond rfl (fun hc3 => ?_) (fun hc3 => ?_)
      · skip
        have hk : k < (x.mi.getD i m0).outs.length := by
          simp only [bnA] at *
          omega
        obtain ⟨gx, offx, rfl, hgx, hcellx⟩ := strz_addr (hvx ▸ hsx) (by omega)
        have hkl := hou _ (hmem _ (getD_mem (d := m0) hi)) _ (getD_mem (l := (x.mi.getD i m0).outs) (d := []) hk)
        have htkk := htk k
        refine j_q (qs_sadd (l := (Q ++ (((x.mi.getD i m0).outs.take k).map cm1).flatten)) (l' := [44]) rfl rfl (by first | omega | (simp only [List.length_append, List.length_cons, List.length_nil]; omega))) ?_
        refine j_q (qs_field Tryz.underlying28 rfl sz24 (by decide) rfl) ?_
        refine j_q (qs_load (l := dcells d x) 0 Tryz.underlying24 rfl rfl rfl (congrArg some hvi)) ?_
        refine j_q (qs_ixn (g := gi) (off := offi) (i := i) Tryz.underlying24 sz68 rfl rfl (by omega)) ?_
        refine j_q (qs_field Tryz.underlying68 rfl sz22 (by decide) rfl) ?_
        refine j_q (qs_loadrec (v := .slice (some ⟨gx, offx, none⟩) (x.mi.getD i m0).outs.length capx) (encA := encI) (rs := x.mi) (d := m0) (i := i) (fo := 1) encI_len (rd_cells hcells (by simp)) hi Tryz.underlying22 rfl rfl (congrArg some hvx)) ?_
        refine j_q (qs_ixn (g := gx) (off := offx) (i := k) Tryz.underlying22 sz9 rfl rfl (by omega)) ?_
        refine j_q (qs_loadrs (i := k) (rd_cells hcellx (by simp)) Tryz.underlying9 (by rw [add_off, Nat.mul_one]; rfl) (by omega)) ?_
        refine j_q (qs_sadd (l := ((Q ++ (((x.mi.getD i m0).outs.take k).map cm1).flatten) ++ [44])) (l' := ((x.mi.getD i m0).outs.getD k [])) rfl rfl (by first | omega | (simp only [List.length_append, List.length_cons, List.length_nil]; omega))) ?_
        refine j_q (qs_add64 rfl rfl (by first | omega | (simp only [bnA] at *; omega))) ?_
        refine j_back rfl ?_
        exact ⟨(x.mi.getD i m0).outs.length - (k + 1), by omega, k + 1, vsi (by rw [fl_step cm1 (d := []) hk]; unfold cm1; simp only [List.append_assoc, List.cons_append, List.nil_append]) (by omega), rfl, by omega, rfl⟩
      · skip
        obtain rfl : k = (x.mi.getD i m0).outs.length := by
          simp only [bnA] at *
          omega
        rw [List.take_length]
        refine j_q (qs_add64 rfl rfl (by first | omega | (simp only [bnA] at *; omega))) ?_
        refine j_back rfl ?_
        exact ⟨x.mi.length - (i + 1), by omega, i + 1, vsi (by rw [fl_step (fun m : MI => sI m.pi) (d := m0) hi]; rw [hQ]; simp only [sI, MI.pi, sC]; simp only [List.append_assoc, List.cons_append, List.nil_append]) (by omega), rfl, by omega, rfl⟩
    · skip
      obtain rfl : i = x.mi.length := by
        simp only [bnA] at *
        omega
      rw [List.take_length]
      obtain ⟨P2, hP2⟩ : ∃ p, p = P1 ++ (x.mi.map (fun m => sI m.pi)).flatten := ⟨_, rfl⟩
      rw [← hP2]
      have hP2l : P2.length ≤ 2310000000000000000 := by
        rw [hP2, List.length_append]
        omega
      refine j_q (qs_ac) ?_
      refine j_loop (fun m vs S' => ∃ i : Nat, vs = [.string (bs (P2 ++ ((d.srcs.take i).map sS).flatten)), .int .i64 (i : Int)] ∧ S' = [[(g0, .cells (dcells d x).toArray 28 (0, 0))], []] ∧ i ≤ d.srcs.length ∧ m = d.srcs.length - i) ⟨_, 0, by rw [fl_zero, List.append_nil]; rfl, rfl, Nat.zero_le _, rfl⟩ ?_
      rintro m vs S' hlen ⟨i, rfl, rfl, hin, rfl⟩
      refine j_q (qs_field Tryz.underlying28 rfl sz25 (by decide) rfl) ?_
      refine j_q (qs_load (l := dcells d x) 0 Tryz.underlying25 rfl rfl rfl (congrArg some hvs)) ?_
      refine j_q (qs_lenl Tryz.underlying25 rfl) ?_
      refine j_q (qs_lss rfl rfl) ?_
      refine j_cond rfl (fun hc4 => ?_) (fun hc4 => ?_)
      · skip
        have hi : i < d.srcs.length := by
          simp only [bnA] at *
          omega
        obtain ⟨gs, offs, rfl, hgs, hcells⟩ := strz_addr (hvs ▸ h.s) (by omega)
        have hsl := few.sr _ (getD_mem (d := []) hi)
        have hti := t3 i
        refine j_q (qs_sadd (l := (P2 ++ ((d.srcs.take i).map sS).flatten)) (l' := [124, 115]) rfl rfl (by first | omega | (simp only [List.length_append, List.length_cons, List.length_nil]; omega))) ?_
        refine j_q (qs_field Tryz.underlying28 rfl sz25 (by decide) rfl) ?_
        refine j_q (qs_load (l := dcells d x) 0 Tryz.underlying25 rfl rfl rfl (congrArg some hvs)) ?_
        refine j_q (qs_ixn (g := gs) (off := offs) (i := i) Tryz.underlying25 sz49 rfl rfl (by omega)) ?_
        refine j_q (qs_loadrs (i := i) (rd_cells hcells (by simp)) Tryz.underlying49 (by rw [add_off, Nat.mul_one]; rfl) (by omega)) ?_
        refine j_q (qs_sadd (l := ((P2 ++ ((d.srcs.take i).map sS).flatten) ++ [124, 115])) (l' := (d.srcs.getD i [])) rfl rfl (by first | omega | (simp only [List.length_append, List.length_cons, List.length_nil]; omega))) ?_
        refine j_q (qs_add64 rfl rfl (by first | omega | (simp only [bnA] at *; omega))) ?_
        refine j_back rfl ?_
        exact ⟨d.srcs.length - (i + 1), by omega, i + 1, vsi (by rw [fl_step sS (d := []) hi]; unfold sS; simp only [List.append_assoc, List.cons_append, List.nil_append]) (by omega), rfl, by omega, rfl⟩
      · skip
        obtain rfl : i = d.srcs.length := by
          simp only [bnA] at *
          omega
        rw [List.take_length]
        obtain ⟨P3, hP3⟩ : ∃ p, p = P2 ++ (d.srcs.map sS).flatten := ⟨_, rfl⟩
        rw [← hP3]
        have hP3l : P3.length ≤ 2320000000000000000 := by
          rw [hP3, List.length_append]
          omega
        refine j_q (qs_ac) ?_
        refine j_loop (fun m vs S' => ∃ i : Nat, vs = [.string (bs (P3 ++ ((d.args.take i).map sA).flatten)), .int .i64 (i : Int)] ∧ S' = [[(g0, .cells (dcells d x).toArray 28 (0, 0))], []] ∧ i ≤ d.args.length ∧ m = d.args.length - i) ⟨_, 0, by rw [fl_zero, List.append_nil]; rfl, rfl, Nat.zero_le _, rfl⟩ ?_
        rintro m vs S' hlen ⟨i, rfl, rfl, hin, rfl⟩
        refine j_q (qs_field Tryz.underlying28 rfl sz22 (by decide) rfl) ?_
        refine j_q (qs_load (l := dcells d x) 0 Tryz.underlying22 rfl rfl rfl (congrArg some hva)) ?_
        refine j_q (qs_lenl Tryz.underlying22 rfl) ?_
        refine j_q (qs_lss rfl rfl) ?_
        refine j_cond rfl (fun hc5 => ?_) (fun hc5 => ?_)
        · skip
          have hi : i < d.args.length := by
            simp only [bnA] at *
            omega
          obtain ⟨ga, offa, rfl, hga, hcells⟩ := strz_addr (hva ▸ h.a) (by omega)
          have hsl := few.ar _ (getD_mem (d := []) hi)
          have hti := t4 i
          refine j_q (qs_sadd (l := (P3 ++ ((d.args.take i).map sA).flatten)) (l' := [124, 97]) rfl rfl (by first | omega | (simp only [List.length_append, List.length_cons, List.length_nil]; omega))) ?_
          refine j_q (qs_field Tryz.underlying28 rfl sz22 (by decide) rfl) ?_
          refine j_q (qs_load (l := dcells d x) 0 Tryz.underlying22 rfl rfl rfl (congrArg some hva)) ?_
          refine j_q (qs_ixn (g := ga) (off := offa) (i := i) Tryz.underlying22 sz9 rfl rfl (by omega)) ?_
          refine j_q (qs_loadrs (i := i) (rd_cells hcells (by simp)) Tryz.underlying9 (by rw [add_off, Nat.mul_one]; rfl) (by omega)) ?_
          refine j_q (qs_sadd (l := ((P3 ++ ((d.args.take i).map sA).flatten) ++ [124, 97])) (l' := (d.args.getD i [])) rfl rfl (by first | omega | (simp only [List.length_append, List.length_cons, List.length_nil]; omega))) ?_
          refine j_q (qs_add64 rfl rfl (by first | omega | (simp only [bnA] at *; omega))) ?_
          refine j_back rfl ?_
          exact ⟨d.args.length - (i + 1), by omega, i + 1, vsi (by rw [fl_step sA (d := []) hi]; unfold sA; simp only [List.append_assoc, List.cons_append, List.nil_append]) (by omega), rfl, by omega, rfl⟩
        · skip
          obtain rfl : i = d.args.length := by
            simp only [bnA] at *
            omega
          rw [List.take_length]
          obtain ⟨P4, hP4⟩ : ∃ p, p = P3 ++ (d.args.map sA).flatten := ⟨_, rfl⟩
          rw [← hP4]
          have hP4l : P4.length ≤ 2330000000000000000 := by
            rw [hP4, List.length_append]
            omega
          refine j_q (qs_ac) ?_
          refine j_loop (fun m vs S' => ∃ i : Nat, vs = [.string (bs (P4 ++ ((d.env.take i).map sV).flatten)), .int .i64 (i : Int)] ∧ S' = [[(g0, .cells (dcells d x).toArray 28 (0, 0))], []] ∧ i ≤ d.env.length ∧ m = d.env.length - i) ⟨_, 0, by rw [fl_zero, List.append_nil]; rfl, rfl, Nat.zero_le _, rfl⟩ ?_
          rintro m vs S' hlen ⟨i, rfl, rfl, hin, rfl⟩
          refine j_q (qs_field Tryz.underlying28 rfl sz23 (by decide) rfl) ?_
          refine j_q (qs_load (l := dcells d x) 0 Tryz.underlying23 rfl rfl rfl (congrArg some hve)) ?_
          refine j_q (qs_lenl Tryz.underlying23 rfl) ?_
          refine j_q (qs_lss rfl rfl) ?_
          refine j_cond rfl (fun hc6 => ?_) (fun hc6 => ?_)
          · skip
            have hi : i < d.env.length := by
              simp only [bnA] at *
              omega
            obtain ⟨rfl, hge, hcells⟩ := hAe (by omega)
            have hsl := few.ev _ (getD_mem (d := v0) hi)
            have hti := t5 i
            refine j_draw ?_
            refine jq_q (qs_sadd (l := (P4 ++ ((d.env.take i).map sV).flatten)) (l' := [124, 101]) rfl rfl (by first | omega | (simp only [List.length_append, List.length_cons, List.length_nil]; omega))) ?_
            refine jq_q (qs_field Tryz.underlying28 rfl sz23 (by decide) rfl) ?_
            refine jq_q (qs_load (l := dcells d x) 0 Tryz.underlying23 rfl rfl rfl (congrArg some hve)) ?_
            refine jq_q (qs_ixn (g := ge) (off := offe) (i := i) Tryz.underlying23 sz48 rfl rfl (by omega)) ?_
            refine jq_q (qs_field Tryz.underlying48 rfl sz9 (by decide) rfl) ?_
            refine jq_q (qs_loadrec (v := .string (bs (d.env.getD i v0).name)) (encA := encV) (rs := d.env) (d := v0) (i := i) (fo := 0) encV_len (rd_cells hcells (by simp)) hi Tryz.underlying9 rfl rfl rfl) ?_
            refine jq_q (qs_sadd (l := ((P4 ++ ((d.env.take i).map sV).flatten) ++ [124, 101])) (l' := (d.env.getD i v0).name) rfl rfl (by first | omega | (simp only [List.length_append, List.length_cons, List.length_nil]; omega))) ?_
            refine jq_q (qs_sadd (l := (((P4 ++ ((d.env.take i).map sV).flatten) ++ [124, 101]) ++ (d.env.getD i v0).name)) (l' := [61]) rfl rfl (by first | omega | (simp only [List.length_append, List.length_cons, List.length_nil]; omega))) ?_
            refine jq_q (qs_field Tryz.underlying28 rfl sz23 (by decide) rfl) ?_
            refine jq_q (qs_load (l := dcells d x) 0 Tryz.underlying23 rfl rfl rfl (congrArg some hve)) ?_
            refine jq_q (qs_ixn (g := ge) (off := offe) (i := i) Tryz.underlying23 sz48 rfl rfl (by omega)) ?_
            refine jq_q (qs_field Tryz.underlying48 rfl sz9 (by decide) rfl) ?_
            refine jq_q (qs_loadrec (v := .string (bs (d.env.getD i v0).val)) (encA := encV) (rs := d.env) (d := v0) (i := i) (fo := 1) encV_len (rd_cells hcells (by simp)) hi Tryz.underlying9 rfl rfl rfl) ?_
            refine jq_q (qs_sadd (l := ((((P4 ++ ((d.env.take i).map sV).flatten) ++ [124, 101]) ++ (d.env.getD i v0).name) ++ [61])) (l' := (d.env.getD i v0).val) rfl rfl (by first | omega | (simp only [List.length_append, List.length_cons, List.length_nil]; omega))) ?_
            refine jq_nil ?_
            refine j_q (qs_add64 rfl rfl (by first | omega | (simp only [bnA] at *; omega))) ?_
            refine j_back rfl ?_
            exact ⟨d.env.length - (i + 1), by omega, i + 1, vsi (by rw [fl_step sV (d := v0) hi]; unfold sV; simp only [List.append_assoc, List.cons_append, List.nil_append]) (by omega), rfl, by omega, rfl⟩
          · skip
            obtain rfl : i = d.env.length := by
              simp only [bnA] at *
              omega
            rw [List.take_length]
            refine j_ret_con (vs := [_]) (fun w' hw' => ⟨rfl, trivial⟩) ?_
            show Value.string _ = _
            congr 2
            unfold dshow
            rw [hP4, hP3, hP2, hP1, hP0, hmap]
end Go.Proofs.YtfeabbeebkkhaaaGreat
/-! Dvk -/
namespace Go.Proofs.YtfeabbeebkkhaaaGreat
open Go Go.Sx
set_option maxRecDepth 100000
set_option maxHeartbeats 4000000
set_option linter.unusedVariables false
set_option linter.unusedSimpArgs false
attribute [local irreducible] J JQ QS Con W opW
theorem ent13 : Sx.Enters Tryz.prog 13 := ⟨_, Tryz.func13, by kernel_rfl, by kernel_rfl⟩
theorem ent17 : Sx.Enters Tryz.prog 17 := ⟨_, Tryz.func17, by kernel_rfl, by kernel_rfl⟩
theorem ent18 : Sx.Enters Tryz.prog 18 := ⟨_, Tryz.func18, by kernel_rfl, by kernel_rfl⟩
theorem sb48 : (Tryz.prog.info? 48).map (fun i => (i.size, i.bytes)) = some (2, 32) := by kernel_rfl
theorem sb49 : (Tryz.prog.info? 49).map (fun i => (i.size, i.bytes)) = some (1, 16) := by kernel_rfl
theorem sb53 : (Tryz.prog.info? 53).map (fun i => (i.size, i.bytes)) = some (35, 72) := by kernel_rfl
theorem sb68 : (Tryz.prog.info? 68).map (fun i => (i.size, i.bytes)) = some (2, 40) := by kernel_rfl
theorem zero28 : zeroL Tryz.prog 28 = some ([.string (bs []), .string (bs []), .string (bs []), .slice none 0 0, .slice none 0 0, .slice none 0 0, .slice none 0 0, .slice none 0 0]) := by kernel_rfl
abbrev kd : PD := ⟨[120], [115], [98], [], [], [], [], [⟨sOut, [], false, zHash⟩]⟩
theorem kd_chk : chk kd = 0 := by decide +kernel
theorem kd_text : dtext kd = [68, 101, 114, 105, 118, 101, 40, 34, 120, 34, 44, 91, 40, 34, 111, 117, 116, 34, 44, 34, 34, 44, 34, 34, 44, 34, 34, 41, 93, 44, 91, 93, 44, 91, 93, 44, 34, 115, 34, 44, 34, 98, 34, 44, 91, 93, 44, 91, 93, 41] := by decide +kernel
theorem Szd.outs {d : PD} (h : Szd d) : ∀ y ∈ d.ins, ∀ o ∈ y.outs, o.length ≤ 140737488355328 := fun y hy => (h.ip y hy).2.2
attribute [local irreducible] es qt cms hex Tbl Half lst isName isPath isDrvP leB chkO chkOuts chkN chkI chkIns firstE spA spB spE chkS chkV dtext chk chk0 tTs dshow big1 big2
theorem known_con (w : World) : Con Tryz.prog 18 [] w [] fun v _ => v = .bool true := by
  refine con_of_tree mix Tryz.func18 T18_ok (by kernel_rfl) ?_
  unfold T18
  refine j_q (qs_ac) ?_
  refine j_q (v := .agg (encO ⟨sOut, [], false, zHash⟩).toArray) (qs_build (places := [(0, 1), (1, 1), (2, 1), (3, 32)]) (offs := [(0, [.string (bs sOut)])]) Tryz.underlying53 zero53 (by kernel_rfl) rfl (by rintro (_ | j) p q hp hq <;> first | (simp at hp hq; subst hp hq; exact ⟨rfl, rfl, by simp⟩) | (simp at hp))) ?_
  refine j_litw (vs := encO ⟨sOut, [], false, zHash⟩) Tryz.underlying26 sz53 zero53 rfl rfl ⟨rfl, by decide, by decide⟩ (fun g2 hg2 ho2 => ?_)
  refine j_q (v := dval kd ⟨.slice none 0 0, .slice none 0 0, .slice none 0 0, .slice none 0 0, .slice (some ⟨g2, 0, none⟩) 1 1, []⟩) (qs_build (places := [(0, 1), (1, 1), (2, 1), (3, 1), (4, 1), (5, 1), (6, 1), (7, 1)]) (offs := [(0, [.string (bs [120])]), (1, [.string (bs [115])]), (2, [.string (bs [98])]), (7, [.slice (some ⟨g2, 0, none⟩) 1 1])]) Tryz.underlying28 zero28 (by kernel_rfl) rfl (by rintro (_ | _ | _ | _ | j) p q hp hq <;> first | (simp at hp hq; subst hp hq; exact ⟨rfl, rfl, by simp⟩) | (simp at hp))) ?_
  refine j_q (qs_call ent13 rfl rfl rfl (fun w' hw' => dprint_con kd _ w' ⟨strz_nil, ⟨rfl, .inl ⟨rfl, rfl⟩⟩, ⟨rfl, .inl ⟨rfl, rfl⟩⟩, (fun m hm => by cases hm), rfl, strz_nil, rsln_ownw (len := 1) (xs := (kd.outs.map encO).flatten) (by simpa using ho2) (by decide) rfl (fun p hp => hw'.own p (by simp at hp; subst hp; simp))⟩ (by unfold big2 big1; decide) (fun y hy => by cases hy))) ?_
  refine j_q (qs_ext (vs := [.string (bs (prS kd)), .int .i64 (chk kd)]) rfl rfl) ?_
  refine j_q (qs_ext (vs := [.string (bs (prS kd)), .int .i64 (chk kd)]) rfl rfl) ?_
  refine j_q (qs_eql rfl rfl) ?_
  refine j_g rfl (fun hb => qs_mt rfl) ?_
  refine j_g rfl (fun hb => qs_seql (gd_eq hb) rfl) ?_
  refine j_q (qs_and rfl rfl) ?_
  refine j_ret_con (vs := [_]) (fun w' hw' => ⟨rfl, trivial⟩) ?_
  show Value.bool _ = Value.bool true
  congr 1
  unfold prS
  rw [kd_chk, if_pos rfl, kd_text]
  rfl
end Go.Proofs.YtfeabbeebkkhaaaGreat
/-! Sx24 -/
namespace Go.Sx
open Go
set_option linter.unusedVariables false
variable {P : Program} {R : Ending → World → Prop} {env : Env} {b : Base} {S : List SH} {B : JB} {T : Tree} {v : Value} {ty : TypeId}
abbrev RB (pv : Value) (w : World) (Fp : SH) (post : Value → List SH → Prop) (bad : Prop) : Ending → World → Prop := fun e w' => (∃ v S', e = .returned v ∧ post v S' ∧ Sig ⟨w, dom Fp⟩ S' w') ∨ (e = .panicked [{ v := pv, recovered := false }] ∧ bad ∧ Sig ⟨w, dom Fp⟩ [] w')
def ConB (P : Program) (pv : Value) (f : FuncId) (args : List Value) (w : World) (Fp : SH) (post : Value → List SH → Prop) (bad : Prop) : Prop :=
  (∀ p ∈ Fp, w.heap[p.1]? = some p.2) → (dom Fp).Nodup → Calls P f args.toArray w (RB pv w Fp post bad)
theorem conb_of_tree {pv : Value} {f : FuncId} {fn : Func} {args : List Value} {w : World} {Fp : SH} {post : Value → List SH → Prop} {bad : Prop} {hs : List (Nat × Nat)} (hmix : P.follows .mixedOrders = true) (hf : P.funcs[f]? = some fn)
    (hT : tree hs fn args.length = some T) (hn : Nat.ble args.length fn.ntmps = true)
    (h : J P (RB pv w Fp post bad) T args [Fp] ⟨w, dom Fp⟩ []) : ConB P pv f args w Fp post bad := fun hown hnd => by
  obtain ⟨c, hb⟩ : ∃ c, fn.body = some c := by
    cases hb : fn.body with
    | none => simp [tree, hb] at hT
    | some c => exact ⟨c, rfl⟩
  exact calls_of_tree hmix hf hb hT (Nat.le_of_ble_eq_true hn) (h w ⟨rfl, rfl, rfl, Nat.le_refl _, by simpa using hown, by simpa using hnd, fun k hk => .inl (by simpa using hk), fun _ _ _ => rfl⟩)
theorem j_ret_conb {pv : Value} {w : World} {Fp : SH} {post : Value → List SH → Prop} {bad : Prop} {rs : List RV} {vs : List Value} (hv : ∀ w', Sig ⟨w, dom Fp⟩ S w' → rvsW P env w' rs vs) (h : post (retVal vs) S) :
    J P (RB pv w Fp post bad) (.ret rs) env S ⟨w, dom Fp⟩ B := j_ret hv fun _ hw => .inl ⟨_, S, rfl, h, hw⟩
theorem sig_none {w : World} (h : Sig b S w) : Sig b [] w := h.sub (List.nil_sublist _)
theorem j_ret_conbs {pv : Value} {w : World} {Fp : SH} {post : Value → List SH → Prop} {bad : Prop} {rs : List RV} {vs : List Value} (S1 : List SH) (hs : S1.Sublist S) (hv : ∀ w', Sig ⟨w, dom Fp⟩ S w' → rvsW P env w' rs vs) (h : post (retVal vs) S1) :
    J P (RB pv w Fp post bad) (.ret rs) env S ⟨w, dom Fp⟩ B := j_ret hv fun _ hw => .inl ⟨_, S1, rfl, h, hw.sub (sub_flatten hs)⟩
theorem j_panic_conb {pv : Value} {w : World} {Fp : SH} {post : Value → List SH → Prop} {bad : Prop} {x : Operand} {u : TypeId} {p : Value} (hx : ev env x = .iface u p) (hp : pv = .iface u p) (h : bad) :
    J P (RB pv w Fp post bad) (.op (O (.panic x) ty) T) env S ⟨w, dom Fp⟩ B := fun w' hw => by
  show opW _ _ _ _ _ _
  unfold opW
  have hrun : (execOp (ev env) (O (.panic x) ty)).run P w' = .halt (.panic (.iface u p)) w' := by
    simp only [O, execOp, hx]
    rfl
  rw [hrun]
  exact .inr ⟨by rw [hp], h, sig_none hw⟩
theorem j_callfB {pv : Value} {w0 : World} {Fp : SH} {post : Value → List SH → Prop} {bad : Prop} {o : Oper} {f : FuncId} {xs : Array Operand} {tys : Array TypeId} {g : Operand} {args : List Value} {first cap : Array Value} {post' : Value → List SH → Prop} {bad' : Prop} (k : Nat) {c : SH} (h : Enters P f) (ho : o.op = .call ⟨.value g, xs, tys⟩) (hg : ev env g = .func (.func f) first cap) (ha : first.toList ++ xs.toList.map (ev env) ++ cap.toList = args)
    (hk : S[k]? = some c) (hc : ∀ w, Sig ⟨w0, dom Fp⟩ S w → ConB P pv f args w c post' bad') (hb : bad' → bad) (hn : ∀ u S', post' u S' → J P (RB pv w0 Fp post bad) T (u :: env) (S' ++ S.set k []) ⟨w0, dom Fp⟩ B) : J P (RB pv w0 Fp post bad) (.op o T) env S ⟨w0, dom Fp⟩ B := fun w hw => by
  show opW _ _ _ _ _ _
  unfold opW
  rw [run_call h g ho hg w]
  have e : (first ++ xs.map (ev env) ++ cap : Array Value) = args.toArray := by
    rw [← ha]; apply Array.ext'; simp
  rw [e]
  obtain ⟨r, h1, h2⟩ := flatten_set hk []
  have hnd : (dom c).Nodup := by
    have := (h1.map Prod.fst).nodup_iff.1 hw.nodup
    rw [List.map_append, List.nodup_append] at this
    exact this.1
  refine (hc w hw (fun p hp => hw.own p (mem_flatten_of hk hp)) hnd).mono ?_
  rintro e w' (⟨u, S', rfl, hp, hS⟩ | ⟨rfl, hb', hS⟩)
  · refine hn u S' hp w' (Sig.call (Fr := r) hw h1 hS ?_)
    rw [List.flatten_append]
    exact (by simpa using h2 : (S.set k []).flatten.Perm r).append_left _
  · exact .inr ⟨rfl, hb hb', sig_none (Sig.call (S2 := r :: []) (Fr := r) hw h1 hS (by simp))⟩
theorem j_callB {pv : Value} {w0 : World} {Fp : SH} {post : Value → List SH → Prop} {bad : Prop} {o : Oper} {f : FuncId} {xs : Array Operand} {tys : Array TypeId} {g : Operand} {args : List Value} {post' : Value → List SH → Prop} {bad' : Prop} (k : Nat) {c : SH} (h : Enters P f) (ho : o.op = .call ⟨.value g, xs, tys⟩) (hg : ev env g = .func (.func f) #[] #[]) (ha : xs.toList.map (ev env) = args)
    (hk : S[k]? = some c) (hc : ∀ w, Sig ⟨w0, dom Fp⟩ S w → ConB P pv f args w c post' bad') (hb : bad' → bad) (hn : ∀ u S', post' u S' → J P (RB pv w0 Fp post bad) T (u :: env) (S' ++ S.set k []) ⟨w0, dom Fp⟩ B) : J P (RB pv w0 Fp post bad) (.op o T) env S ⟨w0, dom Fp⟩ B :=
  j_callfB k h ho hg (by simpa using ha) hk hc hb hn
end Go.Sx
/-! Dv14 -/
namespace Go.Proofs.YtfeabbeebkkhaaaGreat
open Go Go.Sx
set_option maxRecDepth 100000
set_option maxHeartbeats 4000000
set_option linter.unusedVariables false
set_option linter.unusedSimpArgs false
attribute [local irreducible] J JQ QS Con W opW
theorem ent81 : Sx.Enters Tryz.prog 81 := ⟨_, Tryz.func81, by kernel_rfl, by kernel_rfl⟩
theorem ent127 : Sx.Enters Tryz.prog 127 := ⟨_, Tryz.func127, by kernel_rfl, by kernel_rfl⟩
theorem ent148 : Sx.Enters Tryz.prog 148 := ⟨_, Tryz.func148, by kernel_rfl, by kernel_rfl⟩
theorem ent150 : Sx.Enters Tryz.prog 150 := ⟨_, Tryz.func150, by kernel_rfl, by kernel_rfl⟩
abbrev BADV : Value := .iface 84 (.agg #[])
abbrev RC (gr : Nat) (r : Bs) : Nat × Obj := (gr, .cells [Value.string (bs r)].toArray 87 (0, 0))
abbrev rp (gr : Nat) : Value := .pointer (some ⟨gr, 0, none⟩)
theorem byt_is {c d : UInt8} (h : ((c.toNat : Int) == (d.toNat : Int)) = true) : c = d := by
  have h2 := beq_iff_eq.1 h
  exact UInt8.toNat_inj.1 (by omega)
theorem byt_not {c d : UInt8} (h : ((c.toNat : Int) == (d.toNat : Int)) = false) : c ≠ d := fun e => by
  rw [e] at h
  simp at h
theorem pre_iff {s r : Bs} : (decide (s.length ≤ r.length) && (r.take s.length == s)) = true ↔ ∃ r', r = s ++ r' := by
  simp only [Bool.and_eq_true, decide_eq_true_eq, beq_iff_eq]
  constructor
  · rintro ⟨h1, h2⟩
    exact ⟨r.drop s.length, by conv => lhs; rw [← List.take_append_drop s.length r, h2]⟩
  · rintro ⟨r', rfl⟩
    simp
def unesc (c : UInt8) : UInt8 := ([34, 92, 10, 13, 9] : Bs).getD (firstIdx (bs [34, 92, 110, 114, 116]) c).toNat 0
theorem idx_rng (c : UInt8) : firstIdx (bs [34, 92, 110, 114, 116]) c < 0 ∨ (0 ≤ firstIdx (bs [34, 92, 110, 114, 116]) c ∧ firstIdx (bs [34, 92, 110, 114, 116]) c < 5) := by
  have : ∀ k : Fin 256, firstIdx (bs [34, 92, 110, 114, 116]) (UInt8.ofNat k.val) < 0 ∨ (0 ≤ firstIdx (bs [34, 92, 110, 114, 116]) (UInt8.ofNat k.val) ∧ firstIdx (bs [34, 92, 110, 114, 116]) (UInt8.ofNat k.val) < 5) := by decide +kernel
  have h := this ⟨c.toNat, c.toNat_lt⟩
  rwa [ofNat_lt] at h
theorem esc_first {c : UInt8} {t : Bs} : ∃ x u, esc c ++ t = x :: u ∧ x ≠ 34 := by
  unfold esc
  repeat' split
  all_goals first | exact ⟨92, _, rfl, by decide⟩ | exact ⟨c, _, rfl, by assumption⟩
theorem esc_92 {c e : UInt8} {t u : Bs} (h : esc c ++ t = 92 :: e :: u) : 0 ≤ firstIdx (bs [34, 92, 110, 114, 116]) e ∧ unesc e = c ∧ t = u := by
  unfold esc at h
  split at h
  · rename_i hc
    simp only [List.cons_append, List.nil_append, List.cons.injEq, true_and] at h
    obtain ⟨rfl, rfl⟩ := h
    exact ⟨by decide +kernel, by rw [hc]; decide +kernel, rfl⟩
  · split at h
    · rename_i hc
      simp only [List.cons_append, List.nil_append, List.cons.injEq, true_and] at h
      obtain ⟨rfl, rfl⟩ := h
      exact ⟨by decide +kernel, by rw [hc]; decide +kernel, rfl⟩
    · split at h
      · rename_i hc
        simp only [List.cons_append, List.nil_append, List.cons.injEq, true_and] at h
        obtain ⟨rfl, rfl⟩ := h
        exact ⟨by decide +kernel, by rw [hc]; decide +kernel, rfl⟩
      · split at h
        · rename_i hc
          simp only [List.cons_append, List.nil_append, List.cons.injEq, true_and] at h
          obtain ⟨rfl, rfl⟩ := h
          exact ⟨by decide +kernel, by rw [hc]; decide +kernel, rfl⟩
        · split at h
          · rename_i hc
            simp only [List.cons_append, List.nil_append, List.cons.injEq, true_and] at h
            obtain ⟨rfl, rfl⟩ := h
            exact ⟨by decide +kernel, by rw [hc]; decide +kernel, rfl⟩
          · rename_i h2 _ _ _
            simp only [List.cons_append, List.nil_append, List.cons.injEq] at h
            exact absurd h.1 h2
theorem esc_one {c d : UInt8} {t u : Bs} (hd : d ≠ 92) (h : esc c ++ t = d :: u) : c = d ∧ t = u := by
  unfold esc at h
  repeat' split at h
  all_goals (simp only [List.cons_append, List.nil_append, List.cons.injEq] at h)
  all_goals first | exact absurd h.1.symm hd | exact ⟨h.1, h.2⟩
theorem es_cons (c : UInt8) (s : Bs) : es (c :: s) = esc c ++ es s := by simp [es]
def TxK (r r1 acc : Bs) (i : Nat) : Prop := ∀ x z, r = qt x ++ z → ∃ x2, x = acc ++ x2 ∧ r1.drop i = es x2 ++ ([34] ++ z)
theorem txk_start {r r1 : Bs} (h : r = [34] ++ r1) : TxK r r1 [] 0 := fun x z hx => by
  refine ⟨x, rfl, ?_⟩
  rw [hx] at h
  unfold qt at h
  simp only [List.append_assoc, List.cons_append, List.nil_append, List.cons.injEq, true_and] at h
  rw [List.drop_zero, ← h]
  rfl
theorem drop_at {r1 : Bs} {i : Nat} (hi : i < r1.length) : r1.drop i = r1.getD i 0 :: r1.drop (i + 1) := by
  rw [List.drop_eq_getElem_cons hi, List.getD_eq_getElem?_getD, List.getElem?_eq_getElem hi]
  rfl
theorem txk_quote {r r1 acc : Bs} {i : Nat} (h : TxK r r1 acc i) (hi : i < r1.length) (hc : r1.getD i 0 = 34) : ∀ x z, r = qt x ++ z → acc = x ∧ r1.drop (i + 1) = z := fun x z hx => by
  obtain ⟨x2, h1, h2⟩ := h x z hx
  rw [drop_at hi, hc] at h2
  cases x2 with
  | nil =>
    simp only [es, List.map_nil, List.flatten_nil, List.cons_append, List.nil_append, List.cons.injEq, true_and] at h2
    exact ⟨by rw [h1, List.append_nil], h2⟩
  | cons c x2 =>
    rw [es_cons, List.append_assoc] at h2
    obtain ⟨y, u, h3, h4⟩ := esc_first (c := c) (t := es x2 ++ ([34] ++ z))
    rw [h3] at h2
    injection h2 with h2
    exact absurd h2.symm h4
theorem txk_end {r r1 acc : Bs} {i : Nat} (h : TxK r r1 acc i) (hi : r1.length ≤ i) : ∀ x z, r ≠ qt x ++ z := fun x z hx => by
  obtain ⟨x2, h1, h2⟩ := h x z hx
  rw [List.drop_of_length_le hi] at h2
  have := congrArg List.length h2
  simp at this
theorem txk_plain {r r1 acc : Bs} {i : Nat} (h : TxK r r1 acc i) (hi : i < r1.length) (h34 : r1.getD i 0 ≠ 34) (h92 : r1.getD i 0 ≠ 92) : TxK r r1 (acc ++ [r1.getD i 0]) (i + 1) := fun x z hx => by
  obtain ⟨x2, h1, h2⟩ := h x z hx
  rw [drop_at hi] at h2
  cases x2 with
  | nil =>
    simp only [es, List.map_nil, List.flatten_nil, List.cons_append, List.nil_append, List.cons.injEq] at h2
    exact absurd h2.1 h34
  | cons c x2 =>
    rw [es_cons, List.append_assoc] at h2
    obtain ⟨h3, h4⟩ := esc_one h92 h2.symm
    exact ⟨x2, by rw [h1, h3]; simp, h4.symm⟩
theorem txk_esc {r r1 acc : Bs} {i : Nat} (h : TxK r r1 acc i) (hi : i < r1.length) (hc : r1.getD i 0 = 92) : ∀ x z, r = qt x ++ z → i + 1 < r1.length ∧ 0 ≤ firstIdx (bs [34, 92, 110, 114, 116]) (r1.getD (i + 1) 0) ∧ ∃ x2, x = (acc ++ [unesc (r1.getD (i + 1) 0)]) ++ x2 ∧ r1.drop (i + 1 + 1) = es x2 ++ ([34] ++ z) := fun x z hx => by
  obtain ⟨x2, h1, h2⟩ := h x z hx
  rw [drop_at hi, hc] at h2
  cases x2 with
  | nil =>
    simp only [es, List.map_nil, List.flatten_nil, List.cons_append, List.nil_append, List.cons.injEq] at h2
    exact absurd h2.1 (by decide)
  | cons c x2 =>
    rw [es_cons, List.append_assoc] at h2
    have hlt : i + 1 < r1.length := by
      rcases Nat.lt_or_ge (i + 1) r1.length with h | h
      · exact h
      · rw [List.drop_of_length_le h] at h2
        have := congrArg List.length h2
        have hl := esc_len c
        simp only [List.length_append, List.length_cons, List.length_nil] at this
        omega
    rw [drop_at hlt] at h2
    obtain ⟨h3, h4, h5⟩ := esc_92 h2.symm
    exact ⟨hlt, h3, x2, by rw [h1, h4]; simp, h5.symm⟩
theorem bts3 {a : Bs} {v v' : Value} {m n : Int} (h1 : v = v') (h2 : m = n) : [Value.string (bs a), v, .int .i64 m] = [Value.string (bs a), v', .int .i64 n] := by rw [h1, h2]
attribute [local irreducible] es qt cms hex Tbl Half lst TxK
theorem hasPre0_con (s r : Bs) (w : World) (hs : s.length ≤ 9223372036854775807) (hr : r.length ≤ 9223372036854775807) : Con Tryz.prog 150 [.string (bs r), .string (bs s)] w [] fun v _ => v = .bool (decide (s.length ≤ r.length) && (r.take s.length == s)) := by
  refine con_of_tree mix Tryz.func150 T150_ok (by kernel_rfl) ?_
  unfold T150
  refine j_q (qs_ac) ?_
  refine j_q (qs_lens Tryz.underlying9 rfl) ?_
  refine j_q (qs_lens Tryz.underlying9 rfl) ?_
  refine j_q (qs_geq rfl rfl) ?_
  refine j_g rfl (fun hb => qs_mt rfl) ?_
  refine j_g rfl (fun hb => qs_mt rfl) ?_
  refine j_g rfl (fun hb => qs_lens Tryz.underlying9 (gd_eq hb)) ?_
  refine j_g rfl (fun hb => qs_cuts (a := 0) (z := s.length) Tryz.underlying9 (gd_eq hb) rfl ⟨.i64, gd_eq hb⟩ (by omega) (by simp only [bnA] at *; omega)) ?_
  rw [List.drop_zero]
  refine j_g rfl (fun hb => qs_mt rfl) ?_
  refine j_g rfl (fun hb => qs_seql (gd_eq hb) (gd_eq hb)) ?_
  refine j_q (qs_and rfl rfl) ?_
  refine j_ret_con (vs := [_]) (fun w' hw' => ⟨rfl, trivial⟩) ?_
  show Value.bool _ = _
  congr 2
  rw [Bool.eq_iff_iff, decide_eq_true_eq, decide_eq_true_eq]
  omega
theorem hasPre_con (s r : Bs) (w : World) (hs : s.length ≤ 9223372036854775807) (hr : r.length ≤ 9223372036854775807) : Con Tryz.prog 129 [.string (bs r), .string (bs s)] w [] fun v _ => v = .bool (decide (s.length ≤ r.length) && (r.take s.length == s)) := by
  refine con_of_tree mix Tryz.func129 T129_ok (by kernel_rfl) ?_
  unfold T129
  refine j_q (qs_ac) ?_
  refine j_q (qs_call ent150 rfl rfl rfl (fun w' hw' => hasPre0_con s r w' hs hr)) ?_
  refine j_ret_con (vs := [_]) (fun w' hw' => ⟨rfl, trivial⟩) ?_
  rfl
theorem cutPre0_con (s r : Bs) (w : World) (hs : s.length ≤ 9223372036854775807) (hr : r.length ≤ 9223372036854775807) : Con Tryz.prog 148 [.string (bs r), .string (bs s)] w [] fun v _ => v = .tuple #[.string (bs (if (decide (s.length ≤ r.length) && (r.take s.length == s)) then r.drop s.length else r)), .bool (decide (s.length ≤ r.length) && (r.take s.length == s))] := by
  refine con_of_tree mix Tryz.func148 T148_ok (by kernel_rfl) ?_
  unfold T148
  refine j_q (qs_ac) ?_
  refine j_q (qs_ac) ?_
  refine j_q (qs_call ent150 rfl rfl rfl (fun w' hw' => hasPre0_con s r w' hs hr)) ?_
  refine j_q (qs_not rfl) ?_
  refine j_cond rfl (fun hc0 => ?_) (fun hc0 => ?_)
  · skip
    refine j_q (qs_ac) ?_
    refine j_ret_con (vs := [_, _]) (fun w' hw' => ⟨rfl, rfl, trivial⟩) ?_
    have hb : (decide (s.length ≤ r.length) && (r.take s.length == s)) = false := by first | exact hc0 | exact Bool.eq_false_iff.2 hc0 | (cases h : (decide (s.length ≤ r.length) && (r.take s.length == s)) <;> simp_all)
    rw [hb]
    rfl
  · skip
    refine j_q (qs_lens Tryz.underlying9 rfl) ?_
    refine j_q (qs_cuts (a := s.length) (z := r.length) Tryz.underlying9 rfl ⟨.i64, rfl⟩ rfl (by have := hc0; simp only [bnA] at *; omega) (by omega)) ?_
    rw [List.take_length]
    refine j_q (qs_ac) ?_
    refine j_ret_con (vs := [_, _]) (fun w' hw' => ⟨rfl, rfl, trivial⟩) ?_
    have hb : (decide (s.length ≤ r.length) && (r.take s.length == s)) = true := by first | exact hc0 | (cases h : (decide (s.length ≤ r.length) && (r.take s.length == s)) <;> simp_all)
    rw [hb]
    rfl
theorem cutPre_con (s r : Bs) (w : World) (hs : s.length ≤ 9223372036854775807) (hr : r.length ≤ 9223372036854775807) : Con Tryz.prog 127 [.string (bs r), .string (bs s)] w [] fun v _ => v = .tuple #[.string (bs (if (decide (s.length ≤ r.length) && (r.take s.length == s)) then r.drop s.length else r)), .bool (decide (s.length ≤ r.length) && (r.take s.length == s))] := by
  refine con_of_tree mix Tryz.func127 T127_ok (by kernel_rfl) ?_
  unfold T127
  refine j_q (qs_ac) ?_
  refine j_q (qs_ac) ?_
  refine j_q (qs_call ent148 rfl rfl rfl (fun w' hw' => cutPre0_con s r w' hs hr)) ?_
  refine j_q (qs_ext (vs := [.string (bs (if (decide (s.length ≤ r.length) && (r.take s.length == s)) then r.drop s.length else r)), .bool (decide (s.length ≤ r.length) && (r.take s.length == s))]) rfl rfl) ?_
  refine j_q (qs_ext (vs := [.string (bs (if (decide (s.length ≤ r.length) && (r.take s.length == s)) then r.drop s.length else r)), .bool (decide (s.length ≤ r.length) && (r.take s.length == s))]) rfl rfl) ?_
  refine j_ret_con (vs := [_, _]) (fun w' hw' => ⟨rfl, rfl, trivial⟩) ?_
  rfl
theorem sign_con (gr : Nat) (s r : Bs) (w : World) (hs : s.length ≤ 9223372036854775807) (hr : r.length ≤ 9223372036854775807) : ConB Tryz.prog BADV 81 [rp gr, .string (bs s)] w [RC gr r] (fun v S' => v = .tuple #[] ∧ ∃ r', r = s ++ r' ∧ S' = [[RC gr r']]) (¬ ∃ r', r = s ++ r') := by
  refine conb_of_tree mix Tryz.func81 T81_ok (by kernel_rfl) ?_
  unfold T81
  refine j_q (qs_nil rfl) ?_
  refine j_q (qs_field Tryz.underlying87 rfl sz9 (by decide) rfl) ?_
  refine j_q (qs_load (l := [.string (bs r)]) 0 Tryz.underlying9 rfl rfl rfl rfl) ?_
  refine j_q (qs_call ent127 rfl rfl rfl (fun w' hw' => cutPre_con s r w' hs hr)) ?_
  refine j_q (qs_ext (vs := [.string (bs (if (decide (s.length ≤ r.length) && (r.take s.length == s)) then r.drop s.length else r)), .bool (decide (s.length ≤ r.length) && (r.take s.length == s))]) rfl rfl) ?_
  refine j_q (qs_ext (vs := [.string (bs (if (decide (s.length ≤ r.length) && (r.take s.length == s)) then r.drop s.length else r)), .bool (decide (s.length ≤ r.length) && (r.take s.length == s))]) rfl rfl) ?_
  refine j_q (qs_not rfl) ?_
  refine j_cond rfl (fun hc0 => ?_) (fun hc0 => ?_)
  · skip
    refine j_q (qs_run (v := .agg #[]) (fun w => by kernel_rfl)) ?_
    refine j_q (qs_mkiface Tryz.underlying84 (fun _ h => by cases h) rfl) ?_
    exact j_panic_conb rfl rfl (fun hx => by rw [(pre_iff.2 hx)] at hc0; cases hc0)
  · skip
    have hb : (decide (s.length ≤ r.length) && (r.take s.length == s)) = true := by first | exact hc0 | (cases h : (decide (s.length ≤ r.length) && (r.take s.length == s)) <;> simp_all)
    obtain ⟨r1, hr1⟩ := pre_iff.1 hb
    rw [hb, if_pos rfl, show r.drop s.length = r1 by rw [hr1]; simp]
    refine j_q (qs_nil rfl) ?_
    refine j_q (qs_field Tryz.underlying87 rfl sz9 (by decide) rfl) ?_
    refine j_store (l := [.string (bs r)]) (v := .string (bs r1)) 0 sz9 rfl rfl rfl rfl (by simp) (by simp) ?_
    refine j_ret_conb (vs := []) (fun w' hw' => trivial) ?_
    exact ⟨rfl, r1, hr1, rfl⟩
theorem ptext_con (gr : Nat) (r : Bs) (w : World) (hr : r.length ≤ 1099511627776) : ConB Tryz.prog BADV 82 [rp gr] w [RC gr r] (fun v S' => ∃ t r', v = .string (bs t) ∧ S' = [[RC gr r']] ∧ t.length + 2 + r'.length ≤ r.length ∧ ∀ x z, r = qt x ++ z → t = x ∧ r' = z) (∀ x z, r ≠ qt x ++ z) := by
  refine conb_of_tree mix Tryz.func82 T82_ok (by kernel_rfl) ?_
  unfold T82
  refine j_q (qs_ac) ?_
  refine j_callB 0 ent81 rfl rfl rfl rfl (fun w' hw' => sign_con gr [34] r w' (by simp) (by omega)) (fun hb x z hx => hb ⟨es x ++ [34] ++ z, by rw [hx]; unfold qt; simp⟩) (fun u S2 hu => ?_)
  obtain ⟨rfl, r1, hr1, rfl⟩ := hu
  have hk0 := txk_start hr1
  have hrl : r.length = r1.length + 1 := by rw [hr1]; simp
  refine j_perm (S' := [[], [RC gr r1]]) (by simp) ?_
  refine j_q (qs_ac) ?_
  refine j_q (qs_ac) ?_
  refine j_loop (fun m vs S' => ∃ (i : Nat) (bv : Value) (cb : SH) (acc : Bs), vs = [.string (bs []), bv, .int .i64 (i : Int)] ∧ S' = [cb, [RC gr r1]] ∧ Sx.Own 5 1 (ints acc) bv cb ∧ TxK r r1 acc i ∧ acc.length ≤ i ∧ i ≤ r1.length + 1 ∧ m = r1.length + 1 - i) ⟨_, 0, .slice none 0 0, [], [], rfl, rfl, own_nil, hk0, Nat.le_refl _, Nat.zero_le _, rfl⟩ ?_
  rintro m vs S' hlen ⟨i, bv, cb, acc, rfl, rfl, hob, hk, hal, hin, rfl⟩
  refine j_q (qs_nil rfl) ?_
  refine j_q (qs_field Tryz.underlying87 rfl sz9 (by decide) rfl) ?_
  refine j_q (qs_load (l := [.string (bs r1)]) 1 Tryz.underlying9 rfl rfl rfl rfl) ?_
  refine j_q (qs_lens Tryz.underlying9 rfl) ?_
  refine j_q (qs_lss rfl rfl) ?_
  refine j_cond rfl (fun hc0 => ?_) (fun hc0 => ?_)
  · skip
    have hi : i < r1.length := by
      simp only [bnA] at *
      omega
    refine j_q (qs_nil rfl) ?_
    refine j_q (qs_field Tryz.underlying87 rfl sz9 (by decide) rfl) ?_
    refine j_q (qs_load (l := [.string (bs r1)]) 1 Tryz.underlying9 rfl rfl rfl rfl) ?_
    refine j_q (qs_idx Tryz.underlying9 rfl rfl ⟨(by first | omega | (simp only [bnA] at *; omega)), (by first | omega | (simp only [bnA] at *; omega))⟩) ?_
    simp only [Int.toNat_natCast]
    refine j_q (qs_eql rfl rfl) ?_
    refine j_cond rfl (fun hc1 => ?_) (fun hc1 => ?_)
    · skip
      have h34 : r1.getD i 0 = 34 := byt_is (d := 34) hc1
      refine j_q (qs_nil rfl) ?_
      refine j_q (qs_field Tryz.underlying87 rfl sz9 (by decide) rfl) ?_
      refine j_q (qs_load (l := [.string (bs r1)]) 1 Tryz.underlying9 rfl rfl rfl rfl) ?_
      refine j_q (qs_add64 rfl rfl (by first | omega | (simp only [bnA] at *; omega))) ?_
      refine j_q (qs_cuts (a := i + 1) (z := r1.length) Tryz.underlying9 rfl ⟨.i64, congrArg (Value.int .i64) (by omega)⟩ rfl (by omega) (by omega)) ?_
      rw [List.take_length]
      refine j_q (qs_nil rfl) ?_
      refine j_q (qs_field Tryz.underlying87 rfl sz9 (by decide) rfl) ?_
      refine j_store (l := [.string (bs r1)]) (v := .string (bs (r1.drop (i + 1)))) 1 sz9 rfl rfl rfl rfl (by simp) (by simp) ?_
      refine j_q (qs_stro 0 Tryz.underlying46 Tryz.underlying5 Tryz.underlying9 hob rfl) ?_
      refine j_subl (S' := [[RC gr (r1.drop (i + 1))]]) (by repeat first | exact slR _ | exact slN _ | apply slC | apply slD) ?_
      refine j_ret_conb (vs := [_]) (fun w' hw' => ⟨rfl, trivial⟩) ?_
      exact ⟨acc, _, rfl, rfl, by rw [List.length_drop]; omega, txk_quote hk hi h34⟩
    · skip
      have h34 : r1.getD i 0 ≠ 34 := byt_not (d := 34) hc1
      refine j_q (qs_eql rfl rfl) ?_
      refine j_cond rfl (fun hc2 => ?_) (fun hc2 => ?_)
      · skip
        have h92 : r1.getD i 0 = 92 := byt_is (d := 92) hc2
        refine j_q (qs_add64 rfl rfl (by first | omega | (simp only [bnA] at *; omega))) ?_
        refine j_q (qs_nil rfl) ?_
        refine j_q (qs_field Tryz.underlying87 rfl sz9 (by decide) rfl) ?_
        refine j_q (qs_load (l := [.string (bs r1)]) 1 Tryz.underlying9 rfl rfl rfl rfl) ?_
        refine j_q (qs_lens Tryz.underlying9 rfl) ?_
        refine j_q (qs_geq rfl rfl) ?_
        refine j_cond rfl (fun hc3 => ?_) (fun hc3 => ?_)
        · skip
          refine j_q (qs_run (v := .agg #[]) (fun w => by kernel_rfl)) ?_
          refine j_q (qs_mkiface Tryz.underlying84 (fun _ h => by cases h) rfl) ?_
          exact j_panic_conb rfl rfl (fun x z hx => by have := (txk_esc hk hi h92 x z hx).1; simp only [bnA] at *; omega)
        · skip
          have hi2 : i + 1 < r1.length := by
            simp only [bnA] at *
            omega
          have hk2 : TxK r r1 (acc ++ [unesc (r1.getD (i + 1) 0)]) (i + 1 + 1) := by
            unfold TxK
            exact fun x z hx => (txk_esc hk hi h92 x z hx).2.2
          refine j_q (qs_nil rfl) ?_
          refine j_q (qs_field Tryz.underlying87 rfl sz9 (by decide) rfl) ?_
          refine j_q (qs_load (l := [.string (bs r1)]) 1 Tryz.underlying9 rfl rfl rfl rfl) ?_
          refine j_q (qs_idx (l := r1) Tryz.underlying9 rfl rfl (by simp only [bnA] at *; omega)) ?_
          rw [show ((i : Int) + 1).toNat = i + 1 by omega]
          refine j_q (qs_call ent128 rfl rfl rfl (fun w' hw' => index_con [34, 92, 110, 114, 116] (r1.getD (i + 1) 0) w')) ?_
          refine j_q (qs_lss rfl rfl) ?_
          refine j_cond rfl (fun hc5 => ?_) (fun hc5 => ?_)
          · skip
            refine j_q (qs_run (v := .agg #[]) (fun w => by kernel_rfl)) ?_
            refine j_q (qs_mkiface Tryz.underlying84 (fun _ h => by cases h) rfl) ?_
            exact j_panic_conb rfl rfl (fun x z hx => by have := (txk_esc hk hi h92 x z hx).2.1; simp only [decide_eq_true_eq] at hc5; omega)
          · skip
            refine j_q (qs_idx (l := [34, 92, 10, 13, 9]) Tryz.underlying9 rfl rfl (by have := idx_rng (r1.getD (i + 1) 0); simp only [bnA] at *; simp only [List.length_cons, List.length_nil]; omega)) ?_
            rw [show (([34, 92, 10, 13, 9] : Bs).getD (firstIdx (bs [34, 92, 110, 114, 116]) (r1.getD (i + 1) 0)).toNat 0) = unesc (r1.getD (i + 1) 0) from rfl]
            refine j_lit (vs := [.int .u8 _]) Tryz.underlying46 sz5 zero5 rfl (by simp [oneV]) ⟨rfl, by decide⟩ (fun g64 v64 c64 hv64 hc64 ho64 => ?_)
            subst hv64 hc64
            refine j_append 1 Tryz.underlying46 Tryz.underlying46 (.inr ⟨_, rfl⟩) sb5 zero5 rfl hob rfl (.inl ⟨_, _, rfl, rd_own (off := 0) (n := 1) 0 rfl rfl, rfl⟩) (by simp [oneV]) ⟨(by simp only [ints_length, List.drop_zero, List.take_succ_cons, List.take_zero, List.length_cons, List.length_nil]; omega), (by decide)⟩ (fun v65 c65 ho65 => ?_)
            have ho65 : Sx.Own 5 1 (ints (acc ++ [unesc (r1.getD (i + 1) 0)])) v65 c65 := by
              rw [ints_append]
              exact ho65
            refine j_subl (S' := [c65, [RC gr r1]]) (by repeat first | exact slR _ | exact slN _ | apply slC | apply slD) ?_
            refine j_q (qs_add64 rfl rfl (by first | omega | (simp only [bnA] at *; omega))) ?_
            refine j_back rfl ?_
            exact ⟨r1.length + 1 - (i + 1 + 1), by omega, i + 1 + 1, v65, c65, acc ++ [unesc (r1.getD (i + 1) 0)], bts3 rfl (by omega), rfl, ho65, hk2, by simp only [List.length_append, List.length_cons, List.length_nil]; omega, by omega, rfl⟩
      · skip
        have h92 : r1.getD i 0 ≠ 92 := byt_not (d := 92) hc2
        refine j_lit (vs := [.int .u8 _]) Tryz.underlying46 sz5 zero5 rfl (by simp [oneV]) ⟨rfl, by decide⟩ (fun g67 v67 c67 hv67 hc67 ho67 => ?_)
        subst hv67 hc67
        refine j_append 1 Tryz.underlying46 Tryz.underlying46 (.inr ⟨_, rfl⟩) sb5 zero5 rfl hob rfl (.inl ⟨_, _, rfl, rd_own (off := 0) (n := 1) 0 rfl rfl, rfl⟩) (by simp [oneV]) ⟨(by simp only [ints_length, List.drop_zero, List.take_succ_cons, List.take_zero, List.length_cons, List.length_nil]; omega), (by decide)⟩ (fun v68 c68 ho68 => ?_)
        have ho68 : Sx.Own 5 1 (ints (acc ++ [(r1.getD i 0)])) v68 c68 := by
          rw [ints_append]
          exact ho68
        refine j_subl (S' := [c68, [RC gr r1]]) (by repeat first | exact slR _ | exact slN _ | apply slC | apply slD) ?_
        refine j_q (qs_add64 rfl rfl (by first | omega | (simp only [bnA] at *; omega))) ?_
        refine j_back rfl ?_
        exact ⟨r1.length + 1 - (i + 1), by omega, i + 1, v68, c68, acc ++ [r1.getD i 0], bts3 rfl (by omega), rfl, ho68, txk_plain hk hi h34 h92, by simp only [List.length_append, List.length_cons, List.length_nil]; omega, by omega, rfl⟩
  · skip
    have hge : r1.length ≤ i := by
      simp only [bnA] at *
      omega
    refine j_q (qs_run (v := .agg #[]) (fun w => by kernel_rfl)) ?_
    refine j_q (qs_mkiface Tryz.underlying84 (fun _ h => by cases h) rfl) ?_
    exact j_panic_conb rfl rfl (txk_end hk hge)
end Go.Proofs.YtfeabbeebkkhaaaGreat
/-! Dv15 -/
namespace Go.Proofs.YtfeabbeebkkhaaaGreat
open Go Go.Sx
set_option maxRecDepth 100000
set_option maxHeartbeats 4000000
set_option linter.unusedVariables false
set_option linter.unusedSimpArgs false
attribute [local irreducible] J JQ QS Con W opW
theorem zero51 : zeroL Tryz.prog 51 = some (ints (List.replicate 32 0)) := by kernel_rfl
def comb (x : UInt8) (n : Int) : UInt8 := by8 (bw .or .u8 (IntKind.u8.wrap ((x.toNat : Int) * 2 ^ min (Int.toNat 4) IntKind.u8.bits)) n)
theorem digit_lo {k : Int} (h0 : 0 ≤ k) (h1 : k < 16) (hl : 48 ≤ ((digit k).toNat : Int) ∧ ((digit k).toNat : Int) ≤ 57) : IntKind.u8.wrap (((digit k).toNat : Int) - 48) = k := by
  have : ∀ k : Fin 16, (48 ≤ ((digit (k.val : Int)).toNat : Int) ∧ ((digit (k.val : Int)).toNat : Int) ≤ 57) → IntKind.u8.wrap (((digit (k.val : Int)).toNat : Int) - 48) = (k.val : Int) := by decide +kernel
  have h := this ⟨k.toNat, by omega⟩
  simp only [Int.toNat_of_nonneg h0] at h
  exact h hl
theorem digit_hi {k : Int} (h0 : 0 ≤ k) (h1 : k < 16) (hl : ¬ (48 ≤ ((digit k).toNat : Int) ∧ ((digit k).toNat : Int) ≤ 57)) : (97 ≤ ((digit k).toNat : Int) ∧ ((digit k).toNat : Int) ≤ 102) ∧ IntKind.u8.wrap (IntKind.u8.wrap (((digit k).toNat : Int) - 97) + 10) = k := by
  have : ∀ k : Fin 16, ¬ (48 ≤ ((digit (k.val : Int)).toNat : Int) ∧ ((digit (k.val : Int)).toNat : Int) ≤ 57) → (97 ≤ ((digit (k.val : Int)).toNat : Int) ∧ ((digit (k.val : Int)).toNat : Int) ≤ 102) ∧ IntKind.u8.wrap (IntKind.u8.wrap (((digit (k.val : Int)).toNat : Int) - 97) + 10) = (k.val : Int) := by decide +kernel
  have h := this ⟨k.toNat, by omega⟩
  simp only [Int.toNat_of_nonneg h0] at h
  exact h hl
theorem comb_0 (c : UInt8) : comb 0 ((c.toNat : Int) / 16) = by8 ((c.toNat : Int) / 16) := by
  have : ∀ k : Fin 256, comb 0 (((UInt8.ofNat k.val).toNat : Int) / 16) = by8 (((UInt8.ofNat k.val).toNat : Int) / 16) := by decide +kernel
  have h := this ⟨c.toNat, c.toNat_lt⟩
  rwa [ofNat_lt] at h
theorem comb_1 (c : UInt8) : comb (by8 ((c.toNat : Int) / 16)) ((c.toNat : Int) % 16) = c := by
  have : ∀ k : Fin 256, comb (by8 (((UInt8.ofNat k.val).toNat : Int) / 16)) (((UInt8.ofNat k.val).toNat : Int) % 16) = UInt8.ofNat k.val := by decide +kernel
  have h := this ⟨c.toNat, c.toNat_lt⟩
  rwa [ofNat_lt] at h
def nibs (h : Bs) (i : Nat) : Int := if i % 2 = 0 then ((h.getD (i / 2) 0).toNat : Int) / 16 else ((h.getD (i / 2) 0).toNat : Int) % 16
theorem nibs_rng (h : Bs) (i : Nat) : 0 ≤ nibs h i ∧ nibs h i < 16 := by
  unfold nibs
  have := (h.getD (i / 2) 0).toNat_lt
  split <;> omega
theorem hexN_get (h : Bs) : ∀ (n i : Nat), i < 2 * n → (hexN h n).getD i 0 = digit (nibs h i)
  | 0, i, hi => by omega
  | n + 1, i, hi => by
    have hl := hexN_length h n
    unfold hexN
    by_cases h1 : i < 2 * n
    · rw [← hexN_get h n i h1, List.getD_eq_getElem?_getD, List.getElem?_append_left (by omega)]
      exact (List.getD_eq_getElem?_getD ..).symm
    · rw [List.getD_eq_getElem?_getD, List.getElem?_append_right (by omega), hl]
      have : i = 2 * n ∨ i = 2 * n + 1 := by omega
      rcases this with rfl | rfl
      · unfold nibs
        rw [if_pos (by omega), show 2 * n / 2 = n by omega, Nat.sub_self]
        first | rfl | simp [List.getD_eq_getElem?_getD]
      · unfold nibs
        rw [if_neg (by omega), show (2 * n + 1) / 2 = n by omega, show 2 * n + 1 - 2 * n = 1 by omega]
        rfl
def hx (h : Bs) (i : Nat) : Bs := (List.range 32).map fun j => if 2 * j + 2 ≤ i then h.getD j 0 else if 2 * j + 1 ≤ i then by8 (((h.getD j 0).toNat : Int) / 16) else 0
theorem hx_len (h : Bs) (i : Nat) : (hx h i).length = 32 := by simp [hx]
theorem hx_get (h : Bs) (i j : Nat) (hj : j < 32) : (hx h i)[j]? = some (if 2 * j + 2 ≤ i then h.getD j 0 else if 2 * j + 1 ≤ i then by8 (((h.getD j 0).toNat : Int) / 16) else 0) := by
  unfold hx
  rw [List.getElem?_map, List.getElem?_range hj]
  rfl
theorem hx_0 (h : Bs) : hx h 0 = List.replicate 32 0 := by
  apply List.ext_getElem?
  intro j
  by_cases hj : j < 32
  · rw [hx_get h 0 j hj, if_neg (by omega), if_neg (by omega), List.getElem?_replicate, if_pos hj]
  · rw [List.getElem?_eq_none (by rw [hx_len]; omega), List.getElem?_eq_none (by simp; omega)]
theorem hx_64 {h : Bs} (hl : h.length = 32) : hx h 64 = h := by
  apply List.ext_getElem?
  intro j
  by_cases hj : j < 32
  · rw [hx_get h 64 j hj, if_pos (by omega), List.getD_eq_getElem?_getD, List.getElem?_eq_getElem (by omega)]
    rfl
  · rw [List.getElem?_eq_none (by rw [hx_len]; omega), List.getElem?_eq_none (by omega)]
theorem hx_step {h : Bs} {i : Nat} (hi : i < 64) : (hx h i).set (i / 2) (comb ((hx h i).getD (i / 2) 0) (nibs h i)) = hx h (i + 1) := by
  apply List.ext_getElem?
  intro j
  by_cases hj : j < 32
  · rw [List.getElem?_set, hx_get h (i + 1) j hj]
    by_cases hij : i / 2 = j
    · rw [if_pos hij, if_pos (by rw [hx_len]; omega)]
      subst hij
      rw [List.getD_eq_getElem?_getD, hx_get h i (i / 2) (by omega), Option.getD_some]
      unfold nibs
      by_cases he : i % 2 = 0
      · rw [if_pos he, if_neg (by omega), if_neg (by omega), comb_0, if_neg (by omega), if_pos (by omega)]
      · rw [if_neg he, if_neg (by omega), if_pos (by omega), comb_1, if_pos (by omega)]
    · rw [if_neg hij, hx_get h i j hj]
      congr 1
      by_cases h1 : 2 * j + 2 ≤ i
      · rw [if_pos h1, if_pos (by omega)]
      · rw [if_neg h1, if_neg (by omega), if_neg (by omega), if_neg (by omega)]
  · rw [List.getElem?_eq_none (by rw [List.length_set, hx_len]; omega), List.getElem?_eq_none (by rw [hx_len]; omega)]
def HxK (s l : Bs) (i : Nat) : Prop := ∀ h : Bs, h.length = 32 → s = hex h → l = hx h i
theorem hxk_step {s l : Bs} {i : Nat} {n : Int} (hk : HxK s l i) (hi : i < 64) (hn : ∀ h : Bs, h.length = 32 → s = hex h → n = nibs h i) : HxK s (l.set (i / 2) (comb (l.getD (i / 2) 0) n)) (i + 1) := fun h hl hs => by
  rw [hk h hl hs, hn h hl hs]
  exact hx_step hi
theorem hex_char {s h : Bs} {i : Nat} (hi : i < 64) (hs : s = hex h) : s.getD i 0 = digit (nibs h i) := by
  rw [hs]
  exact hexN_get h 32 i (by omega)
attribute [local irreducible] es qt cms hex HxK hx comb nibs digit
theorem fromHex_con (s : Bs) (w : World) (hs : s.length ≤ 1099511627776) : Con Tryz.prog 130 [.string (bs s)] w [] fun v _ => ∃ l e, v = .tuple #[.agg (ints l).toArray, .int .i64 e] ∧ l.length = 32 ∧ ∀ h : Bs, h.length = 32 → s = hex h → l = h ∧ e = 0 := by
  refine con_of_tree mix Tryz.func130 T130_ok (by kernel_rfl) ?_
  unfold T130
  refine j_alloc zero51 (fun g0 hg0 hs0 => ?_)
  refine j_q (qs_ac) ?_
  refine j_q (qs_lens Tryz.underlying9 rfl) ?_
  refine j_q (qs_neq rfl rfl) ?_
  refine j_cond rfl (fun hc0 => ?_) (fun hc0 => ?_)
  · skip
    have hne : s.length ≠ 64 := by simp only [bnA] at *; omega
    refine j_q (qs_run (v := .agg (ints (List.replicate 32 0)).toArray) (fun w => by kernel_rfl)) ?_
    refine j_storew (l := ints (List.replicate 32 0)) (vs := ints (List.replicate 32 0)) 0 sz51 rfl rfl rfl ints_one rfl rfl ?_
    refine j_q (qs_ac) ?_
    first
      | refine j_ret_con (vs := [_, _]) (fun w' hw' => ⟨rv_agg 0 Tryz.underlying51 rfl sz51 rfl rfl (by first | (rw [ints_length]; exact hl32) | rfl) hw', rfl, trivial⟩) ?_
      | refine j_ret_con (vs := [_, _]) (fun w' hw' => ⟨rv_agg 1 Tryz.underlying51 rfl sz51 rfl rfl (by first | (rw [ints_length]; exact hl32) | rfl) hw', rfl, trivial⟩) ?_
      | refine j_ret_con (vs := [_, _]) (fun w' hw' => ⟨rv_agg 2 Tryz.underlying51 rfl sz51 rfl rfl (by first | (rw [ints_length]; exact hl32) | rfl) hw', rfl, trivial⟩) ?_
    exact ⟨_, _, rfl, by simp, fun h hl hs => absurd (by rw [hs]; exact hexL h) hne⟩
  · skip
    have h64 : s.length = 64 := by simp only [bnA] at *; omega
    refine j_bytes Tryz.underlying9 Tryz.underlying46 Tryz.underlying5 rfl (fun v7 c7 ho7 hv7 => ?_)
    obtain ⟨g7, cap7, rfl⟩ := hv7
    refine j_q (qs_lenl Tryz.underlying46 rfl) ?_
    refine j_q (qs_mc) ?_
    refine j_loop (fun m vs S' => ∃ (i : Nat) (l : Bs), vs = [.int .i64 (i : Int)] ∧ S' = [c7, [(g0, .cells (ints l).toArray 51 (0, 0))], []] ∧ l.length = 32 ∧ HxK s l i ∧ i ≤ 64 ∧ m = 64 - i) ⟨_, 0, List.replicate 32 0, rfl, rfl, by simp, (by unfold HxK; exact fun h hl hs => (hx_0 h).symm), by omega, rfl⟩ ?_
    rintro m vs S' hlen ⟨i, l, rfl, rfl, hl32, hk, hin, rfl⟩
    refine j_q (qs_lss rfl rfl) ?_
    refine j_cond rfl (fun hc1 => ?_) (fun hc1 => ?_)
    · skip
      have hi : i < 64 := by
        simp only [bnA] at *
        omega
      have hcl := (s.getD i 0).toNat_lt
      refine j_q (qs_ixl0 Tryz.underlying46 sz5 rfl rfl (by omega)) ?_
      refine j_q (qs_loadr8 (own_rd ho7 0 rfl) Tryz.underlying5 rfl (by simp only [Int.toNat_natCast]; omega)) ?_
      simp only [Int.toNat_natCast]
      refine j_q (qs_ac) ?_
      refine j_q (qs_geq rfl rfl) ?_
      refine j_g rfl (fun hb => qs_mt rfl) ?_
      refine j_g rfl (fun hb => qs_leq (gd_eq hb) rfl) ?_
      refine j_q (qs_and rfl rfl) ?_
      refine j_cond rfl (fun hc2 => ?_) (fun hc2 => ?_)
      · skip
        have hd : 48 ≤ ((s.getD i 0).toNat : Int) ∧ ((s.getD i 0).toNat : Int) ≤ 57 := by simp only [bnA] at *; omega
        have hk2 : HxK s (l.set (i / 2) (comb (l.getD (i / 2) 0) (IntKind.u8.wrap (((s.getD i 0).toNat : Int) - 48)))) (i + 1) := hxk_step hk hi (fun h hl hs => by rw [hex_char hi hs] at hd ⊢; exact digit_lo (nibs_rng h i).1 (nibs_rng h i).2 hd)
        refine j_q (qs_sub rfl rfl) ?_
        refine j_q (qs_quo64 rfl rfl (by first | omega | (simp only [bnA] at *; omega)) (by first | omega | (simp only [bnA] at *; omega)) (by first | omega | (simp only [bnA] at *; omega))) ?_
        rw [show ((i : Int) / 2) = ((i / 2 : Nat) : Int) by omega]
        refine j_q (qs_quo64 rfl rfl (by first | omega | (simp only [bnA] at *; omega)) (by first | omega | (simp only [bnA] at *; omega)) (by first | omega | (simp only [bnA] at *; omega))) ?_
        rw [show ((i : Int) / 2) = ((i / 2 : Nat) : Int) by omega]
        refine j_q (qs_ix0 Tryz.underlying51 sz5 rfl rfl ⟨by omega, by omega⟩) ?_
        rw [Int.toNat_natCast]
        refine j_q (qs_loadi (l := l) 1 Tryz.underlying5 rfl rfl (by omega)) ?_
        refine j_q (qs_shl rfl rfl (by first | omega | (simp only [bnA] at *; omega))) ?_
        refine j_q (qs_or_ rfl rfl) ?_
        rw [bw_by8]
        rw [show (by8 (bw .or .u8 (IntKind.u8.wrap (((l.getD (i / 2) 0).toNat : Int) * 2 ^ min (Int.toNat 4) IntKind.u8.bits)) (IntKind.u8.wrap (((s.getD i 0).toNat : Int) - 48)))) = comb (l.getD (i / 2) 0) (IntKind.u8.wrap (((s.getD i 0).toNat : Int) - 48)) by unfold comb; rfl]
        refine j_q (qs_ix0 Tryz.underlying51 sz5 rfl rfl ⟨by omega, by omega⟩) ?_
        rw [Int.toNat_natCast]
        refine j_storei (l := l) (c := comb (l.getD (i / 2) 0) (IntKind.u8.wrap (((s.getD i 0).toNat : Int) - 48))) 1 sz5 rfl rfl rfl (by omega) ?_
        refine j_q (qs_add64 rfl rfl (by first | omega | (simp only [bnA] at *; omega))) ?_
        refine j_back rfl ?_
        exact ⟨64 - (i + 1), by omega, i + 1, _, rfl, rfl, by rw [List.length_set]; exact hl32, hk2, by omega, rfl⟩
      · skip
        have hd : ¬ (48 ≤ ((s.getD i 0).toNat : Int) ∧ ((s.getD i 0).toNat : Int) ≤ 57) := by simp only [bnA] at *; omega
        refine j_q (qs_geq rfl rfl) ?_
        refine j_g rfl (fun hb => qs_mt rfl) ?_
        refine j_g rfl (fun hb => qs_leq (gd_eq hb) rfl) ?_
        refine j_q (qs_and rfl rfl) ?_
        refine j_cond rfl (fun hc3 => ?_) (fun hc3 => ?_)
        · skip
          have hk2 : HxK s (l.set (i / 2) (comb (l.getD (i / 2) 0) (IntKind.u8.wrap (IntKind.u8.wrap (((s.getD i 0).toNat : Int) - 97) + 10)))) (i + 1) := hxk_step hk hi (fun h hl hs => by rw [hex_char hi hs] at hd ⊢; exact (digit_hi (nibs_rng h i).1 (nibs_rng h i).2 hd).2)
          refine j_q (qs_sub rfl rfl) ?_
          refine j_q (qs_add rfl rfl) ?_
          refine j_q (qs_quo64 rfl rfl (by first | omega | (simp only [bnA] at *; omega)) (by first | omega | (simp only [bnA] at *; omega)) (by first | omega | (simp only [bnA] at *; omega))) ?_
          rw [show ((i : Int) / 2) = ((i / 2 : Nat) : Int) by omega]
          refine j_q (qs_quo64 rfl rfl (by first | omega | (simp only [bnA] at *; omega)) (by first | omega | (simp only [bnA] at *; omega)) (by first | omega | (simp only [bnA] at *; omega))) ?_
          rw [show ((i : Int) / 2) = ((i / 2 : Nat) : Int) by omega]
          refine j_q (qs_ix0 Tryz.underlying51 sz5 rfl rfl ⟨by omega, by omega⟩) ?_
          rw [Int.toNat_natCast]
          refine j_q (qs_loadi (l := l) 1 Tryz.underlying5 rfl rfl (by omega)) ?_
          refine j_q (qs_shl rfl rfl (by first | omega | (simp only [bnA] at *; omega))) ?_
          refine j_q (qs_or_ rfl rfl) ?_
          rw [bw_by8]
          rw [show (by8 (bw .or .u8 (IntKind.u8.wrap (((l.getD (i / 2) 0).toNat : Int) * 2 ^ min (Int.toNat 4) IntKind.u8.bits)) (IntKind.u8.wrap (IntKind.u8.wrap (((s.getD i 0).toNat : Int) - 97) + 10)))) = comb (l.getD (i / 2) 0) (IntKind.u8.wrap (IntKind.u8.wrap (((s.getD i 0).toNat : Int) - 97) + 10)) by unfold comb; rfl]
          refine j_q (qs_ix0 Tryz.underlying51 sz5 rfl rfl ⟨by omega, by omega⟩) ?_
          rw [Int.toNat_natCast]
          refine j_storei (l := l) (c := comb (l.getD (i / 2) 0) (IntKind.u8.wrap (IntKind.u8.wrap (((s.getD i 0).toNat : Int) - 97) + 10))) 1 sz5 rfl rfl rfl (by omega) ?_
          refine j_q (qs_add64 rfl rfl (by first | omega | (simp only [bnA] at *; omega))) ?_
          refine j_back rfl ?_
          exact ⟨64 - (i + 1), by omega, i + 1, _, rfl, rfl, by rw [List.length_set]; exact hl32, hk2, by omega, rfl⟩
        · skip
          have hno : ∀ h : Bs, h.length = 32 → s ≠ hex h := fun h hl hs => by
            rw [hex_char hi hs] at hd hc3
            have h2 := (digit_hi (nibs_rng h i).1 (nibs_rng h i).2 hd).1
            simp only [bnA] at *
            omega
          refine j_q (qs_run (v := .agg (ints (List.replicate 32 0)).toArray) (fun w => by kernel_rfl)) ?_
          refine j_storew (l := ints l) (vs := ints (List.replicate 32 0)) 1 sz51 rfl rfl rfl ints_one rfl (by rw [ints_length]; exact hl32) ?_
          refine j_q (qs_ac) ?_
          first
            | refine j_ret_con (vs := [_, _]) (fun w' hw' => ⟨rv_agg 0 Tryz.underlying51 rfl sz51 rfl rfl (by first | (rw [ints_length]; exact hl32) | rfl) hw', rfl, trivial⟩) ?_
            | refine j_ret_con (vs := [_, _]) (fun w' hw' => ⟨rv_agg 1 Tryz.underlying51 rfl sz51 rfl rfl (by first | (rw [ints_length]; exact hl32) | rfl) hw', rfl, trivial⟩) ?_
            | refine j_ret_con (vs := [_, _]) (fun w' hw' => ⟨rv_agg 2 Tryz.underlying51 rfl sz51 rfl rfl (by first | (rw [ints_length]; exact hl32) | rfl) hw', rfl, trivial⟩) ?_
          exact ⟨_, _, rfl, by simp, fun h hl hs => absurd hs (hno h hl)⟩
    · skip
      obtain rfl : i = 64 := by
        simp only [bnA] at *
        omega
      refine j_q (qs_loadw (l := ints l) 1 Tryz.underlying51 rfl sz51 rfl rfl (by rw [ints_length]; exact hl32)) ?_
      refine j_storew (l := ints l) (vs := ints l) 1 sz51 rfl rfl (by rw [ints_length]; exact hl32) ints_one rfl (by rw [ints_length]; exact hl32) ?_
      refine j_q (qs_ac) ?_
      first
        | refine j_ret_con (vs := [_, _]) (fun w' hw' => ⟨rv_agg 0 Tryz.underlying51 rfl sz51 rfl rfl (by first | (rw [ints_length]; exact hl32) | rfl) hw', rfl, trivial⟩) ?_
        | refine j_ret_con (vs := [_, _]) (fun w' hw' => ⟨rv_agg 1 Tryz.underlying51 rfl sz51 rfl rfl (by first | (rw [ints_length]; exact hl32) | rfl) hw', rfl, trivial⟩) ?_
        | refine j_ret_con (vs := [_, _]) (fun w' hw' => ⟨rv_agg 2 Tryz.underlying51 rfl sz51 rfl rfl (by first | (rw [ints_length]; exact hl32) | rfl) hw', rfl, trivial⟩) ?_
      exact ⟨_, _, rfl, hl32, fun h hl hs => ⟨by unfold HxK at hk; rw [hk h hl hs, hx_64 hl], rfl⟩⟩
end Go.Proofs.YtfeabbeebkkhaaaGreat
