/- Derivations: the law's text of all parts. -/
import Derived.Test.YtfeabbeebkkhaaaGreatTa
import Derived.Test.YtfeabbeebkkhaaaGreatDv11
namespace Go.Proofs.YtfeabbeebkkhaaaGreat
open Go Go.Sx
set_option maxRecDepth 100000
set_option maxHeartbeats 4000000
set_option linter.unusedVariables false
set_option linter.unusedSimpArgs false
attribute [local irreducible] J JQ QS Con W opW


def sO (o : PO) : Bs := [124, 111] ++ o.name ++ o.path ++ o.hash.1 ++ (if o.fixed then [102, 105, 120, 101, 100] else [])
def cm1 (o : Bs) : Bs := [44] ++ o
def sC (l : List Bs) : Bs := (l.map cm1).flatten
def sI (x : PI) : Bs := [124, 105] ++ x.drv ++ sC x.outs
def sS (p : Bs) : Bs := [124, 115] ++ p
def sA (p : Bs) : Bs := [124, 97] ++ p
def sV (v : PV) : Bs := [124, 101] ++ v.name ++ [61] ++ v.val
/-- all parts of one, as the law shows them -/
def dshow (d : PD) : Bs := d.name ++ [124] ++ d.sys ++ [124] ++ d.bld ++ (d.outs.map sO).flatten ++ (d.ins.map sI).flatten ++ (d.srcs.map sS).flatten ++ (d.args.map sA).flatten ++ (d.env.map sV).flatten
theorem fl_step {α : Type} (f : α → Bs) {l : List α} {i : Nat} {d : α} (h : i < l.length) : ((l.take (i + 1)).map f).flatten = ((l.take i).map f).flatten ++ f (l.getD i d) := by
  rw [take_map_snoc f (d := d) h, List.flatten_append]
  simp
theorem fl_zero {α : Type} (f : α → Bs) (l : List α) : ((l.take 0).map f).flatten = [] := by simp
theorem fl_take_le {α : Type} (f : α → Bs) (l : List α) (n : Nat) (h : ((l.map f).flatten).length ≤ n) : ∀ i, (((l.take i).map f).flatten).length ≤ n := fun i => by
  have : (l.map f).flatten = ((l.take i).map f).flatten ++ ((l.drop i).map f).flatten := by
    conv => lhs; rw [← List.take_append_drop i l]
    rw [List.map_append, List.flatten_append]
  rw [this, List.length_append] at h
  omega
theorem fl_len {α : Type} (f : α → Bs) (g : α → Nat) (k c : Nat) (l : List α) (h : ∀ x ∈ l, (f x).length ≤ k * g x + c) : ((l.map f).flatten).length ≤ k * (l.map g).sum + c * l.length := by
  induction l with
  | nil => simp
  | cons a l ih =>
    have h1 := h a (by simp)
    have h2 := ih fun x hx => h x (by simp [hx])
    simp only [List.map_cons, List.flatten_cons, List.length_append, List.sum_cons, List.length_cons, Nat.mul_add, Nat.mul_one]
    omega
theorem sC_len (l : List Bs) (h : ∀ o ∈ l, o.length ≤ 140737488355328) : (sC l).length ≤ 140737488355329 * l.length := by
  have := fl_len cm1 (fun _ => 0) 0 140737488355329 l (fun x hx => by have := h x hx; unfold cm1; simp only [List.length_append, List.length_cons, List.length_nil]; omega)
  unfold sC
  omega
structure ShB (d : PD) : Prop where
  o : ((d.outs.map sO).flatten).length ≤ 100000000000
  i : ((d.ins.map sI).flatten).length ≤ 2300000000000000000
  s : ((d.srcs.map sS).flatten).length ≤ 100000000000
  a : ((d.args.map sA).flatten).length ≤ 100000000000
  e : ((d.env.map sV).flatten).length ≤ 100000000000
theorem shb_of {d : PD} (hb : big2 d ≤ 16000) (hou : ∀ y ∈ d.ins, ∀ o ∈ y.outs, o.length ≤ 140737488355328) : ShB d := by
  have few := few_of (Nat.le_trans hb (by decide))
  have h1 := fl_len sO (fun _ => 0) 0 300000 d.outs (fun x hx => by
    have := few.ou x hx
    have h32 := x.hash.2
    unfold sO
    simp only [List.length_append, List.length_cons, List.length_nil, h32]
    split <;> simp <;> omega)
  have h2 := fl_len sI (fun x : PI => x.drv.length + 10 * x.outs.length) 140737488355329 2 d.ins (fun x hx => by
    have := sC_len x.outs (hou x hx)
    unfold sI
    simp only [List.length_append, List.length_cons, List.length_nil]
    omega)
  have h3 := fl_len sS (fun _ => 0) 0 300000 d.srcs (fun x hx => by
    have := few.sr x hx
    unfold sS
    simp only [List.length_append, List.length_cons, List.length_nil]
    omega)
  have h4 := fl_len sA (fun _ => 0) 0 300000 d.args (fun x hx => by
    have := few.ar x hx
    unfold sA
    simp only [List.length_append, List.length_cons, List.length_nil]
    omega)
  have h5 := fl_len sV (fun _ => 0) 0 300000 d.env (fun x hx => by
    have := few.ev x hx
    unfold sV
    simp only [List.length_append, List.length_cons, List.length_nil]
    omega)
  have g1 := few.lo
  have g2 := few.li
  have g3 := few.ls
  have g4 := few.la
  have g5 := few.le
  have hs : (d.ins.map fun x => x.drv.length + 10 * x.outs.length).sum ≤ 16000 := by
    unfold big2 big1 at hb
    omega
  exact ⟨by omega, by omega, by omega, by omega, by omega⟩
theorem rd_rec {w : World} {S : List SH} {α : Type} {enc : α → List Value} {N : Nat} {rs : List α} {d : α} {g off i fo : Nat} {vs : List Value} (hl : ∀ a, (enc a).length = N) (h : Cells w ⟨g, off, none⟩ (rs.map enc).flatten) (hi : i < rs.length) (hv : ∀ j u, vs[j]? = some u → (enc (rs.getD i d))[fo + j]? = some u) : Rd ⟨w, dom []⟩ S ⟨g, off + i * N + fo, none⟩ vs := fun w' hw' j u hu => by
  have h1 := hv j u hu
  have hlt : fo + j < N := by
    have := (List.getElem?_eq_some_iff.1 h1).1
    rwa [hl] at this
  have h2 := rd_w (rd_cells (b := ⟨w, dom []⟩) h (by simp)) hw' (i * N + (fo + j)) u (by
    rw [flat_get hl rs i (fo + j) hlt, List.getElem?_eq_getElem hi]
    rw [List.getD_eq_getElem?_getD, List.getElem?_eq_getElem hi] at h1
    exact h1)
  rw [add_off] at h2 ⊢
  rw [← h2]
  congr 2
  omega
theorem vsi {a b : Bs} {m n : Int} (h1 : a = b) (h2 : m = n) : [Value.string (bs a), .int .i64 m] = [Value.string (bs b), .int .i64 n] := by rw [h1, h2]
attribute [local irreducible] es qt cms hex Tbl Half lst isName isPath isDrvP leB chkO chkOuts chkN chkI chkIns firstE spA spB spE chkS chkV dtext chk chk0 tTs
/-- pantry.pantrylaw14.text -/
theorem ltext_con (d : PD) (x : DV) (w : World) (h : DR w d x) (hb : big2 d ≤ 16000) (hou : ∀ y ∈ d.ins, ∀ o ∈ y.outs, o.length ≤ 140737488355328) : Con Tryz.prog 17 [dval d x] w [] fun v _ => v = .string (bs (dshow d)) := by
  refine con_of_tree mix Tryz.func17 T17_ok (by kernel_rfl) ?_
  unfold T17
  have hni : d.ins.length = x.mi.length := by rw [h.im, List.length_map]
  obtain ⟨Ao, capo, go, offo, hvo, hcapo, hAo⟩ := rsln_form h.o
  obtain ⟨Ai, capi, gi, offi, hvi, hcapi, hAi⟩ := rsln_form h.i
  obtain ⟨Ae, cape, ge, offe, hve, hcape, hAe⟩ := rsln_form h.e
  obtain ⟨As, caps, hvs, hcaps⟩ := strz_form h.s
  obtain ⟨Aa, capa, hva, hcapa⟩ := strz_form h.a
  have hmem : ∀ m ∈ x.mi, m.pi ∈ d.ins := fun m hm => by rw [h.im]; exact List.mem_map_of_mem hm
  have few := few_of (Nat.le_trans hb (by decide))
  have few1 := few.nm
  have few2 := few.sy
  have few3 := few.bl
  have few4 := few.la
  have few5 := few.le
  have few6 := few.li
  have few7 := few.lo
  have few8 := few.ls
  have sh := shb_of hb hou
  have hmap : d.ins.map sI = x.mi.map (fun m => sI m.pi) := by rw [h.im, List.map_map]; rfl
  have s1 := sh.o
  have s2 := sh.i
  have s3 := sh.s
  have s4 := sh.a
  have s5 := sh.e
  rw [hmap] at s2
  have t1 := fl_take_le sO d.outs _ s1
  have t2 := fl_take_le (fun m : MI => sI m.pi) x.mi _ s2
  have t3 := fl_take_le sS d.srcs _ s3
  have t4 := fl_take_le sA d.args _ s4
  have t5 := fl_take_le sV d.env _ s5
  refine j_box (l := dcells d x) rfl (fun g0 hg0 hs0 => ?_)
  refine j_q (qs_ac) ?_
  refine j_q (qs_field Tryz.underlying28 rfl sz9 (by decide) rfl) ?_
  refine j_q (qs_load (l := dcells d x) 0 Tryz.underlying9 rfl rfl rfl rfl) ?_
  refine j_q (qs_sadd (l := d.name) (l' := [124]) rfl rfl (by first | omega | (simp only [List.length_append, List.length_cons, List.length_nil]; omega))) ?_
  refine j_q (qs_field Tryz.underlying28 rfl sz9 (by decide) rfl) ?_
  refine j_q (qs_load (l := dcells d x) 0 Tryz.underlying9 rfl rfl rfl rfl) ?_
  refine j_q (qs_sadd (l := (d.name ++ [124])) (l' := d.sys) rfl rfl (by first | omega | (simp only [List.length_append, List.length_cons, List.length_nil]; omega))) ?_
  refine j_q (qs_sadd (l := ((d.name ++ [124]) ++ d.sys)) (l' := [124]) rfl rfl (by first | omega | (simp only [List.length_append, List.length_cons, List.length_nil]; omega))) ?_
  refine j_q (qs_field Tryz.underlying28 rfl sz9 (by decide) rfl) ?_
  refine j_q (qs_load (l := dcells d x) 0 Tryz.underlying9 rfl rfl rfl rfl) ?_
  refine j_q (qs_sadd (l := (((d.name ++ [124]) ++ d.sys) ++ [124])) (l' := d.bld) rfl rfl (by first | omega | (simp only [List.length_append, List.length_cons, List.length_nil]; omega))) ?_
  obtain ⟨P0, hP0⟩ : ∃ p, p = ((((d.name ++ [124]) ++ d.sys) ++ [124]) ++ d.bld) := ⟨_, rfl⟩
  rw [← hP0]
  have hP0l : P0.length ≤ 1000000 := by
    rw [hP0]
    simp only [List.length_append, List.length_cons, List.length_nil]
    omega
  refine j_q (qs_ac) ?_
  refine j_loop (fun m vs S' => ∃ i : Nat, vs = [.string (bs (P0 ++ ((d.outs.take i).map sO).flatten)), .int .i64 (i : Int)] ∧ S' = [[(g0, .cells (dcells d x).toArray 28 (0, 0))], []] ∧ i ≤ d.outs.length ∧ m = d.outs.length - i) ⟨_, 0, by rw [fl_zero, List.append_nil]; rfl, rfl, Nat.zero_le _, rfl⟩ ?_
  rintro m vs S' hlen ⟨i, rfl, rfl, hin, rfl⟩
  refine j_q (qs_field Tryz.underlying28 rfl sz26 (by decide) rfl) ?_
  refine j_q (qs_load (l := dcells d x) 0 Tryz.underlying26 rfl rfl rfl (congrArg some hvo)) ?_
  refine j_q (qs_lenl Tryz.underlying26 rfl) ?_
  refine j_q (qs_lss rfl rfl) ?_
  refine j_cond rfl (fun hc0 => ?_) (fun hc0 => ?_)
  · skip
    have hi : i < d.outs.length := by
      simp only [Bool.and_eq_true, Bool.or_eq_true, Bool.and_eq_false_iff, Bool.or_eq_false_iff, Bool.not_eq_true', Bool.not_eq_false', decide_eq_true_eq, decide_eq_false_iff_not, beq_iff_eq, beq_eq_false_iff_ne, bne_iff_ne, bne_eq_false_iff_eq, ne_eq, Int.toNat_natCast] at *
      omega
    obtain ⟨rfl, hgo, hcells⟩ := hAo (by omega)
    have hsl := few.ou _ (getD_mem (d := o0) hi)
    have h32 := (d.outs.getD i o0).hash.2
    have hti := t1 i
    refine j_draw ?_
    refine jq_q (qs_sadd (l := (P0 ++ ((d.outs.take i).map sO).flatten)) (l' := [124, 111]) rfl rfl (by first | omega | (simp only [List.length_append, List.length_cons, List.length_nil]; omega))) ?_
    refine jq_q (qs_field Tryz.underlying28 rfl sz26 (by decide) rfl) ?_
    refine jq_q (qs_load (l := dcells d x) 0 Tryz.underlying26 rfl rfl rfl (congrArg some hvo)) ?_
    refine jq_q (qs_ixn (g := go) (off := offo) (i := i) Tryz.underlying26 sz53 rfl rfl (by omega)) ?_
    refine jq_q (qs_field Tryz.underlying53 rfl sz9 (by decide) rfl) ?_
    refine jq_q (qs_loadrec (v := .string (bs (d.outs.getD i o0).name)) (encA := encO) (rs := d.outs) (d := o0) (i := i) (fo := 0) encO_len (rd_cells hcells (by simp)) hi Tryz.underlying9 rfl rfl rfl) ?_
    refine jq_q (qs_sadd (l := ((P0 ++ ((d.outs.take i).map sO).flatten) ++ [124, 111])) (l' := (d.outs.getD i o0).name) rfl rfl (by first | omega | (simp only [List.length_append, List.length_cons, List.length_nil]; omega))) ?_
    refine jq_q (qs_field Tryz.underlying28 rfl sz26 (by decide) rfl) ?_
    refine jq_q (qs_load (l := dcells d x) 0 Tryz.underlying26 rfl rfl rfl (congrArg some hvo)) ?_
    refine jq_q (qs_ixn (g := go) (off := offo) (i := i) Tryz.underlying26 sz53 rfl rfl (by omega)) ?_
    refine jq_q (qs_field Tryz.underlying53 rfl sz49 (by decide) rfl) ?_
    refine jq_q (qs_loadrec (v := .string (bs (d.outs.getD i o0).path)) (encA := encO) (rs := d.outs) (d := o0) (i := i) (fo := 1) encO_len (rd_cells hcells (by simp)) hi Tryz.underlying49 rfl rfl rfl) ?_
    refine jq_q (qs_sadd (l := (((P0 ++ ((d.outs.take i).map sO).flatten) ++ [124, 111]) ++ (d.outs.getD i o0).name)) (l' := (d.outs.getD i o0).path) rfl rfl (by first | omega | (simp only [List.length_append, List.length_cons, List.length_nil]; omega))) ?_
    refine jq_q (qs_field Tryz.underlying28 rfl sz26 (by decide) rfl) ?_
    refine jq_q (qs_load (l := dcells d x) 0 Tryz.underlying26 rfl rfl rfl (congrArg some hvo)) ?_
    refine jq_q (qs_ixn (g := go) (off := offo) (i := i) Tryz.underlying26 sz53 rfl rfl (by omega)) ?_
    refine jq_q (qs_field Tryz.underlying53 rfl sz51 (by decide) rfl) ?_
    refine jq_q (qs_cuta (a := 0) (z := 32) Tryz.underlying51 sz5 rfl rfl rfl (by omega) (by omega)) ?_
    refine jq_q (qs_str (l := (d.outs.getD i o0).hash.1) (c := 32) Tryz.underlying46 Tryz.underlying5 Tryz.underlying9 (by simp only [ev, (d.outs.getD i o0).hash.2]; rfl) (rd_rec (fo := 3) (d := o0) encO_len hcells hi (fun j u hu => by rw [Nat.add_comm]; exact hu))) ?_
    refine jq_q (qs_sadd (l := ((((P0 ++ ((d.outs.take i).map sO).flatten) ++ [124, 111]) ++ (d.outs.getD i o0).name) ++ (d.outs.getD i o0).path)) (l' := (d.outs.getD i o0).hash.1) rfl rfl (by first | omega | (simp only [List.length_append, List.length_cons, List.length_nil]; omega))) ?_
    refine jq_nil ?_
    refine j_q (qs_field Tryz.underlying28 rfl sz26 (by decide) rfl) ?_
    refine j_q (qs_load (l := dcells d x) 0 Tryz.underlying26 rfl rfl rfl (congrArg some hvo)) ?_
    refine j_q (qs_ixn (g := go) (off := offo) (i := i) Tryz.underlying26 sz53 rfl rfl (by omega)) ?_
    refine j_q (qs_field Tryz.underlying53 rfl sz4 (by decide) rfl) ?_
    refine j_q (qs_loadrec (v := .bool (d.outs.getD i o0).fixed) (encA := encO) (rs := d.outs) (d := o0) (i := i) (fo := 2) encO_len (rd_cells hcells (by simp)) hi Tryz.underlying4 rfl rfl rfl) ?_
    refine j_cond rfl (fun hc1 => ?_) (fun hc1 => ?_)
    · skip
      refine j_q (qs_sadd (l := (((((P0 ++ ((d.outs.take i).map sO).flatten) ++ [124, 111]) ++ (d.outs.getD i o0).name) ++ (d.outs.getD i o0).path) ++ (d.outs.getD i o0).hash.1)) (l' := [102, 105, 120, 101, 100]) rfl rfl (by first | omega | (simp only [List.length_append, List.length_cons, List.length_nil]; omega))) ?_
      refine j_q (qs_add64 rfl rfl (by first | omega | (simp only [Bool.and_eq_true, Bool.or_eq_true, Bool.and_eq_false_iff, Bool.or_eq_false_iff, Bool.not_eq_true', Bool.not_eq_false', decide_eq_true_eq, decide_eq_false_iff_not, beq_iff_eq, beq_eq_false_iff_ne, bne_iff_ne, bne_eq_false_iff_eq, ne_eq, Int.toNat_natCast] at *; omega))) ?_
      refine j_back rfl ?_
      exact ⟨d.outs.length - (i + 1), by omega, i + 1, vsi (by rw [fl_step sO (d := o0) hi]; unfold sO; rw [if_pos hc1]; simp only [List.append_assoc, List.cons_append, List.nil_append]) (by omega), rfl, by omega, rfl⟩
    · skip
      refine j_q (qs_add64 rfl rfl (by first | omega | (simp only [Bool.and_eq_true, Bool.or_eq_true, Bool.and_eq_false_iff, Bool.or_eq_false_iff, Bool.not_eq_true', Bool.not_eq_false', decide_eq_true_eq, decide_eq_false_iff_not, beq_iff_eq, beq_eq_false_iff_ne, bne_iff_ne, bne_eq_false_iff_eq, ne_eq, Int.toNat_natCast] at *; omega))) ?_
      refine j_back rfl ?_
      exact ⟨d.outs.length - (i + 1), by omega, i + 1, vsi (by rw [fl_step sO (d := o0) hi]; unfold sO; rw [if_neg (by rw [hc1]; decide)]; simp only [List.append_assoc, List.cons_append, List.nil_append]; rw [List.append_nil]) (by omega), rfl, by omega, rfl⟩
  · skip
    obtain rfl : i = d.outs.length := by
      simp only [Bool.and_eq_true, Bool.or_eq_true, Bool.and_eq_false_iff, Bool.or_eq_false_iff, Bool.not_eq_true', Bool.not_eq_false', decide_eq_true_eq, decide_eq_false_iff_not, beq_iff_eq, beq_eq_false_iff_ne, bne_iff_ne, bne_eq_false_iff_eq, ne_eq, Int.toNat_natCast] at *
      omega
    rw [List.take_length]
    obtain ⟨P1, hP1⟩ : ∃ p, p = P0 ++ (d.outs.map sO).flatten := ⟨_, rfl⟩
    rw [← hP1]
    have hP1l : P1.length ≤ 200000000000 := by
      rw [hP1, List.length_append]
      omega
    refine j_q (qs_ac) ?_
    refine j_loop (fun m vs S' => ∃ i : Nat, vs = [.string (bs (P1 ++ ((x.mi.take i).map (fun m => sI m.pi)).flatten)), .int .i64 (i : Int)] ∧ S' = [[(g0, .cells (dcells d x).toArray 28 (0, 0))], []] ∧ i ≤ x.mi.length ∧ m = x.mi.length - i) ⟨_, 0, by rw [fl_zero, List.append_nil]; rfl, rfl, Nat.zero_le _, rfl⟩ ?_
    rintro m vs S' hlen ⟨i, rfl, rfl, hin, rfl⟩
    refine j_q (qs_field Tryz.underlying28 rfl sz24 (by decide) rfl) ?_
    refine j_q (qs_load (l := dcells d x) 0 Tryz.underlying24 rfl rfl rfl (congrArg some hvi)) ?_
    refine j_q (qs_lenl Tryz.underlying24 rfl) ?_
    refine j_q (qs_lss rfl rfl) ?_
    refine j_cond rfl (fun hc2 => ?_) (fun hc2 => ?_)
    · skip
      have hi : i < x.mi.length := by
        simp only [Bool.and_eq_true, Bool.or_eq_true, Bool.and_eq_false_iff, Bool.or_eq_false_iff, Bool.not_eq_true', Bool.not_eq_false', decide_eq_true_eq, decide_eq_false_iff_not, beq_iff_eq, beq_eq_false_iff_ne, bne_iff_ne, bne_eq_false_iff_eq, ne_eq, Int.toNat_natCast] at *
        omega
      obtain ⟨rfl, hgi, hcells⟩ := hAi (by omega)
      have hsl := few.ip _ (hmem _ (getD_mem (d := m0) hi))
      simp only [MI.pi] at hsl
      have hti := t2 i
      have hso := sC_len _ (hou _ (hmem _ (getD_mem (d := m0) hi)))
      simp only [MI.pi] at hso
      have hsx := h.io _ (getD_mem (d := m0) hi)
      obtain ⟨Ax, capx, hvx, hcapx⟩ := strz_form hsx
      have htk := fl_take_le cm1 (x.mi.getD i m0).outs _ hso
      obtain ⟨Q, hQ⟩ : ∃ q, q = P1 ++ ((x.mi.take i).map (fun m => sI m.pi)).flatten ++ [124, 105] ++ (x.mi.getD i m0).drv := ⟨_, rfl⟩
      have hQl : Q.length ≤ 2400000000000000000 := by
        rw [hQ]
        simp only [List.length_append, List.length_cons, List.length_nil]
        omega
      refine j_q (qs_sadd (l := (P1 ++ ((x.mi.take i).map (fun m => sI m.pi)).flatten)) (l' := [124, 105]) rfl rfl (by first | omega | (simp only [List.length_append, List.length_cons, List.length_nil]; omega))) ?_
      refine j_q (qs_field Tryz.underlying28 rfl sz24 (by decide) rfl) ?_
      refine j_q (qs_load (l := dcells d x) 0 Tryz.underlying24 rfl rfl rfl (congrArg some hvi)) ?_
      refine j_q (qs_ixn (g := gi) (off := offi) (i := i) Tryz.underlying24 sz68 rfl rfl (by omega)) ?_
      refine j_q (qs_field Tryz.underlying68 rfl sz49 (by decide) rfl) ?_
      refine j_q (qs_loadrec (v := .string (bs (x.mi.getD i m0).drv)) (encA := encI) (rs := x.mi) (d := m0) (i := i) (fo := 0) encI_len (rd_cells hcells (by simp)) hi Tryz.underlying49 rfl rfl rfl) ?_
      refine j_q (qs_sadd (l := ((P1 ++ ((x.mi.take i).map (fun m => sI m.pi)).flatten) ++ [124, 105])) (l' := (x.mi.getD i m0).drv) rfl rfl (by first | omega | (simp only [List.length_append, List.length_cons, List.length_nil]; omega))) ?_
      rw [← hQ]
      refine j_q (qs_ac) ?_
      refine j_loop (fun m vs S' => ∃ k : Nat, vs = [.string (bs (Q ++ (((x.mi.getD i m0).outs.take k).map cm1).flatten)), .int .i64 (k : Int)] ∧ S' = [[(g0, .cells (dcells d x).toArray 28 (0, 0))], []] ∧ k ≤ (x.mi.getD i m0).outs.length ∧ m = (x.mi.getD i m0).outs.length - k) ⟨_, 0, by rw [fl_zero, List.append_nil]; rfl, rfl, Nat.zero_le _, rfl⟩ ?_
      rintro m vs S' hlen ⟨k, rfl, rfl, hkn, rfl⟩
      refine j_q (qs_field Tryz.underlying28 rfl sz24 (by decide) rfl) ?_
      refine j_q (qs_load (l := dcells d x) 0 Tryz.underlying24 rfl rfl rfl (congrArg some hvi)) ?_
      refine j_q (qs_ixn (g := gi) (off := offi) (i := i) Tryz.underlying24 sz68 rfl rfl (by omega)) ?_
      refine j_q (qs_field Tryz.underlying68 rfl sz22 (by decide) rfl) ?_
      refine j_q (qs_loadrec (v := .slice Ax (x.mi.getD i m0).outs.length capx) (encA := encI) (rs := x.mi) (d := m0) (i := i) (fo := 1) encI_len (rd_cells hcells (by simp)) hi Tryz.underlying22 rfl rfl (congrArg some hvx)) ?_
      refine j_q (qs_lenl Tryz.underlying22 rfl) ?_
      refine j_q (qs_lss rfl rfl) ?_
      refine j_cond rfl (fun hc3 => ?_) (fun hc3 => ?_)
      · skip
        have hk : k < (x.mi.getD i m0).outs.length := by
          simp only [Bool.and_eq_true, Bool.or_eq_true, Bool.and_eq_false_iff, Bool.or_eq_false_iff, Bool.not_eq_true', Bool.not_eq_false', decide_eq_true_eq, decide_eq_false_iff_not, beq_iff_eq, beq_eq_false_iff_ne, bne_iff_ne, bne_eq_false_iff_eq, ne_eq, Int.toNat_natCast] at *
          omega
        obtain ⟨gx, offx, rfl, hgx, hcellx⟩ := strz_addr (hvx ▸ hsx) (by omega)
        have hkl := hou _ (hmem _ (getD_mem (d := m0) hi)) _ (getD_mem (l := (x.mi.getD i m0).outs) (d := []) hk)
        have htkk := htk k
        refine j_q (qs_sadd (l := (Q ++ (((x.mi.getD i m0).outs.take k).map cm1).flatten)) (l' := [44]) rfl rfl (by first | omega | (simp only [List.length_append, List.length_cons, List.length_nil]; omega))) ?_
        refine j_q (qs_field Tryz.underlying28 rfl sz24 (by decide) rfl) ?_
        refine j_q (qs_load (l := dcells d x) 0 Tryz.underlying24 rfl rfl rfl (congrArg some hvi)) ?_
        refine j_q (qs_ixn (g := gi) (off := offi) (i := i) Tryz.underlying24 sz68 rfl rfl (by omega)) ?_
        refine j_q (qs_field Tryz.underlying68 rfl sz22 (by decide) rfl) ?_
        refine j_q (qs_loadrec (v := .slice (some ⟨gx, offx, none⟩) (x.mi.getD i m0).outs.length capx) (encA := encI) (rs := x.mi) (d := m0) (i := i) (fo := 1) encI_len (rd_cells hcells (by simp)) hi Tryz.underlying22 rfl rfl (congrArg some hvx)) ?_
        refine j_q (qs_ixn (g := gx) (off := offx) (i := k) Tryz.underlying22 sz9 rfl rfl (by omega)) ?_
        refine j_q (qs_loadrs (i := k) (rd_cells hcellx (by simp)) Tryz.underlying9 (by rw [add_off, Nat.mul_one]; rfl) (by omega)) ?_
        refine j_q (qs_sadd (l := ((Q ++ (((x.mi.getD i m0).outs.take k).map cm1).flatten) ++ [44])) (l' := ((x.mi.getD i m0).outs.getD k [])) rfl rfl (by first | omega | (simp only [List.length_append, List.length_cons, List.length_nil]; omega))) ?_
        refine j_q (qs_add64 rfl rfl (by first | omega | (simp only [Bool.and_eq_true, Bool.or_eq_true, Bool.and_eq_false_iff, Bool.or_eq_false_iff, Bool.not_eq_true', Bool.not_eq_false', decide_eq_true_eq, decide_eq_false_iff_not, beq_iff_eq, beq_eq_false_iff_ne, bne_iff_ne, bne_eq_false_iff_eq, ne_eq, Int.toNat_natCast] at *; omega))) ?_
        refine j_back rfl ?_
        exact ⟨(x.mi.getD i m0).outs.length - (k + 1), by omega, k + 1, vsi (by rw [fl_step cm1 (d := []) hk]; unfold cm1; simp only [List.append_assoc, List.cons_append, List.nil_append]) (by omega), rfl, by omega, rfl⟩
      · skip
        obtain rfl : k = (x.mi.getD i m0).outs.length := by
          simp only [Bool.and_eq_true, Bool.or_eq_true, Bool.and_eq_false_iff, Bool.or_eq_false_iff, Bool.not_eq_true', Bool.not_eq_false', decide_eq_true_eq, decide_eq_false_iff_not, beq_iff_eq, beq_eq_false_iff_ne, bne_iff_ne, bne_eq_false_iff_eq, ne_eq, Int.toNat_natCast] at *
          omega
        rw [List.take_length]
        refine j_q (qs_add64 rfl rfl (by first | omega | (simp only [Bool.and_eq_true, Bool.or_eq_true, Bool.and_eq_false_iff, Bool.or_eq_false_iff, Bool.not_eq_true', Bool.not_eq_false', decide_eq_true_eq, decide_eq_false_iff_not, beq_iff_eq, beq_eq_false_iff_ne, bne_iff_ne, bne_eq_false_iff_eq, ne_eq, Int.toNat_natCast] at *; omega))) ?_
        refine j_back rfl ?_
        exact ⟨x.mi.length - (i + 1), by omega, i + 1, vsi (by rw [fl_step (fun m : MI => sI m.pi) (d := m0) hi]; rw [hQ]; simp only [sI, MI.pi, sC]; simp only [List.append_assoc, List.cons_append, List.nil_append]) (by omega), rfl, by omega, rfl⟩
    · skip
      obtain rfl : i = x.mi.length := by
        simp only [Bool.and_eq_true, Bool.or_eq_true, Bool.and_eq_false_iff, Bool.or_eq_false_iff, Bool.not_eq_true', Bool.not_eq_false', decide_eq_true_eq, decide_eq_false_iff_not, beq_iff_eq, beq_eq_false_iff_ne, bne_iff_ne, bne_eq_false_iff_eq, ne_eq, Int.toNat_natCast] at *
        omega
      rw [List.take_length]
      obtain ⟨P2, hP2⟩ : ∃ p, p = P1 ++ (x.mi.map (fun m => sI m.pi)).flatten := ⟨_, rfl⟩
      rw [← hP2]
      have hP2l : P2.length ≤ 2310000000000000000 := by
        rw [hP2, List.length_append]
        omega
      refine j_q (qs_ac) ?_
      refine j_loop (fun m vs S' => ∃ i : Nat, vs = [.string (bs (P2 ++ ((d.srcs.take i).map sS).flatten)), .int .i64 (i : Int)] ∧ S' = [[(g0, .cells (dcells d x).toArray 28 (0, 0))], []] ∧ i ≤ d.srcs.length ∧ m = d.srcs.length - i) ⟨_, 0, by rw [fl_zero, List.append_nil]; rfl, rfl, Nat.zero_le _, rfl⟩ ?_
      rintro m vs S' hlen ⟨i, rfl, rfl, hin, rfl⟩
      refine j_q (qs_field Tryz.underlying28 rfl sz25 (by decide) rfl) ?_
      refine j_q (qs_load (l := dcells d x) 0 Tryz.underlying25 rfl rfl rfl (congrArg some hvs)) ?_
      refine j_q (qs_lenl Tryz.underlying25 rfl) ?_
      refine j_q (qs_lss rfl rfl) ?_
      refine j_cond rfl (fun hc4 => ?_) (fun hc4 => ?_)
      · skip
        have hi : i < d.srcs.length := by
          simp only [Bool.and_eq_true, Bool.or_eq_true, Bool.and_eq_false_iff, Bool.or_eq_false_iff, Bool.not_eq_true', Bool.not_eq_false', decide_eq_true_eq, decide_eq_false_iff_not, beq_iff_eq, beq_eq_false_iff_ne, bne_iff_ne, bne_eq_false_iff_eq, ne_eq, Int.toNat_natCast] at *
          omega
        obtain ⟨gs, offs, rfl, hgs, hcells⟩ := strz_addr (hvs ▸ h.s) (by omega)
        have hsl := few.sr _ (getD_mem (d := []) hi)
        have hti := t3 i
        refine j_q (qs_sadd (l := (P2 ++ ((d.srcs.take i).map sS).flatten)) (l' := [124, 115]) rfl rfl (by first | omega | (simp only [List.length_append, List.length_cons, List.length_nil]; omega))) ?_
        refine j_q (qs_field Tryz.underlying28 rfl sz25 (by decide) rfl) ?_
        refine j_q (qs_load (l := dcells d x) 0 Tryz.underlying25 rfl rfl rfl (congrArg some hvs)) ?_
        refine j_q (qs_ixn (g := gs) (off := offs) (i := i) Tryz.underlying25 sz49 rfl rfl (by omega)) ?_
        refine j_q (qs_loadrs (i := i) (rd_cells hcells (by simp)) Tryz.underlying49 (by rw [add_off, Nat.mul_one]; rfl) (by omega)) ?_
        refine j_q (qs_sadd (l := ((P2 ++ ((d.srcs.take i).map sS).flatten) ++ [124, 115])) (l' := (d.srcs.getD i [])) rfl rfl (by first | omega | (simp only [List.length_append, List.length_cons, List.length_nil]; omega))) ?_
        refine j_q (qs_add64 rfl rfl (by first | omega | (simp only [Bool.and_eq_true, Bool.or_eq_true, Bool.and_eq_false_iff, Bool.or_eq_false_iff, Bool.not_eq_true', Bool.not_eq_false', decide_eq_true_eq, decide_eq_false_iff_not, beq_iff_eq, beq_eq_false_iff_ne, bne_iff_ne, bne_eq_false_iff_eq, ne_eq, Int.toNat_natCast] at *; omega))) ?_
        refine j_back rfl ?_
        exact ⟨d.srcs.length - (i + 1), by omega, i + 1, vsi (by rw [fl_step sS (d := []) hi]; unfold sS; simp only [List.append_assoc, List.cons_append, List.nil_append]) (by omega), rfl, by omega, rfl⟩
      · skip
        obtain rfl : i = d.srcs.length := by
          simp only [Bool.and_eq_true, Bool.or_eq_true, Bool.and_eq_false_iff, Bool.or_eq_false_iff, Bool.not_eq_true', Bool.not_eq_false', decide_eq_true_eq, decide_eq_false_iff_not, beq_iff_eq, beq_eq_false_iff_ne, bne_iff_ne, bne_eq_false_iff_eq, ne_eq, Int.toNat_natCast] at *
          omega
        rw [List.take_length]
        obtain ⟨P3, hP3⟩ : ∃ p, p = P2 ++ (d.srcs.map sS).flatten := ⟨_, rfl⟩
        rw [← hP3]
        have hP3l : P3.length ≤ 2320000000000000000 := by
          rw [hP3, List.length_append]
          omega
        refine j_q (qs_ac) ?_
        refine j_loop (fun m vs S' => ∃ i : Nat, vs = [.string (bs (P3 ++ ((d.args.take i).map sA).flatten)), .int .i64 (i : Int)] ∧ S' = [[(g0, .cells (dcells d x).toArray 28 (0, 0))], []] ∧ i ≤ d.args.length ∧ m = d.args.length - i) ⟨_, 0, by rw [fl_zero, List.append_nil]; rfl, rfl, Nat.zero_le _, rfl⟩ ?_
        rintro m vs S' hlen ⟨i, rfl, rfl, hin, rfl⟩
        refine j_q (qs_field Tryz.underlying28 rfl sz22 (by decide) rfl) ?_
        refine j_q (qs_load (l := dcells d x) 0 Tryz.underlying22 rfl rfl rfl (congrArg some hva)) ?_
        refine j_q (qs_lenl Tryz.underlying22 rfl) ?_
        refine j_q (qs_lss rfl rfl) ?_
        refine j_cond rfl (fun hc5 => ?_) (fun hc5 => ?_)
        · skip
          have hi : i < d.args.length := by
            simp only [Bool.and_eq_true, Bool.or_eq_true, Bool.and_eq_false_iff, Bool.or_eq_false_iff, Bool.not_eq_true', Bool.not_eq_false', decide_eq_true_eq, decide_eq_false_iff_not, beq_iff_eq, beq_eq_false_iff_ne, bne_iff_ne, bne_eq_false_iff_eq, ne_eq, Int.toNat_natCast] at *
            omega
          obtain ⟨ga, offa, rfl, hga, hcells⟩ := strz_addr (hva ▸ h.a) (by omega)
          have hsl := few.ar _ (getD_mem (d := []) hi)
          have hti := t4 i
          refine j_q (qs_sadd (l := (P3 ++ ((d.args.take i).map sA).flatten)) (l' := [124, 97]) rfl rfl (by first | omega | (simp only [List.length_append, List.length_cons, List.length_nil]; omega))) ?_
          refine j_q (qs_field Tryz.underlying28 rfl sz22 (by decide) rfl) ?_
          refine j_q (qs_load (l := dcells d x) 0 Tryz.underlying22 rfl rfl rfl (congrArg some hva)) ?_
          refine j_q (qs_ixn (g := ga) (off := offa) (i := i) Tryz.underlying22 sz9 rfl rfl (by omega)) ?_
          refine j_q (qs_loadrs (i := i) (rd_cells hcells (by simp)) Tryz.underlying9 (by rw [add_off, Nat.mul_one]; rfl) (by omega)) ?_
          refine j_q (qs_sadd (l := ((P3 ++ ((d.args.take i).map sA).flatten) ++ [124, 97])) (l' := (d.args.getD i [])) rfl rfl (by first | omega | (simp only [List.length_append, List.length_cons, List.length_nil]; omega))) ?_
          refine j_q (qs_add64 rfl rfl (by first | omega | (simp only [Bool.and_eq_true, Bool.or_eq_true, Bool.and_eq_false_iff, Bool.or_eq_false_iff, Bool.not_eq_true', Bool.not_eq_false', decide_eq_true_eq, decide_eq_false_iff_not, beq_iff_eq, beq_eq_false_iff_ne, bne_iff_ne, bne_eq_false_iff_eq, ne_eq, Int.toNat_natCast] at *; omega))) ?_
          refine j_back rfl ?_
          exact ⟨d.args.length - (i + 1), by omega, i + 1, vsi (by rw [fl_step sA (d := []) hi]; unfold sA; simp only [List.append_assoc, List.cons_append, List.nil_append]) (by omega), rfl, by omega, rfl⟩
        · skip
          obtain rfl : i = d.args.length := by
            simp only [Bool.and_eq_true, Bool.or_eq_true, Bool.and_eq_false_iff, Bool.or_eq_false_iff, Bool.not_eq_true', Bool.not_eq_false', decide_eq_true_eq, decide_eq_false_iff_not, beq_iff_eq, beq_eq_false_iff_ne, bne_iff_ne, bne_eq_false_iff_eq, ne_eq, Int.toNat_natCast] at *
            omega
          rw [List.take_length]
          obtain ⟨P4, hP4⟩ : ∃ p, p = P3 ++ (d.args.map sA).flatten := ⟨_, rfl⟩
          rw [← hP4]
          have hP4l : P4.length ≤ 2330000000000000000 := by
            rw [hP4, List.length_append]
            omega
          refine j_q (qs_ac) ?_
          refine j_loop (fun m vs S' => ∃ i : Nat, vs = [.string (bs (P4 ++ ((d.env.take i).map sV).flatten)), .int .i64 (i : Int)] ∧ S' = [[(g0, .cells (dcells d x).toArray 28 (0, 0))], []] ∧ i ≤ d.env.length ∧ m = d.env.length - i) ⟨_, 0, by rw [fl_zero, List.append_nil]; rfl, rfl, Nat.zero_le _, rfl⟩ ?_
          rintro m vs S' hlen ⟨i, rfl, rfl, hin, rfl⟩
          refine j_q (qs_field Tryz.underlying28 rfl sz23 (by decide) rfl) ?_
          refine j_q (qs_load (l := dcells d x) 0 Tryz.underlying23 rfl rfl rfl (congrArg some hve)) ?_
          refine j_q (qs_lenl Tryz.underlying23 rfl) ?_
          refine j_q (qs_lss rfl rfl) ?_
          refine j_cond rfl (fun hc6 => ?_) (fun hc6 => ?_)
          · skip
            have hi : i < d.env.length := by
              simp only [Bool.and_eq_true, Bool.or_eq_true, Bool.and_eq_false_iff, Bool.or_eq_false_iff, Bool.not_eq_true', Bool.not_eq_false', decide_eq_true_eq, decide_eq_false_iff_not, beq_iff_eq, beq_eq_false_iff_ne, bne_iff_ne, bne_eq_false_iff_eq, ne_eq, Int.toNat_natCast] at *
              omega
            obtain ⟨rfl, hge, hcells⟩ := hAe (by omega)
            have hsl := few.ev _ (getD_mem (d := v0) hi)
            have hti := t5 i
            refine j_draw ?_
            refine jq_q (qs_sadd (l := (P4 ++ ((d.env.take i).map sV).flatten)) (l' := [124, 101]) rfl rfl (by first | omega | (simp only [List.length_append, List.length_cons, List.length_nil]; omega))) ?_
            refine jq_q (qs_field Tryz.underlying28 rfl sz23 (by decide) rfl) ?_
            refine jq_q (qs_load (l := dcells d x) 0 Tryz.underlying23 rfl rfl rfl (congrArg some hve)) ?_
            refine jq_q (qs_ixn (g := ge) (off := offe) (i := i) Tryz.underlying23 sz48 rfl rfl (by omega)) ?_
            refine jq_q (qs_field Tryz.underlying48 rfl sz9 (by decide) rfl) ?_
            refine jq_q (qs_loadrec (v := .string (bs (d.env.getD i v0).name)) (encA := encV) (rs := d.env) (d := v0) (i := i) (fo := 0) encV_len (rd_cells hcells (by simp)) hi Tryz.underlying9 rfl rfl rfl) ?_
            refine jq_q (qs_sadd (l := ((P4 ++ ((d.env.take i).map sV).flatten) ++ [124, 101])) (l' := (d.env.getD i v0).name) rfl rfl (by first | omega | (simp only [List.length_append, List.length_cons, List.length_nil]; omega))) ?_
            refine jq_q (qs_sadd (l := (((P4 ++ ((d.env.take i).map sV).flatten) ++ [124, 101]) ++ (d.env.getD i v0).name)) (l' := [61]) rfl rfl (by first | omega | (simp only [List.length_append, List.length_cons, List.length_nil]; omega))) ?_
            refine jq_q (qs_field Tryz.underlying28 rfl sz23 (by decide) rfl) ?_
            refine jq_q (qs_load (l := dcells d x) 0 Tryz.underlying23 rfl rfl rfl (congrArg some hve)) ?_
            refine jq_q (qs_ixn (g := ge) (off := offe) (i := i) Tryz.underlying23 sz48 rfl rfl (by omega)) ?_
            refine jq_q (qs_field Tryz.underlying48 rfl sz9 (by decide) rfl) ?_
            refine jq_q (qs_loadrec (v := .string (bs (d.env.getD i v0).val)) (encA := encV) (rs := d.env) (d := v0) (i := i) (fo := 1) encV_len (rd_cells hcells (by simp)) hi Tryz.underlying9 rfl rfl rfl) ?_
            refine jq_q (qs_sadd (l := ((((P4 ++ ((d.env.take i).map sV).flatten) ++ [124, 101]) ++ (d.env.getD i v0).name) ++ [61])) (l' := (d.env.getD i v0).val) rfl rfl (by first | omega | (simp only [List.length_append, List.length_cons, List.length_nil]; omega))) ?_
            refine jq_nil ?_
            refine j_q (qs_add64 rfl rfl (by first | omega | (simp only [Bool.and_eq_true, Bool.or_eq_true, Bool.and_eq_false_iff, Bool.or_eq_false_iff, Bool.not_eq_true', Bool.not_eq_false', decide_eq_true_eq, decide_eq_false_iff_not, beq_iff_eq, beq_eq_false_iff_ne, bne_iff_ne, bne_eq_false_iff_eq, ne_eq, Int.toNat_natCast] at *; omega))) ?_
            refine j_back rfl ?_
            exact ⟨d.env.length - (i + 1), by omega, i + 1, vsi (by rw [fl_step sV (d := v0) hi]; unfold sV; simp only [List.append_assoc, List.cons_append, List.nil_append]) (by omega), rfl, by omega, rfl⟩
          · skip
            obtain rfl : i = d.env.length := by
              simp only [Bool.and_eq_true, Bool.or_eq_true, Bool.and_eq_false_iff, Bool.or_eq_false_iff, Bool.not_eq_true', Bool.not_eq_false', decide_eq_true_eq, decide_eq_false_iff_not, beq_iff_eq, beq_eq_false_iff_ne, bne_iff_ne, bne_eq_false_iff_eq, ne_eq, Int.toNat_natCast] at *
              omega
            rw [List.take_length]
            refine j_ret_con (vs := [_]) (fun w' hw' => ⟨rfl, trivial⟩) ?_
            show Value.string _ = _
            congr 2
            unfold dshow
            rw [hP4, hP3, hP2, hP1, hP0, hmap]
end Go.Proofs.YtfeabbeebkkhaaaGreat
