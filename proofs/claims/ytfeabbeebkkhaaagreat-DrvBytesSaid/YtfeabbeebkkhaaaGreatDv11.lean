/- Derivations: how much there is; one in memory of its own. -/
import Derived.Test.YtfeabbeebkkhaaaGreatTa
import Derived.Test.YtfeabbeebkkhaaaGreatDv7
import Derived.Test.YtfeabbeebkkhaaaGreatSx23
namespace Go.Proofs.YtfeabbeebkkhaaaGreat
open Go Go.Sx
set_option maxRecDepth 100000
set_option maxHeartbeats 4000000
set_option linter.unusedVariables false
set_option linter.unusedSimpArgs false
attribute [local irreducible] J JQ QS Con W opW
theorem sz3 : (Tryz.prog.info? 3).map (·.size) = some 1 := by kernel_rfl

theorem sum_step {α : Type} (f : α → Nat) {l : List α} {i : Nat} {d : α} (h : i < l.length) : ((l.take (i + 1)).map f).sum = ((l.take i).map f).sum + f (l.getD i d) := by
  rw [List.take_succ_eq_append_getElem h, List.map_append, List.sum_append, List.getD_eq_getElem?_getD, List.getElem?_eq_getElem h]
  simp
theorem sum_take_le {α : Type} (f : α → Nat) {l : List α} {k : Nat} (h : ∀ x ∈ l, f x ≤ k) (n : Nat) (hn : l.length ≤ n) : ∀ i, ((l.take i).map f).sum ≤ n * k := fun i => by
  have h1 : ∀ l : List α, (∀ x ∈ l, f x ≤ k) → (l.map f).sum ≤ l.length * k := fun l hl => by
    induction l with
    | nil => simp
    | cons a l ih =>
      have ha := hl a (by simp)
      have := ih fun x hx => hl x (by simp [hx])
      simp only [List.map_cons, List.sum_cons, List.length_cons, Nat.add_mul, Nat.one_mul]
      omega
  refine Nat.le_trans (h1 _ fun x hx => h x (List.mem_of_mem_take hx)) (Nat.mul_le_mul_right k ?_)
  rw [List.length_take]
  omega
/-- strings and lists as long as they may be -/
structure Szd (d : PD) : Prop where
  nm : d.name.length ≤ 140737488355328
  sy : d.sys.length ≤ 140737488355328
  bl : d.bld.length ≤ 140737488355328
  ar : ∀ x ∈ d.args, x.length ≤ 140737488355328
  ev : ∀ x ∈ d.env, x.name.length ≤ 140737488355328 ∧ x.val.length ≤ 140737488355328
  ip : ∀ x ∈ d.ins, x.drv.length ≤ 140737488355328 ∧ x.outs.length ≤ 140737488355328 ∧ ∀ o ∈ x.outs, o.length ≤ 140737488355328
  ou : ∀ x ∈ d.outs, x.name.length ≤ 140737488355328 ∧ x.path.length ≤ 140737488355328
  sr : ∀ x ∈ d.srcs, x.length ≤ 140737488355328
  la : d.args.length ≤ 140737488355328
  le : d.env.length ≤ 140737488355328
  li : d.ins.length ≤ 140737488355328
  lo : d.outs.length ≤ 140737488355328
  ls : d.srcs.length ≤ 140737488355328
theorem vni {v : Value} {a a' b b' : Int} (h1 : a = a') (h2 : b = b') : [Value.int .i64 a, Value.int .i64 b] = [Value.int .i64 a', Value.int .i64 b'] := by rw [h1, h2]
theorem flat_one {α : Type} {enc : α → List Value} {l : List α} (h : ∀ x ∈ l, ∀ u ∈ enc x, oneV u = true) : ∀ u ∈ (l.map enc).flatten, oneV u = true := fun u hu => by
  obtain ⟨c, hc, huc⟩ := List.mem_flatten.1 hu
  obtain ⟨x, hx, rfl⟩ := List.mem_map.1 hc
  exact h x hx u huc
/-- the inputs of a derivation, in rows of one's own -/
def Mine (mi : List MI) (F : SH) : Prop := ∀ m ∈ mi, ∃ c, Sx.Own 9 1 (strs m.outs) m.v c ∧ ∀ p ∈ c, p ∈ F
theorem mine_nil : Mine [] [] := fun m hm => by cases hm
theorem mine_snoc {mi : List MI} {F c : SH} {m : MI} (h : Mine mi F) (ho : Sx.Own 9 1 (strs m.outs) m.v c) : Mine (mi ++ [m]) (c ++ F) := fun y hy => by
  rcases List.mem_append.1 hy with hy | hy
  · obtain ⟨c', h1, h2⟩ := h y hy
    exact ⟨c', h1, fun p hp => List.mem_append_right _ (h2 p hp)⟩
  · rw [List.mem_singleton] at hy
    subst hy
    exact ⟨c, ho, fun p hp => List.mem_append_left _ hp⟩
theorem strs_one (l : List Bs) : ∀ u ∈ strs l, oneV u = true := fun u hu => by
  obtain ⟨x, _, rfl⟩ := List.mem_map.1 hu
  rfl
theorem ins_take {x : List MI} {mi : List MI} {i : Nat} (h : mi.map MI.pi = (x.take i).map MI.pi) (hi : i < x.length) (v : Value) : (mi ++ [MI.mk (x.getD i m0).drv (x.getD i m0).outs v]).map MI.pi = (x.take (i + 1)).map MI.pi := by
  rw [List.map_append, h, List.take_succ_eq_append_getElem hi, List.map_append]
  congr 1
  rw [List.getD_eq_getElem?_getD, List.getElem?_eq_getElem hi]
  rfl
attribute [local irreducible] es qt cms hex Tbl Half lst isName isPath isDrvP leB chkO chkOuts chkN chkI chkIns firstE spA spB spE chkS chkV dtext chk chk0 tTs
/-- pantry.pantrylaw14.heavy -/
theorem heavy_con (d : PD) (x : DV) (w : World) (h : DR w d x) (sz : Szd d) : Con Tryz.prog 11 [dval d x] w [] fun v _ => v = .bool (heavyP d) := by
  refine con_of_tree mix Tryz.func11 T11_ok (by kernel_rfl) ?_
  unfold T11
  have hni : d.ins.length = x.mi.length := by rw [h.im, List.length_map]
  obtain ⟨Ao, capo, go, offo, hvo, hcapo, hAo⟩ := rsln_form h.o
  obtain ⟨Ai, capi, gi, offi, hvi, hcapi, hAi⟩ := rsln_form h.i
  obtain ⟨Ae, cape, ge, offe, hve, hcape, hAe⟩ := rsln_form h.e
  obtain ⟨As, caps, hvs, hcaps⟩ := strz_form h.s
  obtain ⟨Aa, capa, hva, hcapa⟩ := strz_form h.a
  have hmem : ∀ m ∈ x.mi, m.pi ∈ d.ins := fun m hm => by rw [h.im]; exact List.mem_map_of_mem hm
  obtain ⟨z1, z2, z3, z4, z5, z6, z7, z8, z9, z10, z11, z12, z13⟩ := id sz
  refine j_box (l := dcells d x) rfl (fun g0 hg0 hs0 => ?_)
  refine j_q (qs_ac) ?_
  refine j_q (qs_field Tryz.underlying28 rfl sz9 (by decide) rfl) ?_
  first
    | refine j_q (qs_load 0 Tryz.underlying9 rfl rfl rfl rfl) ?_
    | refine j_q (qs_load 1 Tryz.underlying9 rfl rfl rfl rfl) ?_
    | refine j_q (qs_load 2 Tryz.underlying9 rfl rfl rfl rfl) ?_
    | refine j_q (qs_load 3 Tryz.underlying9 rfl rfl rfl rfl) ?_
  refine j_q (qs_lens Tryz.underlying9 rfl) ?_
  refine j_q (qs_field Tryz.underlying28 rfl sz9 (by decide) rfl) ?_
  first
    | refine j_q (qs_load 0 Tryz.underlying9 rfl rfl rfl rfl) ?_
    | refine j_q (qs_load 1 Tryz.underlying9 rfl rfl rfl rfl) ?_
    | refine j_q (qs_load 2 Tryz.underlying9 rfl rfl rfl rfl) ?_
    | refine j_q (qs_load 3 Tryz.underlying9 rfl rfl rfl rfl) ?_
  refine j_q (qs_lens Tryz.underlying9 rfl) ?_
  refine j_q (qs_add64 rfl rfl (by first | omega | (simp only [Bool.and_eq_true, Bool.or_eq_true, Bool.and_eq_false_iff, Bool.or_eq_false_iff, Bool.not_eq_true', Bool.not_eq_false', decide_eq_true_eq, decide_eq_false_iff_not, beq_iff_eq, beq_eq_false_iff_ne, bne_iff_ne, bne_eq_false_iff_eq, ne_eq, Int.toNat_natCast] at *; omega))) ?_
  refine j_q (qs_field Tryz.underlying28 rfl sz9 (by decide) rfl) ?_
  first
    | refine j_q (qs_load 0 Tryz.underlying9 rfl rfl rfl rfl) ?_
    | refine j_q (qs_load 1 Tryz.underlying9 rfl rfl rfl rfl) ?_
    | refine j_q (qs_load 2 Tryz.underlying9 rfl rfl rfl rfl) ?_
    | refine j_q (qs_load 3 Tryz.underlying9 rfl rfl rfl rfl) ?_
  refine j_q (qs_lens Tryz.underlying9 rfl) ?_
  refine j_q (qs_add64 rfl rfl (by first | omega | (simp only [Bool.and_eq_true, Bool.or_eq_true, Bool.and_eq_false_iff, Bool.or_eq_false_iff, Bool.not_eq_true', Bool.not_eq_false', decide_eq_true_eq, decide_eq_false_iff_not, beq_iff_eq, beq_eq_false_iff_ne, bne_iff_ne, bne_eq_false_iff_eq, ne_eq, Int.toNat_natCast] at *; omega))) ?_
  refine j_q (qs_field Tryz.underlying28 rfl sz26 (by decide) rfl) ?_
  refine j_q (qs_load (l := dcells d x) 0 Tryz.underlying26 rfl rfl rfl (congrArg some hvo)) ?_
  refine j_q (qs_lenl Tryz.underlying26 rfl) ?_
  refine j_q (qs_field Tryz.underlying28 rfl sz24 (by decide) rfl) ?_
  refine j_q (qs_load (l := dcells d x) 0 Tryz.underlying24 rfl rfl rfl (congrArg some hvi)) ?_
  refine j_q (qs_lenl Tryz.underlying24 rfl) ?_
  refine j_q (qs_add64 rfl rfl (by first | omega | (simp only [Bool.and_eq_true, Bool.or_eq_true, Bool.and_eq_false_iff, Bool.or_eq_false_iff, Bool.not_eq_true', Bool.not_eq_false', decide_eq_true_eq, decide_eq_false_iff_not, beq_iff_eq, beq_eq_false_iff_ne, bne_iff_ne, bne_eq_false_iff_eq, ne_eq, Int.toNat_natCast] at *; omega))) ?_
  refine j_q (qs_field Tryz.underlying28 rfl sz25 (by decide) rfl) ?_
  refine j_q (qs_load (l := dcells d x) 0 Tryz.underlying25 rfl rfl rfl (congrArg some hvs)) ?_
  refine j_q (qs_lenl Tryz.underlying25 rfl) ?_
  refine j_q (qs_add64 rfl rfl (by first | omega | (simp only [Bool.and_eq_true, Bool.or_eq_true, Bool.and_eq_false_iff, Bool.or_eq_false_iff, Bool.not_eq_true', Bool.not_eq_false', decide_eq_true_eq, decide_eq_false_iff_not, beq_iff_eq, beq_eq_false_iff_ne, bne_iff_ne, bne_eq_false_iff_eq, ne_eq, Int.toNat_natCast] at *; omega))) ?_
  refine j_q (qs_field Tryz.underlying28 rfl sz23 (by decide) rfl) ?_
  refine j_q (qs_load (l := dcells d x) 0 Tryz.underlying23 rfl rfl rfl (congrArg some hve)) ?_
  refine j_q (qs_lenl Tryz.underlying23 rfl) ?_
  refine j_q (qs_add64 rfl rfl (by first | omega | (simp only [Bool.and_eq_true, Bool.or_eq_true, Bool.and_eq_false_iff, Bool.or_eq_false_iff, Bool.not_eq_true', Bool.not_eq_false', decide_eq_true_eq, decide_eq_false_iff_not, beq_iff_eq, beq_eq_false_iff_ne, bne_iff_ne, bne_eq_false_iff_eq, ne_eq, Int.toNat_natCast] at *; omega))) ?_
  refine j_q (qs_field Tryz.underlying28 rfl sz22 (by decide) rfl) ?_
  refine j_q (qs_load (l := dcells d x) 0 Tryz.underlying22 rfl rfl rfl (congrArg some hva)) ?_
  refine j_q (qs_lenl Tryz.underlying22 rfl) ?_
  refine j_q (qs_add64 rfl rfl (by first | omega | (simp only [Bool.and_eq_true, Bool.or_eq_true, Bool.and_eq_false_iff, Bool.or_eq_false_iff, Bool.not_eq_true', Bool.not_eq_false', decide_eq_true_eq, decide_eq_false_iff_not, beq_iff_eq, beq_eq_false_iff_ne, bne_iff_ne, bne_eq_false_iff_eq, ne_eq, Int.toNat_natCast] at *; omega))) ?_
  refine j_q (qs_mul64 rfl rfl (by first | omega | (simp only [Bool.and_eq_true, Bool.or_eq_true, Bool.and_eq_false_iff, Bool.or_eq_false_iff, Bool.not_eq_true', Bool.not_eq_false', decide_eq_true_eq, decide_eq_false_iff_not, beq_iff_eq, beq_eq_false_iff_ne, bne_iff_ne, bne_eq_false_iff_eq, ne_eq, Int.toNat_natCast] at *; omega))) ?_
  refine j_q (qs_add64 rfl rfl (by first | omega | (simp only [Bool.and_eq_true, Bool.or_eq_true, Bool.and_eq_false_iff, Bool.or_eq_false_iff, Bool.not_eq_true', Bool.not_eq_false', decide_eq_true_eq, decide_eq_false_iff_not, beq_iff_eq, beq_eq_false_iff_ne, bne_iff_ne, bne_eq_false_iff_eq, ne_eq, Int.toNat_natCast] at *; omega))) ?_
  have hb1 : (big1 d : Int) = ((d.name.length : Int) + d.sys.length + d.bld.length + 10 * ((d.outs.length : Int) + x.mi.length + d.srcs.length + d.env.length + d.args.length)) := by
    unfold big1
    push_cast
    omega
  refine j_q (qs_gtr rfl rfl) ?_
  refine j_cond rfl (fun hc0 => ?_) (fun hc0 => ?_)
  · skip
    have hbig : 4000 < big1 d := by simp only [Bool.and_eq_true, Bool.or_eq_true, Bool.and_eq_false_iff, Bool.or_eq_false_iff, Bool.not_eq_true', Bool.not_eq_false', decide_eq_true_eq, decide_eq_false_iff_not, beq_iff_eq, beq_eq_false_iff_ne, bne_iff_ne, bne_eq_false_iff_eq, ne_eq, Int.toNat_natCast] at *; omega
    refine j_q (qs_ac) ?_
    refine j_ret_con (vs := [_]) (fun w' hw' => ⟨rfl, trivial⟩) ?_
    show Value.bool true = _
    congr 1
    symm
    unfold heavyP
    simp only [Bool.or_eq_true, decide_eq_true_eq]
    exact .inl hbig
  · skip
    have hbig : ¬ 4000 < big1 d := by simp only [Bool.and_eq_true, Bool.or_eq_true, Bool.and_eq_false_iff, Bool.or_eq_false_iff, Bool.not_eq_true', Bool.not_eq_false', decide_eq_true_eq, decide_eq_false_iff_not, beq_iff_eq, beq_eq_false_iff_ne, bne_iff_ne, bne_eq_false_iff_eq, ne_eq, Int.toNat_natCast] at *; omega
    have hb2 := hbig
    unfold big1 at hb2
    have t1 := sum_take_le (fun v : PV => v.name.length + v.val.length) (l := d.env) (k := 281474976710656) (fun y hy => by have := sz.ev y hy; omega) 400 (by omega)
    have t2 := sum_take_le List.length (l := d.args) (k := 281474976710656) (fun y hy => by have := sz.ar y hy; omega) 400 (by omega)
    have t3 := sum_take_le (fun y : MI => y.drv.length + 10 * y.outs.length) (l := x.mi) (k := 2814749767106560) (fun y hy => by have := sz.ip _ (hmem y hy); simp only [MI.pi] at this; omega) 400 (by omega)
    have t4 := sum_take_le (fun o : PO => o.name.length + o.path.length) (l := d.outs) (k := 281474976710656) (fun y hy => by have := sz.ou y hy; omega) 400 (by omega)
    have t5 := sum_take_le List.length (l := d.srcs) (k := 281474976710656) (fun y hy => by have := sz.sr y hy; omega) 400 (by omega)
    have f1 := t1 d.env.length
    have f2 := t2 d.args.length
    have f3 := t3 x.mi.length
    have f4 := t4 d.outs.length
    rw [List.take_length] at f1 f2 f3 f4
    refine j_q (qs_ac) ?_
    refine j_loop (fun m vs S' => ∃ i : Nat, vs = [.int .i64 ((big1 d + ((d.env.take i).map fun v => v.name.length + v.val.length).sum : Nat) : Int), .int .i64 (i : Int)] ∧ S' = [[(g0, .cells (dcells d x).toArray 28 (0, 0))], []] ∧ i ≤ d.env.length ∧ m = d.env.length - i) ⟨_, 0, by simp only [List.take_zero, List.map_nil, List.sum_nil, Nat.add_zero]; exact vni (v := .nilIface) hb1.symm rfl, rfl, Nat.zero_le _, rfl⟩ ?_
    rintro m vs S' hlen ⟨i, rfl, rfl, hin, rfl⟩
    refine j_q (qs_field Tryz.underlying28 rfl sz23 (by decide) rfl) ?_
    refine j_q (qs_load (l := dcells d x) 0 Tryz.underlying23 rfl rfl rfl (congrArg some hve)) ?_
    refine j_q (qs_lenl Tryz.underlying23 rfl) ?_
    refine j_q (qs_lss rfl rfl) ?_
    refine j_cond rfl (fun hc1 => ?_) (fun hc1 => ?_)
    · skip
      have hi : i < d.env.length := by
        simp only [Bool.and_eq_true, Bool.or_eq_true, Bool.and_eq_false_iff, Bool.or_eq_false_iff, Bool.not_eq_true', Bool.not_eq_false', decide_eq_true_eq, decide_eq_false_iff_not, beq_iff_eq, beq_eq_false_iff_ne, bne_iff_ne, bne_eq_false_iff_eq, ne_eq, Int.toNat_natCast] at *
        omega
      obtain ⟨rfl, hge, hcells⟩ := hAe (by omega)
      have hsl := sz.ev _ (getD_mem (d := v0) hi)
      have hst := sum_step (fun v : PV => v.name.length + v.val.length) (d := v0) hi
      have hti := t1 i
      refine j_draw ?_
      refine jq_q (qs_field Tryz.underlying28 rfl sz23 (by decide) rfl) ?_
      refine jq_q (qs_load (l := dcells d x) 0 Tryz.underlying23 rfl rfl rfl (congrArg some hve)) ?_
      refine jq_q (qs_ixn (g := ge) (off := offe) (i := i) Tryz.underlying23 sz48 rfl rfl (by omega)) ?_
      refine jq_q (qs_field Tryz.underlying48 rfl sz9 (by decide) rfl) ?_
      refine jq_q (qs_loadrec (v := .string (bs (d.env.getD i v0).name)) (encA := encV) (rs := d.env) (d := v0) (i := i) (fo := 0) encV_len (rd_cells hcells (by simp)) hi Tryz.underlying9 rfl rfl rfl) ?_
      refine jq_q (qs_lens Tryz.underlying9 rfl) ?_
      refine jq_q (qs_add64 rfl rfl (by first | omega | (simp only [Bool.and_eq_true, Bool.or_eq_true, Bool.and_eq_false_iff, Bool.or_eq_false_iff, Bool.not_eq_true', Bool.not_eq_false', decide_eq_true_eq, decide_eq_false_iff_not, beq_iff_eq, beq_eq_false_iff_ne, bne_iff_ne, bne_eq_false_iff_eq, ne_eq, Int.toNat_natCast] at *; omega))) ?_
      refine jq_q (qs_field Tryz.underlying28 rfl sz23 (by decide) rfl) ?_
      refine jq_q (qs_load (l := dcells d x) 0 Tryz.underlying23 rfl rfl rfl (congrArg some hve)) ?_
      refine jq_q (qs_ixn (g := ge) (off := offe) (i := i) Tryz.underlying23 sz48 rfl rfl (by omega)) ?_
      refine jq_q (qs_field Tryz.underlying48 rfl sz9 (by decide) rfl) ?_
      refine jq_q (qs_loadrec (v := .string (bs (d.env.getD i v0).val)) (encA := encV) (rs := d.env) (d := v0) (i := i) (fo := 1) encV_len (rd_cells hcells (by simp)) hi Tryz.underlying9 rfl rfl rfl) ?_
      refine jq_q (qs_lens Tryz.underlying9 rfl) ?_
      refine jq_q (qs_add64 rfl rfl (by first | omega | (simp only [Bool.and_eq_true, Bool.or_eq_true, Bool.and_eq_false_iff, Bool.or_eq_false_iff, Bool.not_eq_true', Bool.not_eq_false', decide_eq_true_eq, decide_eq_false_iff_not, beq_iff_eq, beq_eq_false_iff_ne, bne_iff_ne, bne_eq_false_iff_eq, ne_eq, Int.toNat_natCast] at *; omega))) ?_
      refine jq_nil ?_
      refine j_q (qs_add64 rfl rfl (by first | omega | (simp only [Bool.and_eq_true, Bool.or_eq_true, Bool.and_eq_false_iff, Bool.or_eq_false_iff, Bool.not_eq_true', Bool.not_eq_false', decide_eq_true_eq, decide_eq_false_iff_not, beq_iff_eq, beq_eq_false_iff_ne, bne_iff_ne, bne_eq_false_iff_eq, ne_eq, Int.toNat_natCast] at *; omega))) ?_
      refine j_back rfl ?_
      exact ⟨d.env.length - (i + 1), by omega, i + 1, vni (v := .nilIface) (by rw [hst]; push_cast; omega) (by omega), rfl, by omega, rfl⟩
    · skip
      obtain rfl : i = d.env.length := by
        simp only [Bool.and_eq_true, Bool.or_eq_true, Bool.and_eq_false_iff, Bool.or_eq_false_iff, Bool.not_eq_true', Bool.not_eq_false', decide_eq_true_eq, decide_eq_false_iff_not, beq_iff_eq, beq_eq_false_iff_ne, bne_iff_ne, bne_eq_false_iff_eq, ne_eq, Int.toNat_natCast] at *
        omega
      rw [List.take_length]
      refine j_q (qs_ac) ?_
      refine j_loop (fun m vs S' => ∃ i : Nat, vs = [.int .i64 ((big1 d + (d.env.map fun v => v.name.length + v.val.length).sum + ((d.args.take i).map List.length).sum : Nat) : Int), .int .i64 (i : Int)] ∧ S' = [[(g0, .cells (dcells d x).toArray 28 (0, 0))], []] ∧ i ≤ d.args.length ∧ m = d.args.length - i) ⟨_, 0, by simp only [List.take_zero, List.map_nil, List.sum_nil, Nat.add_zero]; rfl, rfl, Nat.zero_le _, rfl⟩ ?_
      rintro m vs S' hlen ⟨i, rfl, rfl, hin, rfl⟩
      refine j_q (qs_field Tryz.underlying28 rfl sz22 (by decide) rfl) ?_
      refine j_q (qs_load (l := dcells d x) 0 Tryz.underlying22 rfl rfl rfl (congrArg some hva)) ?_
      refine j_q (qs_lenl Tryz.underlying22 rfl) ?_
      refine j_q (qs_lss rfl rfl) ?_
      refine j_cond rfl (fun hc2 => ?_) (fun hc2 => ?_)
      · skip
        have hi : i < d.args.length := by
          simp only [Bool.and_eq_true, Bool.or_eq_true, Bool.and_eq_false_iff, Bool.or_eq_false_iff, Bool.not_eq_true', Bool.not_eq_false', decide_eq_true_eq, decide_eq_false_iff_not, beq_iff_eq, beq_eq_false_iff_ne, bne_iff_ne, bne_eq_false_iff_eq, ne_eq, Int.toNat_natCast] at *
          omega
        obtain ⟨ga, offa, rfl, hga, hcells⟩ := strz_addr (hva ▸ h.a) (by omega)
        have hsl := sz.ar _ (getD_mem (d := []) hi)
        have hst := sum_step List.length (l := d.args) (d := []) hi
        have hti := t2 i
        refine j_q (qs_field Tryz.underlying28 rfl sz22 (by decide) rfl) ?_
        refine j_q (qs_load (l := dcells d x) 0 Tryz.underlying22 rfl rfl rfl (congrArg some hva)) ?_
        refine j_q (qs_ixn (g := ga) (off := offa) (i := i) Tryz.underlying22 sz9 rfl rfl (by omega)) ?_
        refine j_q (qs_loadrs (i := i) (rd_cells hcells (by simp)) Tryz.underlying9 (by rw [add_off, Nat.mul_one]; rfl) (by omega)) ?_
        refine j_q (qs_lens Tryz.underlying9 rfl) ?_
        refine j_q (qs_add64 rfl rfl (by first | omega | (simp only [Bool.and_eq_true, Bool.or_eq_true, Bool.and_eq_false_iff, Bool.or_eq_false_iff, Bool.not_eq_true', Bool.not_eq_false', decide_eq_true_eq, decide_eq_false_iff_not, beq_iff_eq, beq_eq_false_iff_ne, bne_iff_ne, bne_eq_false_iff_eq, ne_eq, Int.toNat_natCast] at *; omega))) ?_
        refine j_q (qs_add64 rfl rfl (by first | omega | (simp only [Bool.and_eq_true, Bool.or_eq_true, Bool.and_eq_false_iff, Bool.or_eq_false_iff, Bool.not_eq_true', Bool.not_eq_false', decide_eq_true_eq, decide_eq_false_iff_not, beq_iff_eq, beq_eq_false_iff_ne, bne_iff_ne, bne_eq_false_iff_eq, ne_eq, Int.toNat_natCast] at *; omega))) ?_
        refine j_back rfl ?_
        exact ⟨d.args.length - (i + 1), by omega, i + 1, vni (v := .nilIface) (by rw [hst]; push_cast; omega) (by omega), rfl, by omega, rfl⟩
      · skip
        obtain rfl : i = d.args.length := by
          simp only [Bool.and_eq_true, Bool.or_eq_true, Bool.and_eq_false_iff, Bool.or_eq_false_iff, Bool.not_eq_true', Bool.not_eq_false', decide_eq_true_eq, decide_eq_false_iff_not, beq_iff_eq, beq_eq_false_iff_ne, bne_iff_ne, bne_eq_false_iff_eq, ne_eq, Int.toNat_natCast] at *
          omega
        rw [List.take_length]
        refine j_q (qs_ac) ?_
        refine j_loop (fun m vs S' => ∃ i : Nat, vs = [.int .i64 ((big1 d + (d.env.map fun v => v.name.length + v.val.length).sum + (d.args.map List.length).sum + ((x.mi.take i).map fun y => y.drv.length + 10 * y.outs.length).sum : Nat) : Int), .int .i64 (i : Int)] ∧ S' = [[(g0, .cells (dcells d x).toArray 28 (0, 0))], []] ∧ i ≤ x.mi.length ∧ m = x.mi.length - i) ⟨_, 0, by simp only [List.take_zero, List.map_nil, List.sum_nil, Nat.add_zero]; rfl, rfl, Nat.zero_le _, rfl⟩ ?_
        rintro m vs S' hlen ⟨i, rfl, rfl, hin, rfl⟩
        refine j_q (qs_field Tryz.underlying28 rfl sz24 (by decide) rfl) ?_
        refine j_q (qs_load (l := dcells d x) 0 Tryz.underlying24 rfl rfl rfl (congrArg some hvi)) ?_
        refine j_q (qs_lenl Tryz.underlying24 rfl) ?_
        refine j_q (qs_lss rfl rfl) ?_
        refine j_cond rfl (fun hc3 => ?_) (fun hc3 => ?_)
        · skip
          have hi : i < x.mi.length := by
            simp only [Bool.and_eq_true, Bool.or_eq_true, Bool.and_eq_false_iff, Bool.or_eq_false_iff, Bool.not_eq_true', Bool.not_eq_false', decide_eq_true_eq, decide_eq_false_iff_not, beq_iff_eq, beq_eq_false_iff_ne, bne_iff_ne, bne_eq_false_iff_eq, ne_eq, Int.toNat_natCast] at *
            omega
          obtain ⟨rfl, hgi, hcells⟩ := hAi (by omega)
          have hsl := sz.ip _ (hmem _ (getD_mem (d := m0) hi))
          simp only [MI.pi] at hsl
          have hst := sum_step (fun y : MI => y.drv.length + 10 * y.outs.length) (d := m0) hi
          have hti := t3 i
          obtain ⟨Ax, capx, hvx, hcapx⟩ := strz_form (h.io _ (getD_mem (d := m0) hi))
          refine j_draw ?_
          refine jq_q (qs_field Tryz.underlying28 rfl sz24 (by decide) rfl) ?_
          refine jq_q (qs_load (l := dcells d x) 0 Tryz.underlying24 rfl rfl rfl (congrArg some hvi)) ?_
          refine jq_q (qs_ixn (g := gi) (off := offi) (i := i) Tryz.underlying24 sz68 rfl rfl (by omega)) ?_
          refine jq_q (qs_field Tryz.underlying68 rfl sz49 (by decide) rfl) ?_
          refine jq_q (qs_loadrec (v := .string (bs (x.mi.getD i m0).drv)) (encA := encI) (rs := x.mi) (d := m0) (i := i) (fo := 0) encI_len (rd_cells hcells (by simp)) hi Tryz.underlying49 rfl rfl rfl) ?_
          refine jq_q (qs_lens Tryz.underlying49 rfl) ?_
          refine jq_q (qs_add64 rfl rfl (by first | omega | (simp only [Bool.and_eq_true, Bool.or_eq_true, Bool.and_eq_false_iff, Bool.or_eq_false_iff, Bool.not_eq_true', Bool.not_eq_false', decide_eq_true_eq, decide_eq_false_iff_not, beq_iff_eq, beq_eq_false_iff_ne, bne_iff_ne, bne_eq_false_iff_eq, ne_eq, Int.toNat_natCast] at *; omega))) ?_
          refine jq_q (qs_field Tryz.underlying28 rfl sz24 (by decide) rfl) ?_
          refine jq_q (qs_load (l := dcells d x) 0 Tryz.underlying24 rfl rfl rfl (congrArg some hvi)) ?_
          refine jq_q (qs_ixn (g := gi) (off := offi) (i := i) Tryz.underlying24 sz68 rfl rfl (by omega)) ?_
          refine jq_q (qs_field Tryz.underlying68 rfl sz22 (by decide) rfl) ?_
          refine jq_q (qs_loadrec (v := .slice Ax (x.mi.getD i m0).outs.length capx) (encA := encI) (rs := x.mi) (d := m0) (i := i) (fo := 1) encI_len (rd_cells hcells (by simp)) hi Tryz.underlying22 rfl rfl (congrArg some hvx)) ?_
          refine jq_q (qs_lenl Tryz.underlying22 rfl) ?_
          refine jq_q (qs_mul64 rfl rfl (by first | omega | (simp only [Bool.and_eq_true, Bool.or_eq_true, Bool.and_eq_false_iff, Bool.or_eq_false_iff, Bool.not_eq_true', Bool.not_eq_false', decide_eq_true_eq, decide_eq_false_iff_not, beq_iff_eq, beq_eq_false_iff_ne, bne_iff_ne, bne_eq_false_iff_eq, ne_eq, Int.toNat_natCast] at *; omega))) ?_
          refine jq_q (qs_add64 rfl rfl (by first | omega | (simp only [Bool.and_eq_true, Bool.or_eq_true, Bool.and_eq_false_iff, Bool.or_eq_false_iff, Bool.not_eq_true', Bool.not_eq_false', decide_eq_true_eq, decide_eq_false_iff_not, beq_iff_eq, beq_eq_false_iff_ne, bne_iff_ne, bne_eq_false_iff_eq, ne_eq, Int.toNat_natCast] at *; omega))) ?_
          refine jq_nil ?_
          refine j_q (qs_add64 rfl rfl (by first | omega | (simp only [Bool.and_eq_true, Bool.or_eq_true, Bool.and_eq_false_iff, Bool.or_eq_false_iff, Bool.not_eq_true', Bool.not_eq_false', decide_eq_true_eq, decide_eq_false_iff_not, beq_iff_eq, beq_eq_false_iff_ne, bne_iff_ne, bne_eq_false_iff_eq, ne_eq, Int.toNat_natCast] at *; omega))) ?_
          refine j_back rfl ?_
          exact ⟨x.mi.length - (i + 1), by omega, i + 1, vni (v := .nilIface) (by rw [hst]; push_cast; omega) (by omega), rfl, by omega, rfl⟩
        · skip
          obtain rfl : i = x.mi.length := by
            simp only [Bool.and_eq_true, Bool.or_eq_true, Bool.and_eq_false_iff, Bool.or_eq_false_iff, Bool.not_eq_true', Bool.not_eq_false', decide_eq_true_eq, decide_eq_false_iff_not, beq_iff_eq, beq_eq_false_iff_ne, bne_iff_ne, bne_eq_false_iff_eq, ne_eq, Int.toNat_natCast] at *
            omega
          rw [List.take_length]
          refine j_q (qs_ac) ?_
          refine j_loop (fun m vs S' => ∃ i : Nat, vs = [.int .i64 ((big1 d + (d.env.map fun v => v.name.length + v.val.length).sum + (d.args.map List.length).sum + (x.mi.map fun y => y.drv.length + 10 * y.outs.length).sum + ((d.outs.take i).map fun o => o.name.length + o.path.length).sum : Nat) : Int), .int .i64 (i : Int)] ∧ S' = [[(g0, .cells (dcells d x).toArray 28 (0, 0))], []] ∧ i ≤ d.outs.length ∧ m = d.outs.length - i) ⟨_, 0, by simp only [List.take_zero, List.map_nil, List.sum_nil, Nat.add_zero]; rfl, rfl, Nat.zero_le _, rfl⟩ ?_
          rintro m vs S' hlen ⟨i, rfl, rfl, hin, rfl⟩
          refine j_q (qs_field Tryz.underlying28 rfl sz26 (by decide) rfl) ?_
          refine j_q (qs_load (l := dcells d x) 0 Tryz.underlying26 rfl rfl rfl (congrArg some hvo)) ?_
          refine j_q (qs_lenl Tryz.underlying26 rfl) ?_
          refine j_q (qs_lss rfl rfl) ?_
          refine j_cond rfl (fun hc4 => ?_) (fun hc4 => ?_)
          · skip
            have hi : i < d.outs.length := by
              simp only [Bool.and_eq_true, Bool.or_eq_true, Bool.and_eq_false_iff, Bool.or_eq_false_iff, Bool.not_eq_true', Bool.not_eq_false', decide_eq_true_eq, decide_eq_false_iff_not, beq_iff_eq, beq_eq_false_iff_ne, bne_iff_ne, bne_eq_false_iff_eq, ne_eq, Int.toNat_natCast] at *
              omega
            obtain ⟨rfl, hgo, hcells⟩ := hAo (by omega)
            have hsl := sz.ou _ (getD_mem (d := o0) hi)
            have hst := sum_step (fun o : PO => o.name.length + o.path.length) (d := o0) hi
            have hti := t4 i
            refine j_draw ?_
            refine jq_q (qs_field Tryz.underlying28 rfl sz26 (by decide) rfl) ?_
            refine jq_q (qs_load (l := dcells d x) 0 Tryz.underlying26 rfl rfl rfl (congrArg some hvo)) ?_
            refine jq_q (qs_ixn (g := go) (off := offo) (i := i) Tryz.underlying26 sz53 rfl rfl (by omega)) ?_
            refine jq_q (qs_field Tryz.underlying53 rfl sz9 (by decide) rfl) ?_
            refine jq_q (qs_loadrec (v := .string (bs (d.outs.getD i o0).name)) (encA := encO) (rs := d.outs) (d := o0) (i := i) (fo := 0) encO_len (rd_cells hcells (by simp)) hi Tryz.underlying9 rfl rfl rfl) ?_
            refine jq_q (qs_lens Tryz.underlying9 rfl) ?_
            refine jq_q (qs_add64 rfl rfl (by first | omega | (simp only [Bool.and_eq_true, Bool.or_eq_true, Bool.and_eq_false_iff, Bool.or_eq_false_iff, Bool.not_eq_true', Bool.not_eq_false', decide_eq_true_eq, decide_eq_false_iff_not, beq_iff_eq, beq_eq_false_iff_ne, bne_iff_ne, bne_eq_false_iff_eq, ne_eq, Int.toNat_natCast] at *; omega))) ?_
            refine jq_q (qs_field Tryz.underlying28 rfl sz26 (by decide) rfl) ?_
            refine jq_q (qs_load (l := dcells d x) 0 Tryz.underlying26 rfl rfl rfl (congrArg some hvo)) ?_
            refine jq_q (qs_ixn (g := go) (off := offo) (i := i) Tryz.underlying26 sz53 rfl rfl (by omega)) ?_
            refine jq_q (qs_field Tryz.underlying53 rfl sz49 (by decide) rfl) ?_
            refine jq_q (qs_loadrec (v := .string (bs (d.outs.getD i o0).path)) (encA := encO) (rs := d.outs) (d := o0) (i := i) (fo := 1) encO_len (rd_cells hcells (by simp)) hi Tryz.underlying49 rfl rfl rfl) ?_
            refine jq_q (qs_lens Tryz.underlying49 rfl) ?_
            refine jq_q (qs_add64 rfl rfl (by first | omega | (simp only [Bool.and_eq_true, Bool.or_eq_true, Bool.and_eq_false_iff, Bool.or_eq_false_iff, Bool.not_eq_true', Bool.not_eq_false', decide_eq_true_eq, decide_eq_false_iff_not, beq_iff_eq, beq_eq_false_iff_ne, bne_iff_ne, bne_eq_false_iff_eq, ne_eq, Int.toNat_natCast] at *; omega))) ?_
            refine jq_nil ?_
            refine j_q (qs_add64 rfl rfl (by first | omega | (simp only [Bool.and_eq_true, Bool.or_eq_true, Bool.and_eq_false_iff, Bool.or_eq_false_iff, Bool.not_eq_true', Bool.not_eq_false', decide_eq_true_eq, decide_eq_false_iff_not, beq_iff_eq, beq_eq_false_iff_ne, bne_iff_ne, bne_eq_false_iff_eq, ne_eq, Int.toNat_natCast] at *; omega))) ?_
            refine j_back rfl ?_
            exact ⟨d.outs.length - (i + 1), by omega, i + 1, vni (v := .nilIface) (by rw [hst]; push_cast; omega) (by omega), rfl, by omega, rfl⟩
          · skip
            obtain rfl : i = d.outs.length := by
              simp only [Bool.and_eq_true, Bool.or_eq_true, Bool.and_eq_false_iff, Bool.or_eq_false_iff, Bool.not_eq_true', Bool.not_eq_false', decide_eq_true_eq, decide_eq_false_iff_not, beq_iff_eq, beq_eq_false_iff_ne, bne_iff_ne, bne_eq_false_iff_eq, ne_eq, Int.toNat_natCast] at *
              omega
            rw [List.take_length]
            refine j_q (qs_ac) ?_
            refine j_loop (fun m vs S' => ∃ i : Nat, vs = [.int .i64 ((big1 d + (d.env.map fun v => v.name.length + v.val.length).sum + (d.args.map List.length).sum + (x.mi.map fun y => y.drv.length + 10 * y.outs.length).sum + (d.outs.map fun o => o.name.length + o.path.length).sum + ((d.srcs.take i).map List.length).sum : Nat) : Int), .int .i64 (i : Int)] ∧ S' = [[(g0, .cells (dcells d x).toArray 28 (0, 0))], []] ∧ i ≤ d.srcs.length ∧ m = d.srcs.length - i) ⟨_, 0, by simp only [List.take_zero, List.map_nil, List.sum_nil, Nat.add_zero]; rfl, rfl, Nat.zero_le _, rfl⟩ ?_
            rintro m vs S' hlen ⟨i, rfl, rfl, hin, rfl⟩
            refine j_q (qs_field Tryz.underlying28 rfl sz25 (by decide) rfl) ?_
            refine j_q (qs_load (l := dcells d x) 0 Tryz.underlying25 rfl rfl rfl (congrArg some hvs)) ?_
            refine j_q (qs_lenl Tryz.underlying25 rfl) ?_
            refine j_q (qs_lss rfl rfl) ?_
            refine j_cond rfl (fun hc5 => ?_) (fun hc5 => ?_)
            · skip
              have hi : i < d.srcs.length := by
                simp only [Bool.and_eq_true, Bool.or_eq_true, Bool.and_eq_false_iff, Bool.or_eq_false_iff, Bool.not_eq_true', Bool.not_eq_false', decide_eq_true_eq, decide_eq_false_iff_not, beq_iff_eq, beq_eq_false_iff_ne, bne_iff_ne, bne_eq_false_iff_eq, ne_eq, Int.toNat_natCast] at *
                omega
              obtain ⟨gs, offs, rfl, hgs, hcells⟩ := strz_addr (hvs ▸ h.s) (by omega)
              have hsl := sz.sr _ (getD_mem (d := []) hi)
              have hst := sum_step List.length (l := d.srcs) (d := []) hi
              have hti := t5 i
              refine j_q (qs_field Tryz.underlying28 rfl sz25 (by decide) rfl) ?_
              refine j_q (qs_load (l := dcells d x) 0 Tryz.underlying25 rfl rfl rfl (congrArg some hvs)) ?_
              refine j_q (qs_ixn (g := gs) (off := offs) (i := i) Tryz.underlying25 sz49 rfl rfl (by omega)) ?_
              refine j_q (qs_loadrs (i := i) (rd_cells hcells (by simp)) Tryz.underlying49 (by rw [add_off, Nat.mul_one]; rfl) (by omega)) ?_
              refine j_q (qs_lens Tryz.underlying49 rfl) ?_
              refine j_q (qs_add64 rfl rfl (by first | omega | (simp only [Bool.and_eq_true, Bool.or_eq_true, Bool.and_eq_false_iff, Bool.or_eq_false_iff, Bool.not_eq_true', Bool.not_eq_false', decide_eq_true_eq, decide_eq_false_iff_not, beq_iff_eq, beq_eq_false_iff_ne, bne_iff_ne, bne_eq_false_iff_eq, ne_eq, Int.toNat_natCast] at *; omega))) ?_
              refine j_q (qs_add64 rfl rfl (by first | omega | (simp only [Bool.and_eq_true, Bool.or_eq_true, Bool.and_eq_false_iff, Bool.or_eq_false_iff, Bool.not_eq_true', Bool.not_eq_false', decide_eq_true_eq, decide_eq_false_iff_not, beq_iff_eq, beq_eq_false_iff_ne, bne_iff_ne, bne_eq_false_iff_eq, ne_eq, Int.toNat_natCast] at *; omega))) ?_
              refine j_back rfl ?_
              exact ⟨d.srcs.length - (i + 1), by omega, i + 1, vni (v := .nilIface) (by rw [hst]; push_cast; omega) (by omega), rfl, by omega, rfl⟩
            · skip
              obtain rfl : i = d.srcs.length := by
                simp only [Bool.and_eq_true, Bool.or_eq_true, Bool.and_eq_false_iff, Bool.or_eq_false_iff, Bool.not_eq_true', Bool.not_eq_false', decide_eq_true_eq, decide_eq_false_iff_not, beq_iff_eq, beq_eq_false_iff_ne, bne_iff_ne, bne_eq_false_iff_eq, ne_eq, Int.toNat_natCast] at *
                omega
              rw [List.take_length]
              refine j_q (qs_gtr rfl rfl) ?_
              refine j_ret_con (vs := [_]) (fun w' hw' => ⟨rfl, trivial⟩) ?_
              show Value.bool _ = _
              congr 1
              have e : big2 d = big1 d + (d.env.map fun v => v.name.length + v.val.length).sum + (d.args.map List.length).sum + (x.mi.map fun y => y.drv.length + 10 * y.outs.length).sum + (d.outs.map fun o => o.name.length + o.path.length).sum + (d.srcs.map List.length).sum := by
                unfold big2 sl
                rw [h.im, List.map_map]
                rfl
              unfold heavyP
              rw [e, Bool.eq_iff_iff]
              simp only [Bool.or_eq_true, decide_eq_true_eq]
              omega
end Go.Proofs.YtfeabbeebkkhaaaGreat
