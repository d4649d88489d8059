/- Tasks that take turns: what lies in memory, and the small methods. -/
import Derived.Test.YtlgfpoelhjlifaaTa
import Derived.Test.YtlgfpoelhjlifaaLk9
import Derived.Test.YtlgfpoelhjlifaaSx19
namespace Go.Proofs.Ytlgfpoelhjlifaa
open Go Go.Sx
set_option maxRecDepth 100000
set_option maxHeartbeats 4000000
set_option linter.unusedVariables false
set_option linter.unusedSimpArgs false
attribute [local irreducible] J JQ QS Con W opW
theorem sz2 : (Try.prog.info? 2).map (·.size) = some 1 := by kernel_rfl
theorem sz80 : (Try.prog.info? 80).map (·.size) = some 1 := by kernel_rfl
theorem sz82 : (Try.prog.info? 82).map (·.size) = some 1 := by kernel_rfl
theorem zero77 : zeroL Try.prog 77 = some ([.slice none 0 0, .int .i64 0, .int .i64 0, .bool false]) := by kernel_rfl
theorem zero90 : zeroL Try.prog 90 = some ([.nilFunc, .bool false, .int .u32 0, .int .i32 0, .int .u32 0, .bool false]) := by kernel_rfl

/-- a task in memory -/
structure TM where
  g : Nat
  fv : Value
  bl : Bool
  en : Bool
abbrev tcells (t : TM) : List Value := [t.fv, .bool t.bl, .int .u32 (if t.en then 1 else 0), .int .i32 0, .int .u32 0, .bool t.en]
abbrev TM.obj (t : TM) : Obj := .cells (tcells t).toArray 90 (0, 0)
abbrev TM0 : TM := ⟨0, .nilFunc, false, false⟩
def ptrT (t : TM) : Value := .pointer (some ⟨t.g, 0, none⟩)
def alive (ts : List TM) : Nat := (ts.filter fun t => !t.en).length
/-- a Run in memory -/
structure RM where
  gr : Nat
  tv : Value
  tc : SH
  ts : List TM
  steps : Int
  busy : Bool
abbrev rcells (r : RM) : List Value := [r.tv, .int .i64 (alive r.ts : Nat), .int .i64 r.steps, .bool r.busy]
abbrev RM.obj (r : RM) : Obj := .cells (rcells r).toArray 77 (0, 0)
def RM.heap (r : RM) : SH := [(r.gr, r.obj)] ++ r.tc ++ r.ts.map fun t => (t.g, t.obj)
structure RM.Ok (r : RM) : Prop where
  own : Sx.Own 78 1 (r.ts.map ptrT) r.tv r.tc
  few : alive r.ts ≤ 256
  isf : ∀ t ∈ r.ts, ∃ f c, t.fv = .func (.func f) #[] c
  len : r.ts.length ≤ 1000000
def restT (a b : List TM) : SH := (a.map fun t => (t.g, t.obj)) ++ b.map fun t => (t.g, t.obj)
def RM.parts (r : RM) (t : TM) (a b : List TM) : List SH := [[(r.gr, r.obj)], r.tc, [(t.g, t.obj)], restT a b]
theorem RM.open_ {r : RM} {t : TM} {a b : List TM} (h : r.ts = a ++ t :: b) : r.heap.Perm (r.parts t a b).flatten := by
  classical
  refine List.perm_iff_count.2 fun x => ?_
  simp only [RM.heap, RM.parts, restT, h, List.flatten_cons, List.flatten_nil, List.append_nil, List.nil_append, List.map_append, List.map_cons, List.map_nil, List.count_append, List.count_cons, List.count_nil]
  omega
theorem split_at {α : Type} {l : List α} {i : Nat} {x : α} (h : l[i]? = some x) : l = l.take i ++ x :: l.drop (i + 1) := by
  obtain ⟨h1, h2⟩ := List.getElem?_eq_some_iff.1 h
  rw [← h2, ← List.drop_eq_getElem_cons h1, List.take_append_drop]
theorem set_split {α : Type} {l : List α} {i : Nat} (h : i < l.length) (y : α) : l.set i y = l.take i ++ y :: l.drop (i + 1) := by rw [List.set_eq_take_append_cons_drop, if_pos h]
theorem RM.in_gr {r : RM} {w : World} (h : ∀ q ∈ r.heap, w.heap[q.1]? = some q.2) : w.heap[r.gr]? = some r.obj := h (r.gr, r.obj) (by simp [RM.heap])
theorem RM.in_t {r : RM} {w : World} (h : ∀ q ∈ r.heap, w.heap[q.1]? = some q.2) {t : TM} (ht : t ∈ r.ts) : w.heap[t.g]? = some t.obj := h (t.g, t.obj) (by
  unfold RM.heap
  exact List.mem_append_right _ (List.mem_map.2 ⟨t, ht, rfl⟩))
theorem RM.in_tc {r : RM} {w : World} (h : ∀ q ∈ r.heap, w.heap[q.1]? = some q.2) : ∀ q ∈ r.tc, w.heap[q.1]? = some q.2 := fun q hq => h q (by
  unfold RM.heap
  exact List.mem_append_left _ (List.mem_append_right _ hq))
theorem RM.Ok.form {r : RM} (h : r.Ok) : ∃ A cap gq, r.tv = .slice A r.ts.length cap ∧ r.ts.length ≤ cap ∧ (0 < r.ts.length → A = some ⟨gq, 0, none⟩) := by
  obtain ⟨n, A, cap, e, hn⟩ := own_form h.own (by decide)
  rw [List.length_map, Nat.mul_one] at hn
  subst hn
  have ho := h.own
  rw [e] at ho
  by_cases h0 : 0 < r.ts.length
  · obtain ⟨g, rfl⟩ := own_addr ho (by rw [List.length_map]; exact h0)
    exact ⟨_, cap, g, e, own_cap ho, fun _ => rfl⟩
  · exact ⟨A, cap, 0, e, own_cap ho, fun h => absurd h h0⟩
/-- what a row of one's own holds, read where all stands in the world from the first -/
theorem rd_ownb {b : Base} {S : List SH} {e : TypeId} {xs : List Value} {a : Addr} {n cap : Nat} {c : SH} (h : Sx.Own e 1 xs (.slice (some a) n cap) c) (hin : ∀ q ∈ c, b.w0.heap[q.1]? = some q.2) (hD : ∀ q ∈ c, q.1 ∉ b.D) : Rd b S a xs := by
  rcases h with ⟨h, _⟩ | ⟨g, n', cap', rest, fz, h, rfl, h1, h2, h3, h4⟩
  · cases h
  · cases h
    refine rd_rdo (n := xs.length) (rdo_base (o := .cells (xs ++ rest).toArray e fz) (hin (g, _) (List.mem_singleton.2 rfl)) (hD (g, _) (List.mem_singleton.2 rfl))) (by simp)
theorem add0 (g i : Nat) : (⟨g, 0, none⟩ : Addr).add i = ⟨g, i, none⟩ := by rw [add_off, Nat.zero_add]
def ofR (ts : List TM) (n : Int) : Option TM := if 0 ≤ n then (match ts[n.toNat]? with | some t => if t.en then none else some t | none => none) else none
theorem ofR_some {ts : List TM} {n : Int} {t : TM} (h : ofR ts n = some t) : 0 ≤ n ∧ ts[n.toNat]? = some t ∧ t.en = false := by
  unfold ofR at h
  split at h
  · rename_i h0
    split at h
    · rename_i u hu
      split at h
      · cases h
      · rename_i he
        injection h with h
        subst h
        exact ⟨h0, hu, by simpa using he⟩
    · cases h
  · cases h
theorem tget {ts : List TM} {i : Nat} (h : i < ts.length) : (ts.map ptrT)[i]? = some (ptrT (ts.getD i TM0)) := by
  rw [List.getElem?_map, List.getD_eq_getElem?_getD, List.getElem?_eq_getElem h]
  rfl
theorem tmem {ts : List TM} {i : Nat} (h : i < ts.length) : ts.getD i TM0 ∈ ts := by
  rw [List.getD_eq_getElem?_getD, List.getElem?_eq_getElem h, Option.getD_some]
  exact List.getElem_mem h
theorem tgetq {ts : List TM} {i : Nat} (h : i < ts.length) : ts[i]? = some (ts.getD i TM0) := by
  rw [List.getD_eq_getElem?_getD, List.getElem?_eq_getElem h, Option.getD_some]
theorem ofR_at {ts : List TM} {n : Int} (h0 : 0 ≤ n) (h1 : n < ts.length) : ofR ts n = if (ts.getD n.toNat TM0).en then none else some (ts.getD n.toNat TM0) := by
  unfold ofR
  rw [if_pos h0, tgetq (by omega)]
theorem ofR_out {ts : List TM} {n : Int} (h : n < 0 ∨ (ts.length : Int) ≤ n) : ofR ts n = none := by
  unfold ofR
  split
  · rw [List.getElem?_eq_none (by omega)]
  · rfl
theorem alive_set {ts : List TM} {i : Nat} {t u : TM} (h : ts[i]? = some t) (hu : u.en = t.en) : alive (ts.set i u) = alive ts := by
  have hlt := (List.getElem?_eq_some_iff.1 h).1
  conv => rhs; rw [split_at h]
  rw [set_split hlt]
  unfold alive
  rw [List.filter_append, List.filter_append, List.filter_cons, List.filter_cons, hu]
  cases t.en <;> simp
theorem ptr_set {ts : List TM} {i : Nat} {t u : TM} (h : ts[i]? = some t) (hu : u.g = t.g) : (ts.set i u).map ptrT = ts.map ptrT := by
  have hlt := (List.getElem?_eq_some_iff.1 h).1
  conv => rhs; rw [split_at h]
  rw [set_split hlt]
  simp only [List.map_append, List.map_cons, ptrT, hu]
theorem alive_app (ts : List TM) (t : TM) : alive (ts ++ [t]) = alive ts + (if t.en then 0 else 1) := by
  unfold alive
  rw [List.filter_append, List.length_append]
  cases h : t.en <;> simp [h]
theorem alive_le (ts : List TM) : alive ts ≤ ts.length := List.length_filter_le _ _
theorem notFrozen {w : World} {g i : Nat} {l : List Value} {e : TypeId} (h : w.heap[g]? = some (.cells l.toArray e (0, 0))) : w.frozen? ⟨g, i, none⟩ = false := by
  unfold World.frozen?
  simp [h]
/-- pantry.locks.NewRun -/
theorem newRun_con (w : World) : Con Try.prog 10 [] w [] fun v S' => ∃ r : RM, v = .pointer (some ⟨r.gr, 0, none⟩) ∧ S' = [r.heap] ∧ r.Ok ∧ r.ts = [] ∧ r.steps = 0 ∧ r.busy = false := by
  refine con_of_tree mix Try.func10 T10_ok (by kernel_rfl) ?_
  unfold T10
  refine j_q (qs_ac) ?_
  refine j_q (qs_build (places := [(0, 1), (1, 1), (2, 1), (3, 1)]) (offs := []) Try.underlying77 zero77 (by kernel_rfl) rfl (by rintro j p q hp hq; simp at hp)) ?_
  refine j_box (l := [.slice none 0 0, .int .i64 0, .int .i64 0, .bool false]) rfl (fun g2 hg2 hs2 => ?_)
  refine j_perm (S' := [RM.heap ({ gr := g2, tv := .slice none 0 0, tc := [], ts := [], steps := 0, busy := false } : RM)]) (by simp [RM.heap, alive]) ?_
  refine j_ret_con (vs := [_]) (fun w' hw' => ⟨rfl, trivial⟩) ?_
  exact ⟨({ gr := g2, tv := .slice none 0 0, tc := [], ts := [], steps := 0, busy := false } : RM), rfl, rfl, ⟨own_nil, Nat.zero_le _, (fun t ht => by cases ht), Nat.zero_le _⟩, rfl, rfl, rfl⟩
/-- (*pantry.locks.Run).of -/
theorem ofR_con (r : RM) (n : Int) (w : World) (hin : ∀ q ∈ r.heap, w.heap[q.1]? = some q.2) (hok : r.Ok) (hn : intOk n) : Con Try.prog 42 [.pointer (some ⟨r.gr, 0, none⟩), .int .i64 n] w [] fun v _ => v = (match ofR r.ts n with | some t => ptrT t | none => .pointer none) := by
  refine con_of_tree mix Try.func42 T42_ok (by kernel_rfl) ?_
  unfold T42
  obtain ⟨A, cap, gq, htv, hcap, hA⟩ := hok.form
  refine j_q (qs_ac) ?_
  refine j_q (qs_pnil Try.underlying23 rfl) ?_
  refine j_g rfl (fun hb => qs_mt rfl) ?_
  refine j_g rfl (fun hb => qs_lss (gd_eq hb) rfl) ?_
  refine j_q (qs_or rfl rfl) ?_
  refine j_g rfl (fun hb => qs_mt rfl) ?_
  refine j_g rfl (fun hb => qs_mt rfl) ?_
  refine j_g rfl (fun hb => qs_nil (gd_eq hb)) ?_
  refine j_g rfl (fun hb => qs_field Try.underlying77 rfl sz70 (by decide) (gd_eq hb)) ?_
  first
    | refine j_g rfl (fun hb => qs_loadO (rdo_base (o := RM.obj r) (RM.in_gr hin) (by simp)) Try.underlying70 rfl (gd_eq hb) rfl) ?_
    | refine j_g rfl (fun hb => qs_load 0 Try.underlying70 rfl (gd_eq hb) rfl rfl) ?_
  refine j_g rfl (fun hb => qs_lenl (n := r.ts.length) (A := A) (c := cap) Try.underlying70 ((gd_eq hb).trans htv)) ?_
  refine j_g rfl (fun hb => qs_geq (gd_eq hb) (gd_eq hb)) ?_
  refine j_q (qs_or rfl rfl) ?_
  refine j_g rfl (fun hb => qs_mt rfl) ?_
  refine j_g rfl (fun hb => qs_nil (gd_eq hb)) ?_
  refine j_g rfl (fun hb => qs_field Try.underlying77 rfl sz70 (by decide) (gd_eq hb)) ?_
  first
    | refine j_g rfl (fun hb => qs_loadO (rdo_base (o := RM.obj r) (RM.in_gr hin) (by simp)) Try.underlying70 rfl (gd_eq hb) rfl) ?_
    | refine j_g rfl (fun hb => qs_load 0 Try.underlying70 rfl (gd_eq hb) rfl rfl) ?_
  refine j_g rfl (fun hb => qs_mt rfl) ?_
  refine j_g rfl (fun hb => qs_ixg (g := gq) Try.underlying70 sz78 ((gd_eq hb).trans (by rw [htv, hA (by simp only [Bool.and_eq_true, Bool.or_eq_true, Bool.and_eq_false_iff, Bool.or_eq_false_iff, Bool.not_eq_true', Bool.not_eq_false', decide_eq_true_eq, decide_eq_false_iff_not, beq_iff_eq, beq_eq_false_iff_ne, bne_iff_ne, bne_eq_false_iff_eq, ne_eq, Int.toNat_natCast] at *; omega)])) (gd_eq hb) ⟨(by first | omega | (simp only [Bool.and_eq_true, Bool.or_eq_true, Bool.and_eq_false_iff, Bool.or_eq_false_iff, Bool.not_eq_true', Bool.not_eq_false', decide_eq_true_eq, decide_eq_false_iff_not, beq_iff_eq, beq_eq_false_iff_ne, bne_iff_ne, bne_eq_false_iff_eq, ne_eq, Int.toNat_natCast] at *; omega)), (by first | omega | (simp only [Bool.and_eq_true, Bool.or_eq_true, Bool.and_eq_false_iff, Bool.or_eq_false_iff, Bool.not_eq_true', Bool.not_eq_false', decide_eq_true_eq, decide_eq_false_iff_not, beq_iff_eq, beq_eq_false_iff_ne, bne_iff_ne, bne_eq_false_iff_eq, ne_eq, Int.toNat_natCast] at *; omega))⟩) ?_
  refine j_g rfl (fun hb => qs_loadR (v := ptrT (r.ts.getD n.toNat TM0)) (a := ⟨gq, 0, none⟩) (i := n.toNat) (rd_ownb (by have := hok.own; rw [htv, hA (by simp only [Bool.and_eq_true, Bool.or_eq_true, Bool.and_eq_false_iff, Bool.or_eq_false_iff, Bool.not_eq_true', Bool.not_eq_false', decide_eq_true_eq, decide_eq_false_iff_not, beq_iff_eq, beq_eq_false_iff_ne, bne_iff_ne, bne_eq_false_iff_eq, ne_eq, Int.toNat_natCast] at *; omega)] at this; exact this) (RM.in_tc hin) (by simp)) Try.underlying78 rfl ((gd_eq hb).trans (congrArg (fun a => Value.pointer (some a)) (add0 gq n.toNat).symm)) (tget (by simp only [Bool.and_eq_true, Bool.or_eq_true, Bool.and_eq_false_iff, Bool.or_eq_false_iff, Bool.not_eq_true', Bool.not_eq_false', decide_eq_true_eq, decide_eq_false_iff_not, beq_iff_eq, beq_eq_false_iff_ne, bne_iff_ne, bne_eq_false_iff_eq, ne_eq, Int.toNat_natCast] at *; omega))) ?_
  refine j_g rfl (fun hb => qs_nil (gd_eq hb)) ?_
  refine j_g rfl (fun hb => qs_field Try.underlying90 rfl sz4 (by decide) (gd_eq hb)) ?_
  refine j_g rfl (fun hb => qs_loadO (u := .bool (r.ts.getD n.toNat TM0).en) (rdo_base (o := TM.obj (r.ts.getD n.toNat TM0)) (RM.in_t hin (tmem (by simp only [Bool.and_eq_true, Bool.or_eq_true, Bool.and_eq_false_iff, Bool.or_eq_false_iff, Bool.not_eq_true', Bool.not_eq_false', decide_eq_true_eq, decide_eq_false_iff_not, beq_iff_eq, beq_eq_false_iff_ne, bne_iff_ne, bne_eq_false_iff_eq, ne_eq, Int.toNat_natCast] at *; omega))) (by simp)) Try.underlying4 rfl (gd_eq hb) rfl) ?_
  refine j_q (qs_or rfl rfl) ?_
  refine j_cond rfl (fun hc0 => ?_) (fun hc0 => ?_)
  · skip
    have hno : ofR r.ts n = none := by
      by_cases h1 : 0 ≤ n ∧ n < r.ts.length
      · rw [ofR_at h1.1 h1.2]
        have h2 : decide (n < 0) = false := by simp; omega
        have h3 : decide (n ≥ (r.ts.length : Int)) = false := by simp; omega
        rw [h2, h3] at hc0
        simp at hc0
        simp only [List.getD_eq_getElem?_getD] at hc0 ⊢
        rw [if_pos hc0]
      · exact ofR_out (by omega)
    refine j_q (qs_ac) ?_
    refine j_ret_con (vs := [_]) (fun w' hw' => ⟨rfl, trivial⟩) ?_
    rw [hno]
    rfl
  · skip
    have hlt : 0 < r.ts.length ∧ 0 ≤ n ∧ n < r.ts.length ∧ (r.ts.getD n.toNat TM0).en = false := by
      simp only [Bool.or_eq_false_iff, decide_eq_false_iff_not] at hc0
      obtain ⟨⟨⟨_, h1⟩, h2⟩, h3⟩ := hc0
      exact ⟨by omega, by omega, by omega, h3⟩
    refine j_q (qs_nil rfl) ?_
    refine j_q (qs_field Try.underlying77 rfl sz70 (by decide) rfl) ?_
    first
      | refine j_q (qs_loadO (rdo_base (o := RM.obj r) (RM.in_gr hin) (by simp)) Try.underlying70 rfl rfl rfl) ?_
      | refine j_q (qs_load 0 Try.underlying70 rfl rfl rfl rfl) ?_
    refine j_q (qs_ixg (g := gq) (n := r.ts.length) (c := cap) Try.underlying70 sz78 (htv.trans (by rw [hA hlt.1])) rfl (by omega)) ?_
    refine j_q (qs_loadR (v := ptrT (r.ts.getD n.toNat TM0)) (a := ⟨gq, 0, none⟩) (i := n.toNat) (rd_ownb (by have := hok.own; rw [htv, hA hlt.1] at this; exact this) (RM.in_tc hin) (by simp)) Try.underlying78 rfl (congrArg (fun a => Value.pointer (some a)) (add0 gq n.toNat).symm) (tget (by omega))) ?_
    refine j_ret_con (vs := [_]) (fun w' hw' => ⟨rfl, trivial⟩) ?_
    rw [ofR_at hlt.2.1 hlt.2.2.1, if_neg (by rw [hlt.2.2.2]; decide)]
    rfl
/-- (*pantry.locks.Run).Block -/
theorem blockR_con0 (r : RM) (n : Int) (w : World) (hok : r.Ok) (hn : intOk n) (hof : ofR r.ts n = none) : Con Try.prog 18 [.pointer (some ⟨r.gr, 0, none⟩), .int .i64 n] w r.heap fun v S' => v = .bool false ∧ S' = [r.heap] := by
  refine con_of_tree mix Try.func18 T18_ok (by kernel_rfl) ?_
  unfold T18
  refine j_q (qs_ac) ?_
  refine j_q (qs_call ent42 rfl rfl rfl (fun w' hw' => ofR_con r n w' (in_own hw' 0 rfl) hok hn)) ?_
  rw [hof]
  refine j_q (qs_pnnil Try.underlying78 rfl) ?_
  refine j_cond rfl (fun hc0 => ?_) (fun hc0 => ?_)
  · skip
    simp at hc0
  · skip
    refine j_q (qs_pnnil Try.underlying78 rfl) ?_
    refine j_ret_con (vs := [_]) (fun w' hw' => ⟨rfl, trivial⟩) ?_
    exact ⟨rfl, rfl⟩
/-- (*pantry.locks.Run).Block -/
theorem blockR_con1 (r : RM) (n : Int) (t : TM) (w : World) (hok : r.Ok) (hn : intOk n) (hof : ofR r.ts n = some t) : Con Try.prog 18 [.pointer (some ⟨r.gr, 0, none⟩), .int .i64 n] w r.heap fun v S' => v = .bool true ∧ S' = [RM.heap { r with ts := r.ts.set n.toNat { t with bl := true } }] := by
  refine con_of_tree mix Try.func18 T18_ok (by kernel_rfl) ?_
  unfold T18
  refine j_q (qs_ac) ?_
  refine j_q (qs_call ent42 rfl rfl rfl (fun w' hw' => ofR_con r n w' (in_own hw' 0 rfl) hok hn)) ?_
  rw [hof]
  obtain ⟨hn0, htn, hte⟩ := ofR_some hof
  refine j_perm (S' := RM.parts r t (r.ts.take n.toNat) (r.ts.drop (n.toNat + 1))) (by rw [List.flatten_cons, List.flatten_nil, List.append_nil]; exact RM.open_ (split_at htn)) ?_
  unfold RM.parts ptrT
  refine j_q (qs_pnnil Try.underlying78 rfl) ?_
  refine j_cond rfl (fun hc0 => ?_) (fun hc0 => ?_)
  · skip
    refine j_q (qs_nil rfl) ?_
    refine j_q (qs_field Try.underlying90 rfl sz4 (by decide) rfl) ?_
    refine j_store (l := tcells t) 2 sz4 rfl rfl rfl rfl (by simp) (by simp) ?_
    refine j_perm (S' := [RM.heap { r with ts := r.ts.set n.toNat { t with bl := true } }]) (by
      have h := RM.open_ (r := { r with ts := r.ts.set n.toNat { t with bl := true } }) (t := { t with bl := true }) (a := r.ts.take n.toNat) (b := r.ts.drop (n.toNat + 1)) (set_split (List.getElem?_eq_some_iff.1 htn).1 _)
      rw [List.flatten_cons, List.flatten_nil, List.append_nil]
      refine List.Perm.trans (List.Perm.of_eq ?_) h.symm
      unfold RM.parts
      simp only [RM.obj, rcells, alive_set (u := { t with bl := true }) htn rfl]
      rfl) ?_
    refine j_q (qs_pnnil Try.underlying78 rfl) ?_
    refine j_ret_con (vs := [_]) (fun w' hw' => ⟨rfl, trivial⟩) ?_
    exact ⟨rfl, rfl⟩
  · skip
    simp at hc0
/-- (*pantry.locks.Run).Wake -/
theorem wakeR_con0 (r : RM) (n : Int) (w : World) (hok : r.Ok) (hn : intOk n) (hof : ofR r.ts n = none) : Con Try.prog 20 [.pointer (some ⟨r.gr, 0, none⟩), .int .i64 n] w r.heap fun v S' => v = .bool false ∧ S' = [r.heap] := by
  refine con_of_tree mix Try.func20 T20_ok (by kernel_rfl) ?_
  unfold T20
  refine j_q (qs_ac) ?_
  refine j_q (qs_call ent42 rfl rfl rfl (fun w' hw' => ofR_con r n w' (in_own hw' 0 rfl) hok hn)) ?_
  rw [hof]
  refine j_q (qs_pnnil Try.underlying78 rfl) ?_
  refine j_cond rfl (fun hc0 => ?_) (fun hc0 => ?_)
  · skip
    simp at hc0
  · skip
    refine j_q (qs_pnnil Try.underlying78 rfl) ?_
    refine j_ret_con (vs := [_]) (fun w' hw' => ⟨rfl, trivial⟩) ?_
    exact ⟨rfl, rfl⟩
/-- (*pantry.locks.Run).Wake -/
theorem wakeR_con1 (r : RM) (n : Int) (t : TM) (w : World) (hok : r.Ok) (hn : intOk n) (hof : ofR r.ts n = some t) : Con Try.prog 20 [.pointer (some ⟨r.gr, 0, none⟩), .int .i64 n] w r.heap fun v S' => v = .bool true ∧ S' = [RM.heap { r with ts := r.ts.set n.toNat { t with bl := false } }] := by
  refine con_of_tree mix Try.func20 T20_ok (by kernel_rfl) ?_
  unfold T20
  refine j_q (qs_ac) ?_
  refine j_q (qs_call ent42 rfl rfl rfl (fun w' hw' => ofR_con r n w' (in_own hw' 0 rfl) hok hn)) ?_
  rw [hof]
  obtain ⟨hn0, htn, hte⟩ := ofR_some hof
  refine j_perm (S' := RM.parts r t (r.ts.take n.toNat) (r.ts.drop (n.toNat + 1))) (by rw [List.flatten_cons, List.flatten_nil, List.append_nil]; exact RM.open_ (split_at htn)) ?_
  unfold RM.parts ptrT
  refine j_q (qs_pnnil Try.underlying78 rfl) ?_
  refine j_cond rfl (fun hc0 => ?_) (fun hc0 => ?_)
  · skip
    refine j_q (qs_nil rfl) ?_
    refine j_q (qs_field Try.underlying90 rfl sz4 (by decide) rfl) ?_
    refine j_store (l := tcells t) 2 sz4 rfl rfl rfl rfl (by simp) (by simp) ?_
    refine j_perm (S' := [RM.heap { r with ts := r.ts.set n.toNat { t with bl := false } }]) (by
      have h := RM.open_ (r := { r with ts := r.ts.set n.toNat { t with bl := false } }) (t := { t with bl := false }) (a := r.ts.take n.toNat) (b := r.ts.drop (n.toNat + 1)) (set_split (List.getElem?_eq_some_iff.1 htn).1 _)
      rw [List.flatten_cons, List.flatten_nil, List.append_nil]
      refine List.Perm.trans (List.Perm.of_eq ?_) h.symm
      unfold RM.parts
      simp only [RM.obj, rcells, alive_set (u := { t with bl := false }) htn rfl]
      rfl) ?_
    refine j_q (qs_pnnil Try.underlying78 rfl) ?_
    refine j_ret_con (vs := [_]) (fun w' hw' => ⟨rfl, trivial⟩) ?_
    exact ⟨rfl, rfl⟩
  · skip
    simp at hc0
/-- (*pantry.locks.Run).Add -/
theorem addR0_con (r : RM) (fv : Value) (w : World) (hin : ∀ q ∈ r.heap, w.heap[q.1]? = some q.2) (hok : r.Ok) (hf : fv = .nilFunc ∨ (∃ f a c, fv = .func f a c)) (hfull : fv = .nilFunc ∨ 256 ≤ alive r.ts) : Con Try.prog 13 [.pointer (some ⟨r.gr, 0, none⟩), fv] w [] fun v _ => v = .int .i64 (-1) := by
  refine con_of_tree mix Try.func13 T13_ok (by kernel_rfl) ?_
  unfold T13
  refine j_q (qs_ac) ?_
  refine j_q (qs_pnil Try.underlying23 rfl) ?_
  refine j_g rfl (fun hb => qs_mt rfl) ?_
  refine j_g rfl (fun hb => qs_fnil (u := fv) Try.underlying22 (gd_eq hb) hf) ?_
  refine j_q (qs_or rfl rfl) ?_
  refine j_g rfl (fun hb => qs_mt rfl) ?_
  refine j_g rfl (fun hb => qs_nil (gd_eq hb)) ?_
  refine j_g rfl (fun hb => qs_field Try.underlying77 rfl sz3 (by decide) (gd_eq hb)) ?_
  first
    | refine j_g rfl (fun hb => qs_loadO (rdo_base (o := RM.obj r) (RM.in_gr hin) (by simp)) Try.underlying3 rfl (gd_eq hb) rfl) ?_
    | refine j_g rfl (fun hb => qs_loadk 0 Try.underlying3 (gd_eq hb) rfl (by first | omega | (simp only [Bool.and_eq_true, Bool.or_eq_true, Bool.and_eq_false_iff, Bool.or_eq_false_iff, Bool.not_eq_true', Bool.not_eq_false', decide_eq_true_eq, decide_eq_false_iff_not, beq_iff_eq, beq_eq_false_iff_ne, bne_iff_ne, bne_eq_false_iff_eq, ne_eq, Int.toNat_natCast] at *; omega))) ?_
    | refine j_g rfl (fun hb => qs_load 0 Try.underlying3 rfl (gd_eq hb) rfl rfl) ?_
  refine j_g rfl (fun hb => qs_geq (gd_eq hb) rfl) ?_
  refine j_q (qs_or rfl rfl) ?_
  refine j_cond rfl (fun hc0 => ?_) (fun hc0 => ?_)
  · skip
    refine j_q (qs_ac) ?_
    refine j_ret_con (vs := [_]) (fun w' hw' => ⟨rfl, trivial⟩) ?_
    rfl
  · skip
    exfalso
    rcases hfull with rfl | h
    · simp [isNilF] at hc0
    · simp only [Bool.or_eq_false_iff, decide_eq_false_iff_not] at hc0
      have := hc0.2
      omega
/-- (*pantry.locks.Run).Add -/
theorem addR_con (r : RM) (f : FuncId) (c : Array Value) (w : World) (hok : r.Ok) (hlen : r.ts.length < 1000000) (hfull : alive r.ts < 256) : Con Try.prog 13 [.pointer (some ⟨r.gr, 0, none⟩), .func (.func f) #[] c] w r.heap fun v S' => ∃ r' : RM, v = .int .i64 (r.ts.length : Int) ∧ S' = [r'.heap] ∧ r'.Ok ∧ r'.gr = r.gr ∧ r'.steps = r.steps ∧ r'.busy = r.busy ∧ ∃ g, r'.ts = r.ts ++ [⟨g, .func (.func f) #[] c, false, false⟩] := by
  refine con_of_tree mix Try.func13 T13_ok (by kernel_rfl) ?_
  unfold T13
  refine j_perm (S' := [[(r.gr, r.obj)], r.tc, r.ts.map fun t => (t.g, t.obj)]) (by simp [RM.heap]) ?_
  obtain ⟨A, cap, gq, htv, hcap, hA⟩ := hok.form
  refine j_q (qs_ac) ?_
  refine j_q (qs_pnil Try.underlying23 rfl) ?_
  refine j_g rfl (fun hb => qs_mt rfl) ?_
  refine j_g rfl (fun hb => qs_fnil (u := .func (.func f) #[] c) Try.underlying22 (gd_eq hb) (.inr ⟨_, _, _, rfl⟩)) ?_
  refine j_q (qs_or rfl rfl) ?_
  refine j_g rfl (fun hb => qs_mt rfl) ?_
  refine j_g rfl (fun hb => qs_nil (gd_eq hb)) ?_
  refine j_g rfl (fun hb => qs_field Try.underlying77 rfl sz3 (by decide) (gd_eq hb)) ?_
  first
    | refine j_g rfl (fun hb => qs_loadk 0 Try.underlying3 (gd_eq hb) rfl (by first | omega | (simp only [Bool.and_eq_true, Bool.or_eq_true, Bool.and_eq_false_iff, Bool.or_eq_false_iff, Bool.not_eq_true', Bool.not_eq_false', decide_eq_true_eq, decide_eq_false_iff_not, beq_iff_eq, beq_eq_false_iff_ne, bne_iff_ne, bne_eq_false_iff_eq, ne_eq, Int.toNat_natCast] at *; omega))) ?_
    | refine j_g rfl (fun hb => qs_loadk 1 Try.underlying3 (gd_eq hb) rfl (by first | omega | (simp only [Bool.and_eq_true, Bool.or_eq_true, Bool.and_eq_false_iff, Bool.or_eq_false_iff, Bool.not_eq_true', Bool.not_eq_false', decide_eq_true_eq, decide_eq_false_iff_not, beq_iff_eq, beq_eq_false_iff_ne, bne_iff_ne, bne_eq_false_iff_eq, ne_eq, Int.toNat_natCast] at *; omega))) ?_
    | refine j_g rfl (fun hb => qs_loadk 2 Try.underlying3 (gd_eq hb) rfl (by first | omega | (simp only [Bool.and_eq_true, Bool.or_eq_true, Bool.and_eq_false_iff, Bool.or_eq_false_iff, Bool.not_eq_true', Bool.not_eq_false', decide_eq_true_eq, decide_eq_false_iff_not, beq_iff_eq, beq_eq_false_iff_ne, bne_iff_ne, bne_eq_false_iff_eq, ne_eq, Int.toNat_natCast] at *; omega))) ?_
    | refine j_g rfl (fun hb => qs_loadk 3 Try.underlying3 (gd_eq hb) rfl (by first | omega | (simp only [Bool.and_eq_true, Bool.or_eq_true, Bool.and_eq_false_iff, Bool.or_eq_false_iff, Bool.not_eq_true', Bool.not_eq_false', decide_eq_true_eq, decide_eq_false_iff_not, beq_iff_eq, beq_eq_false_iff_ne, bne_iff_ne, bne_eq_false_iff_eq, ne_eq, Int.toNat_natCast] at *; omega))) ?_
    | refine j_g rfl (fun hb => qs_load 0 Try.underlying3 rfl (gd_eq hb) rfl rfl) ?_
    | refine j_g rfl (fun hb => qs_load 1 Try.underlying3 rfl (gd_eq hb) rfl rfl) ?_
    | refine j_g rfl (fun hb => qs_load 2 Try.underlying3 rfl (gd_eq hb) rfl rfl) ?_
    | refine j_g rfl (fun hb => qs_load 3 Try.underlying3 rfl (gd_eq hb) rfl rfl) ?_
  refine j_g rfl (fun hb => qs_geq (gd_eq hb) rfl) ?_
  refine j_q (qs_or rfl rfl) ?_
  refine j_cond rfl (fun hc0 => ?_) (fun hc0 => ?_)
  · skip
    exfalso
    simp [isNilF] at hc0
    omega
  · skip
    refine j_q (qs_nil rfl) ?_
    refine j_q (qs_field Try.underlying77 rfl sz70 (by decide) rfl) ?_
    first
      | refine j_q (qs_load 0 Try.underlying70 rfl rfl rfl rfl) ?_
      | refine j_q (qs_load 1 Try.underlying70 rfl rfl rfl rfl) ?_
      | refine j_q (qs_load 2 Try.underlying70 rfl rfl rfl rfl) ?_
      | refine j_q (qs_load 3 Try.underlying70 rfl rfl rfl rfl) ?_
    refine j_q (qs_build (places := [(0, 1), (1, 1), (2, 3), (5, 1)]) (offs := [(0, [.func (.func f) #[] c])]) Try.underlying90 zero90 (by kernel_rfl) rfl (by rintro (_ | j) p q hp hq <;> first | (simp at hp hq; subst hp hq; exact ⟨rfl, rfl, by simp⟩) | (simp at hp))) ?_
    refine j_box (l := tcells ⟨0, .func (.func f) #[] c, false, false⟩) rfl (fun g16 hg16 hs16 => ?_)
    refine j_lit (vs := [.pointer (some ⟨g16, 0, none⟩)]) Try.underlying70 sz78 zero78 rfl (by simp [oneV]) ⟨rfl, by decide⟩ (fun g17 v17 c17 hv17 hc17 ho17 => ?_)
    subst hv17 hc17
    refine j_append 3 Try.underlying70 Try.underlying70 (.inr ⟨_, rfl⟩) sb78 zero78 rfl hok.own rfl (.inl ⟨_, _, rfl, own_rd ho17 0 rfl, rfl⟩) (by intro u hu; rw [List.mem_singleton] at hu; rw [hu]; rfl) ⟨(by simp only [List.length_map, List.length_singleton]; omega), (by decide)⟩ (fun v18 c18 ho18 => ?_)
    refine j_q (qs_nil rfl) ?_
    refine j_q (qs_field Try.underlying77 rfl sz70 (by decide) rfl) ?_
    refine j_store (l := rcells r) 2 sz70 rfl rfl (by obtain ⟨n', A', cap', e', _⟩ := own_form ho18 (by decide); show oneV v18 = true; rw [e']; rfl) rfl (by simp) (by simp) ?_
    obtain ⟨n18, A18, cap18, hv18, hn18⟩ := own_form ho18 (by decide)
    rw [List.length_append, List.length_map, List.length_singleton, Nat.mul_one] at hn18
    refine j_q (qs_nil rfl) ?_
    refine j_q (qs_field Try.underlying77 rfl sz3 (by decide) rfl) ?_
    refine j_q (qs_load (l := [v18, .int .i64 (alive r.ts : Nat), .int .i64 r.steps, .bool r.busy]) 2 Try.underlying3 rfl rfl rfl rfl) ?_
    refine j_q (qs_add64 rfl rfl (by first | omega | (simp only [Bool.and_eq_true, Bool.or_eq_true, Bool.and_eq_false_iff, Bool.or_eq_false_iff, Bool.not_eq_true', Bool.not_eq_false', decide_eq_true_eq, decide_eq_false_iff_not, beq_iff_eq, beq_eq_false_iff_ne, bne_iff_ne, bne_eq_false_iff_eq, ne_eq, Int.toNat_natCast] at *; omega))) ?_
    refine j_q (qs_nil rfl) ?_
    refine j_q (qs_field Try.underlying77 rfl sz3 (by decide) rfl) ?_
    refine j_store (l := [v18, .int .i64 (alive r.ts : Nat), .int .i64 r.steps, .bool r.busy]) 2 sz3 rfl rfl rfl rfl (by simp) (by simp) ?_
    refine j_q (qs_nil rfl) ?_
    refine j_q (qs_field Try.underlying77 rfl sz70 (by decide) rfl) ?_
    refine j_q (qs_load (l := [v18, .int .i64 ((alive r.ts : Nat) + 1), .int .i64 r.steps, .bool r.busy]) 2 Try.underlying70 rfl rfl rfl rfl) ?_
    refine j_q (qs_lenl Try.underlying70 hv18) ?_
    refine j_q (qs_sub64 rfl rfl (by first | omega | (simp only [Bool.and_eq_true, Bool.or_eq_true, Bool.and_eq_false_iff, Bool.or_eq_false_iff, Bool.not_eq_true', Bool.not_eq_false', decide_eq_true_eq, decide_eq_false_iff_not, beq_iff_eq, beq_eq_false_iff_ne, bne_iff_ne, bne_eq_false_iff_eq, ne_eq, Int.toNat_natCast] at *; omega))) ?_
    refine j_perm (S' := [RM.heap ({ r with tv := v18, tc := c18, ts := r.ts ++ [⟨g16, .func (.func f) #[] c, false, false⟩] } : RM), [(g17, .cells [Value.pointer (some ⟨g16, 0, none⟩)].toArray 78 (0, 0))]]) (by
      have ea : alive (r.ts ++ [⟨g16, .func (.func f) #[] c, false, false⟩]) = alive r.ts + 1 := alive_app _ _
      classical
      show ([[(g17, Obj.cells [Value.pointer (some ⟨g16, 0, none⟩)].toArray 78 (0, 0))], [(g16, TM.obj ⟨g16, .func (.func f) #[] c, false, false⟩)], [(r.gr, Obj.cells [v18, .int .i64 ((alive r.ts : Nat) + 1), .int .i64 r.steps, .bool r.busy].toArray 77 (0, 0))], c18, r.ts.map fun t => (t.g, t.obj)] : List SH).flatten.Perm _
      refine List.perm_iff_count.2 fun a => ?_
      simp only [RM.heap, RM.obj, rcells, ea, Int.natCast_add, Int.natCast_one, List.set_cons_succ, List.set_cons_zero, List.flatten_cons, List.flatten_nil, List.append_nil, List.nil_append, List.map_append, List.map_cons, List.map_nil, List.cons_append, List.count_append, List.count_cons, List.count_nil]
      omega) ?_
    refine j_subl (S' := [RM.heap ({ r with tv := v18, tc := c18, ts := r.ts ++ [⟨g16, .func (.func f) #[] c, false, false⟩] } : RM)]) (by repeat first | exact List.Sublist.refl _ | exact List.nil_sublist _ | apply List.Sublist.cons_cons | apply List.Sublist.cons) ?_
    refine j_ret_con (vs := [_]) (fun w' hw' => ⟨rfl, trivial⟩) ?_
    refine ⟨({ r with tv := v18, tc := c18, ts := r.ts ++ [⟨g16, .func (.func f) #[] c, false, false⟩] } : RM), ?_, rfl, ⟨by rw [List.map_append]; exact ho18, by show alive (r.ts ++ [_]) ≤ 256; rw [alive_app]; simp; omega, fun t ht => ?_, by show (r.ts ++ [_]).length ≤ 1000000; rw [List.length_append, List.length_singleton]; omega⟩, rfl, rfl, rfl, g16, rfl⟩
    · show Value.int .i64 _ = _
      congr 1
      omega
    · rcases List.mem_append.1 (show t ∈ r.ts ++ [_] from ht) with ht | ht
      · exact hok.isf t ht
      · rw [List.mem_singleton] at ht
        rw [ht]
        exact ⟨f, c, rfl⟩
/-- (*sync.atomic.Int64).Load -/
theorem aload_con (g i : Nat) (l : List Value) (e : TypeId) (fz : Nat × Nat) (n : Int) (w : World) (hc : w.heap[g]? = some (.cells l.toArray e fz)) (hi : l[i]? = some (.int .i64 n)) : Con Try.prog 41 [.pointer (some ⟨g, i, none⟩)] w [] fun v _ => v = .int .i64 n := by
  refine con_of_tree mix Try.func41 T41_ok (by kernel_rfl) ?_
  unfold T41
  refine j_q (qs_ac) ?_
  refine j_q (qs_nil rfl) ?_
  refine j_q (qs_field Try.underlying75 rfl sz2 (by decide) rfl) ?_
  refine j_q (qs_extw (f := 63) (fn := Try.f63) (e := fun _ => pure .nilIface) rfl rfl rfl (fun w' hw' => run_call_load Try.func63 (by kernel_rfl) (by kernel_rfl) (by kernel_rfl) .i64 (by kernel_rfl) (by rw [cell_of ((hw'.frame g (lt_of_get hc) (by simp)).trans hc)]; exact hi))) ?_
  refine j_ret_con (vs := [_]) (fun w' hw' => ⟨rfl, trivial⟩) ?_
  rfl
/-- (*sync.atomic.Int64).Add -/
theorem aadd_con (g i : Nat) (l : List Value) (e : TypeId) (n d : Int) (w : World) (hi : l[i]? = some (.int .i64 n)) (hb : -9223372036854775808 ≤ n + d ∧ n + d ≤ 9223372036854775807) : Con Try.prog 37 [.pointer (some ⟨g, i, none⟩), .int .i64 d] w [(g, .cells l.toArray e (0, 0))] fun v S' => v = .int .i64 (n + d) ∧ S' = [[(g, .cells (l.set i (.int .i64 (n + d))).toArray e (0, 0))]] := by
  refine con_of_tree mix Try.func37 T37_ok (by kernel_rfl) ?_
  unfold T37
  refine j_q (qs_ac) ?_
  refine j_q (qs_nil rfl) ?_
  refine j_q (qs_field Try.underlying75 rfl sz2 (by decide) rfl) ?_
  refine j_extset (u := .int .i64 (n + d)) 0 rfl rfl rfl rfl (fun w' hw' => run_call_add Try.func59 (by kernel_rfl) (by kernel_rfl) (by kernel_rfl) .i64 (by kernel_rfl) (by rw [cell_of hw']; exact hi) (notFrozen hw') (by simp only [Op.intArith]; rw [IntWalk.i64_in _ hb]; rfl)) ?_
  refine j_ret_con (vs := [_]) (fun w' hw' => ⟨rfl, trivial⟩) ?_
  exact ⟨rfl, rfl⟩
/-- (*pantry.locks.Run).Left -/
theorem leftR_con (r : RM) (w : World) (hin : ∀ q ∈ r.heap, w.heap[q.1]? = some q.2) (hok : r.Ok) : Con Try.prog 14 [.pointer (some ⟨r.gr, 0, none⟩)] w [] fun v _ => v = .tuple #[.int .i64 (alive r.ts : Nat), .int .i64 r.steps] := by
  refine con_of_tree mix Try.func14 T14_ok (by kernel_rfl) ?_
  unfold T14
  refine j_q (qs_ac) ?_
  refine j_q (qs_ac) ?_
  refine j_q (qs_pnil Try.underlying23 rfl) ?_
  refine j_cond rfl (fun hc0 => ?_) (fun hc0 => ?_)
  · skip
    simp at hc0
  · skip
    refine j_draw ?_
    refine jq_q (qs_nil rfl) ?_
    refine jq_q (qs_field Try.underlying77 rfl sz3 (by decide) rfl) ?_
    first
      | refine jq_q (qs_loadO (rdo_base (o := RM.obj r) (RM.in_gr hin) (by simp)) Try.underlying3 rfl rfl rfl) ?_
      | refine jq_q (qs_loadk 0 Try.underlying3 rfl rfl (by first | omega | (simp only [Bool.and_eq_true, Bool.or_eq_true, Bool.and_eq_false_iff, Bool.or_eq_false_iff, Bool.not_eq_true', Bool.not_eq_false', decide_eq_true_eq, decide_eq_false_iff_not, beq_iff_eq, beq_eq_false_iff_ne, bne_iff_ne, bne_eq_false_iff_eq, ne_eq, Int.toNat_natCast] at *; omega))) ?_
      | refine jq_q (qs_load 0 Try.underlying3 rfl rfl rfl rfl) ?_
    refine jq_q (qs_nil rfl) ?_
    refine jq_q (qs_field Try.underlying77 rfl sz75 (by decide) rfl) ?_
    refine jq_q (qs_call ent41 rfl rfl rfl (fun w' hw' => aload_con r.gr 2 (rcells r) 77 (0, 0) r.steps w' ((hw'.frame r.gr (lt_of_get (RM.in_gr hin)) (by simp)).trans (RM.in_gr hin)) rfl)) ?_
    refine jq_nil ?_
    refine j_ret_con (vs := [_, _]) (fun w' hw' => ⟨rfl, rfl, trivial⟩) ?_
    rfl
end Go.Proofs.Ytlgfpoelhjlifaa
