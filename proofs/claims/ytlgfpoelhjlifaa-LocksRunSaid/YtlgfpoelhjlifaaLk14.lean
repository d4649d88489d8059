/- Tasks that take turns: Step. -/
import Derived.Test.YtlgfpoelhjlifaaTa
import Derived.Test.YtlgfpoelhjlifaaLk13
import Derived.Test.YtlgfpoelhjlifaaDo3
namespace Go.Proofs.Ytlgfpoelhjlifaa
open Go Go.Sx
set_option maxRecDepth 100000
set_option maxHeartbeats 4000000
set_option linter.unusedVariables false
set_option linter.unusedSimpArgs false
attribute [local irreducible] J JQ QS Con W opW
theorem ent61 : Sx.Enters Try.prog 61 := ⟨_, Try.func61, by kernel_rfl, by kernel_rfl⟩
theorem ent62 : Sx.Enters Try.prog 62 := ⟨_, Try.func62, by kernel_rfl, by kernel_rfl⟩
theorem zero23 : zeroL Try.prog 23 = some ([.pointer none]) := by kernel_rfl

def liveT (t : TM) : Bool := !t.en && !t.bl
/-- the tasks that may go -/
def goers (ts : List TM) (i : Nat) : List Nat := (List.range i).filter fun j => liveT (ts.getD j TM0)
theorem goers_succ (ts : List TM) (i : Nat) : goers ts (i + 1) = goers ts i ++ if liveT (ts.getD i TM0) then [i] else [] := by
  unfold goers
  rw [List.range_succ, List.filter_append, List.filter_cons, List.filter_nil]
theorem goers_len (ts : List TM) (i : Nat) : (goers ts i).length ≤ i := by
  have := List.length_filter_le (fun j => liveT (ts.getD j TM0)) (List.range i)
  rwa [List.length_range] at this
def nums (l : List Nat) : List Int := l.map fun (n : Nat) => (n : Int)
theorem nums_length (l : List Nat) : (nums l).length = l.length := by simp [nums]
theorem nums_get {l : List Nat} {k : Nat} (h : k < l.length) : (nums l).getD k 0 = ((l.getD k 0 : Nat) : Int) := by
  unfold nums
  rw [List.getD_eq_getElem?_getD, List.getD_eq_getElem?_getD, List.getElem?_map, List.getElem?_eq_getElem h]
  rfl
theorem goers_at {ts : List TM} {i k : Nat} (h : k < (goers ts i).length) : (goers ts i).getD k 0 < i ∧ liveT (ts.getD ((goers ts i).getD k 0) TM0) = true := by
  have hm : (goers ts i).getD k 0 ∈ goers ts i := by
    rw [List.getD_eq_getElem?_getD, List.getElem?_eq_getElem h, Option.getD_some]
    exact List.getElem_mem h
  obtain ⟨h1, h2⟩ := List.mem_filter.1 hm
  exact ⟨List.mem_range.1 h1, h2⟩
/-- the task that is picked -/
def pickN (ts : List TM) (pick : Int) : Nat := (goers ts ts.length).getD ((max 0 pick).toNat % (goers ts ts.length).length) 0
/-- the memory of the tasks -/
def tsc (ts : List TM) : SH := ts.map fun t => (t.g, t.obj)
theorem tsc_mem {ts : List TM} {i : Nat} (h : i < ts.length) : ((ts.getD i TM0).g, (ts.getD i TM0).obj) ∈ tsc ts := List.mem_map.2 ⟨_, tmem h, rfl⟩
theorem RM.heap_parts (r : RM) : r.heap = [(r.gr, r.obj)] ++ r.tc ++ tsc r.ts := rfl
theorem alive_end {ts : List TM} {n : Nat} {t : TM} (h : ts[n]? = some t) (he : t.en = false) : alive (ts.set n { t with en := true }) + 1 = alive ts := by
  have hlt := (List.getElem?_eq_some_iff.1 h).1
  conv => rhs; rw [split_at h]
  rw [set_split hlt]
  unfold alive
  rw [List.filter_append, List.filter_append, List.filter_cons, List.filter_cons, he]
  simp
  omega
theorem ne_of_nodup4 {a b c d : Nat} {l : List Nat} (h : (a :: b :: c :: d :: l).Nodup) : c ≠ a ∧ c ≠ b ∧ d ≠ a ∧ d ≠ b := by
  simp only [List.nodup_cons, List.mem_cons, not_or] at h
  obtain ⟨⟨_, h1, h2, _⟩, ⟨h3, h4, _⟩, _⟩ := h
  exact ⟨fun e => h1 e.symm, fun e => h3 e.symm, fun e => h2 e.symm, fun e => h4 e.symm⟩
/-- behind a step -/
def after (r : RM) (n : Nat) (b : Bool) : RM := { r with busy := false, ts := if b then r.ts else r.ts.set n { r.ts.getD n TM0 with en := true } }
theorem after_ok {r2 : RM} {n : Nat} {t : TM} (h : r2.Ok) (ht : r2.ts[n]? = some t) (he : t.en = false) (b : Bool) : (after r2 n b).Ok := by
  have hg : r2.ts.getD n TM0 = t := by rw [List.getD_eq_getElem?_getD, ht, Option.getD_some]
  cases b with
  | true => exact ⟨h.own, h.few, h.isf, h.len⟩
  | false =>
    refine ⟨?_, ?_, fun u hu => ?_, ?_⟩
    · show Sx.Own 78 1 ((r2.ts.set n { r2.ts.getD n TM0 with en := true }).map ptrT) r2.tv r2.tc
      rw [hg, ptr_set (u := { t with en := true }) ht rfl]
      exact h.own
    · show alive (r2.ts.set n { r2.ts.getD n TM0 with en := true }) ≤ 256
      rw [hg]
      exact Nat.le_trans (Nat.le_of_succ_le (Nat.le_of_eq (alive_end ht he))) h.few
    · have hu' : u ∈ r2.ts.set n { r2.ts.getD n TM0 with en := true } := hu
      rcases List.mem_or_eq_of_mem_set hu' with hu' | rfl
      · exact h.isf u hu'
      · rw [hg]
        exact h.isf t (List.mem_of_getElem? ht)
    · show (r2.ts.set n _).length ≤ 1000000
      rw [List.length_set]
      exact h.len
/-- (*pantry.locks.Run).Step -/
theorem stepBusy_con (r : RM) (pick : Int) (w : World) (hin : ∀ q ∈ r.heap, w.heap[q.1]? = some q.2) (hb : r.busy = true) : Con Try.prog 12 [.pointer (some ⟨r.gr, 0, none⟩), .int .i64 pick] w [] fun v _ => v = .tuple #[.int .i64 (-1), .bool false] := by
  refine con_of_tree mix Try.func12 T12_ok (by kernel_rfl) ?_
  unfold T12
  refine j_box (l := [.pointer (some ⟨r.gr, 0, none⟩)]) rfl (fun g0 hg0 hs0 => ?_)
  refine j_q (qs_ac) ?_
  refine j_q (qs_ac) ?_
  refine j_q (qs_load 0 Try.underlying23 rfl rfl rfl rfl) ?_
  refine j_q (qs_pnil Try.underlying23 rfl) ?_
  refine j_g rfl (fun hb => qs_load 0 Try.underlying23 rfl rfl rfl rfl) ?_
  refine j_g rfl (fun hb => qs_nil (gd_eq hb)) ?_
  refine j_g rfl (fun hb => qs_field Try.underlying77 rfl sz4 (by decide) (gd_eq hb)) ?_
  refine j_g rfl (fun hb1 => qs_loadO (u := .bool true) (rdo_base (o := RM.obj r) (RM.in_gr hin) (by simp)) Try.underlying4 rfl (gd_eq hb1) (show some (Value.bool r.busy) = some (Value.bool true) by rw [hb])) ?_
  refine j_q (qs_or rfl rfl) ?_
  refine j_cond rfl (fun hc0 => ?_) (fun hc0 => ?_)
  · skip
    refine j_q (qs_ac) ?_
    refine j_q (qs_ac) ?_
    refine j_ret_con (vs := [_, _]) (fun w' hw' => ⟨rfl, rfl, trivial⟩) ?_
    rfl
  · skip
    simp [gd] at hc0
/-- (*pantry.locks.Run).Step -/
theorem stepNone_con (r : RM) (U : SH) (pick : Int) (w : World) (hok : r.Ok) (hnb : r.busy = false) (hno : goers r.ts r.ts.length = []) : Con Try.prog 12 [.pointer (some ⟨r.gr, 0, none⟩), .int .i64 pick] w (r.heap ++ U) fun v S' => v = .tuple #[.int .i64 (-1), .bool false] ∧ S' = [r.heap, U] := by
  refine con_of_tree mix Try.func12 T12_ok (by kernel_rfl) ?_
  unfold T12
  obtain ⟨A, cap, gq, htv, hcap, hA⟩ := hok.form
  have hlen1 := hok.len
  have hfew1 := hok.few
  have hrow : ∀ {b : Base} {S : List SH} (k : Nat), S[k]? = some r.tc → 0 < r.ts.length → Rd b S ⟨gq, 0, none⟩ (r.ts.map ptrT) := fun k hk h0 => by
    have h1 := hok.own
    rw [htv, hA h0] at h1
    exact own_rd h1 k hk
  refine j_perm (S' := [[(r.gr, r.obj)], r.tc, tsc r.ts, U]) (by simp [RM.heap_parts]) ?_
  refine j_box (l := [.pointer (some ⟨r.gr, 0, none⟩)]) rfl (fun g0 hg0 hs0 => ?_)
  refine j_perm (S' := [[(g0, .cells [Value.pointer (some ⟨r.gr, 0, none⟩)].toArray 23 (0, 0))], [(r.gr, .cells [r.tv, .int .i64 (alive r.ts : Nat), .int .i64 r.steps, .bool false].toArray 77 (0, 0))], r.tc, tsc r.ts, U, []]) (by
    show ([[(g0, .cells [Value.pointer (some ⟨r.gr, 0, none⟩)].toArray 23 (0, 0))], [(r.gr, r.obj)], r.tc, tsc r.ts, U] : List SH).flatten.Perm _
    rw [show r.obj = .cells [r.tv, .int .i64 (alive r.ts : Nat), .int .i64 r.steps, .bool false].toArray 77 (0, 0) by show Obj.cells (rcells r).toArray 77 (0, 0) = _; unfold rcells; rw [hnb]]
    simp) ?_
  refine j_q (qs_ac) ?_
  refine j_q (qs_ac) ?_
  refine j_q (qs_load (l := [.pointer (some ⟨r.gr, 0, none⟩)]) 0 Try.underlying23 rfl rfl rfl rfl) ?_
  refine j_q (qs_pnil Try.underlying23 rfl) ?_
  refine j_g rfl (fun hb => qs_load (l := [.pointer (some ⟨r.gr, 0, none⟩)]) 0 Try.underlying23 rfl rfl rfl rfl) ?_
  refine j_g rfl (fun hb => qs_nil (gd_eq hb)) ?_
  refine j_g rfl (fun hb => qs_field Try.underlying77 rfl sz4 (by decide) (gd_eq hb)) ?_
  refine j_g rfl (fun hb1 => qs_load (l := [r.tv, .int .i64 (alive r.ts : Nat), .int .i64 r.steps, .bool false]) 1 Try.underlying4 rfl (gd_eq hb1) rfl rfl) ?_
  refine j_q (qs_or rfl rfl) ?_
  refine j_cond rfl (fun hc0 => ?_) (fun hc0 => ?_)
  · skip
    simp [gd] at hc0
  · skip
    skip
    refine j_q (qs_ac) ?_
    refine j_q (qs_load (l := [.pointer (some ⟨r.gr, 0, none⟩)]) 0 Try.underlying23 rfl rfl rfl rfl) ?_
    refine j_q (qs_nil rfl) ?_
    refine j_q (qs_field Try.underlying77 rfl sz70 (by decide) rfl) ?_
    refine j_q (qs_load (l := [r.tv, .int .i64 (alive r.ts : Nat), .int .i64 r.steps, .bool false]) 1 Try.underlying70 rfl rfl rfl rfl) ?_
    refine j_q (qs_lenl (n := r.ts.length) (A := A) (c := cap) Try.underlying70 htv) ?_
    refine j_q (qs_mc) ?_
    refine j_loop (fun m vs S' => ∃ (i : Nat) (lv : Value) (lc : SH), vs = [lv, .int .i64 (i : Int)] ∧ S' = [[(g0, .cells [Value.pointer (some ⟨r.gr, 0, none⟩)].toArray 23 (0, 0))], [(r.gr, .cells [r.tv, .int .i64 (alive r.ts : Nat), .int .i64 r.steps, .bool false].toArray 77 (0, 0))], r.tc, tsc r.ts, U, lc] ∧ Sx.Own 3 1 (ks .i64 (nums (goers r.ts i))) lv lc ∧ i ≤ r.ts.length ∧ m = r.ts.length - i) ⟨_, 0, _, [], rfl, rfl, own_nil, Nat.zero_le _, rfl⟩ ?_
    rintro m vs S' hlen ⟨i, lv, lc, rfl, rfl, hlo, hir, rfl⟩
    refine j_q (qs_lss rfl rfl) ?_
    refine j_cond rfl (fun hc1 => ?_) (fun hc1 => ?_)
    · skip
      have hi1 : i < r.ts.length := by
        simp only [Bool.and_eq_true, Bool.or_eq_true, Bool.and_eq_false_iff, Bool.or_eq_false_iff, Bool.not_eq_true', Bool.not_eq_false', decide_eq_true_eq, decide_eq_false_iff_not, beq_iff_eq, beq_eq_false_iff_ne, bne_iff_ne, bne_eq_false_iff_eq, ne_eq, Int.toNat_natCast] at *
        omega
      have hgs := goers_succ r.ts i
      refine j_q (qs_ixn (g := gq) (off := 0) (n := r.ts.length) (c := cap) Try.underlying70 sz78 (htv.trans (by rw [hA (by omega)])) rfl hi1) ?_
      refine j_q (qs_loadR (v := ptrT (r.ts.getD i TM0)) (a := ⟨gq, 0, none⟩) (i := i) (hrow 2 rfl (by omega)) Try.underlying78 rfl (by rw [add0]; show Value.pointer (some ⟨gq, 0 + i * 1, none⟩) = _; rw [Nat.zero_add, Nat.mul_one]) (tget hi1)) ?_
      refine j_q (qs_nil rfl) ?_
      refine j_q (qs_field Try.underlying90 rfl sz4 (by decide) rfl) ?_
      refine j_q (qs_loadO (rdo_mem (o := TM.obj (r.ts.getD i TM0)) 3 rfl (tsc_mem hi1)) Try.underlying4 rfl rfl rfl) ?_
      refine j_q (qs_not rfl) ?_
      refine j_g rfl (fun hb => qs_mt rfl) ?_
      refine j_g rfl (fun hb => qs_nil (gd_eq hb)) ?_
      refine j_g rfl (fun hb => qs_field Try.underlying90 rfl sz4 (by decide) (gd_eq hb)) ?_
      refine j_g rfl (fun hb => qs_loadO (rdo_mem (o := TM.obj (r.ts.getD i TM0)) 3 rfl (tsc_mem hi1)) Try.underlying4 rfl (gd_eq hb) rfl) ?_
      refine j_g rfl (fun hb => qs_not (gd_eq hb)) ?_
      refine j_q (qs_and rfl rfl) ?_
      refine j_cond rfl (fun hc2 => ?_) (fun hc2 => ?_)
      · skip
        have hlv : liveT (r.ts.getD i TM0) = true := by
          unfold liveT
          cases h1 : (r.ts.getD i TM0).en <;> cases h2 : (r.ts.getD i TM0).bl <;> simp only [h1, h2] at hc2 ⊢ <;> simp [gd] at hc2 ⊢
        refine j_lit (vs := [.int .i64 _]) Try.underlying36 sz3 zero3 rfl (by simp [oneV]) ⟨rfl, by decide⟩ (fun g32 v32 c32 hv32 hc32 ho32 => ?_)
        subst hv32 hc32
        refine j_append 6 Try.underlying36 Try.underlying36 (.inr ⟨_, rfl⟩) sb3 zero3 rfl hlo rfl (.inl ⟨_, _, rfl, own_rd ho32 0 rfl, rfl⟩) (by intro u hu; rw [List.mem_singleton] at hu; rw [hu]; rfl) ⟨(by simp only [ks_length, nums_length, List.length_singleton]; have := goers_len r.ts i; have := hok.len; omega), (by decide)⟩ (fun v33 c33 ho33 => ?_)
        have hlo1 : Sx.Own 3 1 (ks .i64 (nums (goers r.ts (i + 1)))) v33 c33 := by
          have e : ks .i64 (nums (goers r.ts (i + 1))) = ks .i64 (nums (goers r.ts i)) ++ [Value.int .i64 (i : Int)] := by
            rw [hgs, if_pos hlv]
            simp [ks, nums]
          rw [e]
          exact ho33
        refine j_subl (S' := [[(g0, .cells [Value.pointer (some ⟨r.gr, 0, none⟩)].toArray 23 (0, 0))], [(r.gr, .cells [r.tv, .int .i64 (alive r.ts : Nat), .int .i64 r.steps, .bool false].toArray 77 (0, 0))], r.tc, tsc r.ts, U, c33]) (by repeat first | exact List.Sublist.refl _ | exact List.nil_sublist _ | apply List.Sublist.cons_cons | apply List.Sublist.cons) ?_
        refine j_q (qs_add64 rfl rfl (by first | omega | (simp only [Bool.and_eq_true, Bool.or_eq_true, Bool.and_eq_false_iff, Bool.or_eq_false_iff, Bool.not_eq_true', Bool.not_eq_false', decide_eq_true_eq, decide_eq_false_iff_not, beq_iff_eq, beq_eq_false_iff_ne, bne_iff_ne, bne_eq_false_iff_eq, ne_eq, Int.toNat_natCast] at *; omega))) ?_
        refine j_back rfl ?_
        exact ⟨r.ts.length - (i + 1), by omega, i + 1, _, c33, rfl, rfl, hlo1, by omega, rfl⟩
      · skip
        have hlv : liveT (r.ts.getD i TM0) = false := by
          unfold liveT
          cases h1 : (r.ts.getD i TM0).en <;> cases h2 : (r.ts.getD i TM0).bl <;> simp only [h1, h2] at hc2 ⊢ <;> simp [gd] at hc2 ⊢
        have hlo2 : Sx.Own 3 1 (ks .i64 (nums (goers r.ts (i + 1)))) lv lc := by rw [hgs, hlv]; simpa using hlo
        refine j_q (qs_add64 rfl rfl (by first | omega | (simp only [Bool.and_eq_true, Bool.or_eq_true, Bool.and_eq_false_iff, Bool.or_eq_false_iff, Bool.not_eq_true', Bool.not_eq_false', decide_eq_true_eq, decide_eq_false_iff_not, beq_iff_eq, beq_eq_false_iff_ne, bne_iff_ne, bne_eq_false_iff_eq, ne_eq, Int.toNat_natCast] at *; omega))) ?_
        refine j_back rfl ?_
        exact ⟨r.ts.length - (i + 1), by omega, i + 1, _, lc, rfl, rfl, hlo2, by omega, rfl⟩
    · skip
      obtain rfl : i = r.ts.length := by
        simp only [Bool.and_eq_true, Bool.or_eq_true, Bool.and_eq_false_iff, Bool.or_eq_false_iff, Bool.not_eq_true', Bool.not_eq_false', decide_eq_true_eq, decide_eq_false_iff_not, beq_iff_eq, beq_eq_false_iff_ne, bne_iff_ne, bne_eq_false_iff_eq, ne_eq, Int.toNat_natCast] at *
        omega
      obtain ⟨nl, Al, capl, rfl, hnl⟩ := own_form hlo (by decide)
      rw [ks_length, nums_length, Nat.mul_one] at hnl
      subst hnl
      refine j_q (qs_lenl Try.underlying36 rfl) ?_
      refine j_q (qs_eql rfl rfl) ?_
      refine j_cond rfl (fun hc3 => ?_) (fun hc3 => ?_)
      · skip
        refine j_q (qs_ac) ?_
        refine j_q (qs_ac) ?_
        refine j_subl (S' := [[(r.gr, .cells [r.tv, .int .i64 (alive r.ts : Nat), .int .i64 r.steps, .bool false].toArray 77 (0, 0))], r.tc, tsc r.ts, U]) (by repeat first | exact List.Sublist.refl _ | exact List.nil_sublist _ | apply List.Sublist.cons_cons | apply List.Sublist.cons) ?_
        refine j_perm (S' := [r.heap, U]) (by
          rw [RM.heap_parts, show r.obj = .cells [r.tv, .int .i64 (alive r.ts : Nat), .int .i64 r.steps, .bool false].toArray 77 (0, 0) by show Obj.cells (rcells r).toArray 77 (0, 0) = _; unfold rcells; rw [hnb]]
          simp) ?_
        refine j_ret_con (vs := [_, _]) (fun w' hw' => ⟨rfl, rfl, trivial⟩) ?_
        exact ⟨rfl, rfl⟩
      · skip
        exfalso
        simp [hno, nums] at hc3
/-- (*sync.Once).Do -/
theorem once_con (t : TM) (gr gb1 gb0 : Nat) (tv st bu : Value) (n : Int) (w : World) (hte : t.en = false) (h1 : w.heap[gb1]? = some (.cells [Value.pointer (some ⟨t.g, 0, none⟩)].toArray 78 (0, 0))) (h0 : w.heap[gb0]? = some (.cells [Value.pointer (some ⟨gr, 0, none⟩)].toArray 23 (0, 0))) (d1 : gb1 ≠ t.g ∧ gb1 ≠ gr) (d0 : gb0 ≠ t.g ∧ gb0 ≠ gr) (hn : 0 < n ∧ n ≤ 1000) : Con Try.prog 39 [.pointer (some ⟨t.g, 2, none⟩), .func (.func 40) #[] #[.pointer (some ⟨gb1, 0, none⟩), .pointer (some ⟨gb0, 0, none⟩)]] w [(t.g, .cells (tcells t).toArray 90 (0, 0)), (gr, .cells [tv, .int .i64 n, st, bu].toArray 77 (0, 0))] fun v S' => S' = [[(t.g, .cells (tcells { t with en := true }).toArray 90 (0, 0))], [(gr, .cells [tv, .int .i64 (n - 1), st, bu].toArray 77 (0, 0))]] := by
  refine con_of_tree mix Try.func39 T39_ok (by kernel_rfl) ?_
  unfold T39
  obtain ⟨g, fv, bl, en⟩ := t
  simp only at hte h1 h0 d1 d0
  subst hte
  refine j_q (qs_nil rfl) ?_
  refine j_q (qs_field Try.underlying88 rfl sz82 (by decide) rfl) ?_
  refine j_q (qs_call ent61 rfl rfl rfl (fun w' hw' => bload_con g 2 (tcells ⟨g, fv, bl, false⟩) 90 (0, 0) 0 w' (rdo_mem (g := g) 0 rfl (List.mem_cons_self) w' hw') rfl)) ?_
  refine j_q (qs_not rfl) ?_
  refine j_cond rfl (fun hc0 => ?_) (fun hc0 => ?_)
  · skip
    refine j_call 0 ent62 rfl rfl rfl rfl (fun w' hw' => slow_con g gr gb1 gb0 fv (.bool bl) tv st bu n w' ((hw'.frame gb1 (lt_of_get h1) (by simp [d1])).trans h1) ((hw'.frame gb0 (lt_of_get h0) (by simp [d0])).trans h0) d1 d0 hn) (fun u S2 hu => ?_)
    obtain ⟨rfl, rfl⟩ := hu
    refine j_subl (S' := [[(g, .cells [fv, .bool bl, .int .u32 1, .int .i32 0, .int .u32 0, .bool true].toArray 90 (0, 0))], [(gr, .cells [tv, .int .i64 (n - 1), st, bu].toArray 77 (0, 0))]]) (by repeat first | exact List.Sublist.refl _ | exact List.nil_sublist _ | apply List.Sublist.cons_cons | apply List.Sublist.cons) ?_
    refine j_ret_con (vs := []) (fun w' hw' => trivial) ?_
    rfl
  · skip
    simp at hc0
/-- (*pantry.locks.Run).Step -/
theorem step_con (r : RM) (U : SH) (pick : Int) (f : FuncId) (caps : List Value) (w : World) (Q : Bool → List SH → Prop) (Rel : Bool → RM → SH → Prop) (hok : r.Ok) (hnb : r.busy = false) (hst : 0 ≤ r.steps ∧ r.steps ≤ 1000000) (hgo : goers r.ts r.ts.length ≠ []) (hfv : (r.ts.getD (pickN r.ts pick) TM0).fv = .func (.func f) #[] caps.toArray) (hen : Sx.Enters Try.prog f)
    (hcl : ∀ w', ConX Try.prog f caps w' (RM.heap ({ r with busy := true, steps := r.steps + 1 } : RM) ++ U) (fun v S' => ∃ b, v = .bool b ∧ Q b S') (fun S' => Q false S'))
    (hQ : ∀ b S', Q b S' → ∃ (r2 : RM) (U2 : SH), S' = [r2.heap, U2] ∧ r2.Ok ∧ r2.gr = r.gr ∧ r2.busy = true ∧ r2.steps = r.steps + 1 ∧ r2.ts[pickN r.ts pick]? = some (r.ts.getD (pickN r.ts pick) TM0) ∧ Rel b r2 U2) : Con Try.prog 12 [.pointer (some ⟨r.gr, 0, none⟩), .int .i64 pick] w (r.heap ++ U) fun v S' => ∃ (b : Bool) (r2 : RM) (U2 : SH), v = .tuple #[.int .i64 (pickN r.ts pick : Int), .bool true] ∧ S' = [(after r2 (pickN r.ts pick) b).heap, U2] ∧ (after r2 (pickN r.ts pick) b).Ok ∧ r2.gr = r.gr ∧ r2.steps = r.steps + 1 ∧ r2.ts[pickN r.ts pick]? = some (r.ts.getD (pickN r.ts pick) TM0) ∧ Rel b r2 U2 := by
  refine con_of_tree mix Try.func12 T12_ok (by kernel_rfl) ?_
  unfold T12
  obtain ⟨A, cap, gq, htv, hcap, hA⟩ := hok.form
  have hlen1 := hok.len
  have hfew1 := hok.few
  have hrow : ∀ {b : Base} {S : List SH} (k : Nat), S[k]? = some r.tc → 0 < r.ts.length → Rd b S ⟨gq, 0, none⟩ (r.ts.map ptrT) := fun k hk h0 => by
    have h1 := hok.own
    rw [htv, hA h0] at h1
    exact own_rd h1 k hk
  refine j_perm (S' := [[(r.gr, r.obj)], r.tc, tsc r.ts, U]) (by simp [RM.heap_parts]) ?_
  refine j_box (l := [.pointer (some ⟨r.gr, 0, none⟩)]) rfl (fun g0 hg0 hs0 => ?_)
  refine j_perm (S' := [[(g0, .cells [Value.pointer (some ⟨r.gr, 0, none⟩)].toArray 23 (0, 0))], [(r.gr, .cells [r.tv, .int .i64 (alive r.ts : Nat), .int .i64 r.steps, .bool false].toArray 77 (0, 0))], r.tc, tsc r.ts, U, []]) (by
    show ([[(g0, .cells [Value.pointer (some ⟨r.gr, 0, none⟩)].toArray 23 (0, 0))], [(r.gr, r.obj)], r.tc, tsc r.ts, U] : List SH).flatten.Perm _
    rw [show r.obj = .cells [r.tv, .int .i64 (alive r.ts : Nat), .int .i64 r.steps, .bool false].toArray 77 (0, 0) by show Obj.cells (rcells r).toArray 77 (0, 0) = _; unfold rcells; rw [hnb]]
    simp) ?_
  refine j_q (qs_ac) ?_
  refine j_q (qs_ac) ?_
  refine j_q (qs_load (l := [.pointer (some ⟨r.gr, 0, none⟩)]) 0 Try.underlying23 rfl rfl rfl rfl) ?_
  refine j_q (qs_pnil Try.underlying23 rfl) ?_
  refine j_g rfl (fun hb => qs_load (l := [.pointer (some ⟨r.gr, 0, none⟩)]) 0 Try.underlying23 rfl rfl rfl rfl) ?_
  refine j_g rfl (fun hb => qs_nil (gd_eq hb)) ?_
  refine j_g rfl (fun hb => qs_field Try.underlying77 rfl sz4 (by decide) (gd_eq hb)) ?_
  refine j_g rfl (fun hb1 => qs_load (l := [r.tv, .int .i64 (alive r.ts : Nat), .int .i64 r.steps, .bool false]) 1 Try.underlying4 rfl (gd_eq hb1) rfl rfl) ?_
  refine j_q (qs_or rfl rfl) ?_
  refine j_cond rfl (fun hc0 => ?_) (fun hc0 => ?_)
  · skip
    simp [gd] at hc0
  · skip
    skip
    refine j_q (qs_ac) ?_
    refine j_q (qs_load (l := [.pointer (some ⟨r.gr, 0, none⟩)]) 0 Try.underlying23 rfl rfl rfl rfl) ?_
    refine j_q (qs_nil rfl) ?_
    refine j_q (qs_field Try.underlying77 rfl sz70 (by decide) rfl) ?_
    refine j_q (qs_load (l := [r.tv, .int .i64 (alive r.ts : Nat), .int .i64 r.steps, .bool false]) 1 Try.underlying70 rfl rfl rfl rfl) ?_
    refine j_q (qs_lenl (n := r.ts.length) (A := A) (c := cap) Try.underlying70 htv) ?_
    refine j_q (qs_mc) ?_
    refine j_loop (fun m vs S' => ∃ (i : Nat) (lv : Value) (lc : SH), vs = [lv, .int .i64 (i : Int)] ∧ S' = [[(g0, .cells [Value.pointer (some ⟨r.gr, 0, none⟩)].toArray 23 (0, 0))], [(r.gr, .cells [r.tv, .int .i64 (alive r.ts : Nat), .int .i64 r.steps, .bool false].toArray 77 (0, 0))], r.tc, tsc r.ts, U, lc] ∧ Sx.Own 3 1 (ks .i64 (nums (goers r.ts i))) lv lc ∧ i ≤ r.ts.length ∧ m = r.ts.length - i) ⟨_, 0, _, [], rfl, rfl, own_nil, Nat.zero_le _, rfl⟩ ?_
    rintro m vs S' hlen ⟨i, lv, lc, rfl, rfl, hlo, hir, rfl⟩
    refine j_q (qs_lss rfl rfl) ?_
    refine j_cond rfl (fun hc1 => ?_) (fun hc1 => ?_)
    · skip
      have hi1 : i < r.ts.length := by
        simp only [Bool.and_eq_true, Bool.or_eq_true, Bool.and_eq_false_iff, Bool.or_eq_false_iff, Bool.not_eq_true', Bool.not_eq_false', decide_eq_true_eq, decide_eq_false_iff_not, beq_iff_eq, beq_eq_false_iff_ne, bne_iff_ne, bne_eq_false_iff_eq, ne_eq, Int.toNat_natCast] at *
        omega
      have hgs := goers_succ r.ts i
      refine j_q (qs_ixn (g := gq) (off := 0) (n := r.ts.length) (c := cap) Try.underlying70 sz78 (htv.trans (by rw [hA (by omega)])) rfl hi1) ?_
      refine j_q (qs_loadR (v := ptrT (r.ts.getD i TM0)) (a := ⟨gq, 0, none⟩) (i := i) (hrow 2 rfl (by omega)) Try.underlying78 rfl (by rw [add0]; show Value.pointer (some ⟨gq, 0 + i * 1, none⟩) = _; rw [Nat.zero_add, Nat.mul_one]) (tget hi1)) ?_
      refine j_q (qs_nil rfl) ?_
      refine j_q (qs_field Try.underlying90 rfl sz4 (by decide) rfl) ?_
      refine j_q (qs_loadO (rdo_mem (o := TM.obj (r.ts.getD i TM0)) 3 rfl (tsc_mem hi1)) Try.underlying4 rfl rfl rfl) ?_
      refine j_q (qs_not rfl) ?_
      refine j_g rfl (fun hb => qs_mt rfl) ?_
      refine j_g rfl (fun hb => qs_nil (gd_eq hb)) ?_
      refine j_g rfl (fun hb => qs_field Try.underlying90 rfl sz4 (by decide) (gd_eq hb)) ?_
      refine j_g rfl (fun hb => qs_loadO (rdo_mem (o := TM.obj (r.ts.getD i TM0)) 3 rfl (tsc_mem hi1)) Try.underlying4 rfl (gd_eq hb) rfl) ?_
      refine j_g rfl (fun hb => qs_not (gd_eq hb)) ?_
      refine j_q (qs_and rfl rfl) ?_
      refine j_cond rfl (fun hc2 => ?_) (fun hc2 => ?_)
      · skip
        have hlv : liveT (r.ts.getD i TM0) = true := by
          unfold liveT
          cases h1 : (r.ts.getD i TM0).en <;> cases h2 : (r.ts.getD i TM0).bl <;> simp only [h1, h2] at hc2 ⊢ <;> simp [gd] at hc2 ⊢
        refine j_lit (vs := [.int .i64 _]) Try.underlying36 sz3 zero3 rfl (by simp [oneV]) ⟨rfl, by decide⟩ (fun g32 v32 c32 hv32 hc32 ho32 => ?_)
        subst hv32 hc32
        refine j_append 6 Try.underlying36 Try.underlying36 (.inr ⟨_, rfl⟩) sb3 zero3 rfl hlo rfl (.inl ⟨_, _, rfl, own_rd ho32 0 rfl, rfl⟩) (by intro u hu; rw [List.mem_singleton] at hu; rw [hu]; rfl) ⟨(by simp only [ks_length, nums_length, List.length_singleton]; have := goers_len r.ts i; have := hok.len; omega), (by decide)⟩ (fun v33 c33 ho33 => ?_)
        have hlo1 : Sx.Own 3 1 (ks .i64 (nums (goers r.ts (i + 1)))) v33 c33 := by
          have e : ks .i64 (nums (goers r.ts (i + 1))) = ks .i64 (nums (goers r.ts i)) ++ [Value.int .i64 (i : Int)] := by
            rw [hgs, if_pos hlv]
            simp [ks, nums]
          rw [e]
          exact ho33
        refine j_subl (S' := [[(g0, .cells [Value.pointer (some ⟨r.gr, 0, none⟩)].toArray 23 (0, 0))], [(r.gr, .cells [r.tv, .int .i64 (alive r.ts : Nat), .int .i64 r.steps, .bool false].toArray 77 (0, 0))], r.tc, tsc r.ts, U, c33]) (by repeat first | exact List.Sublist.refl _ | exact List.nil_sublist _ | apply List.Sublist.cons_cons | apply List.Sublist.cons) ?_
        refine j_q (qs_add64 rfl rfl (by first | omega | (simp only [Bool.and_eq_true, Bool.or_eq_true, Bool.and_eq_false_iff, Bool.or_eq_false_iff, Bool.not_eq_true', Bool.not_eq_false', decide_eq_true_eq, decide_eq_false_iff_not, beq_iff_eq, beq_eq_false_iff_ne, bne_iff_ne, bne_eq_false_iff_eq, ne_eq, Int.toNat_natCast] at *; omega))) ?_
        refine j_back rfl ?_
        exact ⟨r.ts.length - (i + 1), by omega, i + 1, _, c33, rfl, rfl, hlo1, by omega, rfl⟩
      · skip
        have hlv : liveT (r.ts.getD i TM0) = false := by
          unfold liveT
          cases h1 : (r.ts.getD i TM0).en <;> cases h2 : (r.ts.getD i TM0).bl <;> simp only [h1, h2] at hc2 ⊢ <;> simp [gd] at hc2 ⊢
        have hlo2 : Sx.Own 3 1 (ks .i64 (nums (goers r.ts (i + 1)))) lv lc := by rw [hgs, hlv]; simpa using hlo
        refine j_q (qs_add64 rfl rfl (by first | omega | (simp only [Bool.and_eq_true, Bool.or_eq_true, Bool.and_eq_false_iff, Bool.or_eq_false_iff, Bool.not_eq_true', Bool.not_eq_false', decide_eq_true_eq, decide_eq_false_iff_not, beq_iff_eq, beq_eq_false_iff_ne, bne_iff_ne, bne_eq_false_iff_eq, ne_eq, Int.toNat_natCast] at *; omega))) ?_
        refine j_back rfl ?_
        exact ⟨r.ts.length - (i + 1), by omega, i + 1, _, lc, rfl, rfl, hlo2, by omega, rfl⟩
    · skip
      obtain rfl : i = r.ts.length := by
        simp only [Bool.and_eq_true, Bool.or_eq_true, Bool.and_eq_false_iff, Bool.or_eq_false_iff, Bool.not_eq_true', Bool.not_eq_false', decide_eq_true_eq, decide_eq_false_iff_not, beq_iff_eq, beq_eq_false_iff_ne, bne_iff_ne, bne_eq_false_iff_eq, ne_eq, Int.toNat_natCast] at *
        omega
      obtain ⟨nl, Al, capl, rfl, hnl⟩ := own_form hlo (by decide)
      rw [ks_length, nums_length, Nat.mul_one] at hnl
      subst hnl
      refine j_q (qs_lenl Try.underlying36 rfl) ?_
      refine j_q (qs_eql rfl rfl) ?_
      refine j_cond rfl (fun hc3 => ?_) (fun hc3 => ?_)
      · skip
        exfalso
        have := List.length_pos_iff.2 hgo
        simp at hc3
        exact hgo hc3
      · skip
        have hgl : 0 < (goers r.ts r.ts.length).length := List.length_pos_iff.2 hgo
        refine j_q (qs_max rfl rfl) ?_
        refine j_q (qs_lenl Try.underlying36 rfl) ?_
        refine j_q (qs_rem64 rfl rfl (by omega) (by omega)) ?_
        obtain ⟨k, hkv, hkl⟩ : ∃ k : Nat, (max 0 pick) % ((goers r.ts r.ts.length).length : Int) = (k : Int) ∧ k = (max 0 pick).toNat % (goers r.ts r.ts.length).length := ⟨(max 0 pick).toNat % (goers r.ts r.ts.length).length, by rw [Int.natCast_emod, Int.toNat_of_nonneg (by omega)], rfl⟩
        rw [hkv]
        have hkn : k < (goers r.ts r.ts.length).length := by rw [hkl]; exact Nat.mod_lt _ (by omega)
        obtain ⟨gl, rfl⟩ := own_addr hlo (by rw [ks_length, nums_length]; omega)
        obtain ⟨hnn, hnl⟩ := goers_at hkn
        obtain ⟨nn, hnnv⟩ : ∃ n, n = (goers r.ts r.ts.length).getD k 0 := ⟨_, rfl⟩
        have hpk : pickN r.ts pick = nn := by unfold pickN; rw [← hkl, hnnv]
        rw [← hnnv] at hnn hnl
        refine j_q (qs_ixn (g := gl) (off := 0) Try.underlying36 sz3 rfl rfl hkn) ?_
        refine j_q (qs_loadR (v := .int .i64 (nn : Int)) (a := ⟨gl, 0, none⟩) (i := k) (own_rd hlo 5 rfl) Try.underlying3 rfl (by rw [add0]; show Value.pointer (some ⟨gl, 0 + k * 1, none⟩) = _; rw [Nat.zero_add, Nat.mul_one]) (by rw [ks_get (by rw [nums_length]; exact hkn), nums_get hkn, ← hnnv])) ?_
        refine j_q (qs_load (l := [.pointer (some ⟨r.gr, 0, none⟩)]) 0 Try.underlying23 rfl rfl rfl rfl) ?_
        refine j_q (qs_nil rfl) ?_
        refine j_q (qs_field Try.underlying77 rfl sz70 (by decide) rfl) ?_
        refine j_q (qs_load (l := [r.tv, .int .i64 (alive r.ts : Nat), .int .i64 r.steps, .bool false]) 1 Try.underlying70 rfl rfl rfl rfl) ?_
        refine j_q (qs_ixn (g := gq) (off := 0) (n := r.ts.length) (c := cap) Try.underlying70 sz78 (htv.trans (by rw [hA (by omega)])) rfl hnn) ?_
        refine j_q (qs_loadR (v := ptrT (r.ts.getD nn TM0)) (a := ⟨gq, 0, none⟩) (i := nn) (hrow 2 rfl (by omega)) Try.underlying78 rfl (by rw [add0]; show Value.pointer (some ⟨gq, 0 + nn * 1, none⟩) = _; rw [Nat.zero_add, Nat.mul_one]) (tget hnn)) ?_
        refine j_alloc zero78 (fun g51 hg51 hs51 => ?_)
        refine j_store (l := [.pointer none]) 0 sz78 rfl rfl rfl rfl (by simp) (by simp) ?_
        refine j_q (qs_load (l := [.pointer (some ⟨r.gr, 0, none⟩)]) 1 Try.underlying23 rfl rfl rfl rfl) ?_
        refine j_q (qs_nil rfl) ?_
        refine j_q (qs_field Try.underlying77 rfl sz4 (by decide) rfl) ?_
        refine j_store (l := [r.tv, .int .i64 (alive r.ts : Nat), .int .i64 r.steps, .bool false]) 2 sz4 rfl rfl rfl rfl (by simp) (by simp) ?_
        refine j_q (qs_load (l := [.pointer (some ⟨r.gr, 0, none⟩)]) 1 Try.underlying23 rfl rfl rfl rfl) ?_
        refine j_q (qs_nil rfl) ?_
        refine j_q (qs_field Try.underlying77 rfl sz75 (by decide) rfl) ?_
        refine j_call 2 ent37 rfl rfl rfl rfl (fun w' hw' => aadd_con r.gr 2 [r.tv, .int .i64 (alive r.ts : Nat), .int .i64 r.steps, .bool true] 77 r.steps 1 w' rfl (by omega)) (fun u S2 hu => ?_)
        obtain ⟨rfl, rfl⟩ := hu
        refine j_perm (S' := [RM.heap ({ r with busy := true, steps := r.steps + 1 } : RM) ++ U, [(g51, .cells [ptrT (r.ts.getD nn TM0)].toArray 78 (0, 0))], [(g0, .cells [Value.pointer (some ⟨r.gr, 0, none⟩)].toArray 23 (0, 0))], lc]) (by
          classical
          show ([[(r.gr, Obj.cells [r.tv, .int .i64 (alive r.ts : Nat), .int .i64 (r.steps + 1), .bool true].toArray 77 (0, 0))], [(g51, .cells [ptrT (r.ts.getD nn TM0)].toArray 78 (0, 0))], [(g0, .cells [Value.pointer (some ⟨r.gr, 0, none⟩)].toArray 23 (0, 0))], [], r.tc, tsc r.ts, U, lc] : List SH).flatten.Perm _
          refine List.perm_iff_count.2 fun a => ?_
          simp only [RM.heap_parts, RM.obj, rcells, List.flatten_cons, List.flatten_nil, List.append_nil, List.nil_append, List.cons_append, List.count_append, List.count_cons, List.count_nil]
          omega) ?_
        refine j_perm (S' := [[(g51, .cells [ptrT (r.ts.getD nn TM0)].toArray 78 (0, 0))], [(g0, .cells [Value.pointer (some ⟨r.gr, 0, none⟩)].toArray 23 (0, 0))], lc, RM.heap ({ r with busy := true, steps := r.steps + 1 } : RM) ++ U]) (by
          classical
          refine List.perm_iff_count.2 fun a => ?_
          simp only [List.flatten_cons, List.flatten_nil, List.append_nil, List.nil_append, List.cons_append, List.count_append, List.count_cons, List.count_nil]
          omega) ?_
        refine j_q (qs_load (l := [ptrT (r.ts.getD nn TM0)]) 0 Try.underlying78 rfl rfl rfl rfl) ?_
        refine j_call 3 ent38 rfl rfl rfl rfl (fun w' hw' => does_con (r.ts.getD nn TM0).g f caps.toArray (tcells (r.ts.getD nn TM0)) w' (RM.heap ({ r with busy := true, steps := r.steps + 1 } : RM) ++ U) Q hen (List.mem_append_left _ (List.mem_append_right _ (tsc_mem hnn))) (by rw [← hpk]; exact congrArg some hfv) (fun w2 h2 => by
          have := hcl w2
          simpa using this)) (fun u S2 hu => ?_)
        obtain ⟨b, rfl, hQb⟩ := hu
        obtain ⟨r2, U2, rfl, hok2, hgr2, hb2, hs2, hts2, hrel⟩ := hQ b S2 hQb
        refine j_perm (S' := [r2.tc ++ tsc r2.ts ++ U2 ++ lc, [(g51, .cells [ptrT (r.ts.getD nn TM0)].toArray 78 (0, 0))], [(g0, .cells [Value.pointer (some ⟨r.gr, 0, none⟩)].toArray 23 (0, 0))], [(r.gr, .cells [r2.tv, .int .i64 (alive r2.ts : Nat), .int .i64 r2.steps, .bool true].toArray 77 (0, 0))]]) (by
          classical
          show ([r2.heap, U2, [(g51, .cells [ptrT (r.ts.getD nn TM0)].toArray 78 (0, 0))], [(g0, .cells [Value.pointer (some ⟨r.gr, 0, none⟩)].toArray 23 (0, 0))], lc, []] : List SH).flatten.Perm _
          refine List.perm_iff_count.2 fun a => ?_
          rw [RM.heap_parts, hgr2, show r2.obj = .cells [r2.tv, .int .i64 (alive r2.ts : Nat), .int .i64 r2.steps, .bool true].toArray 77 (0, 0) by show Obj.cells (rcells r2).toArray 77 (0, 0) = _; unfold rcells; rw [hb2]]
          simp only [List.flatten_cons, List.flatten_nil, List.append_nil, List.nil_append, List.cons_append, List.count_append, List.count_cons, List.count_nil]
          omega) ?_
        refine j_q (qs_load (l := [.pointer (some ⟨r.gr, 0, none⟩)]) 2 Try.underlying23 rfl rfl rfl rfl) ?_
        refine j_q (qs_nil rfl) ?_
        refine j_q (qs_field Try.underlying77 rfl sz4 (by decide) rfl) ?_
        refine j_store (l := [r2.tv, .int .i64 (alive r2.ts : Nat), .int .i64 r2.steps, .bool true]) 3 sz4 rfl rfl rfl rfl (by simp) (by simp) ?_
        refine j_q (qs_not rfl) ?_
        refine j_cond rfl (fun hc4 => ?_) (fun hc4 => ?_)
        · skip
          obtain rfl : b = false := by simpa using hc4
          refine j_q (qs_load (l := [ptrT (r.ts.getD nn TM0)]) 1 Try.underlying78 rfl rfl rfl rfl) ?_
          refine j_q (qs_nil rfl) ?_
          refine j_q (qs_field Try.underlying90 rfl sz88 (by decide) rfl) ?_
          refine j_q (qs_mkfuncv (vs := [.pointer (some ⟨g51, 0, none⟩), .pointer (some ⟨g0, 0, none⟩)]) rfl) ?_
          have htn2 : r2.ts[nn]? = some (r.ts.getD nn TM0) := by rw [← hpk]; exact hts2
          have hen0 : (r.ts.getD nn TM0).en = false := by
            have h1 := hnl
            unfold liveT at h1
            simp only [Bool.and_eq_true, Bool.not_eq_true'] at h1
            exact h1.1
          have hal := alive_end htn2 hen0
          have hfew := hok2.few
          refine j_perm (S' := [[((r.ts.getD nn TM0).g, .cells (tcells (r.ts.getD nn TM0)).toArray 90 (0, 0)), (r.gr, .cells [r2.tv, .int .i64 (alive r2.ts : Nat), .int .i64 r2.steps, .bool false].toArray 77 (0, 0))], [(g51, .cells [ptrT (r.ts.getD nn TM0)].toArray 78 (0, 0))], [(g0, .cells [Value.pointer (some ⟨r.gr, 0, none⟩)].toArray 23 (0, 0))], r2.tc, restT (r2.ts.take nn) (r2.ts.drop (nn + 1)), U2, lc]) (by
            classical
            show ([r2.tc ++ tsc r2.ts ++ U2 ++ lc, [(g51, .cells [ptrT (r.ts.getD nn TM0)].toArray 78 (0, 0))], [(g0, .cells [Value.pointer (some ⟨r.gr, 0, none⟩)].toArray 23 (0, 0))], [(r.gr, .cells [r2.tv, .int .i64 (alive r2.ts : Nat), .int .i64 r2.steps, .bool false].toArray 77 (0, 0))]] : List SH).flatten.Perm _
            have e : tsc r2.ts = tsc (r2.ts.take nn) ++ ((r.ts.getD nn TM0).g, (r.ts.getD nn TM0).obj) :: tsc (r2.ts.drop (nn + 1)) := by
              conv => lhs; rw [split_at htn2]
              unfold tsc
              simp only [List.map_append, List.map_cons]
            refine List.perm_iff_count.2 fun a => ?_
            rw [e]
            simp only [restT, tsc, TM.obj, List.flatten_cons, List.flatten_nil, List.append_nil, List.nil_append, List.cons_append, List.count_append, List.count_cons, List.count_nil]
            omega) ?_
          refine j_call 0 ent39 rfl rfl rfl rfl (fun w' hw' => once_con (r.ts.getD nn TM0) r.gr g51 g0 r2.tv (.int .i64 r2.steps) (.bool false) (alive r2.ts : Nat) w' hen0 (rdo_own 1 rfl w' hw') (rdo_own 2 rfl w' hw') ⟨(ne_of_nodup4 hw'.nodup).1, (ne_of_nodup4 hw'.nodup).2.1⟩ ⟨(ne_of_nodup4 hw'.nodup).2.2.1, (ne_of_nodup4 hw'.nodup).2.2.2⟩ (by omega)) (fun u S2 hu => ?_)
          subst hu
          refine j_q (qs_ac) ?_
          refine j_subl (S' := [[((r.ts.getD nn TM0).g, .cells (tcells { (r.ts.getD nn TM0) with en := true }).toArray 90 (0, 0))], [(r.gr, .cells [r2.tv, .int .i64 ((alive r2.ts : Nat) - 1), .int .i64 r2.steps, .bool false].toArray 77 (0, 0))], r2.tc, restT (r2.ts.take nn) (r2.ts.drop (nn + 1)), U2]) (by repeat first | exact List.Sublist.refl _ | exact List.nil_sublist _ | apply List.Sublist.cons_cons | apply List.Sublist.cons) ?_
          have hg3 : r2.ts.getD nn TM0 = (r.ts.getD nn TM0) := by rw [List.getD_eq_getElem?_getD, htn2, Option.getD_some]
          refine j_perm (S' := [(after r2 nn false).heap, U2]) (by
            classical
            have hlt2 := (List.getElem?_eq_some_iff.1 htn2).1
            have e : (after r2 nn false).ts = r2.ts.take nn ++ { (r.ts.getD nn TM0) with en := true } :: r2.ts.drop (nn + 1) := by
              show r2.ts.set nn { r2.ts.getD nn TM0 with en := true } = _
              rw [hg3, set_split hlt2]
            have ea : ((alive (after r2 nn false).ts : Nat) : Int) = (alive r2.ts : Nat) - 1 := by
              show ((alive (r2.ts.set nn { r2.ts.getD nn TM0 with en := true }) : Nat) : Int) = _
              rw [hg3]
              exact (fun (a c : Nat) (h : a + 1 = c) => (by omega : (a : Int) = (c : Int) - 1)) _ _ hal
            have eo : (after r2 nn false).obj = .cells [r2.tv, .int .i64 ((alive r2.ts : Nat) - 1), .int .i64 r2.steps, .bool false].toArray 77 (0, 0) := by
              show Obj.cells [r2.tv, .int .i64 (alive (after r2 nn false).ts : Nat), .int .i64 r2.steps, .bool false].toArray 77 (0, 0) = _
              rw [ea]
            refine List.perm_iff_count.2 fun a => ?_
            rw [RM.heap_parts, eo, e, show (after r2 nn false).gr = r.gr from hgr2, show (after r2 nn false).tc = r2.tc from rfl]
            simp only [restT, tsc, TM.obj, List.map_append, List.map_cons, List.flatten_cons, List.flatten_nil, List.append_nil, List.nil_append, List.cons_append, List.count_append, List.count_cons, List.count_nil]
            omega) ?_
          refine j_ret_con (vs := [_, _]) (fun w' hw' => ⟨rfl, rfl, trivial⟩) ?_
          refine ⟨false, r2, U2, by rw [hpk]; rfl, by rw [hpk], ?_, hgr2, hs2, hts2, hrel⟩
          rw [hpk]
          exact after_ok hok2 htn2 hen0 false
        · skip
          obtain rfl : b = true := by simpa using hc4
          refine j_q (qs_ac) ?_
          refine j_subl (S' := [r2.tc ++ tsc r2.ts ++ U2 ++ lc, [(r.gr, .cells [r2.tv, .int .i64 (alive r2.ts : Nat), .int .i64 r2.steps, .bool false].toArray 77 (0, 0))]]) (by repeat first | exact List.Sublist.refl _ | exact List.nil_sublist _ | apply List.Sublist.cons_cons | apply List.Sublist.cons) ?_
          refine j_perm (S' := [(after r2 nn true).heap, U2, lc]) (by
            classical
            refine List.perm_iff_count.2 fun a => ?_
            rw [RM.heap_parts, show (after r2 nn true).obj = .cells [r2.tv, .int .i64 (alive r2.ts : Nat), .int .i64 r2.steps, .bool false].toArray 77 (0, 0) from rfl, show (after r2 nn true).gr = r.gr from hgr2, show (after r2 nn true).tc = r2.tc from rfl, show (after r2 nn true).ts = r2.ts from rfl]
            simp only [List.flatten_cons, List.flatten_nil, List.append_nil, List.nil_append, List.cons_append, List.count_append, List.count_cons, List.count_nil]
            omega) ?_
          refine j_subl (S' := [(after r2 nn true).heap, U2]) (by repeat first | exact List.Sublist.refl _ | exact List.nil_sublist _ | apply List.Sublist.cons_cons | apply List.Sublist.cons) ?_
          refine j_ret_con (vs := [_, _]) (fun w' hw' => ⟨rfl, rfl, trivial⟩) ?_
          refine ⟨true, r2, U2, by rw [hpk]; rfl, by rw [hpk], ?_, hgr2, hs2, hts2, hrel⟩
          rw [hpk]
          have htn2 : r2.ts[nn]? = some (r.ts.getD nn TM0) := by rw [← hpk]; exact hts2
          have hen0 : (r.ts.getD nn TM0).en = false := by
            have h1 := hnl
            unfold liveT at h1
            simp only [Bool.and_eq_true, Bool.not_eq_true'] at h1
            exact h1.1
          exact after_ok hok2 htn2 hen0 true
end Go.Proofs.Ytlgfpoelhjlifaa
