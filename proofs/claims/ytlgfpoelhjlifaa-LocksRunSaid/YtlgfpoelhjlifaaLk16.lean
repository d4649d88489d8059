/- Tasks that take turns, as the document has them. -/
import Derived.Test.YtlgfpoelhjlifaaTa
import Derived.Test.YtlgfpoelhjlifaaLk14
namespace Go.Proofs.Ytlgfpoelhjlifaa
open Go Go.Sx
set_option maxRecDepth 100000
set_option maxHeartbeats 4000000
set_option linter.unusedVariables false
set_option linter.unusedSimpArgs false
attribute [local irreducible] J JQ QS Con W opW
theorem ent21 : Sx.Enters Try.prog 21 := ⟨_, Try.func21, by kernel_rfl, by kernel_rfl⟩
theorem ent43 : Sx.Enters Try.prog 43 := ⟨_, Try.func43, by kernel_rfl, by kernel_rfl⟩
theorem sb4 : (Try.prog.info? 4).map (fun i => (i.size, i.bytes)) = some (1, 1) := by kernel_rfl
theorem sz33 : (Try.prog.info? 33).map (·.size) = some 1 := by kernel_rfl
theorem sz36 : (Try.prog.info? 36).map (·.size) = some 1 := by kernel_rfl
theorem zero4 : zeroL Try.prog 4 = some ([.bool false]) := by kernel_rfl
theorem zero35 : zeroL Try.prog 35 = some ([.slice none 0 0, .slice none 0 0, .int .i64 0]) := by kernel_rfl

def bls (l : List Bool) : List Value := l.map Value.bool
theorem bls_length (l : List Bool) : (bls l).length = l.length := by simp [bls]
theorem bls_one {l : List Bool} : ∀ u ∈ bls l, oneV u = true := by
  intro u hu
  obtain ⟨b, _, rfl⟩ := List.mem_map.1 hu
  rfl
theorem bls_get {l : List Bool} {i : Nat} (h : i < l.length) : (bls l)[i]? = some (.bool (l.getD i false)) := by
  unfold bls
  rw [List.getElem?_map, List.getD_eq_getElem?_getD, List.getElem?_eq_getElem h]
  rfl
/-- the document's Run in memory -/
structure WM where
  gw : Nat
  ev_ : Value
  ec : SH
  bv : Value
  bc : SH
  el : List Bool
  bl : List Bool
  steps : Int
abbrev wcells (x : WM) : List Value := [x.ev_, x.bv, .int .i64 x.steps]
abbrev WM.obj (x : WM) : Obj := .cells (wcells x).toArray 35 (0, 0)
def WM.heap (x : WM) : SH := [(x.gw, x.obj)] ++ x.ec ++ x.bc
structure WM.Ok (x : WM) : Prop where
  e : Sx.Own 4 1 (bls x.el) x.ev_ x.ec
  b : Sx.Own 4 1 (bls x.bl) x.bv x.bc
  len : x.bl.length = x.el.length
  few : x.el.length ≤ 1000000
def aliveB (l : List Bool) : Nat := (l.filter fun b => !b).length
theorem aliveB_map (ts : List TM) : aliveB (ts.map TM.en) = alive ts := by
  unfold aliveB alive
  rw [List.filter_map, List.length_map]
  rfl
theorem aliveB_take {l : List Bool} {i : Nat} (h : i < l.length) : aliveB (l.take (i + 1)) = aliveB (l.take i) + if l.getD i false then 0 else 1 := by
  unfold aliveB
  rw [List.take_add_one, List.getElem?_eq_getElem h, List.filter_append, List.length_append, List.getD_eq_getElem?_getD, List.getElem?_eq_getElem h]
  simp only [Option.toList_some, Option.getD_some]
  cases l[i] <;> simp
theorem aliveB_le (l : List Bool) : aliveB l ≤ l.length := List.length_filter_le _ _
theorem aliveB_takele (l : List Bool) (i : Nat) : aliveB (l.take i) ≤ i := Nat.le_trans (aliveB_le _) (by rw [List.length_take]; omega)
def goersB (el bl : List Bool) (i : Nat) : List Nat := (List.range i).filter fun j => !(el.getD j false) && !(bl.getD j false)
theorem goersB_succ (el bl : List Bool) (i : Nat) : goersB el bl (i + 1) = goersB el bl i ++ if !(el.getD i false) && !(bl.getD i false) then [i] else [] := by
  unfold goersB
  rw [List.range_succ, List.filter_append, List.filter_cons, List.filter_nil]
theorem goersB_len (el bl : List Bool) (i : Nat) : (goersB el bl i).length ≤ i := by
  have := List.length_filter_le (fun j => !(el.getD j false) && !(bl.getD j false)) (List.range i)
  rwa [List.length_range] at this
theorem goersB_map (ts : List TM) (i : Nat) : goersB (ts.map TM.en) (ts.map TM.bl) i = goers ts i := by
  have e : ∀ j, (ts.map TM.en).getD j false = (ts.getD j TM0).en := fun j => by
    rw [List.getD_eq_getElem?_getD, List.getD_eq_getElem?_getD, List.getElem?_map]
    cases ts[j]? <;> rfl
  have e2 : ∀ j, (ts.map TM.bl).getD j false = (ts.getD j TM0).bl := fun j => by
    rw [List.getD_eq_getElem?_getD, List.getD_eq_getElem?_getD, List.getElem?_map]
    cases ts[j]? <;> rfl
  unfold goersB goers liveT
  simp only [e, e2]
def pickB (el bl : List Bool) (pick : Int) : Int := if (goersB el bl el.length).length = 0 then -1 else ((goersB el bl el.length).getD ((max 0 pick).toNat % (goersB el bl el.length).length) 0 : Nat)
theorem pickB_map (ts : List TM) (pick : Int) : pickB (ts.map TM.en) (ts.map TM.bl) pick = if goers ts ts.length = [] then -1 else (pickN ts pick : Int) := by
  unfold pickB pickN
  rw [List.length_map, goersB_map]
  by_cases h : goers ts ts.length = []
  · rw [if_pos h, if_pos (by rw [h]; rfl)]
  · rw [if_neg h, if_neg (by have := List.length_pos_iff.2 h; omega)]
def thereB (el : List Bool) (n : Int) : Bool := decide (0 ≤ n) && decide (n < el.length) && !(el.getD n.toNat false)
theorem ownb_form {x : WM} (h : x.Ok) : (∃ A cap g, x.ev_ = .slice A x.el.length cap ∧ x.el.length ≤ cap ∧ (0 < x.el.length → A = some ⟨g, 0, none⟩)) ∧ ∃ A cap g, x.bv = .slice A x.el.length cap ∧ x.el.length ≤ cap ∧ (0 < x.el.length → A = some ⟨g, 0, none⟩) := by
  have key : ∀ {l : List Bool} {v : Value} {c : SH}, Sx.Own 4 1 (bls l) v c → ∃ A cap g, v = .slice A l.length cap ∧ l.length ≤ cap ∧ (0 < l.length → A = some ⟨g, 0, none⟩) := by
    intro l v c ho
    obtain ⟨n, A, cap, rfl, hn⟩ := own_form ho (by decide)
    rw [bls_length, Nat.mul_one] at hn
    subst hn
    by_cases h0 : 0 < l.length
    · obtain ⟨g, rfl⟩ := own_addr ho (by rw [bls_length]; exact h0)
      exact ⟨_, cap, g, rfl, own_cap ho, fun _ => rfl⟩
    · exact ⟨A, cap, 0, rfl, own_cap ho, fun h => absurd h h0⟩
  refine ⟨key h.e, ?_⟩
  have := key h.b
  rwa [h.len] at this
theorem WM.in_gw {x : WM} {w : World} (h : ∀ q ∈ x.heap, w.heap[q.1]? = some q.2) : w.heap[x.gw]? = some x.obj := h (x.gw, x.obj) (by simp [WM.heap])
theorem WM.in_ec {x : WM} {w : World} (h : ∀ q ∈ x.heap, w.heap[q.1]? = some q.2) : ∀ q ∈ x.ec, w.heap[q.1]? = some q.2 := fun q hq => h q (by
  unfold WM.heap
  exact List.mem_append_left _ (List.mem_append_right _ hq))
theorem WM.in_bc {x : WM} {w : World} (h : ∀ q ∈ x.heap, w.heap[q.1]? = some q.2) : ∀ q ∈ x.bc, w.heap[q.1]? = some q.2 := fun q hq => h q (by
  unfold WM.heap
  exact List.mem_append_right _ hq)
/-- (*pantry.pantryref12.Run).Left -/
theorem wleft_con (x : WM) (w : World) (hin : ∀ q ∈ x.heap, w.heap[q.1]? = some q.2) (hok : x.Ok) : Con Try.prog 21 [.pointer (some ⟨x.gw, 0, none⟩)] w [] fun v _ => v = .int .i64 (aliveB x.el : Nat) := by
  refine con_of_tree mix Try.func21 T21_ok (by kernel_rfl) ?_
  unfold T21
  obtain ⟨⟨Ae, ce, ge, hev, hce, hAe⟩, ⟨Ab, cb, gb, hbv, hcb, hAb⟩⟩ := ownb_form hok
  have hrow : 0 < x.el.length → ∀ {S : List SH}, Rd ⟨w, dom []⟩ S ⟨ge, 0, none⟩ (bls x.el) := fun h0 {S} => by
    have h1 := hok.e
    rw [hev, hAe h0] at h1
    exact rd_ownb h1 (WM.in_ec hin) (by simp)
  have hrowb : 0 < x.el.length → ∀ {S : List SH}, Rd ⟨w, dom []⟩ S ⟨gb, 0, none⟩ (bls x.bl) := fun h0 {S} => by
    have h1 := hok.b
    rw [hbv, hAb h0] at h1
    exact rd_ownb h1 (WM.in_bc hin) (by simp)
  have hfew := hok.few
  have hbl := hok.len
  refine j_q (qs_ac) ?_
  refine j_q (qs_ac) ?_
  refine j_q (qs_ac) ?_
  refine j_loop (fun m vs S' => ∃ i : Nat, vs = [.int .i64 (aliveB (x.el.take i) : Nat), .int .i64 (i : Int)] ∧ S' = [[]] ∧ i ≤ x.el.length ∧ m = x.el.length - i) ⟨_, 0, rfl, rfl, Nat.zero_le _, rfl⟩ ?_
  rintro m vs S' hlen ⟨i, rfl, rfl, hi, rfl⟩
  have hale := aliveB_takele x.el i
  refine j_q (qs_nil rfl) ?_
  refine j_q (qs_field Try.underlying35 rfl sz33 (by decide) rfl) ?_
  refine j_q (qs_loadO (rdo_base (o := WM.obj x) (WM.in_gw hin) (by simp)) Try.underlying33 rfl rfl rfl) ?_
  refine j_q (qs_lenl (n := x.el.length) (A := Ae) (c := ce) Try.underlying33 hev) ?_
  refine j_q (qs_lss rfl rfl) ?_
  refine j_cond rfl (fun hc0 => ?_) (fun hc0 => ?_)
  · skip
    have hi1 : i < x.el.length := by
      simp only [Bool.and_eq_true, Bool.or_eq_true, Bool.and_eq_false_iff, Bool.or_eq_false_iff, Bool.not_eq_true', Bool.not_eq_false', decide_eq_true_eq, decide_eq_false_iff_not, beq_iff_eq, beq_eq_false_iff_ne, bne_iff_ne, bne_eq_false_iff_eq, ne_eq, Int.toNat_natCast] at *
      omega
    have hsucc := aliveB_take hi1
    refine j_q (qs_nil rfl) ?_
    refine j_q (qs_field Try.underlying35 rfl sz33 (by decide) rfl) ?_
    first
      | refine j_q (qs_loadO (rdo_base (o := WM.obj x) (WM.in_gw hin) (by simp)) Try.underlying33 rfl rfl rfl) ?_
      | refine j_q (qs_load 0 Try.underlying33 rfl rfl rfl rfl) ?_
    refine j_q (qs_ixn (g := ge) (off := 0) (n := x.el.length) (c := ce) Try.underlying33 sz4 (hev.trans (by rw [hAe (by omega)])) rfl (by omega)) ?_
    refine j_q (qs_loadR (v := .bool (x.el.getD i false)) (a := ⟨ge, 0, none⟩) (i := i) (hrow (by omega)) Try.underlying4 rfl (by rw [add0]; show Value.pointer (some ⟨ge, 0 + i * 1, none⟩) = _; rw [Nat.zero_add, Nat.mul_one]) (bls_get (by omega))) ?_
    refine j_q (qs_not rfl) ?_
    refine j_cond rfl (fun hc1 => ?_) (fun hc1 => ?_)
    · skip
      have hv : x.el.getD i false = false := by simpa using hc1
      rw [hv] at hsucc
      refine j_q (qs_add64 rfl rfl (by first | omega | (simp only [Bool.and_eq_true, Bool.or_eq_true, Bool.and_eq_false_iff, Bool.or_eq_false_iff, Bool.not_eq_true', Bool.not_eq_false', decide_eq_true_eq, decide_eq_false_iff_not, beq_iff_eq, beq_eq_false_iff_ne, bne_iff_ne, bne_eq_false_iff_eq, ne_eq, Int.toNat_natCast] at *; omega))) ?_
      refine j_q (qs_add64 rfl rfl (by first | omega | (simp only [Bool.and_eq_true, Bool.or_eq_true, Bool.and_eq_false_iff, Bool.or_eq_false_iff, Bool.not_eq_true', Bool.not_eq_false', decide_eq_true_eq, decide_eq_false_iff_not, beq_iff_eq, beq_eq_false_iff_ne, bne_iff_ne, bne_eq_false_iff_eq, ne_eq, Int.toNat_natCast] at *; omega))) ?_
      refine j_back rfl ?_
      exact ⟨x.el.length - (i + 1), by omega, i + 1, by rw [hsucc]; rfl, rfl, by omega, rfl⟩
    · skip
      have hv : x.el.getD i false = true := by simpa using hc1
      rw [hv] at hsucc
      refine j_q (qs_add64 rfl rfl (by first | omega | (simp only [Bool.and_eq_true, Bool.or_eq_true, Bool.and_eq_false_iff, Bool.or_eq_false_iff, Bool.not_eq_true', Bool.not_eq_false', decide_eq_true_eq, decide_eq_false_iff_not, beq_iff_eq, beq_eq_false_iff_ne, bne_iff_ne, bne_eq_false_iff_eq, ne_eq, Int.toNat_natCast] at *; omega))) ?_
      refine j_back rfl ?_
      exact ⟨x.el.length - (i + 1), by omega, i + 1, by rw [hsucc]; rfl, rfl, by omega, rfl⟩
  · skip
    obtain rfl : i = x.el.length := by
      simp only [Bool.and_eq_true, Bool.or_eq_true, Bool.and_eq_false_iff, Bool.or_eq_false_iff, Bool.not_eq_true', Bool.not_eq_false', decide_eq_true_eq, decide_eq_false_iff_not, beq_iff_eq, beq_eq_false_iff_ne, bne_iff_ne, bne_eq_false_iff_eq, ne_eq, Int.toNat_natCast] at *
      omega
    rw [List.take_of_length_le (Nat.le_refl _)]
    refine j_ret_con (vs := [_]) (fun w' hw' => ⟨rfl, trivial⟩) ?_
    rfl
/-- (*pantry.pantryref12.Run).Pick -/
theorem wpick_con (x : WM) (pick : Int) (w : World) (hin : ∀ q ∈ x.heap, w.heap[q.1]? = some q.2) (hok : x.Ok) : Con Try.prog 17 [.pointer (some ⟨x.gw, 0, none⟩), .int .i64 pick] w [] fun v _ => v = .int .i64 (pickB x.el x.bl pick) := by
  refine con_of_tree mix Try.func17 T17_ok (by kernel_rfl) ?_
  unfold T17
  obtain ⟨⟨Ae, ce, ge, hev, hce, hAe⟩, ⟨Ab, cb, gb, hbv, hcb, hAb⟩⟩ := ownb_form hok
  have hrow : 0 < x.el.length → ∀ {S : List SH}, Rd ⟨w, dom []⟩ S ⟨ge, 0, none⟩ (bls x.el) := fun h0 {S} => by
    have h1 := hok.e
    rw [hev, hAe h0] at h1
    exact rd_ownb h1 (WM.in_ec hin) (by simp)
  have hrowb : 0 < x.el.length → ∀ {S : List SH}, Rd ⟨w, dom []⟩ S ⟨gb, 0, none⟩ (bls x.bl) := fun h0 {S} => by
    have h1 := hok.b
    rw [hbv, hAb h0] at h1
    exact rd_ownb h1 (WM.in_bc hin) (by simp)
  have hfew := hok.few
  have hbl := hok.len
  refine j_q (qs_ac) ?_
  refine j_q (qs_ac) ?_
  refine j_q (qs_ac) ?_
  refine j_loop (fun m vs S' => ∃ (i : Nat) (lv : Value) (lc : SH), vs = [lv, .int .i64 (i : Int)] ∧ S' = [lc] ∧ Sx.Own 3 1 (ks .i64 (nums (goersB x.el x.bl i))) lv lc ∧ i ≤ x.el.length ∧ m = x.el.length - i) ⟨_, 0, _, [], rfl, rfl, own_nil, Nat.zero_le _, rfl⟩ ?_
  rintro m vs S' hlen ⟨i, lv, lc, rfl, rfl, hlo, hi, rfl⟩
  have hgl := goersB_len x.el x.bl i
  refine j_q (qs_nil rfl) ?_
  refine j_q (qs_field Try.underlying35 rfl sz33 (by decide) rfl) ?_
  first
    | refine j_q (qs_loadO (rdo_base (o := WM.obj x) (WM.in_gw hin) (by simp)) Try.underlying33 rfl rfl rfl) ?_
    | refine j_q (qs_load 0 Try.underlying33 rfl rfl rfl rfl) ?_
  refine j_q (qs_lenl (n := x.el.length) (A := Ae) (c := ce) Try.underlying33 hev) ?_
  refine j_q (qs_lss rfl rfl) ?_
  refine j_cond rfl (fun hc0 => ?_) (fun hc0 => ?_)
  · skip
    have hi1 : i < x.el.length := by
      simp only [Bool.and_eq_true, Bool.or_eq_true, Bool.and_eq_false_iff, Bool.or_eq_false_iff, Bool.not_eq_true', Bool.not_eq_false', decide_eq_true_eq, decide_eq_false_iff_not, beq_iff_eq, beq_eq_false_iff_ne, bne_iff_ne, bne_eq_false_iff_eq, ne_eq, Int.toNat_natCast] at *
      omega
    have hgs := goersB_succ x.el x.bl i
    refine j_q (qs_nil rfl) ?_
    refine j_q (qs_field Try.underlying35 rfl sz33 (by decide) rfl) ?_
    first
      | refine j_q (qs_loadO (rdo_base (o := WM.obj x) (WM.in_gw hin) (by simp)) Try.underlying33 rfl rfl rfl) ?_
      | refine j_q (qs_load 0 Try.underlying33 rfl rfl rfl rfl) ?_
    refine j_q (qs_ixn (g := ge) (off := 0) (n := x.el.length) (c := ce) Try.underlying33 sz4 (hev.trans (by rw [hAe (by omega)])) rfl (by omega)) ?_
    refine j_q (qs_loadR (v := .bool (x.el.getD i false)) (a := ⟨ge, 0, none⟩) (i := i) (hrow (by omega)) Try.underlying4 rfl (by rw [add0]; show Value.pointer (some ⟨ge, 0 + i * 1, none⟩) = _; rw [Nat.zero_add, Nat.mul_one]) (bls_get (by omega))) ?_
    refine j_q (qs_not rfl) ?_
    refine j_g rfl (fun hb => qs_mt rfl) ?_
    refine j_g rfl (fun hb => qs_nil (gd_eq hb)) ?_
    refine j_g rfl (fun hb => qs_field Try.underlying35 rfl sz33 (by decide) (gd_eq hb)) ?_
    first
      | refine j_g rfl (fun hb => qs_loadO (rdo_base (o := WM.obj x) (WM.in_gw hin) (by simp)) Try.underlying33 rfl (gd_eq hb) rfl) ?_
      | refine j_g rfl (fun hb => qs_load 0 Try.underlying33 rfl (gd_eq hb) rfl rfl) ?_
    refine j_g rfl (fun hb => qs_mt rfl) ?_
    refine j_g rfl (fun hb => qs_ixn (g := gb) (off := 0) (n := x.el.length) (c := cb) Try.underlying33 sz4 ((gd_eq hb).trans (hbv.trans (by rw [hAb (by omega)]))) (gd_eq hb) (by omega)) ?_
    refine j_g rfl (fun hb => qs_loadR (v := .bool (x.bl.getD i false)) (a := ⟨gb, 0, none⟩) (i := i) (hrowb (by omega)) Try.underlying4 rfl ((gd_eq hb).trans (by rw [add0, Nat.zero_add, Nat.mul_one])) (bls_get (by omega))) ?_
    refine j_g rfl (fun hb => qs_not (gd_eq hb)) ?_
    refine j_q (qs_and rfl rfl) ?_
    refine j_cond rfl (fun hc1 => ?_) (fun hc1 => ?_)
    · skip
      have hv : (!(x.el.getD i false) && !(x.bl.getD i false)) = true := by
        cases h1 : x.el.getD i false <;> cases h2 : x.bl.getD i false <;> simp only [h1, h2] at hc1 ⊢ <;> simp [gd] at hc1 ⊢
      refine j_lit (vs := [.int .i64 _]) Try.underlying36 sz3 zero3 rfl (by simp [oneV]) ⟨rfl, by decide⟩ (fun g23 v23 c23 hv23 hc23 ho23 => ?_)
      subst hv23 hc23
      refine j_append 1 Try.underlying36 Try.underlying36 (.inr ⟨_, rfl⟩) sb3 zero3 rfl hlo rfl (.inl ⟨_, _, rfl, own_rd ho23 0 rfl, rfl⟩) (by intro u hu; rw [List.mem_singleton] at hu; rw [hu]; rfl) ⟨(by simp only [ks_length, nums_length, List.length_singleton]; omega), (by decide)⟩ (fun v24 c24 ho24 => ?_)
      have hlo1 : Sx.Own 3 1 (ks .i64 (nums (goersB x.el x.bl (i + 1)))) v24 c24 := by
        have e : ks .i64 (nums (goersB x.el x.bl (i + 1))) = ks .i64 (nums (goersB x.el x.bl i)) ++ [Value.int .i64 (i : Int)] := by
          rw [hgs, if_pos hv]
          simp [ks, nums]
        rw [e]
        exact ho24
      refine j_subl (S' := [c24]) (by repeat first | exact List.Sublist.refl _ | exact List.nil_sublist _ | apply List.Sublist.cons_cons | apply List.Sublist.cons) ?_
      refine j_q (qs_add64 rfl rfl (by first | omega | (simp only [Bool.and_eq_true, Bool.or_eq_true, Bool.and_eq_false_iff, Bool.or_eq_false_iff, Bool.not_eq_true', Bool.not_eq_false', decide_eq_true_eq, decide_eq_false_iff_not, beq_iff_eq, beq_eq_false_iff_ne, bne_iff_ne, bne_eq_false_iff_eq, ne_eq, Int.toNat_natCast] at *; omega))) ?_
      refine j_back rfl ?_
      exact ⟨x.el.length - (i + 1), by omega, i + 1, _, c24, rfl, rfl, hlo1, by omega, rfl⟩
    · skip
      have hv : (!(x.el.getD i false) && !(x.bl.getD i false)) = false := by
        cases h1 : x.el.getD i false <;> cases h2 : x.bl.getD i false <;> simp only [h1, h2] at hc1 ⊢ <;> simp [gd] at hc1 ⊢
      have hlo2 : Sx.Own 3 1 (ks .i64 (nums (goersB x.el x.bl (i + 1)))) lv lc := by rw [hgs, hv]; simpa using hlo
      refine j_q (qs_add64 rfl rfl (by first | omega | (simp only [Bool.and_eq_true, Bool.or_eq_true, Bool.and_eq_false_iff, Bool.or_eq_false_iff, Bool.not_eq_true', Bool.not_eq_false', decide_eq_true_eq, decide_eq_false_iff_not, beq_iff_eq, beq_eq_false_iff_ne, bne_iff_ne, bne_eq_false_iff_eq, ne_eq, Int.toNat_natCast] at *; omega))) ?_
      refine j_back rfl ?_
      exact ⟨x.el.length - (i + 1), by omega, i + 1, _, lc, rfl, rfl, hlo2, by omega, rfl⟩
  · skip
    obtain rfl : i = x.el.length := by
      simp only [Bool.and_eq_true, Bool.or_eq_true, Bool.and_eq_false_iff, Bool.or_eq_false_iff, Bool.not_eq_true', Bool.not_eq_false', decide_eq_true_eq, decide_eq_false_iff_not, beq_iff_eq, beq_eq_false_iff_ne, bne_iff_ne, bne_eq_false_iff_eq, ne_eq, Int.toNat_natCast] at *
      omega
    obtain ⟨nl, Al, capl, rfl, hnl⟩ := own_form hlo (by decide)
    rw [ks_length, nums_length, Nat.mul_one] at hnl
    subst hnl
    refine j_q (qs_lenl Try.underlying36 rfl) ?_
    refine j_q (qs_eql rfl rfl) ?_
    refine j_cond rfl (fun hc2 => ?_) (fun hc2 => ?_)
    · skip
      have hno : (goersB x.el x.bl x.el.length).length = 0 := by simpa using hc2
      refine j_q (qs_ac) ?_
      refine j_ret_con (vs := [_]) (fun w' hw' => ⟨rfl, trivial⟩) ?_
      unfold pickB
      rw [if_pos hno]
      rfl
    · skip
      have hno : (goersB x.el x.bl x.el.length).length ≠ 0 := by simpa using hc2
      obtain ⟨gl, rfl⟩ := own_addr hlo (by rw [ks_length, nums_length]; omega)
      refine j_q (qs_max rfl rfl) ?_
      refine j_q (qs_lenl Try.underlying36 rfl) ?_
      refine j_q (qs_rem64 rfl rfl (by omega) (by omega)) ?_
      obtain ⟨k, hkv, hkl⟩ : ∃ k : Nat, (max 0 pick) % ((goersB x.el x.bl x.el.length).length : Int) = (k : Int) ∧ k = (max 0 pick).toNat % (goersB x.el x.bl x.el.length).length := ⟨(max 0 pick).toNat % (goersB x.el x.bl x.el.length).length, by rw [Int.natCast_emod, Int.toNat_of_nonneg (by omega)], rfl⟩
      rw [hkv]
      have hkn : k < (goersB x.el x.bl x.el.length).length := by rw [hkl]; exact Nat.mod_lt _ (by omega)
      refine j_q (qs_ixn (g := gl) (off := 0) Try.underlying36 sz3 rfl rfl hkn) ?_
      refine j_q (qs_loadR (v := .int .i64 ((goersB x.el x.bl x.el.length).getD k 0 : Nat)) (a := ⟨gl, 0, none⟩) (i := k) (own_rd hlo 0 rfl) Try.underlying3 rfl (by rw [add0]; show Value.pointer (some ⟨gl, 0 + k * 1, none⟩) = _; rw [Nat.zero_add, Nat.mul_one]) (by rw [ks_get (by rw [nums_length]; exact hkn), nums_get hkn])) ?_
      refine j_ret_con (vs := [_]) (fun w' hw' => ⟨rfl, trivial⟩) ?_
      unfold pickB
      rw [if_neg hno, ← hkl]
      rfl
/-- (*pantry.pantryref12.Run).there -/
theorem wthere_con (x : WM) (n : Int) (w : World) (hin : ∀ q ∈ x.heap, w.heap[q.1]? = some q.2) (hok : x.Ok) : Con Try.prog 43 [.pointer (some ⟨x.gw, 0, none⟩), .int .i64 n] w [] fun v _ => v = .bool (thereB x.el n) := by
  refine con_of_tree mix Try.func43 T43_ok (by kernel_rfl) ?_
  unfold T43
  obtain ⟨⟨Ae, ce, ge, hev, hce, hAe⟩, ⟨Ab, cb, gb, hbv, hcb, hAb⟩⟩ := ownb_form hok
  have hrow : 0 < x.el.length → ∀ {S : List SH}, Rd ⟨w, dom []⟩ S ⟨ge, 0, none⟩ (bls x.el) := fun h0 {S} => by
    have h1 := hok.e
    rw [hev, hAe h0] at h1
    exact rd_ownb h1 (WM.in_ec hin) (by simp)
  have hrowb : 0 < x.el.length → ∀ {S : List SH}, Rd ⟨w, dom []⟩ S ⟨gb, 0, none⟩ (bls x.bl) := fun h0 {S} => by
    have h1 := hok.b
    rw [hbv, hAb h0] at h1
    exact rd_ownb h1 (WM.in_bc hin) (by simp)
  have hfew := hok.few
  have hbl := hok.len
  refine j_q (qs_ac) ?_
  refine j_q (qs_geq rfl rfl) ?_
  refine j_g rfl (fun hb => qs_mt rfl) ?_
  refine j_g rfl (fun hb => qs_mt rfl) ?_
  refine j_g rfl (fun hb => qs_nil (gd_eq hb)) ?_
  refine j_g rfl (fun hb => qs_field Try.underlying35 rfl sz33 (by decide) (gd_eq hb)) ?_
  first
    | refine j_g rfl (fun hb => qs_loadO (rdo_base (o := WM.obj x) (WM.in_gw hin) (by simp)) Try.underlying33 rfl (gd_eq hb) rfl) ?_
    | refine j_g rfl (fun hb => qs_load 0 Try.underlying33 rfl (gd_eq hb) rfl rfl) ?_
  refine j_g rfl (fun hb => qs_lenl (n := x.el.length) (A := Ae) (c := ce) Try.underlying33 ((gd_eq hb).trans hev)) ?_
  refine j_g rfl (fun hb => qs_lss (gd_eq hb) (gd_eq hb)) ?_
  refine j_q (qs_and rfl rfl) ?_
  refine j_g rfl (fun hb => qs_mt rfl) ?_
  refine j_g rfl (fun hb => qs_nil (gd_eq hb)) ?_
  refine j_g rfl (fun hb => qs_field Try.underlying35 rfl sz33 (by decide) (gd_eq hb)) ?_
  first
    | refine j_g rfl (fun hb => qs_loadO (rdo_base (o := WM.obj x) (WM.in_gw hin) (by simp)) Try.underlying33 rfl (gd_eq hb) rfl) ?_
    | refine j_g rfl (fun hb => qs_load 0 Try.underlying33 rfl (gd_eq hb) rfl rfl) ?_
  refine j_g rfl (fun hb => qs_mt rfl) ?_
  refine j_g rfl (fun hb => qs_ixg (g := ge) (n := x.el.length) (c := ce) Try.underlying33 sz4 ((gd_eq hb).trans (hev.trans (by rw [hAe (by simp only [Bool.and_eq_true, Bool.or_eq_true, Bool.and_eq_false_iff, Bool.or_eq_false_iff, Bool.not_eq_true', Bool.not_eq_false', decide_eq_true_eq, decide_eq_false_iff_not, beq_iff_eq, beq_eq_false_iff_ne, bne_iff_ne, bne_eq_false_iff_eq, ne_eq, Int.toNat_natCast] at *; omega)]))) (gd_eq hb) ⟨(by first | omega | (simp only [Bool.and_eq_true, Bool.or_eq_true, Bool.and_eq_false_iff, Bool.or_eq_false_iff, Bool.not_eq_true', Bool.not_eq_false', decide_eq_true_eq, decide_eq_false_iff_not, beq_iff_eq, beq_eq_false_iff_ne, bne_iff_ne, bne_eq_false_iff_eq, ne_eq, Int.toNat_natCast] at *; omega)), (by first | omega | (simp only [Bool.and_eq_true, Bool.or_eq_true, Bool.and_eq_false_iff, Bool.or_eq_false_iff, Bool.not_eq_true', Bool.not_eq_false', decide_eq_true_eq, decide_eq_false_iff_not, beq_iff_eq, beq_eq_false_iff_ne, bne_iff_ne, bne_eq_false_iff_eq, ne_eq, Int.toNat_natCast] at *; omega))⟩) ?_
  refine j_g rfl (fun hb => qs_loadR (v := .bool (x.el.getD n.toNat false)) (a := ⟨ge, 0, none⟩) (i := n.toNat) (hrow (by simp only [Bool.and_eq_true, Bool.or_eq_true, Bool.and_eq_false_iff, Bool.or_eq_false_iff, Bool.not_eq_true', Bool.not_eq_false', decide_eq_true_eq, decide_eq_false_iff_not, beq_iff_eq, beq_eq_false_iff_ne, bne_iff_ne, bne_eq_false_iff_eq, ne_eq, Int.toNat_natCast] at *; omega)) Try.underlying4 rfl ((gd_eq hb).trans (by rw [add0])) (bls_get (by simp only [Bool.and_eq_true, Bool.or_eq_true, Bool.and_eq_false_iff, Bool.or_eq_false_iff, Bool.not_eq_true', Bool.not_eq_false', decide_eq_true_eq, decide_eq_false_iff_not, beq_iff_eq, beq_eq_false_iff_ne, bne_iff_ne, bne_eq_false_iff_eq, ne_eq, Int.toNat_natCast] at *; omega))) ?_
  refine j_g rfl (fun hb => qs_not (gd_eq hb)) ?_
  refine j_q (qs_and rfl rfl) ?_
  refine j_ret_con (vs := [_]) (fun w' hw' => ⟨rfl, trivial⟩) ?_
  rfl
/-- (*pantry.pantryref12.Run).Add -/
theorem waddFull_con (x : WM) (w : World) (hin : ∀ q ∈ x.heap, w.heap[q.1]? = some q.2) (hok : x.Ok) (hfull : 256 ≤ aliveB x.el) : Con Try.prog 16 [.pointer (some ⟨x.gw, 0, none⟩)] w [] fun v _ => v = .int .i64 (-1) := by
  refine con_of_tree mix Try.func16 T16_ok (by kernel_rfl) ?_
  unfold T16
  refine j_q (qs_ac) ?_
  refine j_q (qs_call ent21 rfl rfl rfl (fun w' hw' => wleft_con x w' (fun q hq => (hw'.frame q.1 (lt_of_get (hin q hq)) (by simp)).trans (hin q hq)) hok)) ?_
  refine j_q (qs_geq rfl rfl) ?_
  refine j_cond rfl (fun hc0 => ?_) (fun hc0 => ?_)
  · skip
    refine j_q (qs_ac) ?_
    refine j_ret_con (vs := [_]) (fun w' hw' => ⟨rfl, trivial⟩) ?_
    rfl
  · skip
    exfalso
    simp only [Bool.and_eq_true, Bool.or_eq_true, Bool.and_eq_false_iff, Bool.or_eq_false_iff, Bool.not_eq_true', Bool.not_eq_false', decide_eq_true_eq, decide_eq_false_iff_not, beq_iff_eq, beq_eq_false_iff_ne, bne_iff_ne, bne_eq_false_iff_eq, ne_eq, Int.toNat_natCast] at *
    omega
/-- (*pantry.pantryref12.Run).Add -/
theorem wadd_con (x : WM) (w : World) (hok : x.Ok) (hfull : aliveB x.el < 256) (hlen : x.el.length < 1000000) : Con Try.prog 16 [.pointer (some ⟨x.gw, 0, none⟩)] w x.heap fun v S' => ∃ x' : WM, v = .int .i64 (x.el.length : Int) ∧ S' = [x'.heap] ∧ x'.Ok ∧ x'.gw = x.gw ∧ x'.steps = x.steps ∧ x'.el = x.el ++ [false] ∧ x'.bl = x.bl ++ [false] := by
  refine con_of_tree mix Try.func16 T16_ok (by kernel_rfl) ?_
  unfold T16
  obtain ⟨⟨Ae, ce, ge, hev, hce, hAe⟩, ⟨Ab, cb, gb, hbv, hcb, hAb⟩⟩ := ownb_form hok
  have hfew := hok.few
  have hbl := hok.len
  refine j_q (qs_ac) ?_
  refine j_q (qs_call ent21 rfl rfl rfl (fun w' hw' => wleft_con x w' (fun q hq => rdo_mem 0 rfl hq w' hw') hok)) ?_
  refine j_q (qs_geq rfl rfl) ?_
  refine j_cond rfl (fun hc0 => ?_) (fun hc0 => ?_)
  · skip
    exfalso
    simp only [Bool.and_eq_true, Bool.or_eq_true, Bool.and_eq_false_iff, Bool.or_eq_false_iff, Bool.not_eq_true', Bool.not_eq_false', decide_eq_true_eq, decide_eq_false_iff_not, beq_iff_eq, beq_eq_false_iff_ne, bne_iff_ne, bne_eq_false_iff_eq, ne_eq, Int.toNat_natCast] at *
    omega
  · skip
    refine j_perm (S' := [[(x.gw, x.obj)], x.ec, x.bc]) (by simp [WM.heap]) ?_
    refine j_q (qs_nil rfl) ?_
    refine j_q (qs_field Try.underlying35 rfl sz33 (by decide) rfl) ?_
    refine j_q (qs_load (l := wcells x) 0 Try.underlying33 rfl rfl rfl rfl) ?_
    refine j_lit (vs := [.bool _]) Try.underlying33 sz4 zero4 rfl (by simp [oneV]) ⟨rfl, by decide⟩ (fun g7 v7 c7 hv7 hc7 ho7 => ?_)
    subst hv7 hc7
    refine j_append 2 Try.underlying33 Try.underlying33 (.inr ⟨_, rfl⟩) sb4 zero4 rfl hok.e rfl (.inl ⟨_, _, rfl, own_rd ho7 0 rfl, rfl⟩) (by intro u hu; rw [List.mem_singleton] at hu; rw [hu]; rfl) ⟨(by simp only [bls_length, List.length_singleton]; omega), (by decide)⟩ (fun v8 c8 ho8 => ?_)
    refine j_q (qs_nil rfl) ?_
    refine j_q (qs_field Try.underlying35 rfl sz33 (by decide) rfl) ?_
    refine j_store (l := wcells x) 1 sz33 rfl rfl (by obtain ⟨n', A', cap', e', _⟩ := own_form ho8 (by decide); show oneV v8 = true; rw [e']; rfl) rfl (by simp) (by simp) ?_
    refine j_q (qs_nil rfl) ?_
    refine j_q (qs_field Try.underlying35 rfl sz33 (by decide) rfl) ?_
    refine j_q (qs_load (l := [v8, x.bv, .int .i64 x.steps]) 1 Try.underlying33 rfl rfl rfl rfl) ?_
    refine j_lit (vs := [.bool _]) Try.underlying33 sz4 zero4 rfl (by simp [oneV]) ⟨rfl, by decide⟩ (fun g15 v15 c15 hv15 hc15 ho15 => ?_)
    subst hv15 hc15
    refine j_append 4 Try.underlying33 Try.underlying33 (.inr ⟨_, rfl⟩) sb4 zero4 rfl hok.b rfl (.inl ⟨_, _, rfl, own_rd ho15 0 rfl, rfl⟩) (by intro u hu; rw [List.mem_singleton] at hu; rw [hu]; rfl) ⟨(by simp only [bls_length, List.length_singleton]; omega), (by decide)⟩ (fun v16 c16 ho16 => ?_)
    refine j_q (qs_nil rfl) ?_
    refine j_q (qs_field Try.underlying35 rfl sz33 (by decide) rfl) ?_
    refine j_store (l := [v8, x.bv, .int .i64 x.steps]) 2 sz33 rfl rfl (by obtain ⟨n', A', cap', e', _⟩ := own_form ho16 (by decide); show oneV v16 = true; rw [e']; rfl) rfl (by simp) (by simp) ?_
    obtain ⟨n8, A8, cap8, hv8, hn8⟩ := own_form ho8 (by decide)
    rw [List.length_append, bls_length, List.length_singleton, Nat.mul_one] at hn8
    refine j_q (qs_nil rfl) ?_
    refine j_q (qs_field Try.underlying35 rfl sz33 (by decide) rfl) ?_
    refine j_q (qs_load (l := [v8, v16, .int .i64 x.steps]) 2 Try.underlying33 rfl rfl rfl rfl) ?_
    refine j_q (qs_lenl Try.underlying33 hv8) ?_
    refine j_q (qs_sub64 rfl rfl (by first | omega | (simp only [Bool.and_eq_true, Bool.or_eq_true, Bool.and_eq_false_iff, Bool.or_eq_false_iff, Bool.not_eq_true', Bool.not_eq_false', decide_eq_true_eq, decide_eq_false_iff_not, beq_iff_eq, beq_eq_false_iff_ne, bne_iff_ne, bne_eq_false_iff_eq, ne_eq, Int.toNat_natCast] at *; omega))) ?_
    refine j_subl (S' := [[(x.gw, .cells [v8, v16, .int .i64 x.steps].toArray 35 (0, 0))], c8, c16]) (by repeat first | exact List.Sublist.refl _ | exact List.nil_sublist _ | apply List.Sublist.cons_cons | apply List.Sublist.cons) ?_
    refine j_perm (S' := [WM.heap ({ x with ev_ := v8, ec := c8, bv := v16, bc := c16, el := x.el ++ [false], bl := x.bl ++ [false] } : WM)]) (by simp [WM.heap]) ?_
    refine j_ret_con (vs := [_]) (fun w' hw' => ⟨rfl, trivial⟩) ?_
    refine ⟨({ x with ev_ := v8, ec := c8, bv := v16, bc := c16, el := x.el ++ [false], bl := x.bl ++ [false] } : WM), ?_, rfl, ⟨?_, ?_, ?_, ?_⟩, rfl, rfl, rfl, rfl⟩
    · show Value.int .i64 _ = _
      congr 1
      omega
    · show Sx.Own 4 1 (bls (x.el ++ [false])) v8 c8
      have e : bls (x.el ++ [false]) = bls x.el ++ [Value.bool false] := by simp [bls]
      rw [e]
      exact ho8
    · show Sx.Own 4 1 (bls (x.bl ++ [false])) v16 c16
      have e : bls (x.bl ++ [false]) = bls x.bl ++ [Value.bool false] := by simp [bls]
      rw [e]
      exact ho16
    · show (x.bl ++ [false]).length = (x.el ++ [false]).length
      simp [hbl]
    · show (x.el ++ [false]).length ≤ 1000000
      rw [List.length_append, List.length_singleton]
      omega
/-- (*pantry.pantryref12.Run).Block -/
theorem wblock0_con (x : WM) (n : Int) (on : Bool) (w : World) (hin : ∀ q ∈ x.heap, w.heap[q.1]? = some q.2) (hok : x.Ok) (hno : thereB x.el n = false) : Con Try.prog 19 [.pointer (some ⟨x.gw, 0, none⟩), .int .i64 n, .bool on] w [] fun v _ => v = .bool false := by
  refine con_of_tree mix Try.func19 T19_ok (by kernel_rfl) ?_
  unfold T19
  refine j_q (qs_ac) ?_
  refine j_q (qs_call ent43 rfl rfl rfl (fun w' hw' => wthere_con x n w' (fun q hq => (hw'.frame q.1 (lt_of_get (hin q hq)) (by simp)).trans (hin q hq)) hok)) ?_
  refine j_cond rfl (fun hc0 => ?_) (fun hc0 => ?_)
  · skip
    rw [hno] at hc0
    cases hc0
  · skip
    refine j_q (qs_ac) ?_
    refine j_ret_con (vs := [_]) (fun w' hw' => ⟨rfl, trivial⟩) ?_
    rfl
/-- (*pantry.pantryref12.Run).Block -/
theorem wblock1_con (x : WM) (n : Int) (on : Bool) (w : World) (hok : x.Ok) (hyes : thereB x.el n = true) : Con Try.prog 19 [.pointer (some ⟨x.gw, 0, none⟩), .int .i64 n, .bool on] w x.heap fun v S' => ∃ x' : WM, v = .bool true ∧ S' = [x'.heap] ∧ x'.Ok ∧ x'.gw = x.gw ∧ x'.steps = x.steps ∧ x'.el = x.el ∧ x'.bl = x.bl.set n.toNat on := by
  refine con_of_tree mix Try.func19 T19_ok (by kernel_rfl) ?_
  unfold T19
  refine j_q (qs_ac) ?_
  refine j_q (qs_call ent43 rfl rfl rfl (fun w' hw' => wthere_con x n w' (fun q hq => rdo_mem 0 rfl hq w' hw') hok)) ?_
  refine j_cond rfl (fun hc0 => ?_) (fun hc0 => ?_)
  · skip
    have hr : 0 ≤ n ∧ n < x.el.length := by
      unfold thereB at hyes
      simp only [Bool.and_eq_true, decide_eq_true_eq] at hyes
      exact ⟨hyes.1.1, hyes.1.2⟩
    obtain ⟨⟨Ae, ce, ge, hev, hce, hAe⟩, ⟨Ab, cb, gb, hbv, hcb, hAb⟩⟩ := ownb_form hok
    have hfew := hok.few
    have hbl := hok.len
    have hob := hok.b
    rw [hbv, hAb (by omega)] at hob
    obtain ⟨rest, fz, hbc, hl1, hl2, hl3, hl4⟩ := own_row hob
    refine j_perm (S' := [[(x.gw, x.obj)], x.ec, [(gb, .cells (bls x.bl ++ rest).toArray 4 fz)]]) (by rw [WM.heap, hbc]; simp) ?_
    refine j_q (qs_nil rfl) ?_
    refine j_q (qs_field Try.underlying35 rfl sz33 (by decide) rfl) ?_
    refine j_q (qs_load (l := wcells x) 0 Try.underlying33 rfl rfl rfl rfl) ?_
    refine j_q (qs_ixg (g := gb) (n := x.el.length) (c := cb) Try.underlying33 sz4 (hbv.trans (by rw [hAb (by omega)])) rfl (by omega)) ?_
    refine j_store (l := bls x.bl ++ rest) 2 sz4 rfl rfl rfl rfl (by rw [List.length_append, bls_length]; omega) (hl4 _ (by rw [List.length_append, bls_length]; omega)) ?_
    refine j_q (qs_ac) ?_
    have hset : (bls x.bl ++ rest).set n.toNat (.bool on) = bls (x.bl.set n.toNat on) ++ rest := by
      rw [List.set_append_left _ _ (by rw [bls_length]; omega)]
      unfold bls
      rw [List.map_set]
    refine j_perm (S' := [[(x.gw, x.obj)], x.ec, [(gb, .cells (bls (x.bl.set n.toNat on) ++ rest).toArray 4 fz)]]) (by rw [← hset]; exact List.Perm.of_eq rfl) ?_
    refine j_perm (S' := [WM.heap { x with bl := x.bl.set n.toNat on, bc := [(gb, .cells (bls (x.bl.set n.toNat on) ++ rest).toArray 4 fz)] }]) (by simp [WM.heap]) ?_
    refine j_ret_con (vs := [_]) (fun w' hw' => ⟨rfl, trivial⟩) ?_
    rw [bls_length] at hl1
    refine ⟨{ x with bl := x.bl.set n.toNat on, bc := [(gb, .cells (bls (x.bl.set n.toNat on) ++ rest).toArray 4 fz)] }, rfl, rfl, ⟨hok.e, .inr ⟨gb, x.el.length, cb, rest, fz, by show x.bv = _; rw [hbv, hAb (by omega)], rfl, by rw [bls_length, List.length_set]; omega, ?_, hl3, ?_⟩, by show (x.bl.set _ _).length = _; rw [List.length_set]; exact hbl, hok.few⟩, rfl, rfl, rfl, rfl⟩
    · rw [List.length_append, bls_length, List.length_set]
      rw [List.length_append, bls_length] at hl2
      exact hl2
    · intro j hj
      refine hl4 j ?_
      rw [List.length_append, bls_length, List.length_set] at hj
      rw [List.length_append, bls_length]
      exact hj
  · skip
    rw [hyes] at hc0
    cases hc0
end Go.Proofs.Ytlgfpoelhjlifaa
