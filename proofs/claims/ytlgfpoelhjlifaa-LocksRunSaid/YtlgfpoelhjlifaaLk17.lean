/- Tasks that take turns: the law LocksRun. -/
import Derived.Test.YtlgfpoelhjlifaaTa
import Derived.Test.YtlgfpoelhjlifaaLk16
import Derived.Test.YtlgfpoelhjlifaaLk8
import Derived.Test.YtlgfpoelhjlifaaArg
namespace Go.Proofs.Ytlgfpoelhjlifaa
open Go Go.Sx
set_option maxRecDepth 100000
set_option maxHeartbeats 4000000
set_option linter.unusedVariables false
set_option linter.unusedSimpArgs false
attribute [local irreducible] J JQ QS Con W opW
theorem ent15 : Sx.Enters Try.prog 15 := ⟨_, Try.func15, by kernel_rfl, by kernel_rfl⟩
theorem sz38 : (Try.prog.info? 38).map (·.size) = some 3 := by kernel_rfl
theorem zero36 : zeroL Try.prog 36 = some ([.slice none 0 0]) := by kernel_rfl
theorem zero38 : zeroL Try.prog 38 = some ([.int .i64 0, .int .i64 0, .bool false]) := by kernel_rfl

/-- what a task of the law's has beside the Run: its number, and whether it panics at its end -/
structure XT where
  nb : Nat
  bb : Nat
  bad : Bool
abbrev caps15 (g12 : Nat) (y : XT) : List Value := [.pointer (some ⟨g12, 0, none⟩), .pointer (some ⟨y.nb, 0, none⟩), .pointer (some ⟨y.bb, 0, none⟩)]
abbrev fv15 (g12 : Nat) (y : XT) : Value := .func (.func 15) #[] (caps15 g12 y).toArray
def boxes : Nat → List XT → SH
  | _, [] => []
  | i, y :: ys => (y.nb, .cells [Value.int .i64 (i : Int)].toArray 3 (0, 0)) :: (y.bb, .cells [Value.bool y.bad].toArray 4 (0, 0)) :: boxes (i + 1) ys
theorem boxes_app : ∀ (i : Nat) (l m : List XT), boxes i (l ++ m) = boxes i l ++ boxes (i + l.length) m
  | i, [], m => by simp [boxes]
  | i, y :: l, m => by
    simp only [List.cons_append, boxes, boxes_app (i + 1) l m, List.length_cons]
    rw [show i + 1 + l.length = i + (l.length + 1) by omega]
theorem boxes_mem : ∀ {i j : Nat} {l : List XT} {y : XT}, l[j]? = some y → (y.nb, Obj.cells [Value.int .i64 ((i + j : Nat) : Int)].toArray 3 (0, 0)) ∈ boxes i l ∧ (y.bb, Obj.cells [Value.bool y.bad].toArray 4 (0, 0)) ∈ boxes i l
  | i, j, [], y, h => by simp at h
  | i, 0, z :: l, y, h => by
    simp only [List.getElem?_cons_zero, Option.some.injEq] at h
    subst h
    exact ⟨by simp [boxes], by simp [boxes]⟩
  | i, j + 1, z :: l, y, h => by
    obtain ⟨h1, h2⟩ := boxes_mem (i := i + 1) (j := j) (l := l) (y := y) (by simpa using h)
    rw [show i + 1 + j = i + (j + 1) by omega] at h1
    exact ⟨by unfold boxes; exact List.mem_cons_of_mem _ (List.mem_cons_of_mem _ h1), by unfold boxes; exact List.mem_cons_of_mem _ (List.mem_cons_of_mem _ h2)⟩
def UL (g12 : Nat) (lv : Value) (lc : SH) (xs : List XT) : SH := [(g12, .cells [lv].toArray 36 (0, 0))] ++ lc ++ boxes 0 xs
theorem own_cut0 {e : TypeId} {xs ys : List Value} {A : Option Addr} {n cap z : Nat} {c : SH} (h : Sx.Own e 1 (xs ++ ys) (.slice A n cap) c) (hz : z = xs.length) : Sx.Own e 1 xs (.slice (if cap = 0 then A else A.map (fun a : Addr => a.add (0 * 1))) (z - 0) (cap - 0)) c := by
  rcases h with ⟨h1, h2, rfl⟩ | ⟨g, n', cap', rest, fz, h1, rfl, h3, h4, h5, h6⟩
  · injection h1 with h1 h7 h8
    subst h1 h7 h8
    obtain ⟨rfl, rfl⟩ := List.append_eq_nil_iff.1 h2
    rw [hz]
    exact own_nil
  · injection h1 with h1 h7 h8
    subst h1 h7 h8
    rw [List.length_append] at h3
    refine .inr ⟨g, z, cap, ys ++ rest, fz, ?_, by rw [List.append_assoc], by omega, by rw [← h4, List.append_assoc], by omega, by rw [← List.append_assoc]; exact h6⟩
    congr 1
    split
    · rfl
    · simp only [Option.map_some, add_off, Nat.zero_mul, Nat.add_zero]
/-- a contract that changes nothing, where more is handed over -/
theorem con_keep {f : FuncId} {args : List Value} {w : World} {c : SH} {u : Value} (h : (∀ p ∈ c, w.heap[p.1]? = some p.2) → Con Try.prog f args w [] fun v _ => v = u) : Con Try.prog f args w c fun v S' => v = u ∧ S' = [c] := by
  unfold Con at *
  intro hown hnd
  refine (h hown (by simp) (by simp)).mono ?_
  rintro e w' ⟨v, S', rfl, rfl, hS⟩
  refine ⟨_, [c], rfl, ⟨rfl, rfl⟩, hS.os, hS.tape, hS.output, hS.size, fun p hp => ?_, by simpa using hnd, fun k hk => .inl (by simpa using hk), fun k hk _ => hS.frame k hk (by simp)⟩
  have hp' : p ∈ c := by simpa using hp
  exact (hS.frame p.1 (lt_of_get (hown p hp')) (by simp)).trans (hown p hp')
theorem addA_con (r : RM) (f : FuncId) (c : Array Value) (w : World) (hok : r.Ok) (hlen : r.ts.length < 1000000) : Con Try.prog 13 [.pointer (some ⟨r.gr, 0, none⟩), .func (.func f) #[] c] w r.heap fun v S' => ∃ r' : RM, S' = [r'.heap] ∧ r'.Ok ∧ r'.gr = r.gr ∧ r'.steps = r.steps ∧ r'.busy = r.busy ∧ ((alive r.ts < 256 ∧ v = .int .i64 (r.ts.length : Int) ∧ ∃ g, r'.ts = r.ts ++ [⟨g, .func (.func f) #[] c, false, false⟩]) ∨ (256 ≤ alive r.ts ∧ v = .int .i64 (-1) ∧ r'.ts = r.ts)) := by
  rcases Nat.lt_or_ge (alive r.ts) 256 with hf | hf
  · refine (addR_con r f c w hok hlen hf).mono fun v S' h => ?_
    obtain ⟨r', rfl, rfl, h1, h2, h3, h4, h5⟩ := h
    exact ⟨r', rfl, h1, h2, h3, h4, .inl ⟨hf, rfl, h5⟩⟩
  · refine (con_keep (c := r.heap) fun hin => addR0_con r (.func (.func f) #[] c) w hin hok (.inr ⟨_, _, _, rfl⟩) (.inr hf)).mono fun v S' h => ?_
    obtain ⟨rfl, rfl⟩ := h
    exact ⟨r, rfl, hok, rfl, rfl, rfl, .inr ⟨hf, rfl, rfl⟩⟩
theorem waddA_con (x : WM) (w : World) (hok : x.Ok) (hlen : x.el.length < 1000000) : Con Try.prog 16 [.pointer (some ⟨x.gw, 0, none⟩)] w x.heap fun v S' => ∃ x' : WM, S' = [x'.heap] ∧ x'.Ok ∧ x'.gw = x.gw ∧ x'.steps = x.steps ∧ ((aliveB x.el < 256 ∧ v = .int .i64 (x.el.length : Int) ∧ x'.el = x.el ++ [false] ∧ x'.bl = x.bl ++ [false]) ∨ (256 ≤ aliveB x.el ∧ v = .int .i64 (-1) ∧ x'.el = x.el ∧ x'.bl = x.bl)) := by
  rcases Nat.lt_or_ge (aliveB x.el) 256 with hf | hf
  · refine (wadd_con x w hok hf hlen).mono fun v S' h => ?_
    obtain ⟨x', rfl, rfl, h1, h2, h3, h4⟩ := h
    exact ⟨x', rfl, h1, h2, h3, .inl ⟨hf, rfl, h4⟩⟩
  · refine (con_keep (c := x.heap) fun hin => waddFull_con x w hin hok hf).mono fun v S' h => ?_
    obtain ⟨rfl, rfl⟩ := h
    exact ⟨x, rfl, hok, rfl, rfl, .inr ⟨hf, rfl, rfl, rfl⟩⟩
def blockTs (ts : List TM) (n : Int) (on : Bool) : List TM := if thereB (ts.map TM.en) n then ts.set n.toNat { ts.getD n.toNat TM0 with bl := on } else ts
theorem getD_en (ts : List TM) (j : Nat) : (ts.map TM.en).getD j false = (ts.getD j TM0).en := by
  rw [List.getD_eq_getElem?_getD, List.getD_eq_getElem?_getD, List.getElem?_map]
  cases ts[j]? <;> rfl
theorem getD_bl (ts : List TM) (j : Nat) : (ts.map TM.bl).getD j false = (ts.getD j TM0).bl := by
  rw [List.getD_eq_getElem?_getD, List.getD_eq_getElem?_getD, List.getElem?_map]
  cases ts[j]? <;> rfl
theorem ofR_there (ts : List TM) (n : Int) : ofR ts n = if thereB (ts.map TM.en) n then some (ts.getD n.toNat TM0) else none := by
  unfold thereB
  rw [List.length_map, getD_en]
  by_cases h : 0 ≤ n ∧ n < ts.length
  · rw [ofR_at h.1 h.2]
    have h1 : decide (0 ≤ n) = true := by simpa using h.1
    have h2 : decide (n < (ts.length : Int)) = true := by simpa using h.2
    rw [h1, h2]
    cases (ts.getD n.toNat TM0).en <;> simp
  · rw [ofR_out (by omega)]
    by_cases h0 : 0 ≤ n
    · have h2 : decide (n < (ts.length : Int)) = false := by simp; omega
      rw [h2]
      simp
    · have h2 : decide (0 ≤ n) = false := by simpa using h0
      rw [h2]
      simp
theorem blockTs_en (ts : List TM) (n : Int) (on : Bool) : (blockTs ts n on).map TM.en = ts.map TM.en := by
  unfold blockTs
  split
  · rename_i h
    apply List.ext_getElem?
    intro j
    rw [List.getElem?_map, List.getElem?_map, List.getElem?_set]
    split
    · rename_i e
      subst e
      split
      · rename_i hl
        rw [List.getElem?_eq_getElem hl]
        simp [List.getD_eq_getElem?_getD, List.getElem?_eq_getElem hl]
      · rename_i hl
        rw [List.getElem?_eq_none (by omega)]
    · rfl
  · rfl
theorem blockTs_bl (ts : List TM) (n : Int) (on : Bool) : (blockTs ts n on).map TM.bl = if thereB (ts.map TM.en) n then (ts.map TM.bl).set n.toNat on else ts.map TM.bl := by
  unfold blockTs
  split
  · rw [List.map_set]
  · rfl
theorem blockTs_len (ts : List TM) (n : Int) (on : Bool) : (blockTs ts n on).length = ts.length := by
  unfold blockTs
  split
  · rw [List.length_set]
  · rfl
theorem blockTs_get {ts : List TM} {n : Int} {on : Bool} {j : Nat} {t : TM} (h : ts[j]? = some t) : ∃ u, (blockTs ts n on)[j]? = some u ∧ u.fv = t.fv := by
  unfold blockTs
  split
  · rw [List.getElem?_set]
    have hl := (List.getElem?_eq_some_iff.1 h).1
    split
    · rename_i e
      subst e
      rw [if_pos hl]
      refine ⟨_, rfl, ?_⟩
      show (ts.getD n.toNat TM0).fv = t.fv
      rw [List.getD_eq_getElem?_getD, h]
      rfl
    · exact ⟨t, h, rfl⟩
  · exact ⟨t, h, rfl⟩
theorem block_ok {r : RM} (h : r.Ok) (n : Int) (on : Bool) {t : TM} (ht : r.ts[n.toNat]? = some t) : RM.Ok { r with ts := r.ts.set n.toNat { t with bl := on } } := by
  refine ⟨by show Sx.Own 78 1 ((r.ts.set n.toNat { t with bl := on }).map ptrT) r.tv r.tc; rw [ptr_set (u := { t with bl := on }) ht rfl]; exact h.own, by show alive (r.ts.set n.toNat { t with bl := on }) ≤ 256; rw [alive_set (u := { t with bl := on }) ht rfl]; exact h.few, fun u hu => ?_, by show (r.ts.set _ _).length ≤ _; rw [List.length_set]; exact h.len⟩
  rcases List.mem_or_eq_of_mem_set hu with hu | rfl
  · exact h.isf u hu
  · exact h.isf t (List.mem_of_getElem? ht)
theorem blockA_con (r : RM) (n : Int) (on : Bool) (w : World) (hok : r.Ok) (hn : intOk n) : Con Try.prog (if on then 18 else 20) [.pointer (some ⟨r.gr, 0, none⟩), .int .i64 n] w r.heap fun v S' => ∃ r' : RM, S' = [r'.heap] ∧ r'.Ok ∧ r'.gr = r.gr ∧ r'.steps = r.steps ∧ r'.busy = r.busy ∧ v = .bool (thereB (r.ts.map TM.en) n) ∧ r'.ts = blockTs r.ts n on := by
  have ho := ofR_there r.ts n
  cases hth : thereB (r.ts.map TM.en) n with
  | false =>
    rw [hth, if_neg (by decide)] at ho
    have hb : blockTs r.ts n on = r.ts := by unfold blockTs; rw [hth, if_neg (by decide)]
    rw [hb]
    cases on with
    | true =>
      refine (blockR_con0 r n w hok hn ho).mono fun v S' h => ?_
      obtain ⟨rfl, rfl⟩ := h
      exact ⟨r, rfl, hok, rfl, rfl, rfl, rfl, rfl⟩
    | false =>
      refine (wakeR_con0 r n w hok hn ho).mono fun v S' h => ?_
      obtain ⟨rfl, rfl⟩ := h
      exact ⟨r, rfl, hok, rfl, rfl, rfl, rfl, rfl⟩
  | true =>
    rw [hth, if_pos rfl] at ho
    obtain ⟨h0, htn, _⟩ := ofR_some ho
    have hb : blockTs r.ts n on = r.ts.set n.toNat { r.ts.getD n.toNat TM0 with bl := on } := by unfold blockTs; rw [hth, if_pos rfl]
    rw [hb]
    cases on with
    | true =>
      refine (blockR_con1 r n _ w hok hn ho).mono fun v S' h => ?_
      obtain ⟨rfl, rfl⟩ := h
      exact ⟨_, rfl, block_ok hok n true htn, rfl, rfl, rfl, rfl, rfl⟩
    | false =>
      refine (wakeR_con1 r n _ w hok hn ho).mono fun v S' h => ?_
      obtain ⟨rfl, rfl⟩ := h
      exact ⟨_, rfl, block_ok hok n false htn, rfl, rfl, rfl, rfl, rfl⟩
theorem wblockA_con (x : WM) (n : Int) (on : Bool) (w : World) (hok : x.Ok) : Con Try.prog 19 [.pointer (some ⟨x.gw, 0, none⟩), .int .i64 n, .bool on] w x.heap fun v S' => ∃ x' : WM, S' = [x'.heap] ∧ x'.Ok ∧ x'.gw = x.gw ∧ x'.steps = x.steps ∧ v = .bool (thereB x.el n) ∧ x'.el = x.el ∧ x'.bl = if thereB x.el n then x.bl.set n.toNat on else x.bl := by
  cases hth : thereB x.el n with
  | false =>
    refine (con_keep (c := x.heap) fun hin => wblock0_con x n on w hin hok hth).mono fun v S' h => ?_
    obtain ⟨rfl, rfl⟩ := h
    exact ⟨x, rfl, hok, rfl, rfl, rfl, rfl, rfl⟩
  | true =>
    refine (wblock1_con x n on w hok hth).mono fun v S' h => ?_
    obtain ⟨x', rfl, rfl, h1, h2, h3, h4, h5⟩ := h
    exact ⟨x', rfl, h1, h2, h3, rfl, h4, h5⟩
/-- an act of a script -/
structure Ac where
  kind : Int
  n : Int
  bad : Bool
def encAc (x : Ac) : List Value := [.int .i64 x.kind, .int .i64 x.n, .bool x.bad]
theorem encAc_len (x : Ac) : (encAc x).length = 3 := rfl
def Ac.Ok (x : Ac) : Prop := intOk x.kind ∧ intOk x.n
abbrev Ac0 : Ac := ⟨0, 0, false⟩
def Acts (w : World) (v : Value) (rs : List Ac) : Prop := RSlN 3 w v (rs.map encAc).flatten rs.length ∧ ∀ x ∈ rs, x.Ok
theorem acts_form {w : World} {v : Value} {rs : List Ac} (h : Acts w v rs) : ∃ A cap g off, v = .slice A rs.length cap ∧ rs.length ≤ cap ∧ (0 < rs.length → A = some ⟨g, off, none⟩ ∧ g < w.heap.size ∧ Cells w ⟨g, off, none⟩ (rs.map encAc).flatten) := rsln_form h.1
theorem acts_ok {w : World} {v : Value} {rs : List Ac} (h : Acts w v rs) {i : Nat} (hi : i < rs.length) : (rs.getD i Ac0).Ok := by
  refine h.2 _ ?_
  rw [List.getD_eq_getElem?_getD, List.getElem?_eq_getElem hi, Option.getD_some]
  exact List.getElem_mem hi
/-- the program's Run and the document's, side by side -/
structure Both (r : RM) (x : WM) (left : List Int) (g12 : Nat) (xs : List XT) (i : Nat) : Prop where
  rok : r.Ok
  xok : x.Ok
  nb : r.busy = false
  st : r.steps = x.steps
  stb : 0 ≤ r.steps ∧ r.steps ≤ i
  el : x.el = r.ts.map TM.en
  bl : x.bl = r.ts.map TM.bl
  ll : left.length = r.ts.length
  xl : xs.length = r.ts.length
  fv : ∀ (j : Nat) (y : XT), xs[j]? = some y → ∃ t : TM, r.ts[j]? = some t ∧ t.fv = fv15 g12 y
  tl : r.ts.length ≤ i
  lb : ∀ v ∈ left, -(i : Int) ≤ v ∧ v ≤ 9223372036854775807
theorem getDI_mem {l : List Int} {k : Nat} (h : k < l.length) : l.getD k 0 ∈ l := by
  rw [List.getD_eq_getElem?_getD, List.getElem?_eq_getElem h, Option.getD_some]
  exact List.getElem_mem h
theorem conx_mono {f : FuncId} {args : List Value} {w : World} {Fp : SH} {post post' : Value → List SH → Prop} {bad bad' : List SH → Prop} (h : ConX Try.prog f args w Fp post bad) (hp : ∀ v S', post v S' → post' v S') (hb : ∀ S', bad S' → bad' S') : ConX Try.prog f args w Fp post' bad' := fun h1 h2 => (h h1 h2).mono fun e w' hh => by
  rcases hh with ⟨v, S', e1, p, q⟩ | ⟨u, pv, S', e1, p, q⟩
  · exact .inl ⟨v, S', e1, hp v S' p, q⟩
  · exact .inr ⟨u, pv, S', e1, hb S' p, q⟩
/-- pantry.pantrylaw12.LocksRun$1 -/
theorem run1_con (R : SH) (g12 : Nat) (lv : Value) (lc : SH) (left : List Int) (xs : List XT) (i : Nat) (y : XT) (w : World) (ho : Sx.Own 3 1 (ks .i64 left) lv lc) (hy : xs[i]? = some y) (hi : i < left.length) (hb : -1000000 ≤ left.getD i 0 ∧ left.getD i 0 ≤ 9223372036854775807) : ConX Try.prog 15 (caps15 g12 y) w (R ++ UL g12 lv lc xs) (fun v S' => ∃ b, v = .bool b ∧ (∃ lc', b = decide (1 ≤ left.getD i 0 - 1) ∧ S' = [R, UL g12 lv lc' xs] ∧ Sx.Own 3 1 (ks .i64 (left.set i (left.getD i 0 - 1))) lv lc')) (fun S' => ∃ b, b = false ∧ (∃ lc', b = decide (1 ≤ left.getD i 0 - 1) ∧ S' = [R, UL g12 lv lc' xs] ∧ Sx.Own 3 1 (ks .i64 (left.set i (left.getD i 0 - 1))) lv lc')) := by
  refine conx_of_tree mix Try.func15 T15_ok (by kernel_rfl) ?_
  unfold T15
  obtain ⟨nl, Al, cap, rfl, hnl⟩ := own_form ho (by decide)
  rw [ks_length, Nat.mul_one] at hnl
  subst hnl
  obtain ⟨gl, rfl⟩ := own_addr ho (by rw [ks_length]; omega)
  obtain ⟨rest, fz, rfl, hl1, hl2, hl3, hl4⟩ := own_row ho
  obtain ⟨hnb, hbb⟩ := boxes_mem (i := 0) hy
  rw [Nat.zero_add] at hnb
  refine j_perm (S' := [R, [(g12, .cells [.slice (some ⟨gl, 0, none⟩) left.length cap].toArray 36 (0, 0))], [(gl, .cells (ks .i64 left ++ rest).toArray 3 fz)], boxes 0 xs]) (by simp [UL]) ?_
  have hset : (ks .i64 left ++ rest).set i (.int .i64 (left.getD i 0 - 1)) = ks .i64 (left.set i (left.getD i 0 - 1)) ++ rest := by
    rw [List.set_append_left _ _ (by rw [ks_length]; omega), ks_set]
  have hgs : (left.set i (left.getD i 0 - 1)).getD i 0 = left.getD i 0 - 1 := by
    rw [List.getD_eq_getElem?_getD, List.getElem?_set_self hi]
    rfl
  refine j_q (qs_ac) ?_
  refine j_draw ?_
  refine jq_q (qs_load (l := [.slice (some ⟨gl, 0, none⟩) left.length cap]) 1 Try.underlying36 rfl rfl rfl rfl) ?_
  refine jq_q (qs_loadO (l := [.int .i64 (i : Int)]) (rdo_mem 3 rfl hnb) Try.underlying3 rfl rfl rfl) ?_
  refine jq_q (qs_load (l := [.slice (some ⟨gl, 0, none⟩) left.length cap]) 1 Try.underlying36 rfl rfl rfl rfl) ?_
  refine jq_q (qs_loadO (l := [.int .i64 (i : Int)]) (rdo_mem 3 rfl hnb) Try.underlying3 rfl rfl rfl) ?_
  refine jq_q (qs_ixn (g := gl) (off := 0) (n := left.length) (c := cap) Try.underlying36 sz3 rfl rfl hi) ?_
  rw [Nat.zero_add, Nat.mul_one]
  refine jq_q (qs_load (l := ks .i64 left ++ rest) 2 Try.underlying3 rfl rfl rfl (by rw [List.getElem?_append_left (by rw [ks_length]; omega)]; rw [ks_get (by omega)])) ?_
  refine jq_q (qs_sub64 rfl rfl (by first | omega | (simp only [Bool.and_eq_true, Bool.or_eq_true, Bool.and_eq_false_iff, Bool.or_eq_false_iff, Bool.not_eq_true', Bool.not_eq_false', decide_eq_true_eq, decide_eq_false_iff_not, beq_iff_eq, beq_eq_false_iff_ne, bne_iff_ne, bne_eq_false_iff_eq, ne_eq, Int.toNat_natCast] at *; omega))) ?_
  refine jq_q (qs_ixn (g := gl) (off := 0) (n := left.length) (c := cap) Try.underlying36 sz3 rfl rfl hi) ?_
  rw [Nat.zero_add, Nat.mul_one]
  refine jq_nil ?_
  refine j_store (l := ks .i64 left ++ rest) 2 sz3 rfl rfl rfl rfl (by rw [List.length_append, ks_length]; omega) (hl4 _ (by rw [List.length_append, ks_length]; omega)) ?_
  refine j_perm (S' := [R, [(g12, .cells [.slice (some ⟨gl, 0, none⟩) left.length cap].toArray 36 (0, 0))], [(gl, .cells (ks .i64 (left.set i (left.getD i 0 - 1)) ++ rest).toArray 3 fz)], boxes 0 xs]) (by rw [← hset]; exact List.Perm.of_eq rfl) ?_
  refine j_q (qs_load (l := [.slice (some ⟨gl, 0, none⟩) left.length cap]) 1 Try.underlying36 rfl rfl rfl rfl) ?_
  refine j_q (qs_loadO (l := [.int .i64 (i : Int)]) (rdo_mem 3 rfl hnb) Try.underlying3 rfl rfl rfl) ?_
  refine j_q (qs_ixn (g := gl) (off := 0) (n := left.length) (c := cap) Try.underlying36 sz3 rfl rfl hi) ?_
  rw [Nat.zero_add, Nat.mul_one]
  refine j_q (qs_load (l := ks .i64 (left.set i (left.getD i 0 - 1)) ++ rest) 2 Try.underlying3 rfl rfl rfl (by rw [List.getElem?_append_left (by rw [ks_length]; rw [List.length_set]; omega)]; rw [ks_get (by rw [List.length_set]; omega)])) ?_
  rw [hgs]
  refine j_q (qs_lss rfl rfl) ?_
  refine j_g rfl (fun hb1 => qs_loadO (l := [.bool y.bad]) (rdo_mem 3 rfl hbb) Try.underlying4 rfl rfl rfl) ?_
  refine j_q (qs_and rfl rfl) ?_
  refine j_cond rfl (fun hc0 => ?_) (fun hc0 => ?_)
  · skip
    refine j_q (qs_mkiface Try.underlying9 (fun ms => by simp) rfl) ?_
    refine j_perm (S' := [R, UL g12 (.slice (some ⟨gl, 0, none⟩) left.length cap) [(gl, .cells (ks .i64 (left.set i (left.getD i 0 - 1)) ++ rest).toArray 3 fz)] xs]) (by simp [UL]) ?_
    refine j_panic_conx rfl ?_
    refine ⟨false, rfl, ?_⟩
    have hlt : left.getD i 0 - 1 < 1 := by
      simp only [Bool.and_eq_true, decide_eq_true_eq] at hc0
      exact hc0.1
    rw [show decide (1 ≤ left.getD i 0 - 1) = false from decide_eq_false (by omega)]
    exact ⟨_, rfl, rfl, .inr ⟨gl, left.length, cap, rest, fz, rfl, rfl, by rw [ks_length, List.length_set, Nat.mul_one], by rw [List.length_append, ks_length, List.length_set]; rw [List.length_append, ks_length] at hl2; exact hl2, hl3, fun j hj => hl4 j (by rw [List.length_append, ks_length, List.length_set] at hj; rw [List.length_append, ks_length]; exact hj)⟩⟩
  · skip
    refine j_q (qs_load (l := [.slice (some ⟨gl, 0, none⟩) left.length cap]) 1 Try.underlying36 rfl rfl rfl rfl) ?_
    refine j_q (qs_loadO (l := [.int .i64 (i : Int)]) (rdo_mem 3 rfl hnb) Try.underlying3 rfl rfl rfl) ?_
    refine j_q (qs_ixn (g := gl) (off := 0) (n := left.length) (c := cap) Try.underlying36 sz3 rfl rfl hi) ?_
    rw [Nat.zero_add, Nat.mul_one]
    refine j_q (qs_load (l := ks .i64 (left.set i (left.getD i 0 - 1)) ++ rest) 2 Try.underlying3 rfl rfl rfl (by rw [List.getElem?_append_left (by rw [ks_length]; rw [List.length_set]; omega)]; rw [ks_get (by rw [List.length_set]; omega)])) ?_
    rw [hgs]
    refine j_q (qs_geq rfl rfl) ?_
    refine j_perm (S' := [R, UL g12 (.slice (some ⟨gl, 0, none⟩) left.length cap) [(gl, .cells (ks .i64 (left.set i (left.getD i 0 - 1)) ++ rest).toArray 3 fz)] xs]) (by simp [UL]) ?_
    refine j_ret_conx (vs := [_]) (fun w' hw' => ⟨rfl, trivial⟩) ?_
    exact ⟨_, rfl, ⟨_, rfl, rfl, .inr ⟨gl, left.length, cap, rest, fz, rfl, rfl, by rw [ks_length, List.length_set, Nat.mul_one], by rw [List.length_append, ks_length, List.length_set]; rw [List.length_append, ks_length] at hl2; exact hl2, hl3, fun j hj => hl4 j (by rw [List.length_append, ks_length, List.length_set] at hj; rw [List.length_append, ks_length]; exact hj)⟩⟩⟩

theorem stepR_con (r : RM) (x : WM) (g12 : Nat) (lv : Value) (lc : SH) (left : List Int) (xs : List XT) (i : Nat) (pick : Int) (w : World) (hB : Both r x left g12 xs i) (ho : Sx.Own 3 1 (ks .i64 left) lv lc) (hi : i ≤ 1000000) (ent15' : Sx.Enters Try.prog 15) :
    Con Try.prog 12 [.pointer (some ⟨r.gr, 0, none⟩), .int .i64 pick] w (r.heap ++ UL g12 lv lc xs) fun v S' => ∃ (y : Bool) (r3 : RM) (lc' : SH) (left' : List Int), v = .tuple #[.int .i64 (pickB x.el x.bl pick), .bool y] ∧ S' = [r3.heap, UL g12 lv lc' xs] ∧ Sx.Own 3 1 (ks .i64 left') lv lc' ∧ r3.gr = r.gr ∧ r3.Ok ∧ r3.busy = false ∧
      ((y = false ∧ pickB x.el x.bl pick = -1 ∧ r3 = r ∧ left' = left) ∨ (y = true ∧ pickB x.el x.bl pick = (pickN r.ts pick : Int) ∧ pickN r.ts pick < r.ts.length ∧ (r.ts.getD (pickN r.ts pick) TM0).en = false ∧ left' = left.set (pickN r.ts pick) (left.getD (pickN r.ts pick) 0 - 1) ∧ r3 = after ({ r with busy := true, steps := r.steps + 1 } : RM) (pickN r.ts pick) (decide (1 ≤ left.getD (pickN r.ts pick) 0 - 1)))) := by
  obtain ⟨hok, xok, hnb, hst, hstb, hel, hbl, hll, hxl, hfv, htl, hlb⟩ := hB
  have hpb := pickB_map r.ts pick
  rw [← hel, ← hbl] at hpb
  by_cases hgo : goers r.ts r.ts.length = []
  · rw [if_pos hgo] at hpb
    refine (stepNone_con r (UL g12 lv lc xs) pick w hok hnb hgo).mono fun v S' h => ?_
    obtain ⟨rfl, rfl⟩ := h
    exact ⟨false, r, lc, left, by rw [hpb], rfl, ho, rfl, hok, hnb, .inl ⟨rfl, hpb, rfl, rfl⟩⟩
  · rw [if_neg hgo] at hpb
    have hpos : 0 < (goers r.ts r.ts.length).length := List.length_pos_iff.2 hgo
    have hga := goers_at (ts := r.ts) (i := r.ts.length) (k := (max 0 pick).toNat % (goers r.ts r.ts.length).length) (Nat.mod_lt _ hpos)
    have hpk : pickN r.ts pick < r.ts.length := hga.1
    have hen0 : (r.ts.getD (pickN r.ts pick) TM0).en = false := by
      have h1 : liveT (r.ts.getD (pickN r.ts pick) TM0) = true := hga.2
      unfold liveT at h1
      simp only [Bool.and_eq_true, Bool.not_eq_true'] at h1
      exact h1.1
    have htp : r.ts[pickN r.ts pick]? = some (r.ts.getD (pickN r.ts pick) TM0) := tgetq hpk
    obtain ⟨y, hy⟩ : ∃ y, xs[pickN r.ts pick]? = some y := ⟨_, List.getElem?_eq_getElem (by omega)⟩
    obtain ⟨t, ht, htf⟩ := hfv _ y hy
    rw [htp] at ht
    injection ht with ht
    subst ht
    have hlbp := hlb _ (getDI_mem (l := left) (k := pickN r.ts pick) (by omega))
    refine (step_con r (UL g12 lv lc xs) pick 15 (caps15 g12 y) w (fun b S' => ∃ lc', b = decide (1 ≤ left.getD (pickN r.ts pick) 0 - 1) ∧ S' = [RM.heap ({ r with busy := true, steps := r.steps + 1 } : RM), UL g12 lv lc' xs] ∧ Sx.Own 3 1 (ks .i64 (left.set (pickN r.ts pick) (left.getD (pickN r.ts pick) 0 - 1))) lv lc')
      (fun b r2 U2 => ∃ lc', b = decide (1 ≤ left.getD (pickN r.ts pick) 0 - 1) ∧ r2 = ({ r with busy := true, steps := r.steps + 1 } : RM) ∧ U2 = UL g12 lv lc' xs ∧ Sx.Own 3 1 (ks .i64 (left.set (pickN r.ts pick) (left.getD (pickN r.ts pick) 0 - 1))) lv lc') hok hnb (by omega) hgo htf ent15' (fun w' => ?_) (fun b S' h => ?_)).mono fun v S' h => ?_
    · have := run1_con (RM.heap ({ r with busy := true, steps := r.steps + 1 } : RM)) g12 lv lc left xs (pickN r.ts pick) y w' ho hy (by omega) (by omega)
      refine conx_mono this (fun v S' h => h) (fun S' h => ?_)
      obtain ⟨b, rfl, h⟩ := h
      exact h
    · obtain ⟨lc', h1, h2, h3⟩ := h
      exact ⟨({ r with busy := true, steps := r.steps + 1 } : RM), _, h2, ⟨hok.own, hok.few, hok.isf, hok.len⟩, rfl, rfl, rfl, htp, lc', h1, rfl, rfl, h3⟩
    · obtain ⟨b, r2, U2, rfl, rfl, hok3, hgr2, hs2, hts2, lc', rfl, rfl, rfl, ho'⟩ := h
      exact ⟨true, _, lc', _, by rw [hpb], rfl, ho', rfl, hok3, rfl, .inr ⟨rfl, hpb, hpk, hen0, rfl, rfl⟩⟩

end Go.Proofs.Ytlgfpoelhjlifaa
