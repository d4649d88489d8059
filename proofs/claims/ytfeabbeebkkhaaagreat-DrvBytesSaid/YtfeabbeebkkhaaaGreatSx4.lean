/- A logic over trees: what the walk owns of the heap is a list of chunks, each a list of blocks with what they hold. -/
import Derived.Test.YtfeabbeebkkhaaaGreatSx3
import Derived.Below
import Derived.KernelRfl
import Derived.Laws.Sem
namespace Go.Sx
open Go

abbrev SH := List (Nat × Obj)
abbrev dom (l : SH) : List Nat := l.map Prod.fst
structure Base where
  w0 : World
  D : List Nat

/-- The world is the base's but for the blocks D, which may have turned, and new ones; of these (and of no others) the list tells some. -/
structure Sig (b : Base) (S : List SH) (w : World) : Prop where
  os : w.os = b.w0.os
  tape : w.tape = b.w0.tape
  output : w.output = b.w0.output
  size : b.w0.heap.size ≤ w.heap.size
  own : ∀ p ∈ S.flatten, w.heap[p.1]? = some p.2
  nodup : (dom S.flatten).Nodup
  dom_ : ∀ k ∈ dom S.flatten, k ∈ b.D ∨ b.w0.heap.size ≤ k
  frame : ∀ k, k < b.w0.heap.size → k ∉ b.D → w.heap[k]? = b.w0.heap[k]?

theorem lt_of_get {w : World} {k : Nat} {o : Obj} (h : w.heap[k]? = some o) : k < w.heap.size := (Array.getElem?_eq_some_iff.1 h).1

theorem Sig.drew {b : Base} {S : List SH} {w : World} (h : Sig b S w) : Sig b S { w with drawn := w.drawn + 1 } := ⟨h.os, h.tape, h.output, h.size, h.own, h.nodup, h.dom_, h.frame⟩
theorem Sig.perm {b : Base} {S S' : List SH} {w : World} (h : Sig b S w) (hp : S.flatten.Perm S'.flatten) : Sig b S' w :=
  ⟨h.os, h.tape, h.output, h.size, fun p hm => h.own p (hp.mem_iff.2 hm), (hp.map _).nodup_iff.1 h.nodup, fun k hk => h.dom_ k ((hp.map _).mem_iff.2 hk), h.frame⟩
theorem Sig.sub {b : Base} {S S' : List SH} {w : World} (h : Sig b S w) (hs : S'.flatten.Sublist S.flatten) : Sig b S' w :=
  ⟨h.os, h.tape, h.output, h.size, fun p hm => h.own p (hs.subset hm), (hs.map _).nodup h.nodup, fun k hk => h.dom_ k ((hs.map _).subset hk), h.frame⟩

theorem flatten_set {S : List SH} {k : Nat} {c : SH} (h : S[k]? = some c) (c' : SH) : ∃ r, S.flatten.Perm (c ++ r) ∧ (S.set k c').flatten.Perm (c' ++ r) := by
  induction S generalizing k with
  | nil => simp at h
  | cons a S ih =>
    cases k with
    | zero =>
      simp at h
      subst h
      exact ⟨S.flatten, by simp, by simp⟩
    | succ k =>
      simp at h
      obtain ⟨r, h1, h2⟩ := ih h
      refine ⟨a ++ r, ?_, ?_⟩
      · simp only [List.flatten_cons]
        exact (h1.append_left a).trans (by rw [← List.append_assoc, ← List.append_assoc]; exact List.perm_append_comm.append_right r)
      · simp only [List.set_cons_succ, List.flatten_cons]
        exact (h2.append_left a).trans (by rw [← List.append_assoc, ← List.append_assoc]; exact List.perm_append_comm.append_right r)

theorem mem_flatten_of {S : List SH} {k : Nat} {c : SH} (h : S[k]? = some c) {p : Nat × Obj} (hp : p ∈ c) : p ∈ S.flatten := List.mem_flatten.2 ⟨c, List.mem_of_getElem? h, hp⟩

/-- a block that is owned turns -/
theorem Sig.set {b : Base} {S : List SH} {w w' : World} (h : Sig b S w) {k g : Nat} {o o' : Obj} (hk : S[k]? = some [(g, o)]) (hos : w'.os = w.os) (ht : w'.tape = w.tape) (hou : w'.output = w.output) (hs : w'.heap.size = w.heap.size)
    (hg : w'.heap[g]? = some o') (hne : ∀ j, j ≠ g → w'.heap[j]? = w.heap[j]?) : Sig b (S.set k [(g, o')]) w' := by
  obtain ⟨r, h1, h2⟩ := flatten_set hk [(g, o')]
  have hnd := (h1.map Prod.fst).nodup_iff.1 h.nodup
  simp only [List.map_cons, List.cons_append, List.nil_append, List.nodup_cons] at hnd
  have hgm : g ∈ dom S.flatten := (h1.map Prod.fst).mem_iff.2 (by simp)
  refine ⟨hos.trans h.os, ht.trans h.tape, hou.trans h.output, by rw [hs]; exact h.size, fun p hp => ?_, ?_, fun j hj => ?_, fun j hj hD => ?_⟩
  · have := h2.mem_iff.1 hp
    simp only [List.cons_append, List.nil_append, List.mem_cons] at this
    rcases this with rfl | hr
    · exact hg
    · rw [hne p.1 (fun e => hnd.1 (by rw [← e]; exact List.mem_map_of_mem hr))]
      exact h.own p (h1.mem_iff.2 (by simp [hr]))
  · refine (h2.map Prod.fst).nodup_iff.2 ?_
    simpa using hnd
  · have := (h2.map Prod.fst).mem_iff.1 hj
    simp only [List.cons_append, List.nil_append, List.map_cons, List.mem_cons] at this
    rcases this with rfl | hr
    · exact h.dom_ _ hgm
    · exact h.dom_ j ((h1.map Prod.fst).mem_iff.2 (by simp at hr ⊢; exact .inr hr))
  · rcases h.dom_ g hgm with hd | hd
    · rw [hne j (fun e => hD (e ▸ hd))]; exact h.frame j hj hD
    · rw [hne j (by omega)]; exact h.frame j hj hD

/-- a new block -/
theorem Sig.new {b : Base} {S : List SH} {w w' : World} (h : Sig b S w) {o : Obj} (hos : w'.os = w.os) (ht : w'.tape = w.tape) (hou : w'.output = w.output) (hh : w'.heap = w.heap.push o) : Sig b ([(w.heap.size, o)] :: S) w' ∧ w.heap.size ∉ dom S.flatten ∧ b.w0.heap.size ≤ w.heap.size := by
  have hlt : ∀ p ∈ S.flatten, p.1 < w.heap.size := fun p hp => lt_of_get (h.own p hp)
  have hnot : w.heap.size ∉ dom S.flatten := fun hm => by
    obtain ⟨p, hp, e⟩ := List.mem_map.1 hm
    have := hlt p hp
    omega
  have hsz := h.size
  refine ⟨⟨hos.trans h.os, ht.trans h.tape, hou.trans h.output, by rw [hh]; simp; omega, fun p hp => ?_, ?_, fun j hj => ?_, fun j hj hD => ?_⟩, hnot, hsz⟩
  · simp only [List.flatten_cons, List.cons_append, List.nil_append, List.mem_cons] at hp
    rcases hp with rfl | hp
    · rw [hh]; simp
    · have := hlt p hp
      rw [hh, Array.getElem?_push, if_neg (by omega)]
      exact h.own p hp
  · simp only [dom, List.flatten_cons, List.cons_append, List.nil_append, List.map_cons, List.nodup_cons]
    exact ⟨hnot, h.nodup⟩
  · simp only [dom, List.flatten_cons, List.cons_append, List.nil_append, List.map_cons, List.mem_cons] at hj
    rcases hj with rfl | hj
    · exact .inr hsz
    · exact h.dom_ j hj
  · rw [hh, Array.getElem?_push, if_neg (by omega)]
    exact h.frame j hj hD

/-- what a call leaves, seen by its caller: Fp is what it was handed, Fr the rest -/
theorem Sig.call {b : Base} {S S' S2 : List SH} {w w' : World} {Fp Fr : SH} (h : Sig b S w) (hp : S.flatten.Perm (Fp ++ Fr)) (hc : Sig ⟨w, dom Fp⟩ S' w') (h2 : S2.flatten.Perm (S'.flatten ++ Fr)) : Sig b S2 w' := by
  have hnd := (hp.map Prod.fst).nodup_iff.1 h.nodup
  rw [List.map_append, List.nodup_append] at hnd
  have hFr : ∀ p ∈ Fr, w'.heap[p.1]? = some p.2 := fun p hpf => by
    have ho := h.own p (hp.mem_iff.2 (by simp [hpf]))
    have := hc.frame p.1 (lt_of_get ho) (fun hm => hnd.2.2 _ hm _ (List.mem_map_of_mem hpf) rfl)
    exact this.trans ho
  refine ⟨hc.os.trans h.os, hc.tape.trans h.tape, hc.output.trans h.output, Nat.le_trans h.size hc.size, fun p hpm => ?_, ?_, fun j hj => ?_, fun j hj hD => ?_⟩
  · rcases List.mem_append.1 (h2.mem_iff.1 hpm) with hm | hm
    · exact hc.own p hm
    · exact hFr p hm
  · refine (h2.map Prod.fst).nodup_iff.2 ?_
    rw [List.map_append, List.nodup_append]
    refine ⟨hc.nodup, hnd.2.1, fun a ha c hcm hac => ?_⟩
    subst hac
    obtain ⟨p, hpf, rfl⟩ := List.mem_map.1 hcm
    have hlt := lt_of_get (h.own p (hp.mem_iff.2 (by simp [hpf])))
    rcases hc.dom_ _ ha with hd | hd
    · exact hnd.2.2 _ hd _ hcm rfl
    · exact absurd hlt (by simpa using hd)
  · have := (h2.map Prod.fst).mem_iff.1 hj
    rw [List.map_append, List.mem_append] at this
    rcases this with hm | hm
    · rcases hc.dom_ j hm with hd | hd
      · exact h.dom_ j ((hp.map Prod.fst).mem_iff.2 (by rw [List.map_append]; exact List.mem_append.2 (.inl hd)))
      · exact .inr (Nat.le_trans h.size hd)
    · exact h.dom_ j ((hp.map Prod.fst).mem_iff.2 (by rw [List.map_append]; exact List.mem_append.2 (.inr hm)))
  · have hj' : j < w.heap.size := Nat.lt_of_lt_of_le hj h.size
    refine (hc.frame j hj' fun hm => ?_).trans (h.frame j hj hD)
    rcases h.dom_ j ((hp.map Prod.fst).mem_iff.2 (by rw [List.map_append]; exact List.mem_append.2 (.inl hm))) with hd | hd
    · exact hD hd
    · omega

/-! ### the judgement -/
variable {P : Program} {R : Ending → World → Prop}
abbrev JB := List (List Value → List SH → Prop)
def lift (b : Base) (p : List Value → List SH → Prop) (vs : List Value) (w : World) : Prop := ∃ S, p vs S ∧ Sig b S w
def J (P : Program) (R : Ending → World → Prop) (T : Tree) (env : Env) (S : List SH) (b : Base) (B : JB) : Prop := ∀ w, Sig b S w → W P R T env w (B.map (lift b))
/-- an operation that changes nothing and yields v -/
def QS (P : Program) (o : Oper) (env : Env) (b : Base) (S : List SH) (v : Value) : Prop := ∀ w, Sig b S w → qAt P o env (Sig b S) w v

variable {env : Env} {b : Base} {S : List SH} {B : JB} {T : Tree} {o : Oper} {v : Value}
theorem qs_val (h : ∀ w, Sig b S w → (execOp (ev env) o).run P w = .ok (.value v) w) : QS P o env b S v := fun w hw => by
  unfold qAt
  rw [h w hw]
  exact ⟨rfl, rfl⟩
theorem qs_run (h : ∀ w, (execOp (ev env) o).run P w = .ok (.value v) w) : QS P o env b S v := qs_val fun w _ => h w

theorem opW_of_q {w : World} {K : Value → World → Prop} (h : qAt P o env (Sig b S) w v) (hw : Sig b S w) (hK : ∀ w', Sig b S w' → K v w') : opW P o env w R K := by
  unfold qAt at h
  unfold opW
  generalize (execOp (ev env) o).run P w = r at *
  cases r with
  | ok x w' =>
    cases x <;> simp only [Oper.quietUpon] at h ⊢
    case value u => obtain ⟨rfl, rfl⟩ := h; exact hK _ hw
    case skip => obtain ⟨rfl, rfl⟩ := h; exact hK _ hw
    case enter f args =>
      obtain ⟨rfl, hc⟩ := h
      exact hc.mono fun e w'' ⟨he, hw''⟩ => by subst he; exact hK _ hw''
  | halt x w' => cases x <;> simp only [Oper.quietUpon] at h

theorem j_q (hq : QS P o env b S v) (h : J P R T (v :: env) S b B) : J P R (.op o T) env S b B := fun w hw => opW_of_q (hq w hw) hw fun w' hw' => h w' hw'
/-- under a test that is known -/
def gd (b0 want : Bool) (v : Value) : Value := if b0 = want then v else undef
theorem j_g {c : Operand} {b0 want : Bool} (hc : ev env c = .bool b0) (hq : b0 = want → QS P o env b S v) (h : J P R T (gd b0 want v :: env) S b B) : J P R (.gop c want o T) env S b B := fun w hw => by
  refine ⟨fun e => ?_, fun e => ?_⟩
  · rw [hc] at e
    injection e with e
    exact opW_of_q (hq e w hw) hw fun w' hw' => by have := h w' hw'; rwa [gd, if_pos e] at this
  · rw [hc] at e
    have := h w hw
    rwa [gd, if_neg (fun h => e (by rw [h]))] at this
theorem gd_eq {b0 want : Bool} (h : b0 = want) {v : Value} : gd b0 want v = v := by rw [gd, if_pos h]
theorem gd_eq2 {b0 w0 b1 w1 : Bool} (h : b0 = w0) (h' : b1 = w1) {v : Value} : gd b0 w0 (gd b1 w1 v) = v := by rw [gd_eq h, gd_eq h']
theorem gd_eq3 {b0 w0 b1 w1 b2 w2 : Bool} (h : b0 = w0) (h' : b1 = w1) (h'' : b2 = w2) {v : Value} : gd b0 w0 (gd b1 w1 (gd b2 w2 v)) = v := by rw [gd_eq h, gd_eq h', gd_eq h'']
/-- under a test that itself stands under one -/
theorem j_gg {c : Operand} {b0 w0 b1 want : Bool} (hc : ev env c = gd b0 w0 (.bool b1)) (hq : b0 = w0 → b1 = want → QS P o env b S v) (h : J P R T (gd b0 w0 (gd b1 want v) :: env) S b B) : J P R (.gop c want o T) env S b B := by
  by_cases h0 : b0 = w0
  · rw [gd_eq h0] at hc h
    exact j_g hc (hq h0) h
  · intro w hw
    refine ⟨fun e => ?_, fun _ => ?_⟩
    · rw [hc, gd, if_neg h0] at e
      cases e
    · have := h w hw
      rwa [gd, if_neg h0] at this
theorem j_ggg {c : Operand} {b0 w0 b1 w1 b2 want : Bool} (hc : ev env c = gd b0 w0 (gd b1 w1 (.bool b2))) (hq : b0 = w0 → b1 = w1 → b2 = want → QS P o env b S v) (h : J P R T (gd b0 w0 (gd b1 w1 (gd b2 want v)) :: env) S b B) : J P R (.gop c want o T) env S b B := by
  by_cases h0 : b0 = w0
  · rw [gd_eq h0] at hc h
    exact j_gg hc (hq h0) h
  · intro w hw
    refine ⟨fun e => ?_, fun _ => ?_⟩
    · rw [hc, gd, if_neg h0] at e
      cases e
    · have := h w hw
      rwa [gd, if_neg h0] at this
theorem j_gt {c : Operand} {want : Bool} (hc : ev env c = .bool want) (hq : QS P o env b S v) (h : J P R T (v :: env) S b B) : J P R (.gop c want o T) env S b B := by
  refine j_g hc (fun _ => hq) ?_
  rw [gd, if_pos rfl]
  exact h
theorem j_gf {c : Operand} {b0 want : Bool} (hc : ev env c = .bool b0) (hne : b0 ≠ want) (h : J P R T (undef :: env) S b B) : J P R (.gop c want o T) env S b B := fun w hw =>
  ⟨fun e => absurd (by rw [hc] at e; injection e) hne, fun _ => h w hw⟩
/-- under a test: any operation, where the test holds -/
theorem j_ga {c : Operand} {want : Bool} (hc : ev env c = .bool want) (h : J P R (.op o T) env S b B) : J P R (.gop c want o T) env S b B := fun w hw =>
  ⟨fun _ => h w hw, fun e => absurd hc e⟩

/-! a region that draws -/
def JQ (P : Program) (b : Base) (S : List SH) (qs : List Q) (env : Env) (next : Env → Prop) : Prop := qsW P (Sig b S) qs env next
theorem j_draw {qs : List Q} (h : JQ P b S qs env fun env' => J P R T env' S b B) : J P R (.draw qs T) env S b B := fun w hw => by
  refine ⟨Sig b S, hw.drew, ?_⟩
  refine mono qs env h
where
  mono : ∀ (qs : List Q) (env : Env), qsW P (Sig b S) qs env (fun env' => J P R T env' S b B) → qsW P (Sig b S) qs env fun env' => ∀ w', Sig b S w' → W P R T env' w' (B.map (lift b))
  | [], env, h => h
  | q :: qs, env, h => by
    unfold qsW qOne at *
    cases hg : q.g with
    | none =>
      simp only [hg] at h ⊢
      obtain ⟨v, hv, h⟩ := h
      exact ⟨v, hv, mono qs _ h⟩
    | some c =>
      simp only [hg] at h ⊢
      exact ⟨fun e => let ⟨v, hv, h⟩ := h.1 e; ⟨v, hv, mono qs _ h⟩, fun e => mono qs _ (h.2 e)⟩
theorem jq_nil {next : Env → Prop} (h : next env) : JQ P b S [] env next := h
theorem jq_q {o : Oper} {qs : List Q} {next : Env → Prop} (hq : QS P o env b S v) (h : JQ P b S qs (v :: env) next) : JQ P b S (⟨none, o⟩ :: qs) env next := ⟨v, fun w hw => hq w hw, h⟩
theorem jq_g {o : Oper} {qs : List Q} {next : Env → Prop} {c : Operand} {b0 want : Bool} (hc : ev env c = .bool b0) (hq : b0 = want → QS P o env b S v) (h : JQ P b S qs (gd b0 want v :: env) next) : JQ P b S (⟨some (c, want), o⟩ :: qs) env next := by
  refine ⟨fun e => ?_, fun e => ?_⟩
  · rw [hc] at e
    injection e with e
    refine ⟨v, fun w hw => hq e w hw, ?_⟩
    have := h
    rw [gd, if_pos e] at this
    exact this
  · rw [hc] at e
    have := h
    rw [gd, if_neg (fun h => e (by rw [h]))] at this
    exact this
theorem jq_gg {o : Oper} {qs : List Q} {next : Env → Prop} {c : Operand} {b0 w0 b1 want : Bool} (hc : ev env c = gd b0 w0 (.bool b1)) (hq : b0 = w0 → b1 = want → QS P o env b S v) (h : JQ P b S qs (gd b0 w0 (gd b1 want v) :: env) next) : JQ P b S (⟨some (c, want), o⟩ :: qs) env next := by
  by_cases h0 : b0 = w0
  · rw [gd_eq h0] at hc h
    exact jq_g hc (hq h0) h
  · refine ⟨fun e => ?_, fun _ => ?_⟩
    · rw [hc, gd, if_neg h0] at e
      cases e
    · have := h
      rw [gd, if_neg h0] at this
      exact this
theorem jq_gt {o : Oper} {qs : List Q} {next : Env → Prop} {c : Operand} {want : Bool} (hc : ev env c = .bool want) (hq : QS P o env b S v) (h : JQ P b S qs (v :: env) next) : JQ P b S (⟨some (c, want), o⟩ :: qs) env next := by
  refine jq_g hc (fun _ => hq) ?_
  rw [gd, if_pos rfl]
  exact h
theorem jq_gf {o : Oper} {qs : List Q} {next : Env → Prop} {c : Operand} {b0 want : Bool} (hc : ev env c = .bool b0) (hne : b0 ≠ want) (h : JQ P b S qs (undef :: env) next) : JQ P b S (⟨some (c, want), o⟩ :: qs) env next :=
  ⟨fun e => absurd (by rw [hc] at e; injection e) hne, fun _ => h⟩

/-! a region that draws and whose operations do not all leave the world alone -/
/-- what S0 tells is told by S, too -/
def Le (S0 S : List SH) : Prop := ∃ l : SH, S0.flatten.Perm l ∧ l.Sublist S.flatten
theorem Sig.le {S0 : List SH} {w : World} (h : Sig b S w) (hl : Le S0 S) : Sig b S0 w := by
  obtain ⟨l, h1, h2⟩ := hl
  exact ((h.sub (S' := [l]) (by simpa using h2)).perm (S' := S0) (by simpa using h1.symm))
theorem Le.refl (S : List SH) : Le S S := ⟨_, .refl _, .refl _⟩
theorem sub_flatten {S0 S : List SH} (h : S0.Sublist S) : S0.flatten.Sublist S.flatten := by
  induction h with
  | slnil => simp
  | cons a h ih => simp only [List.flatten_cons]; exact ih.trans (List.sublist_append_right _ _)
  | cons_cons a h ih => simp only [List.flatten_cons]; exact ih.append_left _
theorem Le.of_sub {S0 S : List SH} (h : S0.Sublist S) : Le S0 S := ⟨_, .refl _, sub_flatten h⟩
abbrev dw (S0 : List SH) : List Value → List SH → Prop := fun _ S => S = S0
theorem lift_dw (S0 : List SH) : lift b (dw S0) = fun _ w => Sig b S0 w := by
  funext vs w
  apply propext
  exact ⟨fun ⟨_, h1, h2⟩ => by rw [← h1]; exact h2, fun h => ⟨S0, rfl, h⟩⟩
theorem j_mix (S0 : List SH) (hl : Le S0 S) (h : J P R T env S b (B ++ [dw S0])) : J P R (.mix T) env S b B := fun w hw => by
  refine ⟨Sig b S0, (hw.drew).le hl, ?_⟩
  have := h _ hw.drew
  rw [List.map_append, List.map_singleton, lift_dw] at this
  exact this
theorem j_mq {S0 : List SH} (hq : QS P o env b S0 v) (h : J P R T (v :: env) S b (B ++ [dw S0])) : J P R (.mq none o T) env S b (B ++ [dw S0]) := fun w hw => by
  have h1 := h w hw
  rw [List.map_append, List.map_singleton, lift_dw] at h1 ⊢
  exact ⟨_, List.getLast?_concat, v, fun w' hw' => hq w' hw', h1⟩
theorem j_mg {S0 : List SH} {c : Operand} {b0 want : Bool} (hc : ev env c = .bool b0) (hq : b0 = want → QS P o env b S0 v) (h : J P R T (gd b0 want v :: env) S b (B ++ [dw S0])) : J P R (.mq (some (c, want)) o T) env S b (B ++ [dw S0]) := fun w hw => by
  have h1 := h w hw
  rw [List.map_append, List.map_singleton, lift_dw] at h1 ⊢
  refine ⟨_, List.getLast?_concat, fun e => ⟨v, fun w' hw' => hq (by rw [hc] at e; injection e) w' hw', ?_⟩, fun e => ?_⟩
  · rw [hc] at e
    injection e with e
    rwa [gd, if_pos e] at h1
  · rw [hc] at e
    rwa [gd, if_neg (fun h => e (by rw [h]))] at h1
theorem j_mgg {S0 : List SH} {c : Operand} {b0 w0 b1 want : Bool} (hc : ev env c = gd b0 w0 (.bool b1)) (hq : b0 = w0 → b1 = want → QS P o env b S0 v) (h : J P R T (gd b0 w0 (gd b1 want v) :: env) S b (B ++ [dw S0])) : J P R (.mq (some (c, want)) o T) env S b (B ++ [dw S0]) := by
  by_cases h0 : b0 = w0
  · rw [gd_eq h0] at hc h
    exact j_mg hc (hq h0) h
  · intro w hw
    have h1 := h w hw
    rw [List.map_append, List.map_singleton, lift_dw] at h1 ⊢
    refine ⟨_, List.getLast?_concat, fun e => ?_, fun e => ?_⟩
    · rw [hc, gd, if_neg h0] at e
      cases e
    · rwa [gd, if_neg h0] at h1
/-- behind an operation that may change something: what stays from now on -/
theorem j_mD {S0 : List SH} (S1 : List SH) (h1 : Le S0 S1) (h2 : Le S1 S) (h : J P R T env S b (B ++ [dw S1])) : J P R (.mD T) env S b (B ++ [dw S0]) := fun w hw => by
  have h3 := h w hw
  rw [List.map_append, List.map_singleton, lift_dw] at h3 ⊢
  exact ⟨_, List.getLast?_concat, Sig b S1, fun w' hw' => hw'.le h1, hw.le h2, by rw [List.dropLast_concat]; exact h3⟩
theorem j_mD0 {S0 : List SH} (h2 : Le S0 S) (h : J P R T env S b (B ++ [dw S0])) : J P R (.mD T) env S b (B ++ [dw S0]) := j_mD S0 (.refl _) h2 h
/-- behind an operation for which all that was done had to be done: what stays from now on -/
theorem j_mR {p : List Value → List SH → Prop} (S1 : List SH) (h2 : Le S1 S) (h : J P R T env S b (B ++ [dw S1])) : J P R (.mR T) env S b (B ++ [p]) := fun w hw => by
  have h3 := h w hw
  rw [List.map_append, List.map_singleton, lift_dw] at h3
  rw [List.map_append, List.map_singleton]
  exact ⟨Sig b S1, hw.le h2, by rw [List.dropLast_concat]; exact h3⟩
theorem j_mend {p : List Value → List SH → Prop} (h : J P R T env S b B) : J P R (.mend T) env S b (B ++ [p]) := fun w hw => by
  have h1 := h w hw
  rw [List.map_append, List.map_singleton]
  show W P R T env w (List.dropLast _)
  rw [List.dropLast_concat]
  exact h1

/-- what comes next may come in any order -/
theorem j_both {T1 T2 : Tree} (h1 : J P R T1 env S b B) (h2 : J P R T2 env S b B) : J P R (.both T1 T2) env S b B := fun w hw => ⟨h1 w hw, h2 w hw⟩

/-! control -/
theorem j_cond {c : Operand} {t e : Tree} {b0 : Bool} (hc : ev env c = .bool b0) (ht : b0 = true → J P R t env S b B) (he : b0 = false → J P R e env S b B) : J P R (.cond c t e) env S b B := fun w hw =>
  ⟨b0, hc, fun h => ht h w hw, fun h => he h w hw⟩
theorem j_ct {c : Operand} {t e : Tree} (hc : ev env c = .bool true) (ht : J P R t env S b B) : J P R (.cond c t e) env S b B := j_cond hc (fun _ => ht) (fun h => by cases h)
theorem j_cf {c : Operand} {t e : Tree} (hc : ev env c = .bool false) (he : J P R e env S b B) : J P R (.cond c t e) env S b B := j_cond hc (fun h => by cases h) (fun _ => he)
theorem j_ret {rs : List RV} {vs : List Value} (hv : ∀ w, Sig b S w → rvsW P env w rs vs) (h : ∀ w, Sig b S w → R (.returned (retVal vs)) w) : J P R (.ret rs) env S b B := fun w hw => ⟨vs, hv w hw, h w hw⟩
theorem j_back {l : Nat} {vs : List Operand} {p : List Value → List SH → Prop} (hp : B[l]? = some p) (h : p (vs.map (ev env)) S) : J P R (.back l vs) env S b B := fun w hw =>
  ⟨lift b p, by simp [hp], S, h, hw⟩
theorem j_perm {S' : List SH} (hp : S.flatten.Perm S'.flatten) (h : J P R T env S' b B) : J P R T env S b B := fun w hw => h w (hw.perm hp)
theorem j_sub {S' : List SH} (hp : S'.flatten.Sublist S.flatten) (h : J P R T env S' b B) : J P R T env S b B := fun w hw => h w (hw.sub hp)

theorem exists_least {p : Nat → Prop} (h : ∃ n, p n) : ∃ n, p n ∧ ∀ m, p m → n ≤ m := by
  obtain ⟨n, hn⟩ := h
  induction n using Nat.strongRecOn with
  | _ n ih =>
    by_cases h : ∃ m, m < n ∧ p m
    · obtain ⟨m, hm, hp⟩ := h; exact ih m hm hp
    · exact ⟨n, hn, fun m hp => by
        rcases Nat.lt_or_ge m n with hl | hl
        · exact absurd ⟨m, hl, hp⟩ h
        · exact hl⟩
open Classical in
noncomputable def leastN (p : Nat → Prop) : Nat := if h : ∃ n, p n then (exists_least h).choose else 0
theorem leastN_spec {p : Nat → Prop} (h : ∃ n, p n) : p (leastN p) := by unfold leastN; rw [dif_pos h]; exact (exists_least h).choose_spec.1
theorem leastN_min {p : Nat → Prop} {m : Nat} (hm : p m) : leastN p ≤ m := by unfold leastN; rw [dif_pos ⟨m, hm⟩]; exact (exists_least ⟨m, hm⟩).choose_spec.2 m hm

theorem j_loop (I : Nat → List Value → List SH → Prop) {ini : List Operand} {body : Tree} (h0 : ∃ n, I n (ini.map (ev env)) S)
    (hb : ∀ n vs S', vs.length = ini.length → I n vs S' → J P R body (vs ++ env) S' b (B ++ [fun vs' S'' => ∃ n', n' < n ∧ I n' vs' S''])) : J P R (.loop ini body) env S b B := fun w hw => by
  let X : List Value → World → Nat → Prop := fun vs w n => ∃ S', I n vs S' ∧ Sig b S' w
  refine ⟨fun vs w => ∃ n, X vs w n, fun vs w => leastN (X vs w), ?_, ?_⟩
  · obtain ⟨n, hn⟩ := h0
    exact ⟨n, S, hn, hw⟩
  · intro vs w' hl hX
    obtain ⟨S', hI, hS⟩ := leastN_spec hX
    have H := hb _ vs S' hl hI w' hS
    rw [List.map_append] at H
    simp only [List.map_cons, List.map_nil] at H
    have e : (fun vs' w'' => (∃ n, X vs' w'' n) ∧ leastN (X vs' w'') < leastN (X vs w')) = lift b (fun vs' S'' => ∃ n', n' < leastN (X vs w') ∧ I n' vs' S'') := by
      funext vs' w''
      apply propext
      constructor
      · rintro ⟨h1, h2⟩
        obtain ⟨S'', hI'', hS''⟩ := leastN_spec h1
        exact ⟨S'', ⟨_, h2, hI''⟩, hS''⟩
      · rintro ⟨S'', ⟨n', hn', hI''⟩, hS''⟩
        have h1 : X vs' w'' n' := ⟨S'', hI'', hS''⟩
        exact ⟨⟨n', h1⟩, Nat.lt_of_le_of_lt (leastN_min h1) hn'⟩
    rw [e]
    exact H

/-! ### contracts -/
/-- f, called with args in a world of which Fp is known: it returns v, and leaves what post says -/
def Con (P : Program) (f : FuncId) (args : List Value) (w : World) (Fp : SH) (post : Value → List SH → Prop) : Prop :=
  (∀ p ∈ Fp, w.heap[p.1]? = some p.2) → (dom Fp).Nodup → Calls P f args.toArray w fun e w' => ∃ v S', e = .returned v ∧ post v S' ∧ Sig ⟨w, dom Fp⟩ S' w'

theorem con_of_tree {f : FuncId} {fn : Func} {args : List Value} {w : World} {Fp : SH} {post : Value → List SH → Prop} {hs : List (Nat × Nat)} (hmix : P.follows .mixedOrders = true) (hf : P.funcs[f]? = some fn)
    (hT : tree hs fn args.length = some T) (hn : Nat.ble args.length fn.ntmps = true)
    (h : J P (fun e w' => ∃ v S', e = .returned v ∧ post v S' ∧ Sig ⟨w, dom Fp⟩ S' w') T args [Fp] ⟨w, dom Fp⟩ []) : Con P f args w Fp post := fun hown hnd => by
  obtain ⟨c, hb⟩ : ∃ c, fn.body = some c := by
    cases hb : fn.body with
    | none => simp [tree, hb] at hT
    | some c => exact ⟨c, rfl⟩
  exact calls_of_tree hmix hf hb hT (Nat.le_of_ble_eq_true hn) (h w ⟨rfl, rfl, rfl, Nat.le_refl _, by simpa using hown, by simpa using hnd, fun k hk => .inl (by simpa using hk), fun _ _ _ => rfl⟩)

/-- the end of a contract's walk -/
theorem j_ret_con {w : World} {Fp : SH} {post : Value → List SH → Prop} {rs : List RV} {vs : List Value} (hv : ∀ w', Sig ⟨w, dom Fp⟩ S w' → rvsW P env w' rs vs) (h : post (retVal vs) S) :
    J P (fun e w' => ∃ v S', e = .returned v ∧ post v S' ∧ Sig ⟨w, dom Fp⟩ S' w') (.ret rs) env S ⟨w, dom Fp⟩ B := j_ret hv fun _ hw => ⟨_, S, rfl, h, hw⟩

structure Enters (P : Program) (f : FuncId) : Prop where
  ex : ∃ fn, P.funcs[f]? = some fn ∧ (fn.name == "runtime.NumGoroutine") = false ∧ fn.body.isNone = false
theorem run_callFunc {f : FuncId} (h : Enters P f) (args : Array Value) (w : World) : (callFunc f args).run P w = .ok (.enter f args) w := by
  obtain ⟨fn, h1, h2, h3⟩ := h.ex
  simp only [callFunc, program, Sem.run_bind, Sem.run, Result.andThen_ok, h1, h2, h3]
  rfl

theorem run_call {f : FuncId} (h : Enters P f) {xs : Array Operand} {tys : Array TypeId} (g : Operand) (ho : o.op = .call ⟨.value g, xs, tys⟩) {first cap : Array Value} (hg : ev env g = .func (.func f) first cap) (w : World) :
    (execOp (ev env) o).run P w = .ok (.enter f (first ++ xs.map (ev env) ++ cap)) w := by
  simp only [execOp, ho, resolve, hg, Deferred.ofValue, invoke, Sem.run_bind, Sem.run_pure, Result.andThen_ok, run_callFunc h]

/-- a call that changes nothing and yields v -/
theorem qs_call {f : FuncId} {xs : Array Operand} {tys : Array TypeId} {g : Operand} {args : List Value} (h : Enters P f) (ho : o.op = .call ⟨.value g, xs, tys⟩) (hg : ev env g = .func (.func f) #[] #[]) (ha : xs.toList.map (ev env) = args)
    (hc : ∀ w, Sig b S w → Con P f args w [] fun u _ => u = v) : QS P o env b S v := fun w hw => by
  unfold qAt
  rw [run_call h g ho hg w]
  have e : (#[] ++ xs.map (ev env) ++ #[] : Array Value) = args.toArray := by
    rw [← ha]; apply Array.ext'; simp
  rw [e]
  refine ⟨rfl, (hc w hw (by simp) (by simp)).mono ?_⟩
  rintro e w' ⟨u, S', rfl, rfl, hS⟩
  refine ⟨rfl, ?_⟩
  have := Sig.call (Fp := []) (Fr := S.flatten) (S2 := S'.flatten :: S) hw (by simp) hS (by simp)
  exact this.sub (by simp)

/-- a call that may change chunk k -/
theorem j_call {f : FuncId} {xs : Array Operand} {tys : Array TypeId} {g : Operand} {args : List Value} {post : Value → List SH → Prop} (k : Nat) {c : SH} (h : Enters P f) (ho : o.op = .call ⟨.value g, xs, tys⟩) (hg : ev env g = .func (.func f) #[] #[]) (ha : xs.toList.map (ev env) = args)
    (hk : S[k]? = some c) (hc : ∀ w, Sig b S w → Con P f args w c post) (hn : ∀ u S', post u S' → J P R T (u :: env) (S' ++ S.set k []) b B) : J P R (.op o T) env S b B := fun w hw => by
  show opW _ _ _ _ _ _
  unfold opW
  rw [run_call h g ho hg w]
  have e : (#[] ++ xs.map (ev env) ++ #[] : Array Value) = args.toArray := by
    rw [← ha]; apply Array.ext'; simp
  rw [e]
  obtain ⟨r, h1, h2⟩ := flatten_set hk []
  have hnd : (dom c).Nodup := by
    have := (h1.map Prod.fst).nodup_iff.1 hw.nodup
    rw [List.map_append, List.nodup_append] at this
    exact this.1
  refine (hc w hw (fun p hp => hw.own p (mem_flatten_of hk hp)) hnd).mono ?_
  rintro e w' ⟨u, S', rfl, hp, hS⟩
  refine hn u S' hp w' (Sig.call (Fr := r) hw h1 hS ?_)
  rw [List.flatten_append]
  exact (by simpa using h2 : (S.set k []).flatten.Perm r).append_left _
/-- a call that is handed nothing that it may change -/
theorem j_call0 {f : FuncId} {xs : Array Operand} {tys : Array TypeId} {g : Operand} {args : List Value} {post : Value → List SH → Prop} (h : Enters P f) (ho : o.op = .call ⟨.value g, xs, tys⟩) (hg : ev env g = .func (.func f) #[] #[]) (ha : xs.toList.map (ev env) = args)
    (hc : ∀ w, Sig b S w → Con P f args w [] post) (hn : ∀ u S', post u S' → J P R T (u :: env) (S' ++ S) b B) : J P R (.op o T) env S b B := fun w hw => by
  show opW _ _ _ _ _ _
  unfold opW
  rw [run_call h g ho hg w]
  have e : (#[] ++ xs.map (ev env) ++ #[] : Array Value) = args.toArray := by
    rw [← ha]; apply Array.ext'; simp
  rw [e]
  refine (hc w hw (by simp) (by simp)).mono ?_
  rintro e w' ⟨u, S', rfl, hp, hS⟩
  exact hn u S' hp w' (Sig.call (Fp := []) (Fr := S.flatten) hw (by simp) hS (by simp))
end Go.Sx
