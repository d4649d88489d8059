/- Locks without memory: who occurs in them; if all who hold leave, nobody is left. -/
import Derived.Test.YtlgfpoelhjlifaaWf12b
namespace Go.Proofs.Ytlgfpoelhjlifaa
open Go Go.Sx
set_option linter.unusedVariables false
/-- a task holds a lock or waits in its row, so -/
def OccP (a : AT) (n : List UInt8) (p : Int × Bool) : Prop := ∃ l, alook a.lm n = some l ∧ (p ∈ l.hm ∨ p ∈ l.row)
theorem goes_mem : ∀ (row hm : List (Int × Bool)) (sh : Bool) (wm : List (Int × List UInt8)) (out : List Int) (p : Int × Bool),
    (p ∈ (goesF row hm sh wm out).1 ∨ p ∈ (goesF row hm sh wm out).2.1) → p ∈ hm ∨ p ∈ row
  | [], hm, sh, wm, out, p, h => h
  | x :: r, hm, sh, wm, out, p, h => by
    cases hg : (hm.isEmpty || (sh && x.2)) with
    | true =>
      rw [goes_hit hg] at h
      rcases goes_mem r _ _ _ _ p h with h | h
      · rcases aset_mem h with h | rfl
        · exact .inl h
        · exact .inr (by simp)
      · exact .inr (List.mem_cons_of_mem _ h)
    | false =>
      rw [goes_miss hg] at h
      exact h
theorem goes_wm : ∀ (row hm : List (Int × Bool)) (sh : Bool) (wm : List (Int × List UInt8)) (out : List Int) (y : Int), alook wm y = none → alook (goesF row hm sh wm out).2.2.2.1 y = none
  | [], hm, sh, wm, out, y, h => h
  | x :: r, hm, sh, wm, out, y, h => by
    cases hg : (hm.isEmpty || (sh && x.2)) with
    | true =>
      rw [goes_hit hg]
      refine goes_wm r _ _ _ _ y ?_
      rw [alook_mdel, h]
      split <;> rfl
    | false =>
      rw [goes_miss hg]
      exact h
theorem give_occ {a : AT} {t : Int} {n m : List UInt8} {p : Int × Bool} (h : OccP (giveF a t n).1 m p) : OccP a m p := by
  unfold giveF at h
  split at h
  · rename_i hh
    obtain ⟨l, hl, _⟩ := holdsA_some hh
    rw [lockA_some hl] at h
    obtain ⟨l', h1, h2⟩ := h
    have h1' : alook (upd a n ⟨(goesF l.row (mdel l.hm t) l.sh a.wm []).1, (goesF l.row (mdel l.hm t) l.sh a.wm []).2.1, (goesF l.row (mdel l.hm t) l.sh a.wm []).2.2.1⟩ (goesF l.row (mdel l.hm t) l.sh a.wm []).2.2.2.1).lm m = some l' := h1
    rw [upd_look] at h1'
    split at h1'
    · rename_i e
      subst e
      injection h1' with h1'
      subst h1'
      refine ⟨l, hl, ?_⟩
      rcases goes_mem _ _ _ _ _ p h2 with h | h
      · exact .inl (List.mem_filter.1 h).1
      · exact .inr h
    · exact ⟨l', h1', h2⟩
  · exact h
theorem give_wm {a : AT} {t y : Int} {n : List UInt8} (h : alook a.wm y = none) : alook (giveF a t n).1.wm y = none := by
  unfold giveF
  split
  · exact goes_wm _ _ _ _ _ _ h
  · exact h
/-- who waits for nothing stands in no row -/
theorem no_row {a : AT} {t : Int} (h : WF a) (hw : alook a.wm t = none) {n : List UInt8} {l : AL} (hl : alook a.lm n = some l) {b : Bool} : (t, b) ∉ l.row := fun hm => by
  have := h.rowW n l hl (t, b) hm
  rw [hw] at this
  cases this
theorem give_free {a : AT} {t : Int} {n : List UInt8} (h : WF a) (hw : alook a.wm t = none) (b : Bool) (hh : holdsA a n t = true) : ¬ OccP (giveF a t n).1 n (t, b) := fun ho => by
  obtain ⟨l, hl, _⟩ := holdsA_some hh
  unfold giveF at ho
  rw [if_pos hh, lockA_some hl] at ho
  obtain ⟨l', h1, h2⟩ := ho
  have h1' : alook (upd a n ⟨(goesF l.row (mdel l.hm t) l.sh a.wm []).1, (goesF l.row (mdel l.hm t) l.sh a.wm []).2.1, (goesF l.row (mdel l.hm t) l.sh a.wm []).2.2.1⟩ (goesF l.row (mdel l.hm t) l.sh a.wm []).2.2.2.1).lm n = some l' := h1
  rw [upd_look, if_pos rfl] at h1'
  injection h1' with h1'
  subst h1'
  rcases goes_mem _ _ _ _ _ (t, b) h2 with h | h
  · have := (List.mem_filter.1 h).2
    simp at this
  · exact no_row ‹WF a› hw hl h
theorem step_occ {t : Int} {s : AT × List Int} {n m : List UInt8} {p : Int × Bool} (h : OccP (leaveStep t s n).1 m p) : OccP s.1 m p := by
  unfold leaveStep at h
  split at h
  · exact give_occ h
  · exact h
theorem step_wm {t y : Int} {s : AT × List Int} {n : List UInt8} (h : alook s.1.wm y = none) : alook (leaveStep t s n).1.wm y = none := by
  unfold leaveStep
  split
  · exact give_wm h
  · exact h
theorem step_free {t : Int} {s : AT × List Int} {n : List UInt8} (h : WF s.1) (hw : alook s.1.wm t = none) (b : Bool) : ¬ OccP (leaveStep t s n).1 n (t, b) := by
  unfold leaveStep
  split
  · rename_i hh
    exact give_free h hw b hh
  · rename_i hh
    rintro ⟨l, hl, h1 | h1⟩
    · refine hh ?_
      unfold holdsA
      rw [hl]
      show (alook l.hm t).isSome = true
      cases hx : alook l.hm t with
      | none => exact absurd rfl (alook_none.1 hx (t, b) h1)
      | some v => rfl
    · exact no_row h hw hl h1
theorem fold_occ {t : Int} : ∀ (ns : List (List UInt8)) (s : AT × List Int) {m : List UInt8} {p : Int × Bool}, OccP (ns.foldl (leaveStep t) s).1 m p → OccP s.1 m p
  | [], s, m, p, h => h
  | n :: ns, s, m, p, h => step_occ (fold_occ ns _ h)
theorem fold_wm {t y : Int} : ∀ (ns : List (List UInt8)) (s : AT × List Int), alook s.1.wm y = none → alook (ns.foldl (leaveStep t) s).1.wm y = none
  | [], s, h => h
  | n :: ns, s, h => fold_wm ns _ (step_wm h)
theorem fold_free {t : Int} : ∀ (ns : List (List UInt8)) (s : AT × List Int), WF s.1 → alook s.1.wm t = none → ∀ m ∈ ns, ∀ b, ¬ OccP (ns.foldl (leaveStep t) s).1 m (t, b)
  | [], s, _, _, m, hm, _ => by cases hm
  | n :: ns, s, h, hw, m, hm, b => by
    rcases List.mem_cons.1 hm with rfl | hm
    · exact fun ho => step_free h hw b (fold_occ ns _ ho)
    · exact fold_free ns _ (wf_step h) (step_wm hw) m hm b
theorem occ_key {a : AT} {n : List UInt8} {p : Int × Bool} (h : OccP a n p) : n ∈ a.lm.map Prod.fst := by
  obtain ⟨l, hl, _⟩ := h
  exact List.mem_map.2 ⟨(n, l), alook_mem hl, rfl⟩
theorem mem_sortS {l : List (List UInt8)} {x : List UInt8} : x ∈ sortS l ↔ x ∈ l := by unfold sortS; exact List.mem_mergeSort
/-- who waits for nothing, and leaves: it is nowhere -/
theorem leave_free {a : AT} {t : Int} (h : WF a) (hw : alook a.wm t = none) : (∀ m p, OccP (leaveF a t).1 m p → OccP a m p ∧ p.1 ≠ t) ∧ alook (leaveF a t).1.wm t = none := by
  have e : leave1 a t = (a, []) := by unfold leave1; rw [hw]
  unfold leaveF
  rw [e]
  refine ⟨fun m p ho => ?_, fold_wm _ _ hw⟩
  have ho2 := fold_occ _ _ ho
  refine ⟨ho2, fun e => ?_⟩
  obtain ⟨x, b⟩ := p
  simp only at e
  subst e
  exact fold_free _ (a, []) h hw m (mem_sortS.2 (occ_key ho2)) b ho
theorem leave1_occ {a : AT} {t : Int} {m : List UInt8} {p : Int × Bool} (h : OccP (leave1 a t).1 m p) : OccP a m p := by
  unfold leave1 at h
  cases hw : alook a.wm t with
  | none => rw [hw] at h; exact h
  | some n =>
    rw [hw] at h
    obtain ⟨l', h1, h2⟩ := h
    have h1' : alook (upd a n ⟨(goesF ((lockA a n).row.filter (keepB t)) (lockA a n).hm (lockA a n).sh (mdel a.wm t) []).1, (goesF ((lockA a n).row.filter (keepB t)) (lockA a n).hm (lockA a n).sh (mdel a.wm t) []).2.1, (goesF ((lockA a n).row.filter (keepB t)) (lockA a n).hm (lockA a n).sh (mdel a.wm t) []).2.2.1⟩ (goesF ((lockA a n).row.filter (keepB t)) (lockA a n).hm (lockA a n).sh (mdel a.wm t) []).2.2.2.1).lm m = some l' := h1
    rw [upd_look] at h1'
    split at h1'
    · rename_i e
      subst e
      injection h1' with h1'
      subst h1'
      have h3 : p ∈ (lockA a n).hm ∨ p ∈ (lockA a n).row := by
        rcases goes_mem _ _ _ _ _ p h2 with h | h
        · exact .inl h
        · exact .inr (List.mem_filter.1 h).1
      cases hx : alook a.lm n with
      | none => rw [lockA_none hx] at h3; rcases h3 with h3 | h3 <;> cases h3
      | some l => rw [lockA_some hx] at h3; exact ⟨l, hx, h3⟩
    · exact ⟨l', h1', h2⟩
theorem leave_occ {a : AT} {t : Int} {m : List UInt8} {p : Int × Bool} (h : OccP (leaveF a t).1 m p) : OccP a m p := leave1_occ (fold_occ _ _ h)
theorem ens_occ {a : AT} {n m : List UInt8} {p : Int × Bool} (h : OccP (ensure a n) m p) : OccP a m p := by
  obtain ⟨l, hl, h⟩ := h
  rw [ens_look] at hl
  split at hl
  · rename_i e
    subst e
    injection hl with hl
    subst hl
    cases hx : alook a.lm n with
    | none => rw [lockA_none hx] at h; rcases h with h | h <;> cases h
    | some l => rw [lockA_some hx] at h; exact ⟨l, hx, h⟩
  · exact ⟨l, hl, h⟩
theorem lockA_occ {a : AT} {n : List UInt8} {p : Int × Bool} (h : p ∈ (lockA a n).hm ∨ p ∈ (lockA a n).row) : OccP a n p := ens_occ (n := n) ⟨lockA a n, by rw [ens_look, if_pos rfl], h⟩
theorem aset_occ {a : AT} {lm : List (List UInt8 × AL)} {wm : List (Int × List UInt8)} {n m : List UInt8} {l : AL} {p : Int × Bool} (hlm : ∀ m p, OccP ⟨lm, wm⟩ m p → OccP a m p) (h : OccP ⟨aset lm n l, wm⟩ m p) : OccP a m p ∨ (m = n ∧ (p ∈ l.hm ∨ p ∈ l.row)) := by
  obtain ⟨l', h1, h2⟩ := h
  have h1' : alook (aset lm n l) m = some l' := h1
  rw [alook_aset] at h1'
  split at h1'
  · rename_i e
    injection h1' with h1'
    subst h1'
    exact .inr ⟨e.symm, h2⟩
  · exact .inl (hlm m p ⟨l', h1', h2⟩)
theorem take_occ {a : AT} {t : Int} {n m : List UInt8} {s : Bool} {p : Int × Bool} (h : OccP (takeF a t n s).1 m p) : OccP a m p ∨ (m = n ∧ p = (t, s) ∧ 0 ≤ t ∧ (takeF a t n s).2.2 = 0) := by
  have hens : ∀ wm m p, OccP ⟨(ensure a n).lm, wm⟩ m p → OccP a m p := fun wm m p h => ens_occ (n := n) h
  unfold takeF at h ⊢
  split at h
  · exact .inl h
  · rename_i ht
    rw [if_neg ht]
    split at h
    · exact .inl (ens_occ h)
    · rename_i hhas
      rw [if_neg hhas]
      split at h
      · rename_i hf
        rw [if_pos hf]
        rcases aset_occ (hens _) h with h | ⟨rfl, h⟩
        · exact .inl h
        · rcases h with h | h
          · rcases aset_mem h with h | h
            · exact .inl (lockA_occ (.inl h))
            · exact .inr ⟨rfl, h, by omega, rfl⟩
          · exact .inl (lockA_occ (.inr h))
      · rename_i hf
        rw [if_neg hf]
        split at h
        · have h2 : OccP ⟨aset (aset (ensure a n).lm n { lockA a n with row := (lockA a n).row ++ [(t, s)] }) n (lockA a n), mdel (aset a.wm t n) t⟩ m p := h
          rw [aset_aset] at h2
          rcases aset_occ (hens _) h2 with h | ⟨rfl, h⟩
          · exact .inl h
          · exact .inl (lockA_occ h)
        · rename_i hr
          rw [if_neg hr]
          rcases aset_occ (hens _) h with h | ⟨rfl, h⟩
          · exact .inl h
          · rcases h with h | h
            · exact .inl (lockA_occ (.inl h))
            · rcases List.mem_append.1 h with h | h
              · exact .inl (lockA_occ (.inr h))
              · exact .inr ⟨rfl, List.mem_singleton.1 h, by omega, rfl⟩

/-- all who occur are among the tasks -/
structure EI (a : AT) (tasks : List Int) : Prop where
  wf : WF a
  nd : tasks.Nodup
  occ : ∀ n p, OccP a n p → p.1 ∈ tasks
def addT (tasks : List Int) (t : Int) : List Int := if 0 ≤ t ∧ t ∉ tasks then tasks ++ [t] else tasks
theorem ei_nil : EI ⟨[], []⟩ [] := ⟨wf_nil, List.nodup_nil, fun n p h => by obtain ⟨l, h, _⟩ := h; simp [alook] at h⟩
theorem ei_take {a : AT} {tasks : List Int} (h : EI a tasks) (t : Int) (n : List UInt8) (s : Bool) : EI (takeF a t n s).1 (addT tasks t) := by
  refine ⟨wf_take h.wf t n s, ?_, fun m p ho => ?_⟩
  · unfold addT
    split
    · rename_i hc
      rw [List.nodup_append]
      exact ⟨h.nd, by simp, fun a ha b hb e => hc.2 (by rw [List.mem_singleton] at hb; rw [← hb, ← e]; exact ha)⟩
    · exact h.nd
  · have hsub : ∀ x, x ∈ tasks → x ∈ addT tasks t := fun x hx => by
      unfold addT
      split
      · exact List.mem_append_left _ hx
      · exact hx
    rcases take_occ ho with ho | ⟨_, rfl, ht, _⟩
    · exact hsub _ (h.occ m p ho)
    · unfold addT
      split
      · simp
      · rename_i hc
        exact Classical.byContradiction fun hn => hc ⟨ht, hn⟩
theorem ei_leave {a : AT} {tasks : List Int} (h : EI a tasks) {k : Nat} {t : Int} (hk : tasks[k]? = some t) (hw : alook a.wm t = none) : EI (leaveF a t).1 (tasks.take k ++ tasks.drop (k + 1)) := by
  obtain ⟨hlt, hget⟩ := List.getElem?_eq_some_iff.1 hk
  have e : tasks = tasks.take k ++ t :: tasks.drop (k + 1) := by rw [← hget, ← List.drop_eq_getElem_cons hlt, List.take_append_drop]
  obtain ⟨h1, _⟩ := leave_free h.wf hw
  refine ⟨wf_leave h.wf t, ?_, fun m p ho => ?_⟩
  · have := h.nd
    rw [e] at this
    exact this.sublist (by simp)
  · obtain ⟨h2, h3⟩ := h1 m p ho
    have := h.occ m p h2
    rw [e] at this
    rcases List.mem_append.1 this with hm | hm
    · exact List.mem_append_left _ hm
    · rcases List.mem_cons.1 hm with hm | hm
      · exact absurd hm h3
      · exact List.mem_append_right _ hm
/-- no one all of whose like wait for one another, and none for itself -/
theorem no_ring {R : Int → Int → Prop} (htr : ∀ {x y z}, R x y → R y z → R x z) (hir : ∀ x, ¬ R x x) : ∀ (k : Nat) (L : List Int), L.length ≤ k → (∀ x ∈ L, ∃ y ∈ L, R x y) → L = []
  | 0, L, hk, _ => List.eq_nil_of_length_eq_zero (by omega)
  | k + 1, L, hk, hs => by
    classical
    cases hL : L with
    | nil => rfl
    | cons x r =>
      exfalso
      have hx : x ∈ L := by rw [hL]; simp
      have hlen : (L.filter fun y => decide (R x y)).length < L.length := by
        refine List.length_filter_lt_length_iff_exists.2 ⟨x, hx, ?_⟩
        simpa using hir x
      have := no_ring (R := R) (fun h1 h2 => htr h1 h2) hir k (L.filter fun y => decide (R x y)) (by omega) fun y hy => by
        obtain ⟨hy1, hy2⟩ := List.mem_filter.1 hy
        obtain ⟨z, hz, hyz⟩ := hs y hy1
        exact ⟨z, List.mem_filter.2 ⟨hz, decide_eq_true (htr (of_decide_eq_true hy2) hyz)⟩, hyz⟩
      obtain ⟨z, hz, hxz⟩ := hs x hx
      have hm : z ∈ L.filter fun y => decide (R x y) := List.mem_filter.2 ⟨hz, by simpa using hxz⟩
      rw [this] at hm
      cases hm
/-- one at least does not wait -/
theorem ei_free {a : AT} {tasks : List Int} (h : EI a tasks) (hw : ∀ t ∈ tasks, (alook a.wm t).isSome = true) : tasks = [] := by
  refine no_ring (R := Reach a) (fun h1 h2 => h1.trans h2) h.wf.acyc tasks.length tasks (Nat.le_refl _) fun t ht => ?_
  obtain ⟨n, hn⟩ := Option.isSome_iff_exists.1 (hw t ht)
  obtain ⟨l, hl, x, hx, rfl⟩ := h.wf.wRow t n hn
  have hhm : l.hm ≠ [] := by
    cases hr : l.row with
    | nil => rw [hr] at hx; cases hx
    | cons y r =>
      intro e
      have := h.wf.stuck n l hl (by simp) y r hr
      rw [e] at this
      simp at this
  obtain ⟨p, r, e⟩ := List.exists_cons_of_ne_nil hhm
  refine ⟨p.1, h.occ n p ⟨l, hl, .inl (by rw [e]; simp)⟩, .one ?_⟩
  rw [succs_at hn hl, e]
  simp
theorem ei_none {a : AT} (h : EI a []) (n : List UInt8) (t : Int) : holdsA a n t = false := by
  cases hh : holdsA a n t with
  | false => rfl
  | true =>
    obtain ⟨l, hl, h1⟩ := holdsA_some hh
    obtain ⟨b, hb⟩ := Option.isSome_iff_exists.1 h1
    cases h.occ n (t, b) ⟨l, hl, .inl (alook_mem hb)⟩
/-- the rounds -/
def Rounds (a : AT) (tasks : List Int) (round : Nat) : Prop :=
  tasks.length ≤ 60 ∧ (round ≤ 400 ∨ ∃ j, 400 ≤ j ∧ j ≤ round ∧ j ≤ 400 + 60 * (60 - tasks.length) ∧ ∀ r, j ≤ r → r < round → ∀ t, tasks[r % tasks.length]? = some t → (alook a.wm t).isSome = true)
theorem rounds_j {a : AT} {tasks : List Int} {round j : Nat} (h : EI a tasks) (hne : tasks ≠ []) (h4 : ∀ r, j ≤ r → r < round → ∀ t, tasks[r % tasks.length]? = some t → (alook a.wm t).isSome = true) : round < j + tasks.length := by
  have hpos := List.length_pos_iff.2 hne
  rcases Nat.lt_or_ge round (j + tasks.length) with hlt | hge
  · exact hlt
  · refine absurd (ei_free h fun t ht => ?_) hne
    obtain ⟨i, hi⟩ := List.mem_iff_getElem?.1 ht
    have hil := (List.getElem?_eq_some_iff.1 hi).1
    obtain ⟨r, hr1, hr2, hr3⟩ : ∃ r, j ≤ r ∧ r < j + tasks.length ∧ r % tasks.length = i := by
      have hm := Nat.mod_lt j hpos
      have hd := Nat.div_add_mod j tasks.length
      rcases Nat.lt_or_ge i (j % tasks.length) with hc | hc
      · refine ⟨j + (tasks.length - j % tasks.length + i), by omega, by omega, ?_⟩
        have e : j + (tasks.length - j % tasks.length + i) = i + tasks.length * (j / tasks.length + 1) := by
          rw [Nat.mul_add, Nat.mul_one]
          omega
        rw [e, Nat.add_mul_mod_self_left, Nat.mod_eq_of_lt hil]
      · refine ⟨j + (i - j % tasks.length), by omega, by omega, ?_⟩
        have e : j + (i - j % tasks.length) = i + tasks.length * (j / tasks.length) := by omega
        rw [e, Nat.add_mul_mod_self_left, Nat.mod_eq_of_lt hil]
    exact h4 r hr1 (by omega) t (by rw [hr3]; exact hi)
theorem rounds_lt {a : AT} {tasks : List Int} {round : Nat} (h : EI a tasks) (hr : Rounds a tasks round) (hne : tasks ≠ []) : round < 4000 := by
  obtain ⟨h60, hr | ⟨j, h1, h2, h3, h4⟩⟩ := hr
  · omega
  · have hpos := List.length_pos_iff.2 hne
    have := rounds_j h hne h4
    omega
theorem rounds_wait {a : AT} {tasks : List Int} {round k : Nat} {t : Int} (hr : Rounds a tasks round) (hk : tasks[k]? = some t) (hm : 400 ≤ round → k = round % tasks.length) (hw : (alook a.wm t).isSome = true) : Rounds a tasks (round + 1) := by
  obtain ⟨h60, hr⟩ := hr
  refine ⟨h60, ?_⟩
  rcases Nat.lt_or_ge round 400 with hlt | hge
  · exact .inl (by omega)
  · have hk' := hm hge
    subst hk'
    rcases hr with hr | ⟨j, h1, h2, h3, h4⟩
    · refine .inr ⟨400, Nat.le_refl _, by omega, by omega, fun r hr1 hr2 u hu => ?_⟩
      obtain rfl : r = round := by omega
      rw [hk] at hu
      injection hu with hu
      rw [← hu]
      exact hw
    · refine .inr ⟨j, h1, by omega, h3, fun r hr1 hr2 u hu => ?_⟩
      rcases Nat.lt_or_ge r round with hlt | hge2
      · exact h4 r hr1 hlt u hu
      · obtain rfl : r = round := by omega
        rw [hk] at hu
        injection hu with hu
        rw [← hu]
        exact hw
theorem rounds_leave {a a' : AT} {tasks : List Int} {round k : Nat} {t : Int} (h : EI a tasks) (hr : Rounds a tasks round) (hk : tasks[k]? = some t) : Rounds a' (tasks.take k ++ tasks.drop (k + 1)) (round + 1) := by
  have hlt := (List.getElem?_eq_some_iff.1 hk).1
  have hlen : (tasks.take k ++ tasks.drop (k + 1)).length = tasks.length - 1 := by
    rw [List.length_append, List.length_take, List.length_drop, Nat.min_eq_left (by omega)]
    omega
  have hne : tasks ≠ [] := fun e => by rw [e] at hlt; simp at hlt
  obtain ⟨h60, hr'⟩ := hr
  refine ⟨by omega, ?_⟩
  rw [hlen]
  rcases Nat.lt_or_ge round 400 with hl | hge
  · exact .inl (by omega)
  · refine .inr ⟨round + 1, by omega, Nat.le_refl _, ?_, fun r h1 h2 => by omega⟩
    rcases hr' with hr' | ⟨j, h1, h2, h3, h4⟩
    · omega
    · have := rounds_j h hne h4
      omega
end Go.Proofs.Ytlgfpoelhjlifaa
