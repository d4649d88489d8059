/- Locks without memory: Take, Give and Leave keep what always holds. -/
import Derived.Test.YtlgfpoelhjlifaaWf12
namespace Go.Proofs.Ytlgfpoelhjlifaa
open Go Go.Sx
set_option linter.unusedVariables false
theorem ens_look (a : AT) (n m : List UInt8) : alook (ensure a n).lm m = if n = m then some (lockA a n) else alook a.lm m := by
  unfold ensure lockA
  cases h : alook a.lm n with
  | some l =>
    simp only [Option.isSome_some, if_true, Option.getD_some]
    split
    · rename_i e; rw [← e]; exact h
    · rfl
  | none =>
    simp only [Option.isSome_none, Bool.false_eq_true, if_false, Option.getD_none]
    by_cases e : n = m
    · subst e
      rw [if_pos rfl]
      exact alook_append_hit (b := []) (alook_none.1 h)
    · rw [if_neg e]
      unfold alook
      rw [List.find?_append, List.find?_cons_of_neg (by simpa using e), List.find?_nil, Option.or_none]
theorem lockA_some {a : AT} {n : List UInt8} {l : AL} (h : alook a.lm n = some l) : lockA a n = l := by unfold lockA; rw [h]; rfl
theorem lockA_none {a : AT} {n : List UInt8} (h : alook a.lm n = none) : lockA a n = AL0 := by unfold lockA; rw [h]; rfl
theorem wf_ensure {a : AT} (h : WF a) (n : List UInt8) : WF (ensure a n) := by
  cases hx : alook a.lm n with
  | some l =>
    have : ensure a n = a := by unfold ensure; rw [hx]; rfl
    rw [this]
    exact h
  | none =>
    have e0 := lockA_none hx
    have look : ∀ m l, alook (ensure a n).lm m = some l → alook a.lm m = some l ∨ l = AL0 := fun m l hl => by
      rw [ens_look] at hl
      split at hl
      · injection hl with hl
        exact .inr (by rw [← hl, e0])
      · exact .inl hl
    have hwm := ensure_wm a n
    have hne : ∀ t m, alook a.wm t = some m → n ≠ m := fun t m hm e => by
      obtain ⟨l, h1, _⟩ := h.wRow t m hm
      rw [← e, hx] at h1
      cases h1
    have hsucc : ∀ t, succs (ensure a n) t = succs a t := fun t => by
      cases hw : alook a.wm t with
      | none => rw [succs_none (by rw [hwm]; exact hw), succs_none hw]
      | some m =>
        obtain ⟨l, h1, _⟩ := h.wRow t m hw
        rw [succs_at (by rw [hwm]; exact hw) (by rw [ens_look, if_neg (hne t m hw)]; exact h1), succs_at hw h1]
    refine ⟨?_, by rw [hwm]; exact h.wnd, fun m l hl => ?_, fun t m hm => ?_, fun m l hl => ?_, fun m l hl => ?_, fun m l hl => ?_, fun m l hl => ?_, fun m l hl _ => ?_, fun t ht => h.acyc t (reach_mono (fun y c hc => by rw [← hsucc]; exact hc) ht)⟩
    · unfold ensure
      rw [hx]
      simp only [Option.isSome_none, Bool.false_eq_true, if_false, List.map_append, List.map_cons, List.map_nil]
      rw [List.nodup_append]
      refine ⟨h.nd, by simp, fun b hb c hc e => ?_⟩
      rw [List.mem_singleton] at hc
      subst hc e
      obtain ⟨q, hq, e⟩ := List.mem_map.1 hb
      exact alook_none.1 hx q hq e
    · rw [hwm]
      rcases look m l hl with hl | rfl
      · exact h.rowW m l hl
      · intro x hx; cases hx
    · rw [hwm] at hm
      obtain ⟨l, h1, h2⟩ := h.wRow t m hm
      exact ⟨l, by rw [ens_look, if_neg (hne t m hm)]; exact h1, h2⟩
    · rcases look m l hl with hl | rfl
      · exact h.rowNd m l hl
      · exact List.nodup_nil
    · rcases look m l hl with hl | rfl
      · exact h.hmNd m l hl
      · exact List.nodup_nil
    · rcases look m l hl with hl | rfl
      · exact h.excl m l hl
      · exact .inl rfl
    · rcases look m l hl with hl | rfl
      · exact h.noBoth m l hl
      · intro x hx; cases hx
    · rcases look m l hl with hl | rfl
      · exact h.stuck m l hl (by simp)
      · intro x r e; cases e
/-- a task takes a lock that nobody waits for -/
theorem wf_got {a : AT} {n : List UInt8} {l : AL} {t : Int} {s : Bool} (h : WF a) (hl : alook a.lm n = some l) (hr : l.row = []) (hf : (l.hm.isEmpty || (l.sh && s)) = true) (hno : alook l.hm t = none) : WF (upd a n ⟨aset l.hm t s, l.row, s⟩ a.wm) := by
  have hnw : ∀ y, alook a.wm y ≠ some n := fun y hy => by
    obtain ⟨l', h1, x, h2, _⟩ := h.wRow y n hy
    rw [hl] at h1
    injection h1 with h1
    rw [← h1, hr] at h2
    cases h2
  have hsucc : ∀ y, succs (upd a n ⟨aset l.hm t s, l.row, s⟩ a.wm) y = succs a y := fun y => by
    cases hw : alook a.wm y with
    | none => rw [succs_none (a := upd a n ⟨aset l.hm t s, l.row, s⟩ a.wm) hw, succs_none hw]
    | some m =>
      obtain ⟨l', h1, _⟩ := h.wRow y m hw
      have hnm : n ≠ m := fun e => hnw y (by rw [e]; exact hw)
      rw [succs_at (a := upd a n ⟨aset l.hm t s, l.row, s⟩ a.wm) hw (by rw [upd_look, if_neg hnm]; exact h1), succs_at hw h1]
  refine ⟨aset_nodup h.nd, h.wnd, fun m l' hl' x hx => ?_, fun y m hm => ?_, fun m l' hl' => ?_, fun m l' hl' => ?_, fun m l' hl' => ?_, fun m l' hl' x hx => ?_, fun m l' hl' _ => ?_, fun y hy => h.acyc y (reach_mono (fun z c hc => by rw [← hsucc]; exact hc) hy)⟩
  · rw [upd_look] at hl'
    split at hl'
    · injection hl' with hl'
      rw [← hl'] at hx
      rw [show (⟨aset l.hm t s, l.row, s⟩ : AL).row = [] from hr] at hx
      cases hx
    · exact h.rowW m l' hl' x hx
  · obtain ⟨l', h1, h2⟩ := h.wRow y m hm
    exact ⟨l', by rw [upd_look, if_neg (fun e => hnw y (by rw [e]; exact hm))]; exact h1, h2⟩
  · rw [upd_look] at hl'
    split at hl'
    · injection hl' with hl'
      rw [← hl']
      exact h.rowNd n l hl
    · exact h.rowNd m l' hl'
  · rw [upd_look] at hl'
    split at hl'
    · injection hl' with hl'
      rw [← hl']
      exact aset_nodup (h.hmNd n l hl)
    · exact h.hmNd m l' hl'
  · rw [upd_look] at hl'
    split at hl'
    · injection hl' with hl'
      rw [← hl']
      right
      have hx2 : aset l.hm t s = l.hm ++ [(t, s)] := by unfold aset; rw [hno]; rfl
      simp only [hx2]
      simp only [Bool.or_eq_true, Bool.and_eq_true] at hf
      by_cases hem : l.hm = []
      · rw [hem]
        cases s
        · exact .inr ⟨rfl, rfl, fun p hp => by simp at hp; rw [hp]⟩
        · exact .inl ⟨rfl, fun p hp => by simp at hp; rw [hp]⟩
      · rcases hf with hf | hf
        · exact absurd (List.isEmpty_iff.1 hf) hem
        · rcases h.excl n l hl with e | ⟨_, e⟩ | ⟨e, _⟩
          · exact absurd e hem
          · refine .inl ⟨hf.2, fun p hp => ?_⟩
            rcases List.mem_append.1 hp with hp | hp
            · exact e p hp
            · rw [List.mem_singleton] at hp
              rw [hp]
              exact hf.2
          · rw [hf.1] at e
            cases e
    · exact h.excl m l' hl'
  · rw [upd_look] at hl'
    split at hl'
    · injection hl' with hl'
      rw [← hl'] at hx
      rw [show (⟨aset l.hm t s, l.row, s⟩ : AL).row = [] from hr] at hx
      cases hx
    · exact h.noBoth m l' hl' x hx
  · rw [upd_look] at hl'
    split at hl'
    · injection hl' with hl'
      rw [← hl']
      intro x r e
      rw [show (⟨aset l.hm t s, l.row, s⟩ : AL).row = [] from hr] at e
      cases e
    · exact h.stuck m l' hl' (by simp)
theorem tw_app {z : Int} : ∀ {r s : List (Int × Bool)}, (∃ x ∈ r, x.1 = z) → tw z (r ++ s) = tw z r
  | x :: r, s, h => by
    unfold tw
    by_cases hx : x.1 = z
    · rw [List.cons_append, List.takeWhile_cons_of_neg (by simpa using hx), List.takeWhile_cons_of_neg (by simpa using hx)]
    · rw [List.cons_append, List.takeWhile_cons_of_pos (by simpa using hx), List.takeWhile_cons_of_pos (by simpa using hx)]
      obtain ⟨y, hy, e⟩ := h
      rcases List.mem_cons.1 hy with rfl | hy
      · exact absurd e hx
      · have := tw_app (s := s) ⟨y, hy, e⟩
        unfold tw at this
        rw [this]
  | [], s, h => by obtain ⟨x, hx, _⟩ := h; cases hx
theorem reach_split {a c : AT} {t : Int} (h : ∀ z, z ≠ t → succs c z = succs a z) {x y : Int} (hr : Reach c x y) : Reach a x y ∨ ((x = t ∨ Reach c x t) ∧ Reach c t y) := by
  induction hr with
  | @one p q h1 =>
    by_cases hp : p = t
    · subst hp
      exact .inr ⟨.inl rfl, .one h1⟩
    · rw [h p hp] at h1
      exact .inl (.one h1)
  | @more p q m h1 h2 ih =>
    by_cases hp : p = t
    · subst hp
      exact .inr ⟨.inl rfl, .more h1 h2⟩
    · rcases ih with ih | ⟨hm, hq⟩
      · rw [h p hp] at h1
        exact .inl (.more h1 ih)
      · refine .inr ⟨.inr ?_, hq⟩
        rcases hm with rfl | hm
        · exact .one h1
        · exact .more h1 hm
/-- a task waits -/
theorem wf_wait {a : AT} {n : List UInt8} {l : AL} {t : Int} {s : Bool} (h : WF a) (hl : alook a.lm n = some l) (hw0 : alook a.wm t = none) (hh0 : alook l.hm t = none) (hf : (l.row.isEmpty && (l.hm.isEmpty || (l.sh && s))) = false)
    (hr : ¬ Reach (upd a n { l with row := l.row ++ [(t, s)] } (aset a.wm t n)) t t) : WF (upd a n { l with row := l.row ++ [(t, s)] } (aset a.wm t n)) := by
  have hsucc : ∀ z, z ≠ t → succs (upd a n { l with row := l.row ++ [(t, s)] } (aset a.wm t n)) z = succs a z := fun z hz => by
    have hwz : alook (upd a n { l with row := l.row ++ [(t, s)] } (aset a.wm t n)).wm z = alook a.wm z := by
      show alook (aset a.wm t n) z = _
      rw [alook_aset, if_neg (fun e => hz e.symm)]
    cases hw : alook a.wm z with
    | none => rw [succs_none (by rw [hwz]; exact hw), succs_none hw]
    | some m =>
      obtain ⟨l', h1, h2⟩ := h.wRow z m hw
      by_cases hnm : n = m
      · subst hnm
        rw [hl] at h1
        injection h1 with h1
        rw [succs_at (by rw [hwz]; exact hw) (by rw [upd_look, if_pos rfl]), succs_at hw hl]
        simp only
        rw [tw_app (by rw [h1]; exact h2)]
      · rw [succs_at (by rw [hwz]; exact hw) (by rw [upd_look, if_neg hnm]; exact h1), succs_at hw h1]
  have hnt : ∀ m l', alook a.lm m = some l' → ∀ y ∈ l'.row, t ≠ y.1 := fun m l' hl' y hy e => by
    have := h.rowW m l' hl' y hy
    rw [← e, hw0] at this
    cases this
  refine ⟨aset_nodup h.nd, aset_nodup h.wnd, fun m l' hl' y hy => ?_, fun y m hm => ?_, fun m l' hl' => ?_, fun m l' hl' => ?_, fun m l' hl' => ?_, fun m l' hl' y hy => ?_, fun m l' hl' _ => ?_, fun y hy => ?_⟩
  · show alook (aset a.wm t n) y.1 = some m
    rw [alook_aset]
    rw [upd_look] at hl'
    split at hl'
    · rename_i hnm
      injection hl' with hl'
      subst hl' hnm
      rcases List.mem_append.1 hy with hy | hy
      · rw [if_neg (hnt n l hl y hy)]
        exact h.rowW n l hl y hy
      · rw [List.mem_singleton] at hy
        rw [hy, if_pos rfl]
    · rw [if_neg (hnt m l' hl' y hy)]
      exact h.rowW m l' hl' y hy
  · have hm' : alook (aset a.wm t n) y = some m := hm
    rw [alook_aset] at hm'
    split at hm'
    · rename_i hty
      injection hm' with hm'
      subst hm' hty
      exact ⟨_, by rw [upd_look, if_pos rfl], (t, s), by simp, rfl⟩
    · obtain ⟨l', h1, x, h2, h3⟩ := h.wRow y m hm'
      by_cases hnm : n = m
      · subst hnm
        rw [hl] at h1
        injection h1 with h1
        subst h1
        exact ⟨_, by rw [upd_look, if_pos rfl], x, List.mem_append_left _ h2, h3⟩
      · exact ⟨l', by rw [upd_look, if_neg hnm]; exact h1, x, h2, h3⟩
  · rw [upd_look] at hl'
    split at hl'
    · injection hl' with hl'
      rw [← hl']
      show ((l.row ++ [(t, s)]).map Prod.fst).Nodup
      rw [List.map_append, List.nodup_append]
      refine ⟨h.rowNd n l hl, by simp, fun b hb c hc e => ?_⟩
      simp only [List.map_cons, List.map_nil, List.mem_singleton] at hc
      subst hc e
      obtain ⟨y, hy, e⟩ := List.mem_map.1 hb
      exact hnt n l hl y hy e.symm
    · exact h.rowNd m l' hl'
  · rw [upd_look] at hl'
    split at hl'
    · injection hl' with hl'
      rw [← hl']
      exact h.hmNd n l hl
    · exact h.hmNd m l' hl'
  · rw [upd_look] at hl'
    split at hl'
    · injection hl' with hl'
      rw [← hl']
      exact h.excl n l hl
    · exact h.excl m l' hl'
  · rw [upd_look] at hl'
    split at hl'
    · injection hl' with hl'
      subst hl'
      rcases List.mem_append.1 hy with hy | hy
      · exact h.noBoth n l hl y hy
      · rw [List.mem_singleton] at hy
        rw [hy]
        exact hh0
    · exact h.noBoth m l' hl' y hy
  · rw [upd_look] at hl'
    split at hl'
    · injection hl' with hl'
      rw [← hl']
      intro x r e
      have e : l.row ++ [(t, s)] = x :: r := e
      show (l.hm.isEmpty || (l.sh && x.2)) = false
      cases hrow : l.row with
      | nil =>
        rw [hrow] at e hf
        simp only [List.nil_append, List.cons.injEq] at e
        rw [← e.1]
        simpa using hf
      | cons y r' =>
        rw [hrow] at e
        injection e with e1 e2
        rw [← e1]
        exact h.stuck n l hl (by simp) y r' hrow
    · exact h.stuck m l' hl' (by simp)
  · rcases reach_split hsucc hy with h1 | ⟨h1, h2⟩
    · exact h.acyc y h1
    · rcases h1 with rfl | h1
      · exact hr h2
      · exact hr (h2.trans h1)
theorem mdel_aset {κ α : Type} [DecidableEq κ] {m : List (κ × α)} {k : κ} {v : α} (h : alook m k = none) : mdel (aset m k v) k = m := by
  have e : aset m k v = m ++ [(k, v)] := by unfold aset; rw [h]; rfl
  rw [e]
  unfold mdel
  rw [List.filter_append, List.filter_eq_self.2 (fun p hp => by simpa using alook_none.1 h p hp)]
  simp
theorem wf_take {a : AT} (h : WF a) (t : Int) (n : List UInt8) (s : Bool) : WF (takeF a t n s).1 := by
  have hb := wf_ensure h n
  have hl : alook (ensure a n).lm n = some (lockA a n) := by rw [ens_look, if_pos rfl]
  have hwm := ensure_wm a n
  unfold takeF
  split
  · exact h
  · split
    · exact hb
    · rename_i hhas
      simp only [Bool.or_eq_true, not_or, Bool.not_eq_true] at hhas
      obtain ⟨h1, h2⟩ := hhas
      have hw0 : alook a.wm t = none := by simpa using h1
      have hh0 : alook (lockA a n).hm t = none := by
        unfold holdsA at h2
        rw [hl] at h2
        simpa using h2
      split
      · rename_i hfree
        simp only [Bool.and_eq_true] at hfree
        have := wf_got hb hl (List.isEmpty_iff.1 hfree.1) hfree.2 hh0
        unfold upd at this
        exact this
      · rename_i hfree
        split
        · show WF ⟨aset (aset (ensure a n).lm n _) n (lockA a n), mdel (aset a.wm t n) t⟩
          rw [aset_aset, mdel_aset hw0, ← hwm]
          have := wf_goes.same hb.weak hl (fun x r e => hb.stuck n _ hl (by simp) x r e)
          unfold upd at this
          exact this
        · rename_i hring
          rw [← hwm] at hring hw0 ⊢
          have := wf_wait hb hl hw0 hh0 (by simpa using hfree) (by unfold upd; exact hring)
          unfold upd at this
          exact this
theorem holdsA_some {a : AT} {n : List UInt8} {t : Int} (h : holdsA a n t = true) : ∃ l, alook a.lm n = some l ∧ (alook l.hm t).isSome = true := by
  unfold holdsA at h
  cases hx : alook a.lm n with
  | none => rw [hx] at h; cases h
  | some l => rw [hx] at h; exact ⟨l, rfl, h⟩
/-- a lock whose holders or whose row got fewer -/
theorem wf_less {a : AT} {n : List UInt8} {l l2 : AL} {wm : List (Int × List UInt8)} (h : WF a) (hl : alook a.lm n = some l) (hwn : (wm.map Prod.fst).Nodup) (hws : ∀ y m, alook wm y = some m → alook a.wm y = some m)
    (hrow : l2.row.Sublist l.row) (hhm : l2.hm.Sublist l.hm) (hsh : l2.sh = l.sh) (hin : ∀ x ∈ l2.row, alook wm x.1 = some n) (hkeep : ∀ y, alook wm y = some n → ∃ x ∈ l2.row, x.1 = y) (hoth : ∀ y m, m ≠ n → alook a.wm y = some m → alook wm y = some m)
    (htw : ∀ y, (∃ x ∈ l2.row, x.1 = y) → ∀ c ∈ (tw y l2.row).map Prod.fst, c ∈ (tw y l.row).map Prod.fst) : WFx (upd a n l2 wm) (some n) := by
  refine ⟨aset_nodup h.nd, hwn, fun m l' hl' x hx => ?_, fun y m hm => ?_, fun m l' hl' => ?_, fun m l' hl' => ?_, fun m l' hl' => ?_, fun m l' hl' x hx => ?_, fun m l' hl' hno => ?_, fun y hy => h.acyc y (reach_mono (fun z c hc => ?_) hy)⟩
  · rw [upd_look] at hl'
    by_cases hnm : n = m
    · rw [if_pos hnm] at hl'
      injection hl' with hl'
      subst hl' hnm
      exact hin x hx
    · rw [if_neg hnm] at hl'
      exact hoth _ m (fun e => hnm e.symm) (h.rowW m l' hl' x hx)
  · have hm' : alook wm y = some m := hm
    by_cases hnm : n = m
    · subst hnm
      exact ⟨l2, by rw [upd_look, if_pos rfl], hkeep y hm'⟩
    · obtain ⟨l', h1, h2⟩ := h.wRow y m (hws y m hm')
      exact ⟨l', by rw [upd_look, if_neg hnm]; exact h1, h2⟩
  · rw [upd_look] at hl'
    split at hl'
    · injection hl' with hl'
      rw [← hl']
      exact (h.rowNd n l hl).sublist (hrow.map _)
    · exact h.rowNd m l' hl'
  · rw [upd_look] at hl'
    split at hl'
    · injection hl' with hl'
      rw [← hl']
      exact (h.hmNd n l hl).sublist (hhm.map _)
    · exact h.hmNd m l' hl'
  · rw [upd_look] at hl'
    split at hl'
    · injection hl' with hl'
      rw [← hl']
      rcases h.excl n l hl with e | ⟨e1, e2⟩ | ⟨e1, e2, e3⟩
      · rw [e] at hhm
        exact .inl (List.sublist_nil.1 hhm)
      · exact .inr (.inl ⟨by rw [hsh]; exact e1, fun p hp => e2 p (hhm.subset hp)⟩)
      · have hlen := hhm.length_le
        by_cases h0 : l2.hm = []
        · exact .inl h0
        · have := List.length_pos_iff.2 h0
          exact .inr (.inr ⟨by rw [hsh]; exact e1, by omega, fun p hp => e3 p (hhm.subset hp)⟩)
    · exact h.excl m l' hl'
  · rw [upd_look] at hl'
    split at hl'
    · injection hl' with hl'
      subst hl'
      have h1 := h.noBoth n l hl x (hrow.subset hx)
      exact alook_none.2 fun p hp => alook_none.1 h1 p (hhm.subset hp)
    · exact h.noBoth m l' hl' x hx
  · rw [upd_look] at hl'
    by_cases hnm : n = m
    · exact absurd (by rw [hnm]) hno
    · rw [if_neg hnm] at hl'
      exact h.stuck m l' hl' (by simp)
  · cases hw : alook wm z with
    | none =>
      rw [succs_none (a := upd a n l2 wm) hw] at hc
      cases hc
    | some m =>
      by_cases hnm : n = m
      · subst hnm
        rw [succs_at (a := upd a n l2 wm) hw (by rw [upd_look, if_pos rfl])] at hc
        rw [succs_at (hws z n hw) hl]
        rcases List.mem_append.1 hc with hc | hc
        · exact List.mem_append_left _ ((hhm.map Prod.fst).subset hc)
        · exact List.mem_append_right _ (htw z (hkeep z hw) c hc)
      · obtain ⟨l', h1, h2⟩ := h.wRow z m (hws z m hw)
        rw [succs_at (a := upd a n l2 wm) hw (by rw [upd_look, if_neg hnm]; exact h1)] at hc
        rw [succs_at (hws z m hw) h1]
        exact hc
theorem wf_give {a : AT} (h : WF a) (t : Int) (n : List UInt8) : WF (giveF a t n).1 := by
  unfold giveF
  split
  · rename_i hh
    obtain ⟨l, hl, _⟩ := holdsA_some hh
    rw [lockA_some hl]
    have h1 : WFx (upd a n { l with hm := mdel l.hm t } a.wm) (some n) := wf_less h hl h.wnd (fun _ _ h => h) (.refl _) List.filter_sublist rfl (fun x hx => h.rowW n l hl x hx) (fun y hy => by
      obtain ⟨l', e1, e2⟩ := h.wRow y n hy
      rw [hl] at e1
      injection e1 with e1
      rw [e1]
      exact e2) (fun _ _ _ h => h) (fun _ _ _ h => h)
    have h2 := wf_goes l.row _ n { l with hm := mdel l.hm t } [] h1 (by rw [upd_look, if_pos rfl]) rfl
    rw [upd_upd] at h2
    exact h2
  · exact h
theorem tw_filter {t y : Int} (hy : y ≠ t) : ∀ {r : List (Int × Bool)} {c : Int}, c ∈ (tw y (r.filter (keepB t))).map Prod.fst → c ∈ (tw y r).map Prod.fst
  | [], c, h => h
  | x :: r, c, h => by
    by_cases hx : x.1 = t
    · rw [List.filter_cons_of_neg (by unfold keepB; simpa using hx)] at h
      exact tw_sub (tw_filter hy h) (fun e => hy (by rw [← e, hx]))
    · rw [List.filter_cons_of_pos (by unfold keepB; simpa using hx)] at h
      unfold tw at h ⊢
      by_cases hxy : x.1 = y
      · rw [List.takeWhile_cons_of_neg (by simpa using hxy)] at h
        cases h
      · rw [List.takeWhile_cons_of_pos (by simpa using hxy)] at h ⊢
        rw [List.map_cons] at h ⊢
        rcases List.mem_cons.1 h with rfl | h
        · simp
        · exact List.mem_cons_of_mem _ (tw_filter hy h)
theorem wf_leave1 {a : AT} (h : WF a) (t : Int) : WF (leave1 a t).1 := by
  unfold leave1
  cases hw : alook a.wm t with
  | none => exact h
  | some n =>
    obtain ⟨l, hl, x0, hx0, hx0t⟩ := h.wRow t n hw
    simp only [lockA_some hl]
    have h1 : WFx (upd a n { l with row := l.row.filter (keepB t) } (mdel a.wm t)) (some n) := wf_less h hl (mdel_nodup h.wnd) (fun y m hm => by
        rw [alook_mdel] at hm
        split at hm
        · cases hm
        · exact hm) List.filter_sublist (.refl _) rfl (fun x hx => by
        obtain ⟨hx, hk⟩ := List.mem_filter.1 hx
        rw [alook_mdel, if_neg (fun e => by unfold keepB at hk; simp only [decide_eq_true_eq] at hk; exact hk e.symm)]
        exact h.rowW n l hl x hx) (fun y hy => by
        rw [alook_mdel] at hy
        split at hy
        · cases hy
        · rename_i hty
          obtain ⟨l', e1, x, hx, e⟩ := h.wRow y n hy
          rw [hl] at e1
          injection e1 with e1
          rw [← e1] at hx
          exact ⟨x, List.mem_filter.2 ⟨hx, by unfold keepB; simp only [decide_eq_true_eq]; rw [e]; exact fun e => hty e.symm⟩, e⟩) (fun y m hm hy => by
        rw [alook_mdel, if_neg (fun e => by rw [← e, hw] at hy; exact hm (by injection hy with hy; exact hy.symm))]
        exact hy) (fun y hy c hc => by
        obtain ⟨x, hx, rfl⟩ := hy
        have hk := (List.mem_filter.1 hx).2
        unfold keepB at hk
        exact tw_filter (by simpa using hk) hc)
    have h2 := wf_goes _ _ n { l with row := l.row.filter (keepB t) } [] h1 (by rw [upd_look, if_pos rfl]) rfl
    rw [upd_upd] at h2
    exact h2
theorem wf_step {t : Int} {s : AT × List Int} {n : List UInt8} (h : WF s.1) : WF (leaveStep t s n).1 := by
  unfold leaveStep
  split
  · exact wf_give h t n
  · exact h
theorem wf_fold {t : Int} : ∀ (ns : List (List UInt8)) (s : AT × List Int), WF s.1 → WF (ns.foldl (leaveStep t) s).1
  | [], s, h => h
  | n :: ns, s, h => wf_fold ns _ (wf_step h)
theorem wf_leave {a : AT} (h : WF a) (t : Int) : WF (leaveF a t).1 := wf_fold _ _ (wf_leave1 h t)
end Go.Proofs.Ytlgfpoelhjlifaa
