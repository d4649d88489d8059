/- Locks without memory: what always holds of them. -/
import Derived.Test.YtlgfpoelhjlifaaLk7
namespace Go.Proofs.Ytlgfpoelhjlifaa
open Go Go.Sx
set_option linter.unusedVariables false
theorem reach_mono {a a' : AT} (h : ∀ t c, c ∈ succs a' t → c ∈ succs a t) {x y : Int} (hr : Reach a' x y) : Reach a x y := by
  induction hr with
  | one h1 => exact .one (h _ _ h1)
  | more h1 _ ih => exact .more (h _ _ h1) ih
theorem Reach.trans {a : AT} {x y z : Int} (h : Reach a x y) (h2 : Reach a y z) : Reach a x z := by
  induction h with
  | one h1 => exact .more h1 h2
  | more h1 _ ih => exact .more h1 (ih h2)
section
variable {κ α : Type} [DecidableEq κ]
theorem aset_keys (m : List (κ × α)) (k : κ) (v : α) : (aset m k v).map Prod.fst = if (alook m k).isSome then m.map Prod.fst else m.map Prod.fst ++ [k] := by
  unfold aset
  split
  · rw [List.map_map]
    refine List.map_congr_left fun p _ => ?_
    simp only [Function.comp]
    split <;> rfl
  · simp
theorem aset_nodup {m : List (κ × α)} {k : κ} {v : α} (h : (m.map Prod.fst).Nodup) : ((aset m k v).map Prod.fst).Nodup := by
  rw [aset_keys]
  split
  · exact h
  · rename_i hn
    rw [List.nodup_append]
    refine ⟨h, by simp, fun a ha b hb e => hn ?_⟩
    rw [List.mem_singleton] at hb
    subst hb e
    obtain ⟨q, hq, rfl⟩ := List.mem_map.1 ha
    cases hx : alook m q.1 with
    | none => exact absurd rfl (alook_none.1 hx q hq)
    | some v => rfl
theorem mdel_nodup {m : List (κ × α)} {k : κ} (h : (m.map Prod.fst).Nodup) : ((mdel m k).map Prod.fst).Nodup :=
  h.sublist (List.Sublist.map _ List.filter_sublist)
end
/-- what always holds; at a lock n whose row may go on, all but that -/
structure WFx (a : AT) (no : Option (List UInt8)) : Prop where
  nd : (a.lm.map Prod.fst).Nodup
  wnd : (a.wm.map Prod.fst).Nodup
  rowW : ∀ n l, alook a.lm n = some l → ∀ x ∈ l.row, alook a.wm x.1 = some n
  wRow : ∀ t n, alook a.wm t = some n → ∃ l, alook a.lm n = some l ∧ ∃ x ∈ l.row, x.1 = t
  rowNd : ∀ n l, alook a.lm n = some l → (l.row.map Prod.fst).Nodup
  hmNd : ∀ n l, alook a.lm n = some l → (l.hm.map Prod.fst).Nodup
  excl : ∀ n l, alook a.lm n = some l → l.hm = [] ∨ (l.sh = true ∧ ∀ p ∈ l.hm, p.2 = true) ∨ (l.sh = false ∧ l.hm.length = 1 ∧ ∀ p ∈ l.hm, p.2 = false)
  noBoth : ∀ n l, alook a.lm n = some l → ∀ x ∈ l.row, alook l.hm x.1 = none
  stuck : ∀ n l, alook a.lm n = some l → no ≠ some n → ∀ x r, l.row = x :: r → (l.hm.isEmpty || (l.sh && x.2)) = false
  acyc : ∀ t, ¬ Reach a t t
abbrev WF (a : AT) : Prop := WFx a none
theorem wf_nil : WF ⟨[], []⟩ := by
  refine ⟨by simp, by simp, fun n l h => by simp [alook] at h, fun t n h => by simp [alook] at h, fun n l h => by simp [alook] at h, fun n l h => by simp [alook] at h, fun n l h => by simp [alook] at h, fun n l h => by simp [alook] at h, fun n l h => by simp [alook] at h, fun t h => ?_⟩
  have hs : ∀ t, succs ⟨[], []⟩ t = [] := fun t => rfl
  cases h with
  | one h => rw [hs] at h; cases h
  | more h _ => rw [hs] at h; cases h
theorem WFx.weak {a : AT} {n : List UInt8} (h : WF a) : WFx a (some n) := ⟨h.nd, h.wnd, h.rowW, h.wRow, h.rowNd, h.hmNd, h.excl, h.noBoth, fun m l hl _ => h.stuck m l hl (by simp), h.acyc⟩
/-- one lock turned, and who waits -/
def upd (a : AT) (n : List UInt8) (l : AL) (wm : List (Int × List UInt8)) : AT := { lm := aset a.lm n l, wm := wm }
theorem upd_look (a : AT) (n : List UInt8) (l : AL) (wm : List (Int × List UInt8)) (m : List UInt8) : alook (upd a n l wm).lm m = if n = m then some l else alook a.lm m := alook_aset _ _ _ _
theorem tw_sub {y : Int} {x : Int × Bool} {r : List (Int × Bool)} {c : Int} (h : c ∈ (tw y r).map Prod.fst) (hy : x.1 ≠ y) : c ∈ (tw y (x :: r)).map Prod.fst := by
  unfold tw at *
  rw [List.takeWhile_cons_of_pos (by simpa using hy)]
  exact List.mem_cons_of_mem _ h
theorem mem_keys_aset {m : List (Int × Bool)} {k c : Int} {v : Bool} (h : c ∈ (aset m k v).map Prod.fst) : c = k ∨ c ∈ m.map Prod.fst := by
  rw [aset_keys] at h
  split at h
  · exact .inr h
  · rcases List.mem_append.1 h with h | h
    · exact .inr h
    · exact .inl (List.mem_singleton.1 h)
theorem succs_at {a : AT} {t : Int} {n : List UInt8} {l : AL} (hw : alook a.wm t = some n) (hl : alook a.lm n = some l) : succs a t = l.hm.map Prod.fst ++ (tw t l.row).map Prod.fst := by
  unfold succs
  simp only [hw, hl]
theorem succs_none {a : AT} {t : Int} (hw : alook a.wm t = none) : succs a t = [] := by
  unfold succs
  simp only [hw]
theorem tw_mem {t : Int} {r : List (Int × Bool)} {c : Int} (h : c ∈ (tw t r).map Prod.fst) : c ∈ r.map Prod.fst := by
  obtain ⟨x, hx, rfl⟩ := List.mem_map.1 h
  exact List.mem_map.2 ⟨x, (List.takeWhile_sublist _).subset hx, rfl⟩
/-- the first of a row goes on -/
theorem wf_go {a : AT} {n : List UInt8} {l : AL} {x : Int × Bool} {r : List (Int × Bool)} (h : WFx a (some n)) (hl : alook a.lm n = some l) (hr : l.row = x :: r) (hg : (l.hm.isEmpty || (l.sh && x.2)) = true) :
    WFx (upd a n ⟨aset l.hm x.1 x.2, r, x.2⟩ (mdel a.wm x.1)) (some n) := by
  have hrn := h.rowNd n l hl
  rw [hr, List.map_cons, List.nodup_cons] at hrn
  have hxw := h.rowW n l hl x (by rw [hr]; simp)
  have hxh := h.noBoth n l hl x (by rw [hr]; simp)
  have hne : ∀ y ∈ r, x.1 ≠ y.1 := fun y hy e => hrn.1 (by rw [e]; exact List.mem_map.2 ⟨y, hy, rfl⟩)
  refine ⟨aset_nodup h.nd, mdel_nodup h.wnd, fun m l' hl' y hy => ?_, fun t m hm => ?_, fun m l' hl' => ?_, fun m l' hl' => ?_, fun m l' hl' => ?_, fun m l' hl' y hy => ?_, fun m l' hl' hno y s hs => ?_, fun t ht => ?_⟩
  · show alook (mdel a.wm x.1) y.1 = some m
    rw [alook_mdel]
    rw [upd_look] at hl'
    by_cases hnm : n = m
    · rw [if_pos hnm] at hl'
      injection hl' with hl'
      subst hl' hnm
      rw [if_neg (hne y hy)]
      exact h.rowW n l hl y (by rw [hr]; exact List.mem_cons_of_mem _ hy)
    · rw [if_neg hnm] at hl'
      have := h.rowW m l' hl' y hy
      rw [if_neg (fun e => by rw [← e, hxw] at this; exact hnm (by injection this))]
      exact this
  · have hm' : alook (mdel a.wm x.1) t = some m := hm
    rw [alook_mdel] at hm'
    split at hm'
    · cases hm'
    · rename_i hxt
      obtain ⟨l', h1, y, h2, h3⟩ := h.wRow t m hm'
      by_cases hnm : n = m
      · subst hnm
        rw [hl] at h1
        injection h1 with h1
        subst h1
        refine ⟨_, by rw [upd_look, if_pos rfl], ?_⟩
        rw [hr] at h2
        rcases List.mem_cons.1 h2 with rfl | h2
        · exact absurd h3 hxt
        · exact ⟨y, h2, h3⟩
      · exact ⟨l', by rw [upd_look, if_neg hnm]; exact h1, y, h2, h3⟩
  · rw [upd_look] at hl'
    split at hl'
    · injection hl' with hl'
      subst hl'
      exact hrn.2
    · exact h.rowNd m l' hl'
  · rw [upd_look] at hl'
    split at hl'
    · injection hl' with hl'
      subst hl'
      exact aset_nodup (h.hmNd n l hl)
    · exact h.hmNd m l' hl'
  · rw [upd_look] at hl'
    split at hl'
    · injection hl' with hl'
      subst hl'
      right
      have hx2 : ∀ hm, alook hm x.1 = none → aset hm x.1 x.2 = hm ++ [x] := fun hm e => by unfold aset; rw [e]; rfl
      rw [hx2 _ hxh]
      simp only [Bool.or_eq_true, Bool.and_eq_true] at hg
      by_cases hem : l.hm = []
      · rw [hem]
        cases hb : x.2
        · exact .inr ⟨rfl, rfl, fun p hp => by simp at hp; rw [hp, hb]⟩
        · exact .inl ⟨rfl, fun p hp => by simp at hp; rw [hp, hb]⟩
      · rcases hg with hg | hg
        · exact absurd (List.isEmpty_iff.1 hg) hem
        · rcases h.excl n l hl with e | ⟨_, e⟩ | ⟨e, _⟩
          · exact absurd e hem
          · refine .inl ⟨hg.2, fun p hp => ?_⟩
            rcases List.mem_append.1 hp with hp | hp
            · exact e p hp
            · rw [List.mem_singleton] at hp
              rw [hp]
              exact hg.2
          · rw [hg.1] at e
            cases e
    · exact h.excl m l' hl'
  · rw [upd_look] at hl'
    split at hl'
    · injection hl' with hl'
      subst hl'
      rw [alook_aset, if_neg (hne y hy)]
      exact h.noBoth n l hl y (by rw [hr]; exact List.mem_cons_of_mem _ hy)
    · exact h.noBoth m l' hl' y hy
  · rw [upd_look] at hl'
    by_cases hnm : n = m
    · exact absurd (by rw [hnm]) hno
    · rw [if_neg hnm] at hl'
      exact h.stuck m l' hl' hno y s hs
  · refine h.acyc t (reach_mono (fun y c hc => ?_) ht)
    cases hw : alook a.wm y with
    | none =>
      rw [succs_none (a := upd a n ⟨aset l.hm x.1 x.2, r, x.2⟩ (mdel a.wm x.1)) (by show alook (mdel a.wm x.1) y = none; rw [alook_mdel, hw]; split <;> rfl)] at hc
      cases hc
    | some m =>
      by_cases hxy : x.1 = y
      · rw [succs_none (a := upd a n ⟨aset l.hm x.1 x.2, r, x.2⟩ (mdel a.wm x.1)) (by show alook (mdel a.wm x.1) y = none; rw [alook_mdel, if_pos hxy])] at hc
        cases hc
      · have hw' : alook (upd a n ⟨aset l.hm x.1 x.2, r, x.2⟩ (mdel a.wm x.1)).wm y = some m := by
          show alook (mdel a.wm x.1) y = some m
          rw [alook_mdel, if_neg hxy]
          exact hw
        by_cases hnm : n = m
        · subst hnm
          rw [succs_at hw' (by rw [upd_look, if_pos rfl])] at hc
          rw [succs_at hw hl, hr]
          rcases List.mem_append.1 hc with hc | hc
          · rcases mem_keys_aset hc with rfl | hc
            · refine List.mem_append_right _ ?_
              unfold tw
              rw [List.takeWhile_cons_of_pos (by simpa using hxy)]
              simp
            · exact List.mem_append_left _ hc
          · exact List.mem_append_right _ (tw_sub hc hxy)
        · cases hlm : alook a.lm m with
          | none =>
            obtain ⟨l', h1, _⟩ := h.wRow y m hw
            rw [h1] at hlm
            cases hlm
          | some l' =>
            rw [succs_at hw' (by rw [upd_look, if_neg hnm]; exact hlm)] at hc
            rw [succs_at hw hlm]
            exact hc
theorem upd_upd (a : AT) (n : List UInt8) (l l' : AL) (wm wm' : List (Int × List UInt8)) : upd (upd a n l wm) n l' wm' = upd a n l' wm' := by
  unfold upd
  simp only [aset_aset]
/-- a row goes on as far as it can -/
theorem wf_goes : ∀ (row : List (Int × Bool)) (a : AT) (n : List UInt8) (l : AL) (out : List Int), WFx a (some n) → alook a.lm n = some l → l.row = row →
    WF (upd a n ⟨(goesF row l.hm l.sh a.wm out).1, (goesF row l.hm l.sh a.wm out).2.1, (goesF row l.hm l.sh a.wm out).2.2.1⟩ (goesF row l.hm l.sh a.wm out).2.2.2.1)
  | [], a, n, l, out, h, hl, hr => by
    have e : upd a n ⟨l.hm, [], l.sh⟩ a.wm = upd a n l a.wm := by
      obtain ⟨hm, row, sh⟩ := l
      simp only at hr
      subst hr
      rfl
    show WF (upd a n ⟨l.hm, [], l.sh⟩ a.wm)
    rw [e]
    exact same h hl fun x r e => by rw [hr] at e; cases e
  | x :: r, a, n, l, out, h, hl, hr => by
    unfold goesF
    cases hg : (l.hm.isEmpty || (l.sh && x.2)) with
    | true =>
      simp only [if_true]
      have h1 := wf_go h hl hr hg
      have h2 := wf_goes r (upd a n ⟨aset l.hm x.1 x.2, r, x.2⟩ (mdel a.wm x.1)) n ⟨aset l.hm x.1 x.2, r, x.2⟩ (out ++ [x.1]) h1 (by rw [upd_look, if_pos rfl]) rfl
      rw [upd_upd] at h2
      exact h2
    | false =>
      simp only [Bool.false_eq_true, if_false]
      have e : upd a n ⟨l.hm, x :: r, l.sh⟩ a.wm = upd a n l a.wm := by rw [← hr]
      rw [e]
      exact same h hl fun y s e2 => by
        rw [hr] at e2
        injection e2 with e3 e4
        rw [← e3]
        exact hg
where
  same {a : AT} {n : List UInt8} {l : AL} (h : WFx a (some n)) (hl : alook a.lm n = some l) (hs : ∀ x r, l.row = x :: r → (l.hm.isEmpty || (l.sh && x.2)) = false) : WF (upd a n l a.wm) := by
    have look : ∀ m, alook (upd a n l a.wm).lm m = alook a.lm m := fun m => by
      rw [upd_look]
      split
      · rename_i e; rw [← e, hl]
      · rfl
    have hsucc : ∀ t, succs (upd a n l a.wm) t = succs a t := fun t => by
      unfold succs
      simp only [look]
      rfl
    refine ⟨aset_nodup h.nd, h.wnd, fun m l' hl' => h.rowW m l' (by rw [← look]; exact hl'), fun t m hm => ?_, fun m l' hl' => h.rowNd m l' (by rw [← look]; exact hl'), fun m l' hl' => h.hmNd m l' (by rw [← look]; exact hl'), fun m l' hl' => h.excl m l' (by rw [← look]; exact hl'), fun m l' hl' => h.noBoth m l' (by rw [← look]; exact hl'), fun m l' hl' _ => ?_, fun t ht => h.acyc t (reach_mono (fun y c hc => by rw [← hsucc]; exact hc) ht)⟩
    · obtain ⟨l', h1, h2⟩ := h.wRow t m hm
      exact ⟨l', by rw [look]; exact h1, h2⟩
    · rw [look] at hl'
      by_cases hnm : n = m
      · subst hnm
        rw [hl] at hl'
        injection hl' with hl'
        subst hl'
        exact hs
      · exact h.stuck m l' hl' (by simpa using hnm)
end Go.Proofs.Ytlgfpoelhjlifaa
