/- Locks by names: what the program keeps, and what the document keeps, say the same. -/
import Derived.Test.YtlgfpoelhjlifaaRk7
import Derived.Test.YtlgfpoelhjlifaaWf12d
namespace Go.Proofs.Ytlgfpoelhjlifaa
open Go Go.Sx
set_option maxRecDepth 100000
set_option linter.unusedVariables false
set_option linter.unusedSimpArgs false
def lkE (es : List RE) (n : List UInt8) : RE := (findNE es n).getD (E0 n)
def vw (n : List UInt8) (l : AL) : RE := ⟨n, l.hm.map Prod.fst, l.row, l.sh⟩
structure Rel (a : AT) (es : List RE) : Prop where
  rise : RiseE es
  lk : ∀ n, lkE es n = vw n (lockA a n)
  names : ∀ e ∈ es, e.name ∈ a.lm.map Prod.fst
theorem rel_nil : Rel ⟨[], []⟩ [] := ⟨List.Pairwise.nil, fun n => rfl, fun e h => by cases h⟩
theorem findNE_cons (x : RE) (es : List RE) (n : List UInt8) : findNE (x :: es) n = if x.name = n then some x else findNE es n := by
  unfold findNE
  rw [List.find?_cons]
  by_cases h : x.name = n
  · simp [h]
  · rw [if_neg h, show (x.name == n) = false by simpa using h]
theorem findNE_app (a b : List RE) (n : List UInt8) : findNE (a ++ b) n = (findNE a n).or (findNE b n) := List.find?_append
theorem findNE_some {es : List RE} {n : List UInt8} {e : RE} (h : findNE es n = some e) : e ∈ es ∧ e.name = n := ⟨List.mem_of_find?_eq_some h, by simpa using List.find?_some h⟩
theorem find_set (es : List RE) (e : RE) (m : List UInt8) : findNE (setE es e) m = if m = e.name then (findNE es m).map (fun _ => e) else findNE es m := by
  induction es with
  | nil => simp [findNE, setE]
  | cons x es ih =>
    have e1 : setE (x :: es) e = (if x.name = e.name then e else x) :: setE es e := rfl
    rw [e1, findNE_cons, findNE_cons, ih]
    by_cases hx : x.name = e.name
    · rw [if_pos hx, hx]
      by_cases hm : m = e.name
      · rw [if_pos hm, if_pos hm.symm, if_pos hm, if_pos hm.symm]
        rfl
      · rw [if_neg (fun h => hm h.symm), if_neg hm, if_neg hm, if_neg (fun h => hm h.symm)]
    · rw [if_neg hx]
      by_cases hm : x.name = m
      · rw [if_pos hm, if_pos hm, if_neg (fun h => hx (hm.trans h))]
      · rw [if_neg hm, if_neg hm]
theorem ensure_none {es : List RE} {n : List UInt8} (h : findNE es n = none) : lockE es n = E0 n ∧ ensureE es n = es.takeWhile (lessN n) ++ E0 n :: es.dropWhile (lessN n) := by
  have hno : ∀ x ∈ es, x.name ≠ n := fun x hx e => by
    have := List.find?_eq_none.1 h x hx
    simp [e] at this
  unfold lockE ensureE
  cases hd : es.dropWhile (lessN n) with
  | nil => exact ⟨rfl, rfl⟩
  | cons x r =>
    have hx : x ∈ es := (List.dropWhile_sublist (lessN n)).subset (by rw [hd]; simp)
    simp only
    rw [if_neg (hno x hx), if_neg (hno x hx)]
    exact ⟨rfl, rfl⟩
theorem lockE_eq {es : List RE} (hr : RiseE es) (n : List UInt8) : lockE es n = lkE es n := by
  unfold lkE
  cases h : findNE es n with
  | none => exact (ensure_none h).1
  | some e =>
    obtain ⟨he, rfl⟩ := findNE_some h
    exact (rise_find hr he).1
theorem find_ensure {es : List RE} (hr : RiseE es) (n m : List UInt8) : findNE (ensureE es n) m = if m = n then some (lkE es n) else findNE es m := by
  cases h : findNE es n with
  | some e =>
    obtain ⟨he, rfl⟩ := findNE_some h
    rw [(rise_find hr he).2.1]
    by_cases hm : m = e.name
    · rw [if_pos hm, hm, h]
      unfold lkE
      rw [h]
      rfl
    · rw [if_neg hm]
  | none =>
    rw [(ensure_none h).2, findNE_app, findNE_cons]
    have hs := drop_split (es := es) (n := n)
    by_cases hm : m = n
    · rw [if_pos hm, if_pos hm.symm, hm]
      have h1 := h
      rw [← hs, findNE_app] at h1
      rw [(Option.or_eq_none_iff.1 h1).1]
      unfold lkE
      rw [h]
      rfl
    · rw [if_neg hm, if_neg (fun h => hm h.symm), ← findNE_app, hs]
theorem lkE_put {es : List RE} (hr : RiseE es) {n : List UInt8} {e : RE} (hn : e.name = n) (m : List UInt8) : lkE (setE (ensureE es n) e) m = if m = n then e else lkE es m := by
  unfold lkE
  rw [find_set, find_ensure hr, hn]
  by_cases hm : m = n
  · rw [if_pos hm, if_pos hm, if_pos hm]
    rfl
  · rw [if_neg hm, if_neg hm, if_neg hm]
theorem lkE_set {es : List RE} {n : List UInt8} {e e0 : RE} (h : findNE es n = some e0) (hn : e.name = n) (m : List UInt8) : lkE (setE es e) m = if m = n then e else lkE es m := by
  unfold lkE
  rw [find_set, hn]
  by_cases hm : m = n
  · rw [if_pos hm, if_pos hm, hm, h]
    rfl
  · rw [if_neg hm, if_neg hm]
theorem lkE_ens {es : List RE} (hr : RiseE es) (n m : List UInt8) : lkE (ensureE es n) m = lkE es m := by
  unfold lkE
  rw [find_ensure hr]
  by_cases hm : m = n
  · rw [if_pos hm, hm]
    rfl
  · rw [if_neg hm]
theorem names_ens {es : List RE} {n : List UInt8} {e : RE} (hr : RiseE es) (h : e ∈ ensureE es n) : e.name = n ∨ e ∈ es := by
  cases hf : findNE es n with
  | some e0 =>
    obtain ⟨he, rfl⟩ := findNE_some hf
    rw [(rise_find hr he).2.1] at h
    exact .inr h
  | none =>
    rw [(ensure_none hf).2] at h
    rcases List.mem_append.1 h with h | h
    · exact .inr ((List.takeWhile_sublist _).subset h)
    · rcases List.mem_cons.1 h with rfl | h
      · exact .inl rfl
      · exact .inr ((List.dropWhile_sublist _).subset h)
theorem lockA_aset (lm : List (List UInt8 × AL)) (wm : List (Int × List UInt8)) (n m : List UInt8) (l : AL) : lockA ⟨aset lm n l, wm⟩ m = if m = n then l else lockA ⟨lm, wm⟩ m := by
  unfold lockA
  show (alook (aset lm n l) m).getD AL0 = _
  rw [alook_aset]
  by_cases hm : m = n
  · rw [if_pos hm.symm, if_pos hm]
    rfl
  · rw [if_neg (fun h => hm h.symm), if_neg hm]
theorem lockA_ens (a : AT) (n m : List UInt8) (wm : List (Int × List UInt8)) : lockA ⟨(ensure a n).lm, wm⟩ m = lockA a m := by
  unfold lockA
  show (alook (ensure a n).lm m).getD AL0 = _
  rw [ens_look]
  by_cases hm : n = m
  · rw [if_pos hm, hm]
    rfl
  · rw [if_neg hm]
theorem keys_aset {lm : List (List UInt8 × AL)} {n m : List UInt8} {l : AL} (h : m ∈ lm.map Prod.fst ∨ m = n) : m ∈ (aset lm n l).map Prod.fst := by
  rw [aset_keys]
  cases hx : (alook lm n).isSome with
  | true =>
    rw [if_pos rfl]
    rcases h with h | rfl
    · exact h
    · obtain ⟨v, hv⟩ := Option.isSome_iff_exists.1 hx
      exact List.mem_map.2 ⟨_, alook_mem hv, rfl⟩
  | false =>
    rw [if_neg (by decide)]
    rcases h with h | rfl
    · exact List.mem_append_left _ h
    · simp
theorem keys_ens {a : AT} {n m : List UInt8} (h : m ∈ a.lm.map Prod.fst ∨ m = n) : m ∈ (ensure a n).lm.map Prod.fst := by
  have h2 : (alook (ensure a n).lm m).isSome = true := by
    rw [ens_look]
    by_cases hm : n = m
    · rw [if_pos hm]
      rfl
    · rw [if_neg hm]
      rcases h with h | h
      · cases hx : alook a.lm m with
        | some v => rfl
        | none =>
          obtain ⟨q, hq, e⟩ := List.mem_map.1 h
          exact absurd e (alook_none.1 hx q hq)
      · exact absurd h.symm hm
  obtain ⟨v, hv⟩ := Option.isSome_iff_exists.1 h2
  exact List.mem_map.2 ⟨_, alook_mem hv, rfl⟩
/-- one lock turned, that may be new -/
theorem rel_put {a : AT} {es : List RE} (h : Rel a es) (n : List UInt8) (l : AL) (wm : List (Int × List UInt8)) : Rel ⟨aset (ensure a n).lm n l, wm⟩ (setE (ensureE es n) (vw n l)) := by
  refine ⟨rise_set (rise_ensure h.rise n) _, fun m => ?_, fun e he => ?_⟩
  · rw [lkE_put h.rise (n := n) (e := vw n l) rfl, lockA_aset]
    by_cases hm : m = n
    · rw [if_pos hm, if_pos hm, hm]
    · rw [if_neg hm, if_neg hm, lockA_ens, h.lk]
  · have h1 : e.name ∈ (setE (ensureE es n) (vw n l)).map RE.name := List.mem_map.2 ⟨e, he, rfl⟩
    rw [names_set] at h1
    obtain ⟨e', he', e2⟩ := List.mem_map.1 h1
    refine keys_aset ?_
    rw [← e2]
    rcases names_ens h.rise he' with h2 | h2
    · exact .inr h2
    · exact .inl (keys_ens (.inl (h.names _ h2)))
/-- one lock turned, that is there -/
theorem rel_set {a : AT} {es : List RE} (h : Rel a es) {n : List UInt8} {e0 : RE} (hf : findNE es n = some e0) (l : AL) (wm : List (Int × List UInt8)) : Rel ⟨aset a.lm n l, wm⟩ (setE es (vw n l)) := by
  refine ⟨rise_set h.rise _, fun m => ?_, fun e he => ?_⟩
  · rw [lkE_set hf (e := vw n l) rfl, lockA_aset]
    by_cases hm : m = n
    · rw [if_pos hm, if_pos hm, hm]
    · rw [if_neg hm, if_neg hm, h.lk]
      rfl
  · have h1 : e.name ∈ (setE es (vw n l)).map RE.name := List.mem_map.2 ⟨e, he, rfl⟩
    rw [names_set] at h1
    obtain ⟨e', he', e2⟩ := List.mem_map.1 h1
    refine keys_aset (.inl ?_)
    rw [← e2]
    exact h.names _ he'
theorem rel_ens {a : AT} {es : List RE} (h : Rel a es) (n : List UInt8) : Rel (ensure a n) es :=
  ⟨h.rise, fun m => by rw [h.lk, show lockA (ensure a n) m = lockA a m from lockA_ens a n m _], fun e he => keys_ens (.inl (h.names e he))⟩
/-- who holds -/
theorem rel_holds {a : AT} {es : List RE} (h : Rel a es) (t : Int) (n : List UInt8) : holdsE es t n = holdsA a n t := by
  have h1 : holdsE es t n = hasI (lkE es n).holds t := by
    unfold holdsE lkE
    cases findNE es n <;> rfl
  have h2 : holdsA a n t = (alook (lockA a n).hm t).isSome := by
    unfold holdsA lockA
    cases alook a.lm n <;> rfl
  rw [h1, h2, h.lk]
  show hasI ((lockA a n).hm.map Prod.fst) t = _
  cases hx : alook (lockA a n).hm t with
  | none =>
    cases hy : hasI ((lockA a n).hm.map Prod.fst) t with
    | false => rfl
    | true =>
      obtain ⟨q, hq, e⟩ := List.mem_map.1 (hasI_iff.1 hy)
      exact absurd e (alook_none.1 hx q hq)
  | some v =>
    exact hasI_iff.2 (List.mem_map.2 ⟨_, alook_mem hx, rfl⟩)
/-- rows and who waits agree -/
structure RW (a : AT) : Prop where
  rowW : ∀ n l, alook a.lm n = some l → ∀ x ∈ l.row, alook a.wm x.1 = some n
  wRow : ∀ t n, alook a.wm t = some n → ∃ l, alook a.lm n = some l ∧ ∃ x ∈ l.row, x.1 = t
theorem findWE_some {es : List RE} {t : Int} {e : RE} (h : findWE es t = some e) : e ∈ es ∧ ∃ x ∈ e.row, x.1 = t := by
  refine ⟨List.mem_of_find?_eq_some h, ?_⟩
  have h1 := List.find?_some h
  rw [List.any_eq_true] at h1
  obtain ⟨x, hx, e2⟩ := h1
  exact ⟨x, hx, by simpa using e2⟩
theorem lkE_mem {es : List RE} (hr : RiseE es) {e : RE} (he : e ∈ es) : lkE es e.name = e := by
  unfold lkE
  rw [(rise_find hr he).2.2]
  rfl
theorem rel_row {a : AT} {es : List RE} (h : Rel a es) {e : RE} (he : e ∈ es) {x : Int × Bool} (hx : x ∈ e.row) : ∃ l, alook a.lm e.name = some l ∧ e = vw e.name l := by
  have h1 := h.lk e.name
  rw [lkE_mem h.rise he] at h1
  cases hl : alook a.lm e.name with
  | some l =>
    rw [lockA_some hl] at h1
    exact ⟨l, rfl, h1⟩
  | none =>
    rw [lockA_none hl] at h1
    rw [h1] at hx
    cases hx
theorem rel_waits {a : AT} {es : List RE} (h : Rel a es) (hw : RW a) (t : Int) : (findWE es t).map RE.name = alook a.wm t := by
  cases hf : findWE es t with
  | some e =>
    obtain ⟨he, x, hx, e2⟩ := findWE_some hf
    obtain ⟨l, hl, e3⟩ := rel_row h he hx
    have hx2 : x ∈ l.row := by
      rw [e3] at hx
      exact hx
    rw [← e2, hw.rowW _ _ hl x hx2]
    rfl
  | none =>
    cases hx : alook a.wm t with
    | none => rfl
    | some n =>
      obtain ⟨l, hl, x, hx2, e2⟩ := hw.wRow t n hx
      have h1 := h.lk n
      rw [lockA_some hl] at h1
      cases hfn : findNE es n with
      | none =>
        unfold lkE at h1
        rw [hfn] at h1
        have h2 : ([] : List (Int × Bool)) = l.row := congrArg RE.row h1
        rw [← h2] at hx2
        cases hx2
      | some e =>
        unfold lkE at h1
        rw [hfn] at h1
        have h2 : e.row = l.row := congrArg RE.row h1
        have h3 := List.find?_eq_none.1 hf e (findNE_some hfn).1
        refine absurd ?_ h3
        rw [List.any_eq_true]
        exact ⟨x, by rw [h2]; exact hx2, by simpa using e2⟩
theorem rel_needs {a : AT} {es : List RE} (h : Rel a es) (hw : RW a) (t : Int) : needsE es t = succs a t := by
  have h1 := rel_waits h hw t
  unfold needsE
  cases hf : findWE es t with
  | none =>
    rw [hf] at h1
    exact (succs_none h1.symm).symm
  | some e =>
    rw [hf] at h1
    obtain ⟨he, x, hx, e2⟩ := findWE_some hf
    obtain ⟨l, hl, e3⟩ := rel_row h he hx
    rw [succs_at h1.symm hl, e3]
    rfl
theorem rel_reach {a : AT} {es : List RE} (h : Rel a es) (hw : RW a) (x y : Int) : EReach es x y ↔ Reach a x y := by
  constructor
  · intro hr
    induction hr with
    | one h1 => rw [rel_needs h hw] at h1; exact .one h1
    | more h1 _ ih => rw [rel_needs h hw] at h1; exact .more h1 ih
  · intro hr
    induction hr with
    | one h1 => rw [← rel_needs h hw] at h1; exact .one h1
    | more h1 _ ih => rw [← rel_needs h hw] at h1; exact .more h1 ih
theorem rw_of {a : AT} {o : Option (List UInt8)} (h : WFx a o) : RW a := ⟨h.rowW, h.wRow⟩
/-- a row goes on: the same -/
theorem goes_rel : ∀ (row hm : List (Int × Bool)) (sh : Bool) (wm : List (Int × List UInt8)) (out : List Int), (row.map Prod.fst).Nodup → (∀ x ∈ row, alook hm x.1 = none) →
    goesH row (hm.map Prod.fst) sh out = ((goesF row hm sh wm out).1.map Prod.fst, (goesF row hm sh wm out).2.1, (goesF row hm sh wm out).2.2.1, (goesF row hm sh wm out).2.2.2.2)
  | [], hm, sh, wm, out, _, _ => rfl
  | x :: r, hm, sh, wm, out, hnd, hno => by
    have he : (hm.map Prod.fst).isEmpty = hm.isEmpty := by cases hm <;> rfl
    cases hg : (hm.isEmpty || (sh && x.2)) with
    | false =>
      rw [goes_miss hg, goesH_miss (by rw [he]; exact hg)]
    | true =>
      rw [goes_hit hg, goesH_hit (by rw [he]; exact hg)]
      have hx := hno x (by simp)
      have hk : (aset hm x.1 x.2).map Prod.fst = hm.map Prod.fst ++ [x.1] := by
        rw [aset_keys, hx]
        rfl
      rw [← hk]
      rw [List.map_cons, List.nodup_cons] at hnd
      refine goes_rel r _ _ _ _ hnd.2 fun y hy => ?_
      rw [alook_aset, if_neg (fun e => hnd.1 (by rw [e]; exact List.mem_map.2 ⟨y, hy, rfl⟩))]
      exact hno y (List.mem_cons_of_mem _ hy)

theorem mdel_keys (hm : List (Int × Bool)) (t : Int) : (mdel hm t).map Prod.fst = outs t (hm.map Prod.fst) := by
  unfold mdel outs
  rw [List.filter_map]
  congr 1
/-- Give: the same -/
theorem rel_give {a : AT} {es : List RE} (h : Rel a es) (hw : WF a) (t : Int) (n : List UInt8) : (giveE es t n).2 = (giveF a t n).2 ∧ Rel (giveF a t n).1 (giveE es t n).1 := by
  unfold giveE giveF
  rw [rel_holds h]
  cases hh : holdsA a n t with
  | false => exact ⟨rfl, h⟩
  | true =>
    rw [if_pos rfl, if_pos rfl]
    obtain ⟨l, hl, hls⟩ := holdsA_some hh
    have hE : lockE es n = vw n l := by rw [lockE_eq h.rise, h.lk, lockA_some hl]
    obtain ⟨e0, he0⟩ : ∃ e0, findNE es n = some e0 := by
      cases hx : findNE es n with
      | some e0 => exact ⟨e0, rfl⟩
      | none =>
        have h1 := h.lk n
        unfold lkE at h1
        rw [hx, lockA_some hl] at h1
        have h2 : ([] : List Int) = l.hm.map Prod.fst := congrArg RE.holds h1
        obtain ⟨v, hv⟩ := Option.isSome_iff_exists.1 hls
        have h3 : t ∈ l.hm.map Prod.fst := List.mem_map.2 ⟨_, alook_mem hv, rfl⟩
        rw [← h2] at h3
        cases h3
    have hens : ensureE es n = es := by
      obtain ⟨he, e2⟩ := findNE_some he0
      rw [← e2]
      exact (rise_find h.rise he).2.1
    have hg := goes_rel l.row (mdel l.hm t) l.sh a.wm [] (hw.rowNd n l hl) (fun x hx => by
      rw [alook_mdel]
      split
      · rfl
      · exact hw.noBoth n l hl x hx)
    rw [mdel_keys] at hg
    rw [hE, lockA_some hl, hens]
    show ((goesH l.row (outs t (l.hm.map Prod.fst)) l.sh []).2.2.2, (0 : Int)) = _ ∧ Rel _ (setE es ⟨n, (goesH l.row (outs t (l.hm.map Prod.fst)) l.sh []).1, (goesH l.row (outs t (l.hm.map Prod.fst)) l.sh []).2.1, (goesH l.row (outs t (l.hm.map Prod.fst)) l.sh []).2.2.1⟩)
    rw [hg]
    exact ⟨rfl, rel_set h he0 ⟨(goesF l.row (mdel l.hm t) l.sh a.wm []).1, (goesF l.row (mdel l.hm t) l.sh a.wm []).2.1, (goesF l.row (mdel l.hm t) l.sh a.wm []).2.2.1⟩ _⟩
theorem rel_step {t : Int} {a : AT} {es : List RE} {out : List Int} {n : List UInt8} (h : Rel a es) (hw : WF a) : Rel (leaveStep t (a, out) n).1 (leaveStepE t (es, out) n).1 ∧ (leaveStepE t (es, out) n).2 = (leaveStep t (a, out) n).2 := by
  unfold leaveStep leaveStepE
  simp only
  rw [rel_holds h]
  cases holdsA a n t with
  | false => exact ⟨h, rfl⟩
  | true =>
    rw [if_pos rfl, if_pos rfl]
    obtain ⟨h1, h2⟩ := rel_give h hw t n
    refine ⟨h2, ?_⟩
    simp only
    rw [h1]
theorem rel_fold {t : Int} : ∀ (ns : List (List UInt8)) (a : AT) (es : List RE) (out : List Int), Rel a es → WF a → Rel (ns.foldl (leaveStep t) (a, out)).1 (ns.foldl (leaveStepE t) (es, out)).1 ∧ (ns.foldl (leaveStepE t) (es, out)).2 = (ns.foldl (leaveStep t) (a, out)).2
  | [], a, es, out, h, hw => ⟨h, rfl⟩
  | n :: ns, a, es, out, h, hw => by
    rw [List.foldl_cons, List.foldl_cons]
    obtain ⟨h1, h2⟩ := rel_step (t := t) (out := out) (n := n) h hw
    have h3 := rel_fold (t := t) ns _ _ (leaveStep t (a, out) n).2 h1 (wf_step (s := (a, out)) hw)
    have e : leaveStepE t (es, out) n = ((leaveStepE t (es, out) n).1, (leaveStep t (a, out) n).2) := by rw [← h2]
    rw [e]
    exact h3
theorem step_names {t : Int} {s : List RE × List Int} {n : List UInt8} (hr : RiseE s.1) : (leaveStepE t s n).1.map RE.name = s.1.map RE.name := by
  unfold leaveStepE
  cases hh : holdsE s.1 t n with
  | false => rfl
  | true =>
    rw [if_pos rfl]
    exact names_give hr hh
theorem step_idle {t : Int} {s : List RE × List Int} {n : List UInt8} (h : n ∉ s.1.map RE.name) : leaveStepE t s n = s := by
  unfold leaveStepE
  cases hh : holdsE s.1 t n with
  | false => rfl
  | true =>
    unfold holdsE at hh
    cases hf : findNE s.1 n with
    | none => rw [hf] at hh; cases hh
    | some e =>
      obtain ⟨he, e2⟩ := findNE_some hf
      exact absurd (List.mem_map.2 ⟨e, he, e2⟩) h
/-- names that nobody holds are passed over -/
theorem fold_skip {t : Int} : ∀ (L2 L1 : List (List UInt8)) (s : List RE × List Int) (N : List (List UInt8)), L2.Pairwise (fun a b => Op.bytesLess a b = true) → L1.Pairwise (fun a b => Op.bytesLess a b = true) → (∀ x ∈ L1, x ∈ L2) → (∀ x ∈ L1, x ∈ N) → (∀ x ∈ L2, x ∈ N → x ∈ L1) → s.1.map RE.name = N → RiseE s.1 →
    L2.foldl (leaveStepE t) s = L1.foldl (leaveStepE t) s
  | [], L1, s, N, _, _, h1, _, _, _, _ => by
    cases L1 with
    | nil => rfl
    | cons x r => exact absurd (h1 x (by simp)) (by simp)
  | y :: r, L1, s, N, hp2, hp1, h1, h0, h2, hN, hr => by
    rw [List.pairwise_cons] at hp2
    rw [List.foldl_cons]
    by_cases hy : y ∈ N
    · have hy1 := h2 y (by simp) hy
      cases L1 with
      | nil => cases hy1
      | cons x r1 =>
        rw [List.pairwise_cons] at hp1
        have hxy : x = y := by
          rcases List.mem_cons.1 (h1 x (by simp)) with e | hx
          · exact e
          · rcases List.mem_cons.1 hy1 with e | hy2
            · exact e.symm
            · have a1 := hp2.1 x hx
              have a2 := hp1.1 y hy2
              have := bl_trans a1 a2
              rw [bl_irr] at this
              cases this
        subst hxy
        rw [List.foldl_cons]
        refine fold_skip r r1 _ N hp2.2 hp1.2 (fun z hz => ?_) (fun z hz => h0 z (List.mem_cons_of_mem _ hz)) (fun z hz hzN => ?_) (by rw [step_names hr, hN]) (names_rise (step_names hr) hr)
        · rcases List.mem_cons.1 (h1 z (List.mem_cons_of_mem _ hz)) with rfl | h
          · have := hp1.1 z hz
            rw [bl_irr] at this
            cases this
          · exact h
        · rcases List.mem_cons.1 (h2 z (List.mem_cons_of_mem _ hz) hzN) with rfl | h
          · have := hp2.1 z hz
            rw [bl_irr] at this
            cases this
          · exact h
    · rw [step_idle (by rw [hN]; exact hy)]
      refine fold_skip r L1 s N hp2.2 hp1 (fun z hz => ?_) h0 (fun z hz hzN => h2 z (List.mem_cons_of_mem _ hz) hzN) hN hr
      rcases List.mem_cons.1 (h1 z hz) with rfl | h
      · exact absurd (h0 z hz) hy
      · exact h

theorem sortS_rise {l : List (List UInt8)} (h : l.Nodup) : (sortS l).Pairwise (fun a b => Op.bytesLess a b = true) := by
  have h1 : (sortS l).Pairwise (fun a b => decide (a ≤ b) = true) := List.pairwise_mergeSort (fun a b c h1 h2 => by
    simp only [decide_eq_true_eq] at h1 h2 ⊢
    exact List.le_trans h1 h2) (fun a b => by
    simp only [Bool.or_eq_true, decide_eq_true_eq]
    exact List.le_total a b) l
  have h2 : (sortS l).Nodup := (List.mergeSort_perm l _).nodup_iff.2 h
  refine List.Pairwise.imp₂ (fun {a b} hab hne => ?_) h1 h2
  simp only [decide_eq_true_eq] at hab
  refine (less_iff rfl).1 ?_
  rcases List.le_iff_lt_or_eq.1 hab with h | h
  · exact h
  · exact absurd h hne
theorem leave1_names (es : List RE) (t : Int) : (leave1E es t).1.map RE.name = es.map RE.name := by
  unfold leave1E
  split
  · rfl
  · exact names_set _ _
theorem rel_leave1 {a : AT} {es : List RE} (h : Rel a es) (hw : WF a) (t : Int) : (leave1E es t).2 = (leave1 a t).2 ∧ Rel (leave1 a t).1 (leave1E es t).1 := by
  have h1 := rel_waits h (rw_of hw) t
  unfold leave1E leave1
  cases hf : findWE es t with
  | none =>
    rw [hf] at h1
    rw [← h1]
    exact ⟨rfl, h⟩
  | some e =>
    rw [hf] at h1
    rw [← h1]
    obtain ⟨he, x, hx, e2⟩ := findWE_some hf
    obtain ⟨l, hl, e3⟩ := rel_row h he hx
    simp only [Option.map_some]
    rw [lockA_some hl]
    have hg := goes_rel (l.row.filter (keepB t)) l.hm l.sh (mdel a.wm t) [] ((hw.rowNd _ l hl).sublist (List.Sublist.map _ List.filter_sublist)) (fun x hx => hw.noBoth _ l hl x (List.mem_filter.1 hx).1)
    have hfe : findNE es e.name = some e := (rise_find h.rise he).2.2
    have e4 : e.row = l.row := congrArg RE.row e3
    have e5 : e.holds = l.hm.map Prod.fst := congrArg RE.holds e3
    have e6 : e.sh = l.sh := congrArg RE.sh e3
    rw [e4, e5, e6, hg]
    exact ⟨rfl, rel_set h hfe ⟨(goesF (l.row.filter (keepB t)) l.hm l.sh (mdel a.wm t) []).1, (goesF (l.row.filter (keepB t)) l.hm l.sh (mdel a.wm t) []).2.1, (goesF (l.row.filter (keepB t)) l.hm l.sh (mdel a.wm t) []).2.2.1⟩ _⟩
/-- Leave: the same -/
theorem rel_leave {a : AT} {es : List RE} (h : Rel a es) (hw : WF a) (t : Int) : (leaveE es t).2 = (leaveF a t).2 ∧ Rel (leaveF a t).1 (leaveE es t).1 := by
  obtain ⟨h1, h2⟩ := rel_leave1 h hw t
  have hw1 := wf_leave1 hw t
  have hn1 := leave1_names es t
  have hsk : (sortS ((leave1 a t).1.lm.map Prod.fst)).foldl (leaveStepE t) (leave1E es t) = leaveE es t := by
    unfold leaveE
    refine fold_skip _ _ _ (es.map RE.name) (sortS_rise hw1.nd) ?_ (fun x hx => ?_) (fun x hx => hx) (fun x _ hx => hx) hn1 h2.rise
    · rw [List.pairwise_map]
      exact h.rise
    · rw [← hn1] at hx
      obtain ⟨e, he, rfl⟩ := List.mem_map.1 hx
      exact mem_sortS.2 (h2.names e he)
  have h3 := rel_fold (t := t) (sortS ((leave1 a t).1.lm.map Prod.fst)) (leave1 a t).1 (leave1E es t).1 (leave1E es t).2 h2 hw1
  have e : ((leave1 a t).1, (leave1E es t).2) = leave1 a t := by rw [h1]
  rw [e] at h3
  rw [show ((leave1E es t).1, (leave1E es t).2) = leave1E es t from rfl, hsk] at h3
  exact ⟨h3.2, h3.1⟩
theorem nodup_of_none {hm : List (Int × Bool)} {t : Int} {s : Bool} (h : alook hm t = none) : (aset hm t s).map Prod.fst = hm.map Prod.fst ++ [t] := by
  rw [aset_keys, h]
  rfl
/-- Take: the same -/
theorem rel_take {a : AT} {es : List RE} (h : Rel a es) (hw : WF a) (t : Int) (n : List UInt8) (s : Bool) : (takeE es t n s).2 = (takeF a t n s).2 ∧ Rel (takeF a t n s).1 (takeE es t n s).1 := by
  have hE : lockE es n = vw n (lockA a n) := by rw [lockE_eq h.rise, h.lk]
  have hWt := rel_waits h (rw_of hw) t
  have hHd : holdsA (ensure a n) n t = holdsE es t n := (rel_holds (rel_ens h n) t n).symm
  have hor : ((alook a.wm t).isSome || holdsA (ensure a n) n t) = (holdsE es t n || (findWE es t).isSome) := by
    rw [hHd, ← hWt, Bool.or_comm]
    cases findWE es t <;> rfl
  unfold takeE takeF
  by_cases ht : t < 0
  · rw [if_pos ht, if_pos ht]
    exact ⟨rfl, h⟩
  · rw [if_neg ht, if_neg ht, hor]
    cases hh : (holdsE es t n || (findWE es t).isSome) with
    | true =>
      rw [if_pos rfl, if_pos rfl]
      exact ⟨rfl, rel_ens h n⟩
    | false =>
      rw [if_neg Bool.false_ne_true, if_neg Bool.false_ne_true]
      rw [hh] at hor
      have hno : alook a.wm t = none ∧ holdsA (ensure a n) n t = false := by
        rw [Bool.or_eq_false_iff] at hor
        exact ⟨by simpa using hor.1, hor.2⟩
      have hno2 : alook (lockA a n).hm t = none := by
        have h1 := hno.2
        unfold holdsA at h1
        rw [ens_look, if_pos rfl] at h1
        simpa using h1
      have hfree : ((lockE es n).row.isEmpty && ((lockE es n).holds.isEmpty || ((lockE es n).sh && s))) = ((lockA a n).row.isEmpty && ((lockA a n).hm.isEmpty || ((lockA a n).sh && s))) := by
        rw [hE]
        show ((lockA a n).row.isEmpty && (((lockA a n).hm.map Prod.fst).isEmpty || ((lockA a n).sh && s))) = _
        cases (lockA a n).hm <;> rfl
      rw [hfree]
      cases hf : ((lockA a n).row.isEmpty && ((lockA a n).hm.isEmpty || ((lockA a n).sh && s))) with
      | true =>
        rw [if_pos rfl, if_pos rfl]
        refine ⟨rfl, ?_⟩
        have hp := rel_put h n ⟨aset (lockA a n).hm t s, (lockA a n).row, s⟩ (ensure a n).wm
        unfold vw at hp
        simp only [nodup_of_none hno2] at hp
        rw [hE]
        exact hp
      | false =>
        rw [if_neg Bool.false_ne_true, if_neg Bool.false_ne_true]
        have hp := rel_put h n { lockA a n with row := (lockA a n).row ++ [(t, s)] } (aset a.wm t n)
        have hv : ({ lockE es n with row := (lockE es n).row ++ [(t, s)] } : RE) = vw n { lockA a n with row := (lockA a n).row ++ [(t, s)] } := by
          rw [hE]
          rfl
        have hrw : RW { lm := aset (ensure a n).lm n { lockA a n with row := (lockA a n).row ++ [(t, s)] }, wm := aset a.wm t n } := by
          have hwe := wf_ensure hw n
          have hle : alook (ensure a n).lm n = some (lockA a n) := by rw [ens_look, if_pos rfl]
          have hwm : (ensure a n).wm = a.wm := ensure_wm a n
          refine ⟨fun m l hl x hx => ?_, fun y m hy => ?_⟩
          · have hl' : alook (aset (ensure a n).lm n { lockA a n with row := (lockA a n).row ++ [(t, s)] }) m = some l := hl
            rw [alook_aset] at hl'
            show alook (aset a.wm t n) x.1 = some m
            rw [alook_aset]
            by_cases hm : n = m
            · rw [if_pos hm] at hl'
              injection hl' with hl'
              rw [← hl'] at hx
              rcases List.mem_append.1 hx with hx | hx
              · have h1 := hwe.rowW n _ hle x hx
                rw [hwm] at h1
                rw [if_neg (fun e => by rw [← e, hno.1] at h1; cases h1), h1, hm]
              · rw [List.mem_singleton] at hx
                rw [hx, if_pos rfl, hm]
            · rw [if_neg hm] at hl'
              have h1 := hwe.rowW m _ hl' x hx
              rw [hwm] at h1
              rw [if_neg (fun e => by rw [← e, hno.1] at h1; cases h1), h1]
          · have hy' : alook (aset a.wm t n) y = some m := hy
            rw [alook_aset] at hy'
            show ∃ l, alook (aset (ensure a n).lm n { lockA a n with row := (lockA a n).row ++ [(t, s)] }) m = some l ∧ _
            rw [alook_aset]
            by_cases hyt : t = y
            · rw [if_pos hyt] at hy'
              injection hy' with hy'
              rw [if_pos hy']
              exact ⟨_, rfl, (t, s), by simp, hyt⟩
            · rw [if_neg hyt] at hy'
              obtain ⟨l, hl, x, hx, e⟩ := hwe.wRow y m (by rw [hwm]; exact hy')
              by_cases hm : n = m
              · rw [if_pos hm]
                rw [← hm, hle] at hl
                injection hl with hl
                exact ⟨_, rfl, x, by rw [← hl] at hx; exact List.mem_append_left _ hx, e⟩
              · rw [if_neg hm]
                exact ⟨l, hl, x, hx, e⟩
        rw [hv]
        have hre := rel_reach hp hrw t t
        by_cases hR : Reach { lm := aset (ensure a n).lm n { lockA a n with row := (lockA a n).row ++ [(t, s)] }, wm := aset a.wm t n } t t
        · rw [if_pos (hre.2 hR), if_pos hR]
          refine ⟨rfl, ?_⟩
          rw [aset_aset, setE_setE (by rw [lockE_name]; rfl), hE]
          exact rel_put h n (lockA a n) _
        · rw [if_neg (fun h => hR (hre.1 h)), if_neg hR]
          exact ⟨rfl, hp⟩
