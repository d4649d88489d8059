/- The tree of a function's body is sound: the joining. -/
import Derived.Test.YtfeabbeebkkhaaaGreatSx2
namespace Go.Sx
open Go
variable {P : Program} {R : Ending → World → Prop} {ds : List Deferred}

theorem rvsW_len {env : Env} {w : World} : ∀ {rs : List RV} {vs : List Value}, rvsW P env w rs vs → vs.length = rs.length
  | [], [], _ => rfl
  | _ :: _, _ :: _, h => by simp [rvsW_len h.2]
  | [], _ :: _, h => h.elim
  | _ :: _, [], h => h.elim

def rvG (t : Array Value) (r : ResultVar) : Sem Value := match r with | .tmp s => pure (t.getD s undef) | .cell s ty => do loadVar ty (← asAddr (t.getD s undef))
theorem rv_run {sf : SF} {env : Env} {t : Array Value} {w : World} (hr : Rel sf env t) {r : ResultVar} {a : RV} {v : Value} (h : rvOf env.length sf r = some a) (hv : rvW P env w a v) :
    (rvG t r).run P w = .ok v w := by
  cases r with
  | tmp s =>
    obtain ⟨lv, hlv, rfl⟩ := Option.map_eq_some_iff.1 h
    obtain ⟨_, _, h3⟩ := hr.at_ s lv hlv
    simp only [rvW] at hv
    subst hv
    simp only [rvG, h3]
    rfl
  | cell s ty =>
    obtain ⟨lv, hlv, rfl⟩ := Option.map_eq_some_iff.1 h
    obtain ⟨_, _, h3⟩ := hr.at_ s lv hlv
    obtain ⟨ad, had, hl⟩ := hv
    have : t.getD s undef = .pointer (some ad) := by rw [h3]; exact had
    simp only [rvG, this, asAddr]
    exact hl

theorem rvs_run {sf : SF} {env : Env} {t : Array Value} {w : World} (hr : Rel sf env t) : ∀ (l : List ResultVar) (rs : List RV) (vs : List Value), rvsOf env.length sf l = some rs → rvsW P env w rs vs →
    (l.mapM (rvG t)).run P w = .ok vs w
  | [], rs, vs, h, hv => by
    simp only [rvsOf] at h
    injection h with h
    subst h
    match vs, hv with
    | [], _ => rfl
  | r :: l, rs, vs, h, hv => by
    simp only [rvsOf] at h
    split at h
    · rename_i a b h0 hb
      injection h with h
      subst h
      match vs, hv with
      | v :: vs, hv =>
        have e0 := rv_run hr h0 hv.1
        have e1 := rvs_run hr l b vs hb hv.2
        rw [List.mapM_cons]
        simp only [Sem.run_bind, e0, e1, Result.andThen_ok, Sem.run_pure]
    · cases h

theorem results_run {fn : Func} {sf : SF} {env : Env} {t : Array Value} {w : World} {rs : List RV} {vs : List Value} (hr : Rel sf env t) (h : rvsOf env.length sf fn.results.toList = some rs) (hv : rvsW P env w rs vs) :
    (results fn t).run P w = .ok (retVal vs) w := by
  have e := rvs_run hr _ rs vs h hv
  have hd : results fn t = (do let vs ← fn.results.mapM (rvG t); pure (if h : vs.size = 1 then vs[0] else .tuple vs)) := rfl
  have hm : fn.results.mapM (rvG t) = List.toArray <$> fn.results.toList.mapM (rvG t) := by
    rw [← List.mapM_toArray, Array.toArray_toList]
  rw [hd, hm]
  simp only [map_eq_pure_bind, Sem.run_bind, e, Result.andThen_ok, Sem.run_pure, bind_assoc, pure_bind]
  congr 1
  match vs with
  | [] => rfl
  | [v] => rfl
  | a :: b :: r => simp [retVal]

/-! ### the slots of a loop -/
theorem at_numbered : ∀ (l : List Nat) (n : Nat) (sf : SF) (j : Nat), l.Nodup → at_ (numbered l n sf) j = match l.idxOf? j with | some i => some (n + (l.length - 1 - i)) | none => at_ sf j
  | [], n, sf, j, _ => rfl
  | s :: l, n, sf, j, hnd => by
    have ih := at_numbered l n sf j (List.nodup_cons.1 hnd).2
    simp only [numbered, at_, List.idxOf?_cons]
    by_cases e : s = j
    · subst e
      simp
    · have : (s == j) = false := by simpa using e
      rw [if_neg e, ih, this]
      cases h : l.idxOf? j with
      | none => simp
      | some i =>
        have hi : i < l.length := by
          have := List.idxOf?_eq_some_iff.1 h
          obtain ⟨h1, _⟩ := this
          exact h1
        simp
        omega

theorem at_kept {bits : Nat} : ∀ (sf : SF) (j lv : Nat), at_ (kept bits sf) j = some lv → at_ sf j = some lv
  | [], _, _, h => h
  | (s, l) :: r, j, lv, h => by
    simp only [kept] at h
    split at h
    · rename_i hb
      have ih := at_kept r j lv h
      simp only [at_]
      split
      · rename_i e
        subst e
        exact absurd h (by rw [not_at_kept r s hb]; simp)
      · exact ih
    · simp only [at_] at h ⊢
      split
      · rename_i e; rw [if_pos e] at h; exact h
      · rename_i e; rw [if_neg e] at h; exact at_kept r j lv h
where
  not_at_kept {bits : Nat} : ∀ (r : SF) (s : Nat), (bits >>> s) % 2 = 1 → at_ (kept bits r) s = none
  | [], _, _ => rfl
  | (a, l) :: r, s, hb => by
    simp only [kept]
    split
    · exact not_at_kept r s hb
    · rename_i hn
      simp only [at_]
      rw [if_neg (fun e => hn (by rw [e]; exact hb))]
      exact not_at_kept r s hb

theorem at_slot {l : List Nat} {n : Nat} {sf : SF} (hnd : l.Nodup) {j lv : Nat} (h : at_ (numbered l n sf) j = some lv) :
    (∃ i, l.idxOf? j = some i ∧ i < l.length ∧ l[i]? = some j ∧ lv = n + (l.length - 1 - i)) ∨ (j ∉ l ∧ at_ sf j = some lv) := by
  rw [at_numbered l n sf j hnd] at h
  split at h
  · rename_i i hi
    injection h with h
    obtain ⟨h1, h2⟩ := List.idxOf?_eq_some_iff.1 hi
    refine .inl ⟨i, hi, h1, ?_, h.symm⟩
    rw [List.getElem?_eq_getElem h1]
    simpa using h2.1
  · rename_i hi
    exact .inr ⟨by simpa using hi, h⟩

theorem mem_of_at : ∀ {sf : SF} {j lv : Nat}, at_ sf j = some lv → ∃ l, (j, l) ∈ sf
  | (s, l) :: r, j, lv, h => by
    simp only [at_] at h
    split at h
    · rename_i e; subst e; exact ⟨l, List.mem_cons_self⟩
    · obtain ⟨l', hl⟩ := mem_of_at h; exact ⟨l', List.mem_cons_of_mem _ hl⟩

/-- the value of a loop's variable i, in the environment at the loop's head -/
theorem val_loop (vs : List Value) (env : Env) (i : Nat) (hi : i < vs.length) : val (vs ++ env) (env.length + (vs.length - 1 - i)) = vs.getD i undef := by
  unfold val
  have : (vs ++ env).length - 1 - (env.length + (vs.length - 1 - i)) = i := by simp only [List.length_append]; omega
  rw [this]
  simp only [List.getD_eq_getElem?_getD, List.getElem?_append_left hi]
theorem val_under (vs : List Value) (env : Env) (lv : Nat) (h : lv < env.length) : val (vs ++ env) lv = val env lv := val_suffix (List.suffix_append vs env) lv h

theorem cmp_sound {hs : List (Nat × Nat)} {sz : Nat} {fn : Func} {rl : Nat} (hmix : P.follows .mixedOrders = true) :
    ∀ (c : Code) (sf : SF) (n : Nat) (bs : List (Nat × (K × Nat))) (l : Nat) (k : K) (out : Nat) (T : Tree) (env : Env) (w : World) (t : Array Value) (B : List (List Value → World → Prop)) (Q : Exit → Act → World → Prop),
      cmp hs sz fn.results.toList rl c sf n bs l k out = some T → env.length = n → B.length = l → Rel sf env t → t.size = sz → W P R T env w B →
      Post P R ds env B sz k (Q .normal) → (∀ id kk, lookupL id bs = some kk → Post P R ds env B sz kk.1 (Q (.exit id))) →
      (∀ a w v, a.defers = ds → (results fn a.tmps).run P w = .ok v w → R (.returned v) w → Q .ret a w) → (∀ ch a w', R (.panicked ch) w' → a.defers = ds → Q (.panic ch) a w') →
      c.wp P Q ⟨t, ds⟩ w
  | .skip, sf, n, bs, l, k, out, T, env, w, t, B, Q, hc, hn, hl, hr, hsz, hW, hk, hb, hret, hP => wp_skip (hk _ _ _ _ _ _ _ _ hc hn hl (List.suffix_refl _) (List.prefix_refl _) hr hsz hW)
  | .label _, sf, n, bs, l, k, out, T, env, w, t, B, Q, hc, hn, hl, hr, hsz, hW, hk, hb, hret, hP => wp_label (hk _ _ _ _ _ _ _ _ hc hn hl (List.suffix_refl _) (List.prefix_refl _) hr hsz hW)
  | .seq a b, sf, n, bs, l, k, out, T, env, w, t, B, Q, hc, hn, hl, hr, hsz, hW, hk, hb, hret, hP => by
    simp only [cmp, forceN_eq] at hc
    refine wp_seq ?_
    refine cmp_sound hmix a sf n bs l _ _ T env w t B _ hc hn hl hr hsz hW ?_ (fun id kk h => hb id kk h) hret hP
    intro sf' n' l' T' env' w' t' B' hT hn' hl' he hB hr' hsz' hW'
    exact cmp_sound hmix b sf' n' bs l' k out T' env' w' t' B' Q hT hn' hl' hr' hsz' hW' (hk.mono he hB) (fun id kk h => (hb id kk h).mono he hB) hret hP
  | .cond c a b, sf, n, bs, l, k, out, T, env, w, t, B, Q, hc, hn, hl, hr, hsz, hW, hk, hb, hret, hP => by
    simp only [cmp] at hc
    split at hc
    · rename_i hkn
      split at hc
      · rename_i x y hx hy
        injection hc with hc
        subst hc
        obtain ⟨bb, hbb, h1, h2⟩ := hW
        subst hn
        have hev := ev_ren (a := ⟨t, ds⟩) hr c hkn
        refine wp_cond (t := bb) (by rw [← hev]; exact hbb) ?_
        cases bb with
        | true => exact cmp_sound hmix a sf _ bs l k out x env w t B Q hx rfl hl hr hsz (h1 rfl) hk hb hret hP
        | false => exact cmp_sound hmix b sf _ bs l k out y env w t B Q hy rfl hl hr hsz (h2 rfl) hk hb hret hP
      · cases hc
    · cases hc
  | .block id b, sf, n, bs, l, k, out, T, env, w, t, B, Q, hc, hn, hl, hr, hsz, hW, hk, hb, hret, hP => by
    simp only [cmp] at hc
    refine wp_block ?_
    refine cmp_sound hmix b sf n _ l k out T env w t B _ hc hn hl hr hsz hW hk ?_ hret hP
    intro id' kk h
    simp only [lookupL] at h
    intro sf' n' l' T' env' w' t' B' hT hn' hl' he hB hr' hsz' hW'
    by_cases e : id' = id
    · subst e
      rw [if_pos rfl] at h
      injection h with h
      subst h
      simp only [Exit.inBlock, if_true]
      exact hk _ _ _ _ _ _ _ _ hT hn' hl' he hB hr' hsz' hW'
    · rw [if_neg (fun h => e h.symm)] at h
      simp only [Exit.inBlock, if_neg e]
      exact hb id' kk h _ _ _ _ _ _ _ _ hT hn' hl' he hB hr' hsz' hW'
  | .exit id, sf, n, bs, l, k, out, T, env, w, t, B, Q, hc, hn, hl, hr, hsz, hW, hk, hb, hret, hP => by
    simp only [cmp] at hc
    split at hc
    · rename_i kk o h
      exact wp_exit (hb id _ h _ _ _ _ _ _ _ _ hc hn hl (List.suffix_refl _) (List.prefix_refl _) hr hsz hW)
    · cases hc
  | .ret, sf, n, bs, l, k, out, T, env, w, t, B, Q, hc, hn, hl, hr, hsz, hW, hk, hb, hret, hP => by
    simp only [cmp] at hc
    obtain ⟨rs, hrs, rfl⟩ := Option.map_eq_some_iff.1 hc
    subst hn
    obtain ⟨vs, hv, hR⟩ := hW
    exact wp_ret (hret ⟨t, ds⟩ w _ rfl (results_run hr hrs hv) hR)
  | .region id ops false, sf, n, bs, l, k, out, T, env, w, t, B, Q, hc, hn, hl, hr, hsz, hW, hk, hb, hret, hP => by
    simp only [cmp] at hc
    subst hn
    refine wp_region_list ?_
    refine cmpOps_sound hP ops.toList sf _ T env w t hc hr hsz hW ?_
    intro sf' n' T' env' w' t' hT hn' he hr' hsz' hW'
    exact hk _ _ _ _ _ _ _ _ hT hn' hl he (List.prefix_refl _) hr' hsz' hW'
  | .region id ops true, sf, n, bs, l, k, out, T, env, w, t, B, Q, hc, hn, hl, hr, hsz, hW, hk, hb, hret, hP => by
    simp only [cmp] at hc
    subst hn
    split at hc
    · split at hc
      · rename_i hlex
        obtain ⟨qs, sf', n', hk', H⟩ := cmpQs_sound (P := P) _ _ _ _ _ _ hc
        obtain ⟨T', hT', rfl⟩ := Option.map_eq_some_iff.1 hk'
        obtain ⟨C, hC, hq⟩ := hW
        simp only [List.reverse_nil, List.nil_append] at hq
        refine wp_region_quiet hmix hlex hC ?_
        refine H C env t _ _ rfl hr hsz hq ?_
        intro env' t' hn' he hr' hsz' hnext w' hw'
        exact hk _ _ _ _ _ _ _ _ hT' hn' hl he (List.prefix_refl _) hr' hsz' (hnext w' hw')
      · cases hc
    · rename_i m _
      split at hc
      · split at hc
        · rename_i hsel
          obtain ⟨T', hT', rfl⟩ := Option.map_eq_some_iff.1 hc
          obtain ⟨D, hD, hW⟩ := hW
          let Q2 : Exit → Act → World → Prop := fun e a w => match e with | .panic ch => R (.panicked ch) w ∧ a.defers = ds | e => Q e a w
          have put_defers : ∀ (a : Act) (d : Option Tmp) (v : Value), (a.put d v).defers = a.defers := fun a d v => by cases d <;> rfl
          have H := cmpMix_sound (P := P) (R := R) (Q' := Q2) (B := B) hsel (fun ch a w' h1 h2 => ⟨h1, h2⟩) (fun c d v a w h => ⟨h.1, by rw [← put_defers a d v]; exact h.2⟩) ops.size (Array.replicate ops.size false) sf _ T' env _ t D hT' hr hsz (fun j oj _ hl => by rw [Array.getD_eq_getD_getElem?, Array.getElem?_replicate] at hl; split at hl <;> cases hl) hD hW
            (fun sf' n' T2 env' w' t' hT2 hn' he hr' hsz' hW' => hk _ _ _ _ _ _ _ _ hT2 hn' hl he (List.prefix_refl _) hr' hsz' hW')
          obtain ⟨_, _, H⟩ := H
          refine wp_mono (wp_region_any hmix (wpAny_of_AH H)) fun e a w h => ?_
          cases e with
          | panic ch => exact hP ch a w h.1 h.2
          | _ => exact h
        · cases hc
      split at hc
      · rename_i hcut
        obtain ⟨qs, sf', n', hk', H⟩ := cmpQs_sound (P := P) _ _ _ _ _ _ hc
        obtain ⟨T', hT', rfl⟩ := Option.map_eq_some_iff.1 hk'
        obtain ⟨C, hC, hq⟩ := hW
        simp only [List.reverse_nil, List.nil_append] at hq
        refine wp_region_cut hmix hcut hC ?_
        refine H C env t _ _ rfl hr hsz hq ?_
        intro env' t' hn' he hr' hsz' hnext w' hw'
        subst hn'
        refine cmpOps_sound hP _ sf' _ T' env' w' t' hT' hr' hsz' (hnext w' hw') ?_
        intro sf'' n'' T'' env'' w'' t'' hT'' hn'' he'' hr'' hsz'' hW''
        exact hk _ _ _ _ _ _ _ _ hT'' hn'' hl (he.trans he'') (List.prefix_refl _) hr'' hsz'' hW''
      · cases hc
  | .loop b, sf, n, bs, l, k, out, T, env, w, t, B, Q, hc, hn, hl, hr, hsz, hW, hk, hb, hret, hP => by
    simp only [cmp, forceN_eq] at hc
    generalize slotsOf sz _ [] = lv at hc
    split at hc
    · rename_i hlv
      simp only [Bool.and_eq_true, List.all_eq_true, decide_eq_true_eq] at hlv
      obtain ⟨hlv, hnd⟩ := hlv
      obtain ⟨T', hT', rfl⟩ := Option.map_eq_some_iff.1 hc
      subst hn
      obtain ⟨I, μ, h0, hbody⟩ := hW
      simp only [List.map_map, List.length_map] at h0 hbody
      -- the values of the loop's slots in a frame
      have hini : (lv.map fun s => t.getD s undef) = lv.map (ev env ∘ fun s => renX env.length sf (.tmp s)) := by
        refine List.map_congr_left fun s hs => ?_
        exact (ev_ren (a := ⟨t, ds⟩) hr (.tmp s) (by simpa [known] using (hlv s hs).1)).symm
      let sf' := numbered lv env.length (kept (writes b 0) sf)
      let get : Array Value → List Value := fun t => lv.map fun s => t.getD s undef
      refine wp_loop (fun a w => a.defers = ds ∧ a.tmps.size = sz ∧ I (get a.tmps) w ∧ Rel sf' (get a.tmps ++ env) a.tmps) (fun a w => μ (get a.tmps) w) ⟨rfl, hsz, ?_, ?_⟩ ?_
      · show I (get t) w
        rw [show get t = _ from hini]
        exact h0
      · -- the relation at the head
        constructor
        intro j lv' hj
        have hlen : (get t).length = lv.length := by simp [get]
        rcases at_slot hnd hj with ⟨i, _, hi, hij, rfl⟩ | ⟨hnot, hj⟩
        · have hmem : j ∈ lv := List.mem_of_getElem? hij
          have h1 := (hlv j hmem).2
          refine ⟨show j < t.size by omega, show _ < (get t ++ env).length by simp only [List.length_append, hlen]; omega, ?_⟩
          show t.getD j undef = val (get t ++ env) _
          rw [← hlen, val_loop _ _ _ (by omega)]
          simp [get, hij]
        · obtain ⟨h1, h2, h3⟩ := hr.at_ j lv' (at_kept _ _ _ hj)
          exact ⟨h1, show _ < (get t ++ env).length by simp only [List.length_append]; omega, by show t.getD j undef = val (get t ++ env) _; rw [val_under _ _ _ h2]; exact h3⟩
      · intro a w' ⟨hd, hsz', hI, hrel⟩
        obtain ⟨ta, da⟩ := a
        simp only at hd hsz' hI hrel
        have hd' := hd.symm
        subst hd'
        have hlen : (get ta).length = lv.length := by simp [get]
        have hW' := hbody (get ta) w' hlen hI
        refine cmp_sound hmix b sf' (env.length + lv.length) bs (l + 1) _ _ T' (get ta ++ env) w' ta _ _ hT' (by simp only [List.length_append, hlen]; omega) (by simp [hl]) hrel hsz' hW' ?_
          (fun id kk h => ?_) hret hP
        · intro sf'' n'' l'' T'' env'' w'' t'' B'' hT'' hn'' hl'' he hB hr'' hsz'' hW''
          dsimp only at hT''
          split at hT''
          · rename_i hok
            injection hT'' with hT''
            subst hT''
            subst hn''
            obtain ⟨bb, hbb, hpost⟩ := hW''
            have hget : B''[l]? = some (fun vs' w'' => I vs' w'' ∧ μ vs' w'' < μ (get ta) w') := by
              obtain ⟨tl, rfl⟩ := hB
              rw [List.getElem?_append_left (by simp [hl])]
              rw [← hl]
              simp
            rw [hget] at hbb
            injection hbb with hbb
            subst hbb
            simp only [List.map_map] at hpost
            simp only [okBack, Bool.and_eq_true, List.all_eq_true] at hok
            obtain ⟨hok1, hok2⟩ := hok
            have hvals : get t'' = lv.map (ev env'' ∘ fun s => renX env''.length sf'' (.tmp s)) := by
              refine List.map_congr_left fun s hs => ?_
              exact (ev_ren (a := ⟨t'', ds⟩) hr'' (.tmp s) (by simpa [known] using hok1 s hs)).symm
            rw [← hvals] at hpost
            have he' : env <:+ env'' := (List.suffix_append _ _).trans he
            refine ⟨⟨rfl, hsz'', hpost.1, ?_⟩, hpost.2⟩
            constructor
            intro j lv' hj
            have hlen' : (get t'').length = lv.length := by simp [get]
            rcases at_slot hnd hj with ⟨i, _, hi, hij, rfl⟩ | ⟨hnot, hj⟩
            · have hmem : j ∈ lv := List.mem_of_getElem? hij
              have h1 := (hlv j hmem).2
              refine ⟨show j < t''.size by omega, show _ < (get t'' ++ env).length by simp only [List.length_append, hlen']; omega, ?_⟩
              show t''.getD j undef = val (get t'' ++ env) _
              rw [← hlen', val_loop _ _ _ (by omega)]
              simp [get, hij]
            · obtain ⟨h1, h2, h3⟩ := hr.at_ j lv' (at_kept _ _ _ hj)
              have hmem := mem_of_at hj
              have hok := hok2 _ hmem.choose_spec
              simp only [Bool.or_eq_true, beq_iff_eq] at hok
              rcases hok with hok | hok
              · exact absurd (by simpa using hok) hnot
              · have hj' : at_ sf'' j = some lv' := by rw [hok]; exact hj
                obtain ⟨h1', _, h3'⟩ := hr''.at_ j lv' hj'
                refine ⟨h1', show _ < (get t'' ++ env).length by simp only [List.length_append]; omega, ?_⟩
                show t''.getD j undef = val (get t'' ++ env) _
                rw [val_under _ _ _ h2, ← val_suffix he' lv' h2]
                exact h3'
          · cases hT''
        · exact (hb id kk h).mono (List.suffix_append _ _) (List.prefix_append _ _)
    · cases hc
  | .rangeFunc .., _, _, _, _, _, _, _, _, _, _, _, _, hc, _, _, _, _, _, _, _, _, _ => by simp [cmp] at hc
  | .scope _, _, _, _, _, _, _, _, _, _, _, _, _, hc, _, _, _, _, _, _, _, _, _ => by simp [cmp] at hc
  | .goto _, _, _, _, _, _, _, _, _, _, _, _, _, hc, _, _, _, _, _, _, _, _, _ => by simp [cmp] at hc
  | .refuse _, _, _, _, _, _, _, _, _, _, _, _, _, hc, _, _, _, _, hW, _, _, _, _ => by
    simp only [cmp, Option.some.injEq] at hc
    subst hc
    obtain ⟨b, hb, _⟩ := hW
    cases hb

theorem at_init : ∀ (m k : Nat) (j lv : Nat) , at_ ((List.range' k m).map fun j => (j, k + m - 1 - j)) j = some lv → k ≤ j ∧ j < k + m ∧ lv = k + m - 1 - j
  | 0, k, j, lv, h => by simp [at_] at h
  | m + 1, k, j, lv, h => by
    rw [List.range'_succ] at h
    simp only [List.map_cons, at_] at h
    split at h
    · rename_i e; injection h with h; subst e; exact ⟨Nat.le_refl _, by omega, by omega⟩
    · have e : (List.range' (k + 1) m).map (fun j => (j, k + (m + 1) - 1 - j)) = (List.range' (k + 1) m).map (fun j => (j, (k + 1) + m - 1 - j)) := by
        refine List.map_congr_left fun x _ => ?_
        rw [show k + (m + 1) = (k + 1) + m by omega]
      rw [e] at h
      obtain ⟨h1, h2, h3⟩ := at_init m (k + 1) j lv h
      exact ⟨by omega, by omega, by omega⟩

/-- A CALL BY ITS TREE. -/
theorem calls_of_tree {f : FuncId} {fn : Func} {c : Code} {args : List Value} {w : World} {hs : List (Nat × Nat)} {T : Tree} (hmix : P.follows .mixedOrders = true) (hf : P.funcs[f]? = some fn) (hb : fn.body = some c)
    (hT : tree hs fn args.length = some T) (hn : args.length ≤ fn.ntmps) (hW : W P R T args w []) : Calls P f args.toArray w R := by
  refine calls_of_wp hf hb ?_
  simp only [tree, hb, forceN_eq] at hT
  have hsz : (args.toArray ++ Array.replicate (fn.ntmps - args.toArray.size) undef).size = fn.ntmps := by simp; omega
  have hrel : Rel (initSF args.length) args (args.toArray ++ Array.replicate (fn.ntmps - args.toArray.size) undef) := by
    constructor
    intro j lv hj
    have e : initSF args.length = (List.range' 0 args.length).map fun j => (j, 0 + args.length - 1 - j) := by
      unfold initSF
      rw [List.range_eq_range']
      refine List.map_congr_left fun x _ => ?_
      rw [Nat.zero_add]
    rw [e] at hj
    obtain ⟨_, h2, h3⟩ := at_init _ _ _ _ hj
    refine ⟨by rw [hsz]; omega, by omega, ?_⟩
    unfold val
    have h4 : args.length - 1 - lv = j := by omega
    rw [h4]
    have h5 : j < args.length := by omega
    simp [Array.getElem?_append, h5]
  refine cmp_sound (fn := fn) hmix c _ _ [] 0 _ _ T args w _ [] _ hT rfl rfl hrel hsz hW ?_ (fun id kk h => by simp [lookupL] at h) ?_ ?_
  · intro sf n l T' env w' t B hk hn' _ _ _ hr _ hW'
    obtain ⟨rs, hrs, rfl⟩ := Option.map_eq_some_iff.1 hk
    subst hn'
    obtain ⟨vs, hv, hR⟩ := hW'
    exact ⟨rfl, _, results_run hr hrs hv, hR⟩
  · intro a w' v hd hr hR
    exact ⟨hd, v, hr, hR⟩
  · intro ch a w' hR hd
    exact ⟨hd, hR⟩
end Go.Sx
