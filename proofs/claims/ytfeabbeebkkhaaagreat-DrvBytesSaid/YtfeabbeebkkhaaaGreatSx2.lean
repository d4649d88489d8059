/- The tree of a function's body is sound: what is proved over the tree holds of the body. -/
import Derived.Test.YtfeabbeebkkhaaaGreatSx1
namespace Go.Sx
open Go
variable {P : Program} {R : Ending → World → Prop} {ds : List Deferred}

/-- the value at a level, counted from the bottom -/
def val (env : Env) (lv : Nat) : Value := env.getD (env.length - 1 - lv) undef
theorem val_cons (v : Value) (env : Env) (lv : Nat) (h : lv < env.length) : val (v :: env) lv = val env lv := by
  unfold val
  have : (v :: env).length - 1 - lv = (env.length - 1 - lv) + 1 := by simp only [List.length_cons]; omega
  rw [this]
  simp
theorem val_new (v : Value) (env : Env) : val (v :: env) env.length = v := by simp [val]
theorem val_suffix {env env' : Env} (h : env <:+ env') (lv : Nat) (hl : lv < env.length) : val env' lv = val env lv := by
  obtain ⟨t, rfl⟩ := h
  unfold val
  have : (t ++ env).length - 1 - lv = t.length + (env.length - 1 - lv) := by simp only [List.length_append]; omega
  rw [this]
  simp [List.getElem?_append_right]

/-- what the frame holds in the slots that are known -/
structure Rel (sf : SF) (env : Env) (t : Array Value) : Prop where
  at_ : ∀ j lv, at_ sf j = some lv → j < t.size ∧ lv < env.length ∧ t.getD j undef = val env lv

theorem Rel.alias {sf : SF} {env : Env} {t : Array Value} (h : Rel sf env t) {d lv : Nat} (hd : d < t.size) (hl : lv < env.length) : Rel ((d, lv) :: sf) env (t.setIfInBounds d (val env lv)) := by
  constructor
  intro j l hj
  simp only [Sx.at_] at hj
  split at hj
  · rename_i e
    subst e
    injection hj with e
    subst e
    exact ⟨by simpa using hd, hl, by simp [hd]⟩
  · rename_i e
    obtain ⟨h1, h2, h3⟩ := h.at_ j l hj
    exact ⟨by simpa using h1, h2, by simpa [Array.getElem?_setIfInBounds_ne e] using h3⟩
theorem Rel.push {sf : SF} {env : Env} {t : Array Value} (h : Rel sf env t) (v : Value) : Rel sf (v :: env) t :=
  ⟨fun j l hj => by
    obtain ⟨h1, h2, h3⟩ := h.at_ j l hj
    exact ⟨h1, by simp; omega, by rw [val_cons v env l h2]; exact h3⟩⟩
theorem Rel.bind {sf : SF} {env : Env} {t : Array Value} (h : Rel sf env t) {d : Nat} (hd : d < t.size) (v : Value) : Rel ((d, env.length) :: sf) (v :: env) (t.setIfInBounds d v) := by
  have := (h.push v).alias (d := d) (lv := env.length) hd (by simp)
  rwa [val_new] at this

theorem ev_ren {sf : SF} {env : Env} {a : Act} (h : Rel sf env a.tmps) (x : Operand) (hk : known sf x = true) : ev env (renX env.length sf x) = a.eval x := by
  cases x with
  | tmp j =>
    simp only [known] at hk
    obtain ⟨lv, hlv⟩ := Option.isSome_iff_exists.1 hk
    obtain ⟨_, h2, h3⟩ := h.at_ j lv hlv
    simp only [renX, hlv, ev, Act.eval]
    rw [h3]; rfl
  | const v => rfl
  | global g => rfl
  | func g => rfl

theorem keeps_ren (n : Nat) (sf : SF) : Keeps (renX n sf) := ⟨fun _ => rfl, fun _ => ⟨_, rfl⟩, fun _ => rfl, fun _ => rfl⟩

theorem exec_ren {sf : SF} {env : Env} {a : Act} (h : Rel sf env a.tmps) {o : Oper} (hk : okOp sf o = true) : execOp (ev env) (renO env.length sf o) = execOp a.eval o := by
  simp only [okOp, Bool.and_eq_true, List.all_eq_true] at hk
  have hs : ∀ cs b, o.op ≠ .select cs b := by
    intro cs b e
    have h2 := hk.2
    rw [e] at h2
    simp [isSel] at h2
  have e : execOp (ev env) (renO env.length sf o) = execOp (ev env) { o with op := mapX (renX env.length sf) o.op } := by
    unfold renO O
    generalize mapX (renX env.length sf) o.op = op
    cases op <;> rfl
  rw [e, execOp_map (keeps_ren _ _) o hs]
  exact execOp_congr o hs fun x hx => ev_ren h x (hk.1 x (by simpa using hx))

/-- what the continuation is good for -/
def Post (P : Program) (R : Ending → World → Prop) (ds : List Deferred) (env0 : Env) (B0 : List (List Value → World → Prop)) (sz : Nat) (k : K) (q : Act → World → Prop) : Prop :=
  ∀ sf n l T env w t B, k sf n l = some T → env.length = n → B.length = l → env0 <:+ env → B0 <+: B → Rel sf env t → t.size = sz → W P R T env w B → q ⟨t, ds⟩ w
theorem Post.mono {env0 env1 : Env} {B0 B1 : List (List Value → World → Prop)} {sz : Nat} {k : K} {q : Act → World → Prop} (h : Post P R ds env0 B0 sz k q) (he : env0 <:+ env1) (hB : B0 <+: B1) : Post P R ds env1 B1 sz k q :=
  fun sf n l T env w t B hT hn hl h1 h2 => h sf n l T env w t B hT hn hl (he.trans h1) (hB.trans h2)

/-- the same for a continuation inside a region -/
def PostO (P : Program) (R : Ending → World → Prop) (ds : List Deferred) (env0 : Env) (B : List (List Value → World → Prop)) (sz : Nat) (k : KK) (q : Act → World → Prop) : Prop :=
  ∀ sf n T env w t, k sf n = some T → env.length = n → env0 <:+ env → Rel sf env t → t.size = sz → W P R T env w B → q ⟨t, ds⟩ w
theorem PostO.mono {env0 env1 : Env} {B : List (List Value → World → Prop)} {sz : Nat} {k : KK} {q : Act → World → Prop} (h : PostO P R ds env0 B sz k q) (he : env0 <:+ env1) : PostO P R ds env1 B sz k q :=
  fun sf n T env w t hT hn h1 => h sf n T env w t hT hn (he.trans h1)

theorem plainMove_spec {o : Oper} {j d : Nat} (h : plainMove o = some (j, d)) : o.guard = none ∧ o.dst = some d ∧ (o.op = .move (.tmp j) ∨ o.op = .assign (.tmp j)) := by
  unfold plainMove at h
  split at h
  · rename_i h1 h2 h3; injection h with h; injection h with e1 e2; subst e1; subst e2; exact ⟨h2, h3, .inl h1⟩
  · rename_i h1 h2 h3; injection h with h; injection h with e1 e2; subst e1; subst e2; exact ⟨h2, h3, .inr h1⟩
  · cases h

theorem upon_of_opW {o o' : Oper} {env : Env} {a : Act} {w : World} {KV : Value → World → Prop} {K' : Act → World → Prop} {Q : Exit → Act → World → Prop}
    (he : execOp (ev env) o' = execOp a.eval o) (h : opW P o' env w R KV) (hK : ∀ v w', KV v w' → K' (a.put o.dst v) w') (hP : ∀ ch w', R (.panicked ch) w' → Q (.panic ch) a w') : o.wp P a w K' Q := by
  unfold opW at h
  rw [he] at h
  unfold Oper.wp
  generalize (execOp a.eval o).run P w = r at *
  cases r with
  | ok x w' =>
    cases x <;> simp only [Oper.upon] at h ⊢
    case value v => exact hK _ _ h
    case skip => exact hK _ _ h
    case enter f args => exact Calls.mono h fun e w'' he => by cases e with | returned v => exact hK _ _ he | panicked ch => exact hP _ _ he | outgrown => exact he.elim
    case row row args => exact Rows.mono h fun v w'' hv => hK _ _ hv
  | halt x w' =>
    cases x <;> simp only [Oper.upon] at h ⊢
    case panic v => exact hP _ _ h

theorem wanted_iff {ops : Array Oper} {o : Oper} {t : Array Value} {j d : Nat} {b : Bool} (hg : o.guard = some (j, b)) (hd : (ops[j]?).bind (·.dst) = some d) (hsz : d < t.size) :
    Region.wanted o (yielded ops t) = true ↔ t.getD d undef = .bool b := by
  simp only [Region.wanted, hg, yielded, hd, Option.bind_some]
  have : t[d]? = some (t.getD d undef) := by simp [hsz]
  rw [this]
  generalize t.getD d undef = v
  cases v <;> simp

/-- binding what an operation yields -/
theorem bindD_spec {sz : Nat} {o : Oper} {sf : SF} {n : Nat} {k : KK} {T : Tree} (h : bindD sz o sf n k = some T) :
    (∃ d : Nat, o.dst = some d ∧ d < sz ∧ k ((d, n) :: sf) (n + 1) = some T) ∨ (o.dst = none ∧ k sf (n + 1) = some T) := by
  unfold bindD at h
  split at h
  · rename_i d hd
    split at h
    · rename_i hlt; rw [forceN_eq] at h; exact .inl ⟨d, hd, hlt, h⟩
    · cases h
  · rename_i hd; rw [forceN_eq] at h; exact .inr ⟨hd, h⟩

theorem PostO.bound {env : Env} {B : List (List Value → World → Prop)} {sz : Nat} {k : KK} {q : Act → World → Prop} (hk : PostO P R ds env B sz k q) {o : Oper} {sf : SF} {t : Array Value} {T : Tree}
    (hT : bindD sz o sf env.length k = some T) (hr : Rel sf env t) (hsz : t.size = sz) (v : Value) (w : World) (h : W P R T (v :: env) w B) : q ((⟨t, ds⟩ : Act).put o.dst v) w := by
  rcases bindD_spec hT with ⟨d, hd, hlt, hT⟩ | ⟨hd, hT⟩
  · rw [hd]
    exact hk _ _ T (v :: env) w _ hT (by simp) (List.suffix_cons _ _) (hr.bind (show d < t.size by omega) v) (by simpa using hsz) h
  · rw [hd]
    exact hk _ _ T (v :: env) w t hT (by simp) (List.suffix_cons _ _) (hr.push v) hsz h

theorem cmpOp_sound {sz : Nat} {ops : Array Oper} {o : Oper} {sf : SF} {k : KK} {T : Tree} {env : Env} {w : World} {t : Array Value} {B : List (List Value → World → Prop)} {Q : Exit → Act → World → Prop} {K' : Act → World → Prop}
    (hc : cmpOp sz ops o sf env.length k = some T) (hr : Rel sf env t) (hsz : t.size = sz) (hW : W P R T env w B)
    (hk : PostO P R ds env B sz k K') (hP : ∀ ch a w', R (.panicked ch) w' → a.defers = ds → Q (.panic ch) a w') :
    if Region.wanted o (yielded ops t) then o.wp P ⟨t, ds⟩ w K' Q else K' ((⟨t, ds⟩ : Act).put o.dst undef) w := by
  unfold cmpOp at hc
  split at hc
  next hok =>
    split at hc
    · rename_i j d hm
      obtain ⟨hg, hd, hop⟩ := plainMove_spec hm
      split at hc
      · rename_i lv hlv
        split at hc
        · rename_i hlt
          rw [if_pos (by simp [Region.wanted, hg])]
          obtain ⟨_, h2, h3⟩ := hr.at_ j lv hlv
          have hv : (execOp (⟨t, ds⟩ : Act).eval o) = pure (.value (val env lv)) := by
            rcases hop with e | e <;> simp only [execOp, e, Act.eval, h3]
          unfold Oper.wp
          rw [hv]
          show K' ((⟨t, ds⟩ : Act).put o.dst (val env lv)) w
          rw [hd]
          exact hk _ _ T env w _ hc rfl (List.suffix_refl _) (hr.alias (show d < t.size by omega) h2) (by simpa using hsz) hW
        · cases hc
      · cases hc
    · split at hc
      · rename_i hg
        rw [if_pos (by simp [Region.wanted, hg])]
        obtain ⟨T', hT', rfl⟩ := Option.map_eq_some_iff.1 hc
        exact upon_of_opW (exec_ren (a := ⟨t, ds⟩) hr hok) hW (fun v w' h => hk.bound hT' hr hsz v w' h) (fun ch w' h => hP ch _ w' h rfl)
      · rename_i j b hg
        split at hc
        · rename_i d hd
          split at hc
          · rename_i hkn
            obtain ⟨lv, hlv⟩ := Option.isSome_iff_exists.1 hkn
            obtain ⟨h1, h2, h3⟩ := hr.at_ d lv hlv
            have hw := wanted_iff (ops := ops) (o := o) (t := t) hg hd h1
            obtain ⟨T', hT', rfl⟩ := Option.map_eq_some_iff.1 hc
            have hev : ev env (renX env.length sf (.tmp d)) = t.getD d undef := ev_ren (a := ⟨t, ds⟩) hr (.tmp d) (by simpa [known] using hkn)
            obtain ⟨hy, hn⟩ := hW
            split
            · rename_i hwt
              exact upon_of_opW (exec_ren (a := ⟨t, ds⟩) hr hok) (hy (by rw [hev]; exact hw.1 hwt)) (fun v w' h => hk.bound hT' hr hsz v w' h) (fun ch w' h => hP ch _ w' h rfl)
            · rename_i hwt
              exact hk.bound hT' hr hsz undef w (hn (by rw [hev]; exact fun e => hwt (hw.2 e)))
          · cases hc
        · cases hc
  next => cases hc

/-! ### a row of operations, in the text's order -/
theorem put_nil (t : Array Value) (d : Option Tmp) (v : Value) : ∃ t', ((⟨t, ds⟩ : Act).put d v) = ⟨t', ds⟩ ∧ t'.size = t.size := by
  cases d with
  | none => exact ⟨t, rfl, rfl⟩
  | some d => exact ⟨t.setIfInBounds d v, rfl, by simp⟩

theorem cmpOps_sound {sz : Nat} {ops : Array Oper} {Q : Exit → Act → World → Prop} {B : List (List Value → World → Prop)} (hP : ∀ ch a w', R (.panicked ch) w' → a.defers = ds → Q (.panic ch) a w') :
    ∀ (l : List Oper) (sf : SF) (k : KK) (T : Tree) (env : Env) (w : World) (t : Array Value), cmpOps sz ops l sf env.length k = some T → Rel sf env t → t.size = sz → W P R T env w B →
      PostO P R ds env B sz k (Q .normal) → wpList P ops Q l ⟨t, ds⟩ w
  | [], sf, k, T, env, w, t, hc, hr, hsz, hW, hk => hk _ _ _ _ _ _ hc rfl (List.suffix_refl _) hr hsz hW
  | o :: l, sf, k, T, env, w, t, hc, hr, hsz, hW, hk => by
    have key := cmpOp_sound (P := P) (R := R) (K' := wpList P ops Q l) (Q := Q) hc hr hsz hW
      (fun sf' n T' env' w' t' hT hn he hr' hsz' hW' => by
        subst hn
        exact cmpOps_sound hP l sf' k T' env' w' t' hT hr' hsz' hW' (hk.mono he)) hP
    unfold wpList
    split
    · rename_i h; rw [if_pos h] at key; exact .inl key
    · rename_i h; rw [if_neg h] at key; exact key

/-! ### a region that draws -/
theorem qAt_ren {sf : SF} {env : Env} {a : Act} (h : Rel sf env a.tmps) {o : Oper} (hk : okOp sf o = true) {C : World → Prop} {w : World} {v : Value} (hq : qAt P (renO env.length sf o) env C w v) : o.quietAt P a C w v := by
  unfold qAt at hq
  unfold Oper.quietAt
  rwa [exec_ren h hk] at hq

theorem cmpQs_sound {sz : Nat} {ops : Array Oper} : ∀ (l : List Oper) (sf : SF) (n : Nat) (acc : List Q) (k : List Q → KK) (T : Tree), cmpQs sz ops l sf n acc k = some T →
    ∃ qs sf' n', k (acc.reverse ++ qs) sf' n' = some T ∧ ∀ (C : World → Prop) (env : Env) (t : Array Value) (next : Env → Prop) (q : Act → Prop), env.length = n → Rel sf env t → t.size = sz → qsW P C qs env next →
      (∀ env' t', env'.length = n' → env <:+ env' → Rel sf' env' t' → t'.size = sz → next env' → q ⟨t', ds⟩) → wpQuiet P ops C q l ⟨t, ds⟩
  | [], sf, n, acc, k, T, hc => ⟨[], sf, n, by simpa [cmpQs] using hc, fun C env t next q hn hr hsz hq hk => hk env t hn (List.suffix_refl _) hr hsz hq⟩
  | o :: l, sf, n, acc, k, T, hc => by
    unfold cmpQs at hc
    split at hc
    next hok =>
      split at hc
      · rename_i j d hm
        obtain ⟨hg, hd, hop⟩ := plainMove_spec hm
        split at hc
        · rename_i lv hlv
          split at hc
          · rename_i hlt
            obtain ⟨qs, sf', n', hk', H⟩ := cmpQs_sound l _ n acc k T hc
            refine ⟨qs, sf', n', hk', fun C env t next q hn hr hsz hq hk => ?_⟩
            subst hn
            obtain ⟨_, h2, h3⟩ := hr.at_ j lv hlv
            unfold wpQuiet
            rw [if_pos (by simp [Region.wanted, hg])]
            refine ⟨val env lv, fun w _ => ?_, ?_⟩
            · have hv : (execOp (⟨t, ds⟩ : Act).eval o) = pure (.value (val env lv)) := by
                rcases hop with e | e <;> simp only [execOp, e, Act.eval, h3]
              unfold Oper.quietAt
              rw [hv]
              exact ⟨rfl, rfl⟩
            · rw [hd]
              exact H C env _ next q rfl (hr.alias (show d < t.size by omega) h2) (by simpa using hsz) hq hk
          · cases hc
        · cases hc
      · split at hc
        · rename_i hg
          -- a bare operation
          rcases bindD_spec hc with ⟨d, hd, hlt, hT⟩ | ⟨hd, hT⟩
          all_goals
            obtain ⟨qs, sf', n', hk', H⟩ := cmpQs_sound l _ _ _ k T hT
            refine ⟨⟨none, renO n sf o⟩ :: qs, sf', n', by simpa using hk', fun C env t next q hn hr hsz hq hk => ?_⟩
            subst hn
            simp only [qsW, qOne] at hq
            obtain ⟨v, hv, hq⟩ := hq
            unfold wpQuiet
            rw [if_pos (by simp [Region.wanted, hg])]
            refine ⟨v, fun w hw => qAt_ren (a := ⟨t, ds⟩) hr hok (hv w hw), ?_⟩
            rw [hd]
          · exact H C (v :: env) _ next q (by simp) (hr.bind (show d < t.size by omega) v) (by simpa using hsz) hq (fun env' t' h1 h2 => hk env' t' h1 ((List.suffix_cons _ _).trans h2))
          · exact H C (v :: env) _ next q (by simp) (hr.push v) hsz hq (fun env' t' h1 h2 => hk env' t' h1 ((List.suffix_cons _ _).trans h2))
        · rename_i j b hg
          split at hc
          · rename_i d0 hd0
            split at hc
            · rename_i hkn
              obtain ⟨lv, hlv⟩ := Option.isSome_iff_exists.1 hkn
              rcases bindD_spec hc with ⟨d, hd, hlt, hT⟩ | ⟨hd, hT⟩
              all_goals
                obtain ⟨qs, sf', n', hk', H⟩ := cmpQs_sound l _ _ _ k T hT
                refine ⟨⟨some (renX n sf (.tmp d0), b), renO n sf o⟩ :: qs, sf', n', by simpa using hk', fun C env t next q hn hr hsz hq hk => ?_⟩
                subst hn
                obtain ⟨h1, h2, h3⟩ := hr.at_ d0 lv hlv
                have hw := wanted_iff (ops := ops) (o := o) (t := t) hg hd0 h1
                have hev : ev env (renX env.length sf (.tmp d0)) = t.getD d0 undef := ev_ren (a := ⟨t, ds⟩) hr (.tmp d0) (by simpa [known] using hkn)
                simp only [qsW, qOne] at hq
                obtain ⟨hy, hn⟩ := hq
                unfold wpQuiet
                split
              · rename_i hwt
                obtain ⟨v, hv, hq⟩ := hy (by rw [hev]; exact hw.1 hwt)
                refine ⟨v, fun w hw => qAt_ren (a := ⟨t, ds⟩) hr hok (hv w hw), ?_⟩
                rw [hd]
                exact H C (v :: env) _ next q (by simp) (hr.bind (show d < t.size by omega) v) (by simpa using hsz) hq (fun env' t' h1 h2 => hk env' t' h1 ((List.suffix_cons _ _).trans h2))
              · rename_i hwt
                rw [hd]
                exact H C (undef :: env) _ next q (by simp) (hr.bind (show d < t.size by omega) undef) (by simpa using hsz) (hn (by rw [hev]; exact fun e => hwt (hw.2 e))) (fun env' t' h1 h2 => hk env' t' h1 ((List.suffix_cons _ _).trans h2))
              · rename_i hwt
                obtain ⟨v, hv, hq⟩ := hy (by rw [hev]; exact hw.1 hwt)
                refine ⟨v, fun w hw => qAt_ren (a := ⟨t, ds⟩) hr hok (hv w hw), ?_⟩
                rw [hd]
                exact H C (v :: env) _ next q (by simp) (hr.push v) hsz hq (fun env' t' h1 h2 => hk env' t' h1 ((List.suffix_cons _ _).trans h2))
              · rename_i hwt
                rw [hd]
                exact H C (undef :: env) _ next q (by simp) (hr.push undef) hsz (hn (by rw [hev]; exact fun e => hwt (hw.2 e))) (fun env' t' h1 h2 => hk env' t' h1 ((List.suffix_cons _ _).trans h2))
            · cases hc
          · cases hc
    next => cases hc

/-! ### quiet operations in any order, then a tail in one order -/
section
variable {ops : Array Oper} {md : Region.Mode} {C : World → Prop}
def anyH (P : Program) (md : Region.Mode) (ops : Array Oper) (C : World → Prop) (n : Nat) (L : Array Bool → Act → Prop) : Nat → Array Bool → Act → Prop
  | 0, listed, a => L listed a
  | f + 1, listed, a => Region.ready md ops listed ≠ [] ∧ ∀ i ∈ Region.ready md ops listed, i < n ∧ qOp P ops C i (anyH P md ops C n L f (listed.setIfInBounds i true)) a

theorem wpAny_of_anyH {n g : Nat} {L : Array Bool → Act → Prop} {Q' : Exit → Act → World → Prop} (hL : ∀ listed a w, C w → L listed a → wpAny P md ops Q' g listed a w) :
    ∀ (f : Nat) (listed : Array Bool) (a : Act) (w : World), C w → anyH P md ops C n L f listed a → wpAny P md ops Q' (f + g) listed a w
  | 0, listed, a, w, hw, h => by rw [Nat.zero_add]; exact hL _ _ _ hw h
  | f + 1, listed, a, w, hw, h => by
    rw [show f + 1 + g = (f + g) + 1 by omega]
    exact ⟨fun h0 => absurd h0 h.1, fun i hi => wpOp_of_qOp hw (fun a' w' hw' h' => wpAny_of_anyH hL f _ a' w' hw' h') (h.2 i hi).2⟩

theorem anyH_first {n i : Nat} {oi : Oper} {v : Value} {L : Array Bool → Act → Prop} (hi : ops[i]? = some oi) (hsel : ∀ (j : Nat) (o : Oper) cs b, ops[j]? = some o → o.op ≠ .select cs b)
    (hs : Region.sinkB md ops n = true) (hc : Region.chainB md ops n = true) (hn : n < ops.size) (hin : i < n) (hdone : ∀ listed a, L listed a → ∀ j ∈ Region.ready md ops listed, n ≤ j) :
    ∀ (f : Nat) (listed : Array Bool) (a : Act), HeadInv md ops n listed →
      (∀ j oj, ops[j]? = some oj → j ≠ i → listed.getD j true = false → (∀ e ∈ oj.after, Region.binds md e = true → e.on ≠ i) → oi.apart ops oj = true) →
      i ∈ Region.ready md ops listed → YieldsIn P ops C oi v a → anyH P md ops C n L f (listed.setIfInBounds i true) (a.put oi.dst v) → anyH P md ops C n L (f + 1) listed a := by
  intro f
  have below : ∀ (listed : Array Bool), HeadInv md ops n listed → i ∈ Region.ready md ops listed → ∀ j ∈ Region.ready md ops listed, j < n := fun listed inv hr j hj => by
    rcases Nat.lt_or_ge j n with h | h
    · exact h
    · exact absurd hj (tail_waits hs hc hn inv _ i rfl hin (mem_ready.1 hr).1 j h)
  induction f with
  | zero =>
    intro listed a inv _ hr hy H
    refine ⟨fun h => (by rw [h] at hr; cases hr), fun j hj => ⟨below listed inv hr j hj, ?_⟩⟩
    by_cases hji : j = i
    · subst hji; exact hy.qOp hi H
    · have := hdone _ _ H j (ready_mono hj hji)
      have := below listed inv hr j hj
      omega
  | succ f ih =>
    intro listed a inv hfree hr hy H
    refine ⟨fun h => (by rw [h] at hr; cases hr), fun j hj => ?_⟩
    have hjn := below listed inv hr j hj
    refine ⟨hjn, ?_⟩
    by_cases hji : j = i
    · subst hji; exact hy.qOp hi H
    · have h1 := (H.2 j (ready_mono hj hji)).2
      have hun := (mem_ready.1 hr).1
      obtain ⟨hjun, oj, hoj, hall⟩ := mem_ready.1 hj
      have hnot : ∀ e ∈ oj.after, Region.binds md e = true → e.on ≠ i := fun e he hb heq => by
        have h2 := hall e he hb
        rw [heq, getD_both hun] at h2
        cases h2
      have h2 := qOp_put hoj (hfree j oj hoj hji hjun hnot) (fun cs b => hsel i oi cs b hi) (fun cs b => hsel j oj cs b hoj) hy h1
      refine qOp_mono (fun a' h3 => ih (listed.setIfInBounds j true) a' (inv.set hj hjn) ?_ (ready_mono hr (Ne.symm hji)) h3.1 ?_) h2
      · intro k ok hk hki hunk hno
        refine hfree k ok hk hki ?_ hno
        by_cases hjk : j = k
        · subst hjk; exact hjun
        · rw [getD_set_ne true hjk] at hunk; exact hunk
      · rw [Array.setIfInBounds_comm _ _ hji]
        exact h3.2

theorem headB_lex {n g : Nat} {q : Act → Prop} (hsel : Region.noSelect ops = true) (hs : Region.sinkB .any ops n = true) (hc : Region.chainB .any ops n = true) (hn : n < ops.size) :
    ∀ (l : List Oper) (k : Nat) (listed : Array Bool) (a : Act), (∀ j, j < l.length → l[j]? = ops[k + j]?) → k + l.length = n → HeadInv .any ops n listed → headB ops l.length k listed g = true → wpQuiet P ops C q l a →
      anyH P .any ops C n (fun listed' a' => Region.seqB .any ops g n listed' = true ∧ q a') l.length listed a
  | [], k, listed, a, _, hk, _, hB, h => by
    have : k = n := by simpa using hk
    subst this
    exact ⟨by simpa [headB] using hB, h⟩
  | o :: l, k, listed, a, hl, hk, inv, hB, h => by
    have h0 : ops[k]? = some o := by simpa using (hl 0 (by simp)).symm
    simp only [List.length_cons, headB, Bool.and_eq_true] at hB
    obtain ⟨⟨hr, hf⟩, hB'⟩ := hB
    have hkn : k < n := by simp only [List.length_cons] at hk; omega
    have hr' : k ∈ Region.ready .any ops listed := by simpa using hr
    have hst : qOp P ops C k (wpQuiet P ops C q l) a := by unfold qOp; simp only [h0]; exact h
    obtain ⟨v, hy, hK⟩ := yieldsIn_of_qOp h0 hst
    exact anyH_first h0 (Region.noSelect_spec hsel) hs hc hn hkn (fun listed' a' hL => seqB_ready hL.1) l.length listed a inv (Region.free_spec h0 hf) hr' hy
      (headB_lex hsel hs hc hn l (k + 1) _ _ (fun j hj => by have := hl (j + 1) (by simp; omega); simpa [Nat.add_assoc, Nat.add_comm 1 j] using this) (by simp only [List.length_cons] at hk; omega) (inv.set hr' hkn) hB' hK)

theorem wp_region_cut {id n : Nat} {Q : Exit → Act → World → Prop} {a : Act} {w : World} (hm : P.follows .mixedOrders = true) (hB : cutB ops n = true) (hC : C { w with drawn := w.drawn + 1 })
    (h : wpQuiet P ops C (fun a' => ∀ w', C w' → wpList P ops Q (ops.toList.drop n) a' w') (ops.toList.take n) a) : (Code.region id ops true).wp P Q a w := by
  simp only [cutB, Bool.and_eq_true, decide_eq_true_eq] at hB
  obtain ⟨⟨⟨⟨hsel, hn⟩, hs⟩, hc⟩, hlex⟩ := hB
  have htl : (ops.toList.take n).length = n := by simp; omega
  have hdl : (ops.toList.drop n).length = ops.size - n := by simp
  have inv0 : HeadInv .any ops n (Array.replicate ops.size false) :=
    ⟨by simp, fun j oj _ hl => (by rw [getD_replicate_false] at hl; cases hl), fun t _ ht => getD_in (by simpa using ht) (getD_replicate_false _ _)⟩
  have H := headB_lex (P := P) (C := C) (g := ops.size - n) hsel hs hc hn (ops.toList.take n) 0 _ a (fun j hj => by
    have hj' : j < n := by rw [htl] at hj; exact hj
    simp [hj']) (by simpa using htl) inv0 (by rw [htl]; exact hlex) h
  refine wp_region_any hm ?_
  have := wpAny_of_anyH (Q' := Q) (g := ops.size - n) (fun listed a' w' hw' hL => by
    have := wpAny_of_seq (md := .any) (P := P) (Q' := Q) (ops := ops) (ops.toList.drop n) n listed a' w' (fun j => by simp [List.getElem?_drop]) (by rw [hdl]; exact hL.1) (hL.2 w' hw')
    rwa [hdl] at this) _ _ _ _ hC H
  rw [htl, show n + (ops.size - n) = ops.size by omega] at this
  exact this
end

/-! ### quiet operations and others, mixed -/
set_option linter.unusedVariables false
set_option linter.unusedSimpArgs false
section
variable {ops : Array Oper} {md : Region.Mode} {D : World → Prop} {Q' : Exit → Act → World → Prop}
/-- the value, and the very world -/
def exAt (P : Program) (o : Oper) (ρ : Operand → Value) (w : World) (v : Value) : Prop := (execOp ρ o).run P w = .ok (.value v) w ∨ ((execOp ρ o).run P w = .ok .skip w ∧ v = undef)
theorem no_enter {s : Sem Value} {w w' : World} {f : FuncId} {args : Array Value} : (do let x ← s; pure (Next.value x) : Sem Next).run P w ≠ .ok (.enter f args) w' := by
  rw [Sem.run_bind]
  intro h
  cases hs : s.run P w with
  | ok v w1 => rw [hs] at h; simp only [Result.andThen_ok, Sem.run_pure] at h; injection h with h; cases h
  | halt e w1 => rw [hs] at h; cases h
def NE (P : Program) (m : Sem Next) : Prop := ∀ w w' f args, m.run P w ≠ .ok (.enter f args) w'
theorem NE.at {m : Sem Next} (h : NE P m) {w w' : World} {f : FuncId} {args : Array Value} : m.run P w ≠ .ok (.enter f args) w' := h w w' f args
theorem NE.pure (v : Value) : NE P (Pure.pure (Next.value v)) := fun w w' f args h => by rw [Sem.run_pure] at h; injection h with h; cases h
theorem NE.bind {α : Type} {m : Sem α} {k : α → Sem Next} (h : ∀ x, NE P (k x)) : NE P (m >>= k) := fun w w' f args hh => by
  rw [Sem.run_bind] at hh
  cases hs : m.run P w with
  | ok v w1 => rw [hs] at hh; exact h v w1 w' f args hh
  | halt e w1 => rw [hs] at hh; cases hh
theorem NE.go {v : Value} : NE P (goPanic v) := fun w w' f args h => by cases h
theorem NE.panic {r} : NE P (runtimePanic r) := by
  unfold runtimePanic
  refine NE.bind fun p => ?_
  cases r <;> dsimp only <;> first | exact NE.go | exact NE.bind fun _ => NE.bind fun _ => NE.go
theorem now_enter {o : Oper} (h : isNow o.op = true) {ρ : Operand → Value} {w w' : World} {f : FuncId} {args : Array Value} : (execOp ρ o).run P w ≠ .ok (.enter f args) w' := by
  obtain ⟨dst, op, type, pos, after, guard⟩ := o
  cases op <;> simp only [isNow] at h <;> try (cases h)
  all_goals try exact no_enter
  case move x => intro h; simp only [execOp, Sem.run_pure] at h; injection h with h; cases h
  case assign x => intro h; simp only [execOp, Sem.run_pure] at h; injection h with h; cases h
  case pick c a b =>
    intro h
    simp only [execOp, Sem.run_bind] at h
    cases hs : (asBool (ρ c)).run P w with
    | ok v w1 => rw [hs] at h; simp only [Result.andThen_ok, Sem.run_pure] at h; injection h with h; cases h
    | halt e w1 => rw [hs] at h; cases h
  case nilCheck x =>
    refine NE.at (m := execOp ρ ⟨dst, .nilCheck x, type, pos, after, guard⟩) ?_
    simp only [execOp]
    split
    · exact NE.panic
    · exact NE.panic
    · exact NE.panic
    · split
      · exact NE.panic
      · refine NE.bind fun p => NE.bind fun b => ?_
        split
        · exact NE.bind fun _ => NE.pure _
        · exact NE.pure _
      · exact NE.pure _
    · exact NE.pure _
  case call c =>
    obtain ⟨callee, xs, tys⟩ := c
    cases callee with
    | value g => simp at h
    | invoke r m => simp at h
    | builtin b =>
      have e : ∃ cs, (execOp ρ ⟨dst, .call ⟨.builtin b, xs, tys⟩, type, pos, after, guard⟩) = builtin b tys type cs (xs.map ρ) := by
        refine ⟨xs.map fun | .const _ => true | _ => false, ?_⟩
        simp only [execOp, resolve, pure_bind, invoke]
        rfl
      obtain ⟨cs, e⟩ := e
      rw [e]
      cases b <;> simp at h <;> exact no_enter
theorem ex_of_q {o : Oper} {ρ : Operand → Value} {w : World} {v : Value} (hn : isNow o.op = true) (h : Oper.quietUpon P D w v ((execOp ρ o).run P w)) : exAt P o ρ w v := by
  have hne := fun f args w' => now_enter (P := P) hn (ρ := ρ) (w := w) (w' := w') (f := f) (args := args)
  unfold exAt
  generalize (execOp ρ o).run P w = r at *
  cases r with
  | ok x w' =>
    cases x <;> simp only [Oper.quietUpon] at h
    case value u => obtain ⟨rfl, rfl⟩ := h; exact .inl rfl
    case skip => obtain ⟨rfl, rfl⟩ := h; exact .inr ⟨rfl, rfl⟩
    case enter f args => exact absurd rfl (hne f args w')
  | halt x w' => simp only [Oper.quietUpon] at h

def YieldsD (P : Program) (ops : Array Oper) (D : World → Prop) (o : Oper) (v : Value) (a : Act) : Prop :=
  (Region.wanted o (yielded ops a.tmps) = true ∧ ∀ w, D w → exAt P o a.eval w v) ∨ (Region.wanted o (yielded ops a.tmps) = false ∧ v = undef)
theorem YieldsD.wpOp {i : Nat} {o : Oper} {v : Value} {a : Act} (hi : ops[i]? = some o) (hy : YieldsD P ops D o v a) {K : Act → World → Prop} {w : World} (hD : D w) (h : K (a.put o.dst v) w) : wpOp P ops Q' i K a w := by
  unfold Go.wpOp
  simp only [hi]
  rcases hy with ⟨hw, hv⟩ | ⟨hw, rfl⟩
  · simp only [hw, if_true, Oper.wp]
    rcases hv w hD with e | ⟨e, rfl⟩
    · rw [e]; exact .inl h
    · rw [e]; exact .inl h
  · simp only [hw, Bool.false_eq_true, if_false]; exact h
theorem YieldsD.of_same {o : Oper} {v : Value} {a a' : Act} (hy : YieldsD P ops D o v a) (he : execOp a'.eval o = execOp a.eval o) (hw : Region.wanted o (yielded ops a'.tmps) = Region.wanted o (yielded ops a.tmps)) : YieldsD P ops D o v a' := by
  unfold YieldsD exAt at *
  rw [he, hw]
  exact hy
theorem wpOpD_put {j : Nat} {oi oj : Oper} {v : Value} (hj : ops[j]? = some oj) (hap : oi.apart ops oj = true) (hsi : ∀ cs b, oi.op ≠ .select cs b) (hsj : ∀ cs b, oj.op ≠ .select cs b)
    (hQ : ∀ c a w, Q' (.panic c) (a.put oi.dst v) w → Q' (.panic c) a w) {K : Act → World → Prop} {a : Act} {w : World} (hy : YieldsD P ops D oi v a) (h : wpOp P ops Q' j K (a.put oi.dst v) w) :
    wpOp P ops Q' j (fun a' w' => YieldsD P ops D oi v a' ∧ K (a'.put oi.dst v) w') a w := by
  obtain ⟨h1, h2, h3⟩ := Oper.apart_spec hap
  have keep : ∀ (a : Act), YieldsD P ops D oi v a → ∀ u, YieldsD P ops D oi v (a.put oj.dst u) := fun a hy u =>
    hy.of_same (execOp_put oi hsi a oj.dst u h3) (wanted_put oi a oj.dst u h3)
  have keepD : ∀ d, YieldsD P ops D oi v { a with defers := d :: a.defers } := fun d => hy.of_same rfl rfl
  unfold wpOp at *
  simp only [hj] at *
  rw [wanted_put oj a oi.dst v h1] at h
  split
  · rename_i hw
    simp only [hw, if_true] at h
    rcases h with h | ⟨hasks, hlets⟩
    case inr => exact .inr ⟨by unfold Oper.asks at *; rw [execOp_put oj hsj a oi.dst v h1] at hasks; exact hasks, hlets⟩
    refine .inl ?_
    unfold Oper.wp at *
    rw [execOp_put oj hsj a oi.dst v h1] at h
    generalize (execOp a.eval oj).run P w = r at *
    cases r with
    | ok n w' =>
      cases n <;> simp only [Oper.upon] at h ⊢
      case value u => exact ⟨keep a hy u, by rw [← Act.put_comm a v u h2]; exact h⟩
      case skip => exact ⟨keep a hy _, by rw [← Act.put_comm a v undef h2]; exact h⟩
      case defer d =>
        refine ⟨keep _ (keepD d) _, ?_⟩
        rw [← Act.put_comm _ v undef h2, ← Act.put_defers]
        exact h
      case enter f args =>
        refine Calls.mono h fun e w'' he => ?_
        cases e with
        | returned u => exact ⟨keep a hy u, by rw [← Act.put_comm a v u h2]; exact he⟩
        | panicked c => exact hQ _ _ _ he
        | outgrown => exact he
      case row row args => exact Rows.mono h fun u w'' he => ⟨keep a hy u, by rw [← Act.put_comm a v u h2]; exact he⟩
    | halt x w' =>
      cases x <;> simp only [Oper.upon] at h ⊢
      case panic u => exact hQ _ _ _ h
  · rename_i hw
    simp only [hw] at h
    exact ⟨keep a hy _, by rw [← Act.put_comm a v undef h2]; exact h⟩

/-- what an operation waits for is listed wherever it is -/
def closedL (ops : Array Oper) (l : Array Bool) : Prop := ∀ j oj, ops[j]? = some oj → l.getD j false = true → ∀ e ∈ oj.after, Region.binds .any e = true → l.getD e.on false = true
theorem closedL.step {l : Array Bool} {i : Nat} (h : closedL ops l) (hi : i ∈ Region.ready .any ops l) : closedL ops (l.setIfInBounds i true) := fun j oj hj hl e he hb => by
  obtain ⟨_, o, ho, hall⟩ := mem_ready.1 hi
  by_cases hij : i = j
  · subst hij
    rw [ho] at hj
    injection hj with hj
    subst hj
    exact getD_set_true (hall e he hb)
  · rw [getD_set_ne false hij] at hl
    exact getD_set_true (h j oj hj hl e he hb)
theorem getD_set_self {l : Array Bool} {i : Nat} (h : l.getD i true = false) : (l.setIfInBounds i true).getD i false = true := by
  have hlt : i < l.size := by
    rcases Nat.lt_or_ge i l.size with h' | h'
    · exact h'
    · simp [Array.getElem?_eq_none h'] at h
  simp [hlt]
theorem ancs_sound {l : Array Bool} (hc : closedL ops l) : ∀ (f : Nat) (s : List Nat), (∀ x ∈ s, l.getD x false = true) → ∀ x ∈ ancs ops f s, l.getD x false = true
  | 0, s, hs, x, hx => hs x hx
  | f + 1, s, hs, x, hx => by
    unfold ancs at hx
    split at hx
    · exact hs x hx
    · rename_i new hnew
      refine ancs_sound hc f _ (fun y hy => ?_) x hx
      rcases List.mem_append.1 hy with hy | hy
      · exact hs y hy
      · have := (List.mem_filter.1 hy).1
        obtain ⟨j, hj, hy⟩ := List.mem_flatMap.1 this
        cases ho : ops[j]? with
        | none => rw [ho] at hy; cases hy
        | some o =>
          rw [ho] at hy
          obtain ⟨e, he, rfl⟩ := List.mem_map.1 hy
          obtain ⟨he, hb⟩ := List.mem_filter.1 he
          exact hc j o ho (hs j hj) e (by simpa using he) hb
theorem covers_sound {listed l : Array Bool} {i : Nat} (h : coversB ops listed i = true) (hc : closedL ops l) (hi : l.getD i false = true) (j : Nat) (hj : listed.getD j false = true) : l.getD j false = true := by
  unfold coversB at h
  rw [List.all_eq_true] at h
  have hlt : j < listed.size := by
    rcases Nat.lt_or_ge j listed.size with h' | h'
    · exact h'
    · simp [Array.getElem?_eq_none h'] at hj
  have h1 := h j (List.mem_range.2 hlt)
  rw [hj] at h1
  simp only [Bool.not_true, Bool.false_or, List.contains_eq_mem, decide_eq_true_eq] at h1
  exact ancs_sound hc _ [i] (fun x hx => by rw [List.mem_singleton] at hx; rw [hx]; exact hi) j h1
/-- whatever order: from here on every world is of the class, which hangs on what is done -/
def AH (P : Program) (md : Region.Mode) (ops : Array Oper) (Q' : Exit → Act → World → Prop) (D : Array Bool → World → Prop) : Nat → Array Bool → Act → World → Prop
  | 0, listed, a, w => D listed w ∧ Region.ready md ops listed = [] ∧ Q' .normal a w
  | f + 1, listed, a, w => D listed w ∧ Region.ready md ops listed ≠ [] ∧ ∀ i ∈ Region.ready md ops listed, wpOp P ops Q' i (AH P md ops Q' D f (listed.setIfInBounds i true)) a w
section
variable {D : Array Bool → World → Prop}
theorem AH.at {f : Nat} {listed : Array Bool} {a : Act} {w : World} (h : AH P md ops Q' D f listed a w) : D listed w := by cases f <;> exact h.1
theorem AH.weaken {D2 : Array Bool → World → Prop} {i : Nat} (hD : ∀ l, l.getD i false = true → ∀ w, D l w → D2 l w) : ∀ {f : Nat} {listed : Array Bool} {a : Act} {w : World}, listed.getD i false = true → AH P md ops Q' D f listed a w → AH P md ops Q' D2 f listed a w
  | 0, _, _, _, hl, h => ⟨hD _ hl _ h.1, h.2⟩
  | f + 1, _, _, _, hl, h => ⟨hD _ hl _ h.1, h.2.1, fun i hi => wpOp_mono (fun a w h => AH.weaken hD (getD_set_true hl) h) (h.2.2 i hi)⟩
theorem wpAny_of_AH : ∀ {f : Nat} {listed : Array Bool} {a : Act} {w : World}, AH P md ops Q' D f listed a w → wpAny P md ops Q' f listed a w
  | 0, _, _, _, h => h.2
  | f + 1, _, _, _, h => ⟨fun h0 => absurd h0 h.2.1, fun i hi => wpOp_mono (fun a w h => wpAny_of_AH h) (h.2.2 i hi)⟩
theorem AH_first {i : Nat} {oi : Oper} {v : Value} {C : World → Prop} (hi : ops[i]? = some oi) (hsel : ∀ (j : Nat) (o : Oper) cs b, ops[j]? = some o → o.op ≠ .select cs b)
    (hQ : ∀ c a w, Q' (.panic c) (a.put oi.dst v) w → Q' (.panic c) a w)
    (hC : ∀ l, closedL ops l → l.getD i false = false → ∀ w, D l w → C w) (hins : ∀ l, closedL ops l → ∀ w, D (l.setIfInBounds i true) w → D l w) :
    ∀ (fuel : Nat) (listed : Array Bool) (a : Act) (w : World),
      (∀ j oj, ops[j]? = some oj → j ≠ i → listed.getD j true = false → (∀ e ∈ oj.after, Region.binds .any e = true → e.on ≠ i) → oi.apart ops oj = true) →
      closedL ops listed → i ∈ Region.ready .any ops listed → YieldsD P ops C oi v a →
      AH P .any ops Q' D fuel (listed.setIfInBounds i true) (a.put oi.dst v) w → AH P .any ops Q' D (fuel + 1) listed a w := by
  intro fuel
  induction fuel with
  | zero =>
    intro listed a w _ hcl hr hy H
    have h0 := hins _ hcl _ H.at
    refine ⟨h0, fun h => (by rw [h] at hr; cases hr), fun j hj => ?_⟩
    by_cases hji : j = i
    · subst hji; exact hy.wpOp hi (hC _ hcl (getD_both (mem_ready.1 hr).1) _ h0) H
    · have := ready_mono hj hji
      rw [H.2.1] at this
      cases this
  | succ fuel ih =>
    intro listed a w hfree hcl hr hy H
    have h0 := hins _ hcl _ H.at
    refine ⟨h0, fun h => (by rw [h] at hr; cases hr), fun j hj => ?_⟩
    by_cases hji : j = i
    · subst hji; exact hy.wpOp hi (hC _ hcl (getD_both (mem_ready.1 hr).1) _ h0) H
    · have h1 := H.2.2 j (ready_mono hj hji)
      have hun := (mem_ready.1 hr).1
      obtain ⟨hjun, oj, hoj, hall⟩ := mem_ready.1 hj
      have hnot : ∀ e ∈ oj.after, Region.binds .any e = true → e.on ≠ i := fun e he hb heq => by
        have h2 := hall e he hb
        rw [heq, getD_both hun] at h2
        cases h2
      have h2 := wpOpD_put hoj (hfree j oj hoj hji hjun hnot) (fun cs b => hsel i oi cs b hi) (fun cs b => hsel j oj cs b hoj) hQ hy h1
      refine wpOp_mono (fun a' w' h3 => ih (listed.setIfInBounds j true) a' w' ?_ (hcl.step hj) (ready_mono hr (Ne.symm hji)) h3.1 ?_) h2
      · intro k ok hk hki hunk hno
        refine hfree k ok hk hki ?_ hno
        by_cases hjk : j = k
        · subst hjk; exact hjun
        · rw [getD_set_ne true hjk] at hunk; exact hunk
      · rw [Array.setIfInBounds_comm _ _ hji]
        exact h3.2
end
/-- a class as the rest of a region wants it: where something that is done by now is not done, it is the old one -/
structure Fam (ops : Array Oper) (D : World → Prop) (listed : Array Bool) (Df : Array Bool → World → Prop) : Prop where
  old : ∀ l, closedL ops l → ∀ j, listed.getD j false = true → l.getD j false = false → ∀ w, Df l w → D w
  ins : ∀ j, listed.getD j false = true → ∀ l, closedL ops l → ∀ w, Df (l.setIfInBounds j true) w → Df l w
def Good (P : Program) (ops : Array Oper) (Q' : Exit → Act → World → Prop) (D : World → Prop) (f : Nat) (listed : Array Bool) (a : Act) (w : World) : Prop := ∃ Df, Fam ops D listed Df ∧ AH P .any ops Q' Df f listed a w
theorem Good.first {i : Nat} {oi : Oper} {v : Value} {D : World → Prop} {f : Nat} {listed : Array Bool} {a : Act} {w : World} (hi : ops[i]? = some oi) (hsel : ∀ (j : Nat) (o : Oper) cs b, ops[j]? = some o → o.op ≠ .select cs b)
    (hQ : ∀ c a w, Q' (.panic c) (a.put oi.dst v) w → Q' (.panic c) a w)
    (hfree : ∀ j oj, ops[j]? = some oj → j ≠ i → listed.getD j true = false → (∀ e ∈ oj.after, Region.binds .any e = true → e.on ≠ i) → oi.apart ops oj = true)
    (hcl : closedL ops listed) (hr : i ∈ Region.ready .any ops listed) (hy : YieldsD P ops D oi v a)
    (h : Good P ops Q' D f (listed.setIfInBounds i true) (a.put oi.dst v) w) : Good P ops Q' D (f + 1) listed a w := by
  obtain ⟨Df, hF, hA⟩ := h
  have hself := getD_set_self (mem_ready.1 hr).1
  exact ⟨Df, ⟨fun l hl j hj => hF.old l hl j (getD_set_true hj), fun j hj => hF.ins j (getD_set_true hj)⟩,
    AH_first hi hsel hQ (fun l hl hli => hF.old l hl i hself hli) (fun l hl => hF.ins i hself l hl) f listed a w hfree hcl hr hy hA⟩

theorem isNow_move {o : Oper} {j d : Nat} (h : plainMove o = some (j, d)) : ∀ (ρ : Operand → Value) w, (execOp ρ o).run P w = .ok (.value (ρ (.tmp j))) w := by
  obtain ⟨_, _, hop⟩ := plainMove_spec h
  intro ρ w
  rcases hop with e | e <;> simp only [execOp, e, Sem.run_pure]

theorem allT_spec {g : Nat → Option Tree} {env : Env} {w : World} {B : List (List Value → World → Prop)} : ∀ {is : List Nat} {T : Tree}, allT g is = some T → W P R T env w B → is ≠ [] ∧ ∀ i ∈ is, ∃ T', g i = some T' ∧ W P R T' env w B
  | [], T, h, _ => by cases h
  | [i], T, h, hW => ⟨by simp, fun j hj => by
    rw [List.mem_singleton] at hj
    subst hj
    exact ⟨T, h, hW⟩⟩
  | i :: j :: is, T, h, hW => ⟨by simp, fun k hk => by
    unfold allT at h
    split at h
    · rename_i a b ha hb
      injection h with h
      subst h
      simp only [W] at hW
      rcases List.mem_cons.1 hk with rfl | hk
      · exact ⟨a, ha, hW.1⟩
      · exact (allT_spec hb hW.2).2 k hk
    · cases h⟩
theorem cmpMix_sound {sz : Nat} {B : List (List Value → World → Prop)} (hsel : Region.noSelect ops = true) (hP : ∀ ch a w', R (.panicked ch) w' → a.defers = ds → Q' (.panic ch) a w') (hQ : ∀ c d v a w, Q' (.panic c) (Act.put a d v) w → Q' (.panic c) a w) :
    ∀ (f : Nat) (listed : Array Bool) (sf : SF) (k : KK) (T : Tree) (env : Env) (w : World) (t : Array Value) (D : World → Prop), cmpMix sz ops f listed sf env.length k = some T → Rel sf env t → t.size = sz → closedL ops listed → D w → W P R T env w (B ++ [fun _ => D]) →
      PostO P R ds env B sz k (Q' .normal) → Good P ops Q' D f listed ⟨t, ds⟩ w
  | 0, listed, sf, k, T, env, w, t, D, hc, hr, hsz, hcl, hD, hW, hk => by
    unfold cmpMix at hc
    split at hc
    · rename_i hre
      obtain ⟨T', hT', rfl⟩ := Option.map_eq_some_iff.1 hc
      simp only [W, List.dropLast_concat] at hW
      exact ⟨fun _ => D, ⟨fun _ _ _ _ _ _ h => h, fun _ _ _ _ _ h => h⟩, hD, by simpa using hre, hk _ _ _ _ _ _ hT' rfl (List.suffix_refl _) hr hsz hW⟩
    · cases hc
  | f + 1, listed, sf, k, T, env, w, t, D, hc, hr, hsz, hcl, hD, hW, hk => by
    unfold cmpMix at hc
    split at hc
    · rename_i i hfi
      have hmem := List.mem_of_find?_eq_some hfi
      have hcalm := List.find?_some hfi
      split at hc
      · rename_i o ho
        simp only [calmB, ho, Bool.and_eq_true] at hcalm
        obtain ⟨hnow, hfree⟩ := hcalm
        -- what the rest is good for
        have hrest : ∀ sf' T' env' t', cmpMix sz ops f (listed.setIfInBounds i true) sf' env'.length k = some T' → env <:+ env' → Rel sf' env' t' → t'.size = sz → W P R T' env' w (B ++ [fun _ => D]) → Good P ops Q' D f (listed.setIfInBounds i true) ⟨t', ds⟩ w :=
          fun sf' T' env' t' hT' he hr' hsz' hW' => cmpMix_sound hsel hP hQ f _ sf' k T' env' w t' D hT' hr' hsz' (hcl.step hmem) hD hW' (hk.mono he)
        have first : ∀ v, YieldsD P ops D o v ⟨t, ds⟩ → Good P ops Q' D f (listed.setIfInBounds i true) ((⟨t, ds⟩ : Act).put o.dst v) w → Good P ops Q' D (f + 1) listed ⟨t, ds⟩ w := fun v hy h =>
          Good.first ho (Region.noSelect_spec hsel) (fun c a w => hQ c _ v a w) (Region.free_spec ho hfree) hcl hmem hy h
        have bound : ∀ (v : Value) (T' : Tree), bindD sz o sf env.length (fun sf n => cmpMix sz ops f (listed.setIfInBounds i true) sf n k) = some T' → W P R T' (v :: env) w (B ++ [fun _ => D]) → Good P ops Q' D f (listed.setIfInBounds i true) ((⟨t, ds⟩ : Act).put o.dst v) w := fun v T' hT' hW' => by
          rcases bindD_spec hT' with ⟨d, hd, hlt, hT'⟩ | ⟨hd, hT'⟩
          · rw [hd]
            exact hrest _ T' (v :: env) _ (by simpa using hT') (List.suffix_cons _ _) (hr.bind (show d < t.size by omega) v) (by simpa using hsz) hW'
          · rw [hd]
            exact hrest _ T' (v :: env) t (by simpa using hT') (List.suffix_cons _ _) (hr.push v) hsz hW'
        unfold cmpMQ at hc
        split at hc
        next hok =>
          split at hc
          · rename_i j d hm
            obtain ⟨hg, hd, hop⟩ := plainMove_spec hm
            split at hc
            · rename_i lv hlv
              split at hc
              · rename_i hlt
                obtain ⟨_, h2, h3⟩ := hr.at_ j lv hlv
                refine first (val env lv) (.inl ⟨by simp [Region.wanted, hg], fun w' _ => .inl ?_⟩) ?_
                · rw [isNow_move hm]
                  simp only [Act.eval, h3]
                · rw [hd]
                  exact hrest _ T env _ hc (List.suffix_refl _) (hr.alias (show d < t.size by omega) h2) (by simpa using hsz) hW
              · cases hc
            · cases hc
          · split at hc
            · rename_i hg
              obtain ⟨T', hT', rfl⟩ := Option.map_eq_some_iff.1 hc
              simp only [W, List.getLast?_concat] at hW
              obtain ⟨p, hp, v, hv, hW⟩ := hW
              injection hp with hp
              subst hp
              refine first v (.inl ⟨by simp [Region.wanted, hg], fun w' hw' => ?_⟩) (bound v T' hT' hW)
              have := hv w' hw'
              unfold qAt at this
              rw [exec_ren (a := ⟨t, ds⟩) hr hok] at this
              exact ex_of_q hnow this
            · rename_i j b hg
              split at hc
              · rename_i d hd
                split at hc
                · rename_i hkn
                  obtain ⟨lv, hlv⟩ := Option.isSome_iff_exists.1 hkn
                  obtain ⟨h1, h2, h3⟩ := hr.at_ d lv hlv
                  have hw := wanted_iff (ops := ops) (o := o) (t := t) hg hd h1
                  obtain ⟨T', hT', rfl⟩ := Option.map_eq_some_iff.1 hc
                  have hev : ev env (renX env.length sf (.tmp d)) = t.getD d undef := ev_ren (a := ⟨t, ds⟩) hr (.tmp d) (by simpa [known] using hkn)
                  simp only [W, List.getLast?_concat] at hW
                  obtain ⟨p, hp, hy, hn⟩ := hW
                  injection hp with hp
                  subst hp
                  by_cases hwt : Region.wanted o (yielded ops t) = true
                  · obtain ⟨v, hv, hW⟩ := hy (by rw [hev]; exact hw.1 hwt)
                    refine first v (.inl ⟨hwt, fun w' hw' => ?_⟩) (bound v T' hT' hW)
                    have := hv w' hw'
                    unfold qAt at this
                    rw [exec_ren (a := ⟨t, ds⟩) hr hok] at this
                    exact ex_of_q hnow this
                  · exact first undef (.inr ⟨by simpa using hwt, rfl⟩) (bound undef T' hT' (hn (by rw [hev]; exact fun e => hwt (hw.2 e))))
                · cases hc
              · cases hc
        next => cases hc
      · cases hc
    · obtain ⟨hne, hall⟩ := allT_spec hc hW
      have hne' : ∀ {i j : Nat}, i ∈ Region.ready .any ops listed → listed.getD j false = true → j ≠ i := fun {i j} hi hj e => by
        have hun := getD_both (mem_ready.1 hi).1
        rw [e, hun] at hj
        cases hj
      refine ⟨fun l w => (∀ i ∈ Region.ready .any ops listed, l.getD i false = false) ∧ D w ∨ ∃ i ∈ Region.ready .any ops listed, l.getD i false = true ∧ ∃ (D2 : World → Prop) (Df2 : Array Bool → World → Prop), (coversB ops listed i = true ∨ ∀ w, D2 w → D w) ∧ Fam ops D2 (listed.setIfInBounds i true) Df2 ∧ Df2 l w,
        ⟨fun l hl j hj hjl w' h => ?_, fun j hj l hl w' h => ?_⟩, .inl ⟨fun i hi => getD_both (mem_ready.1 hi).1, hD⟩, hne, fun j hj => ?_⟩
      · rcases h with h | ⟨i, hi, hli, D2, Df2, h1, h2, h3⟩
        · exact h.2
        · rcases h1 with hcv | h1
          · rw [covers_sound hcv hl hli j hj] at hjl
            cases hjl
          · exact h1 _ (h2.old l hl j (getD_set_true hj) hjl w' h3)
      · rcases h with h | ⟨i, hi, hli, D2, Df2, h1, h2, h3⟩
        · exact .inl ⟨fun i hi => by have := h.1 i hi; rwa [getD_set_ne false (hne' hi hj)] at this, h.2⟩
        · rw [getD_set_ne false (hne' hi hj)] at hli
          exact .inr ⟨i, hi, hli, D2, Df2, h1, h2, h2.ins j (getD_set_true hj) l hl w' h3⟩
      · obtain ⟨T', hTj, hWj⟩ := hall j hj
        split at hTj
        · rename_i o ho
          have hself := getD_set_self (mem_ready.1 hj).1
          have hcl' := hcl.step hj
          have key := cmpOp_sound (P := P) (R := R) (Q := Q') (K' := AH P .any ops Q' (fun l w => (∀ i ∈ Region.ready .any ops listed, l.getD i false = false) ∧ D w ∨ ∃ i ∈ Region.ready .any ops listed, l.getD i false = true ∧ ∃ (D2 : World → Prop) (Df2 : Array Bool → World → Prop), (coversB ops listed i = true ∨ ∀ w, D2 w → D w) ∧ Fam ops D2 (listed.setIfInBounds i true) Df2 ∧ Df2 l w) f (listed.setIfInBounds j true)) hTj hr hsz hWj (fun sf' n T' env' w' t' hT hn he hr' hsz' hW' => by
            subst hn
            obtain ⟨T2, hT2, rfl⟩ := Option.map_eq_some_iff.1 hT
            by_cases hcv : coversB ops listed j = true
            · rw [if_pos hcv] at hW'
              simp only [W, List.dropLast_concat] at hW'
              obtain ⟨D2, hDw, hW'⟩ := hW'
              obtain ⟨Df2, hF2, hA⟩ := cmpMix_sound hsel hP hQ f _ sf' k T2 env' w' t' D2 hT2 hr' hsz' hcl' hDw hW' (hk.mono he)
              exact hA.weaken (fun l hl w h => .inr ⟨j, hj, hl, D2, Df2, .inl hcv, hF2, h⟩) hself
            · rw [if_neg hcv] at hW'
              simp only [W, List.getLast?_concat, List.dropLast_concat] at hW'
              obtain ⟨p, hp, D2, hD2, hDw, hW'⟩ := hW'
              injection hp with hp
              subst hp
              obtain ⟨Df2, hF2, hA⟩ := cmpMix_sound hsel hP hQ f _ sf' k T2 env' w' t' D2 hT2 hr' hsz' hcl' hDw hW' (hk.mono he)
              exact hA.weaken (fun l hl w h => .inr ⟨j, hj, hl, D2, Df2, .inr hD2, hF2, h⟩) hself) hP
          unfold wpOp
          simp only [ho]
          split
          · rename_i h; rw [if_pos h] at key; exact .inl key
          · rename_i h; rw [if_neg h] at key; exact key
        · cases hTj
end
end Go.Sx
