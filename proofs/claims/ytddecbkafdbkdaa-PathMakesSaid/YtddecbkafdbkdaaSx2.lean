/- The tree of a function's body is sound: what is proved over the tree holds of the body. -/
import Derived.Test.YtddecbkafdbkdaaSx1
namespace Go.Sx
open Go
variable {P : Program} {R : Ending → World → Prop}

/-- the value at a level, counted from the bottom -/
def val (env : Env) (lv : Nat) : Value := env.getD (env.length - 1 - lv) undef
theorem val_cons (v : Value) (env : Env) (lv : Nat) (h : lv < env.length) : val (v :: env) lv = val env lv := by
  unfold val
  have : (v :: env).length - 1 - lv = (env.length - 1 - lv) + 1 := by simp only [List.length_cons]; omega
  rw [this]
  simp
theorem val_new (v : Value) (env : Env) : val (v :: env) env.length = v := by simp [val]
theorem val_suffix {env env' : Env} (h : env <:+ env') (lv : Nat) (hl : lv < env.length) : val env' lv = val env lv := by
  obtain ⟨t, rfl⟩ := h
  unfold val
  have : (t ++ env).length - 1 - lv = t.length + (env.length - 1 - lv) := by simp only [List.length_append]; omega
  rw [this]
  simp [List.getElem?_append_right]

/-- what the frame holds in the slots that are known -/
structure Rel (sf : SF) (env : Env) (t : Array Value) : Prop where
  at_ : ∀ j lv, at_ sf j = some lv → j < t.size ∧ lv < env.length ∧ t.getD j undef = val env lv

theorem Rel.alias {sf : SF} {env : Env} {t : Array Value} (h : Rel sf env t) {d lv : Nat} (hd : d < t.size) (hl : lv < env.length) : Rel ((d, lv) :: sf) env (t.setIfInBounds d (val env lv)) := by
  constructor
  intro j l hj
  simp only [Sx.at_] at hj
  split at hj
  · rename_i e
    subst e
    injection hj with e
    subst e
    exact ⟨by simpa using hd, hl, by simp [hd]⟩
  · rename_i e
    obtain ⟨h1, h2, h3⟩ := h.at_ j l hj
    exact ⟨by simpa using h1, h2, by simpa [Array.getElem?_setIfInBounds_ne e] using h3⟩
theorem Rel.push {sf : SF} {env : Env} {t : Array Value} (h : Rel sf env t) (v : Value) : Rel sf (v :: env) t :=
  ⟨fun j l hj => by
    obtain ⟨h1, h2, h3⟩ := h.at_ j l hj
    exact ⟨h1, by simp; omega, by rw [val_cons v env l h2]; exact h3⟩⟩
theorem Rel.bind {sf : SF} {env : Env} {t : Array Value} (h : Rel sf env t) {d : Nat} (hd : d < t.size) (v : Value) : Rel ((d, env.length) :: sf) (v :: env) (t.setIfInBounds d v) := by
  have := (h.push v).alias (d := d) (lv := env.length) hd (by simp)
  rwa [val_new] at this

theorem ev_ren {sf : SF} {env : Env} {a : Act} (h : Rel sf env a.tmps) (x : Operand) (hk : known sf x = true) : ev env (renX env.length sf x) = a.eval x := by
  cases x with
  | tmp j =>
    simp only [known] at hk
    obtain ⟨lv, hlv⟩ := Option.isSome_iff_exists.1 hk
    obtain ⟨_, h2, h3⟩ := h.at_ j lv hlv
    simp only [renX, hlv, ev, Act.eval]
    rw [h3]; rfl
  | const v => rfl
  | global g => rfl
  | func g => rfl

theorem keeps_ren (n : Nat) (sf : SF) : Keeps (renX n sf) := ⟨fun _ => rfl, fun _ => ⟨_, rfl⟩, fun _ => rfl, fun _ => rfl⟩

theorem exec_ren {sf : SF} {env : Env} {a : Act} (h : Rel sf env a.tmps) {o : Oper} (hk : okOp sf o = true) : execOp (ev env) (renO env.length sf o) = execOp a.eval o := by
  simp only [okOp, Bool.and_eq_true, List.all_eq_true] at hk
  have hs : ∀ cs b, o.op ≠ .select cs b := by
    intro cs b e
    have h2 := hk.2
    rw [e] at h2
    simp [isSel] at h2
  have e : execOp (ev env) (renO env.length sf o) = execOp (ev env) { o with op := mapX (renX env.length sf) o.op } := by
    unfold renO O
    generalize mapX (renX env.length sf) o.op = op
    cases op <;> rfl
  rw [e, execOp_map (keeps_ren _ _) o hs]
  exact execOp_congr o hs fun x hx => ev_ren h x (hk.1 x (by simpa using hx))

/-- what the continuation is good for -/
def Post (P : Program) (R : Ending → World → Prop) (env0 : Env) (B0 : List (List Value → World → Prop)) (sz : Nat) (k : K) (q : Act → World → Prop) : Prop :=
  ∀ sf n l T env w t B, k sf n l = some T → env.length = n → B.length = l → env0 <:+ env → B0 <+: B → Rel sf env t → t.size = sz → W P R T env w B → q ⟨t, []⟩ w
theorem Post.mono {env0 env1 : Env} {B0 B1 : List (List Value → World → Prop)} {sz : Nat} {k : K} {q : Act → World → Prop} (h : Post P R env0 B0 sz k q) (he : env0 <:+ env1) (hB : B0 <+: B1) : Post P R env1 B1 sz k q :=
  fun sf n l T env w t B hT hn hl h1 h2 => h sf n l T env w t B hT hn hl (he.trans h1) (hB.trans h2)

/-- the same for a continuation inside a region -/
def PostO (P : Program) (R : Ending → World → Prop) (env0 : Env) (B : List (List Value → World → Prop)) (sz : Nat) (k : KK) (q : Act → World → Prop) : Prop :=
  ∀ sf n T env w t, k sf n = some T → env.length = n → env0 <:+ env → Rel sf env t → t.size = sz → W P R T env w B → q ⟨t, []⟩ w
theorem PostO.mono {env0 env1 : Env} {B : List (List Value → World → Prop)} {sz : Nat} {k : KK} {q : Act → World → Prop} (h : PostO P R env0 B sz k q) (he : env0 <:+ env1) : PostO P R env1 B sz k q :=
  fun sf n T env w t hT hn h1 => h sf n T env w t hT hn (he.trans h1)

theorem plainMove_spec {o : Oper} {j d : Nat} (h : plainMove o = some (j, d)) : o.guard = none ∧ o.dst = some d ∧ (o.op = .move (.tmp j) ∨ o.op = .assign (.tmp j)) := by
  unfold plainMove at h
  split at h
  · rename_i h1 h2 h3; injection h with h; injection h with e1 e2; subst e1; subst e2; exact ⟨h2, h3, .inl h1⟩
  · rename_i h1 h2 h3; injection h with h; injection h with e1 e2; subst e1; subst e2; exact ⟨h2, h3, .inr h1⟩
  · cases h

theorem upon_of_opW {o o' : Oper} {env : Env} {a : Act} {w : World} {KV : Value → World → Prop} {K' : Act → World → Prop} {Q : Exit → Act → World → Prop}
    (he : execOp (ev env) o' = execOp a.eval o) (h : opW P o' env w R KV) (hK : ∀ v w', KV v w' → K' (a.put o.dst v) w') (hP : ∀ ch w', R (.panicked ch) w' → Q (.panic ch) a w') : o.wp P a w K' Q := by
  unfold opW at h
  rw [he] at h
  unfold Oper.wp
  generalize (execOp a.eval o).run P w = r at *
  cases r with
  | ok x w' =>
    cases x <;> simp only [Oper.upon] at h ⊢
    case value v => exact hK _ _ h
    case skip => exact hK _ _ h
    case enter f args => exact Calls.mono h fun e w'' he => by cases e with | returned v => exact hK _ _ he | panicked ch => exact hP _ _ he | outgrown => exact he.elim
    case row row args => exact Rows.mono h fun v w'' hv => hK _ _ hv
  | halt x w' =>
    cases x <;> simp only [Oper.upon] at h ⊢
    case panic v => exact hP _ _ h

theorem wanted_iff {ops : Array Oper} {o : Oper} {t : Array Value} {j d : Nat} {b : Bool} (hg : o.guard = some (j, b)) (hd : (ops[j]?).bind (·.dst) = some d) (hsz : d < t.size) :
    Region.wanted o (yielded ops t) = true ↔ t.getD d undef = .bool b := by
  simp only [Region.wanted, hg, yielded, hd, Option.bind_some]
  have : t[d]? = some (t.getD d undef) := by simp [hsz]
  rw [this]
  generalize t.getD d undef = v
  cases v <;> simp

/-- binding what an operation yields -/
theorem bindD_spec {sz : Nat} {o : Oper} {sf : SF} {n : Nat} {k : KK} {T : Tree} (h : bindD sz o sf n k = some T) :
    (∃ d : Nat, o.dst = some d ∧ d < sz ∧ k ((d, n) :: sf) (n + 1) = some T) ∨ (o.dst = none ∧ k sf (n + 1) = some T) := by
  unfold bindD at h
  split at h
  · rename_i d hd
    split at h
    · rename_i hlt; rw [forceN_eq] at h; exact .inl ⟨d, hd, hlt, h⟩
    · cases h
  · rename_i hd; rw [forceN_eq] at h; exact .inr ⟨hd, h⟩

theorem PostO.bound {env : Env} {B : List (List Value → World → Prop)} {sz : Nat} {k : KK} {q : Act → World → Prop} (hk : PostO P R env B sz k q) {o : Oper} {sf : SF} {t : Array Value} {T : Tree}
    (hT : bindD sz o sf env.length k = some T) (hr : Rel sf env t) (hsz : t.size = sz) (v : Value) (w : World) (h : W P R T (v :: env) w B) : q ((⟨t, []⟩ : Act).put o.dst v) w := by
  rcases bindD_spec hT with ⟨d, hd, hlt, hT⟩ | ⟨hd, hT⟩
  · rw [hd]
    exact hk _ _ T (v :: env) w _ hT (by simp) (List.suffix_cons _ _) (hr.bind (show d < t.size by omega) v) (by simpa using hsz) h
  · rw [hd]
    exact hk _ _ T (v :: env) w t hT (by simp) (List.suffix_cons _ _) (hr.push v) hsz h

theorem cmpOp_sound {sz : Nat} {ops : Array Oper} {o : Oper} {sf : SF} {k : KK} {T : Tree} {env : Env} {w : World} {t : Array Value} {B : List (List Value → World → Prop)} {Q : Exit → Act → World → Prop} {K' : Act → World → Prop}
    (hc : cmpOp sz ops o sf env.length k = some T) (hr : Rel sf env t) (hsz : t.size = sz) (hW : W P R T env w B)
    (hk : PostO P R env B sz k K') (hP : ∀ ch a w', R (.panicked ch) w' → a.defers = [] → Q (.panic ch) a w') :
    if Region.wanted o (yielded ops t) then o.wp P ⟨t, []⟩ w K' Q else K' ((⟨t, []⟩ : Act).put o.dst undef) w := by
  unfold cmpOp at hc
  split at hc
  next hok =>
    split at hc
    · rename_i j d hm
      obtain ⟨hg, hd, hop⟩ := plainMove_spec hm
      split at hc
      · rename_i lv hlv
        split at hc
        · rename_i hlt
          rw [if_pos (by simp [Region.wanted, hg])]
          obtain ⟨_, h2, h3⟩ := hr.at_ j lv hlv
          have hv : (execOp (⟨t, []⟩ : Act).eval o) = pure (.value (val env lv)) := by
            rcases hop with e | e <;> simp only [execOp, e, Act.eval, h3]
          unfold Oper.wp
          rw [hv]
          show K' ((⟨t, []⟩ : Act).put o.dst (val env lv)) w
          rw [hd]
          exact hk _ _ T env w _ hc rfl (List.suffix_refl _) (hr.alias (show d < t.size by omega) h2) (by simpa using hsz) hW
        · cases hc
      · cases hc
    · split at hc
      · rename_i hg
        rw [if_pos (by simp [Region.wanted, hg])]
        obtain ⟨T', hT', rfl⟩ := Option.map_eq_some_iff.1 hc
        exact upon_of_opW (exec_ren (a := ⟨t, []⟩) hr hok) hW (fun v w' h => hk.bound hT' hr hsz v w' h) (fun ch w' h => hP ch _ w' h rfl)
      · rename_i j b hg
        split at hc
        · rename_i d hd
          split at hc
          · rename_i hkn
            obtain ⟨lv, hlv⟩ := Option.isSome_iff_exists.1 hkn
            obtain ⟨h1, h2, h3⟩ := hr.at_ d lv hlv
            have hw := wanted_iff (ops := ops) (o := o) (t := t) hg hd h1
            obtain ⟨T', hT', rfl⟩ := Option.map_eq_some_iff.1 hc
            have hev : ev env (renX env.length sf (.tmp d)) = t.getD d undef := ev_ren (a := ⟨t, []⟩) hr (.tmp d) (by simpa [known] using hkn)
            obtain ⟨hy, hn⟩ := hW
            split
            · rename_i hwt
              exact upon_of_opW (exec_ren (a := ⟨t, []⟩) hr hok) (hy (by rw [hev]; exact hw.1 hwt)) (fun v w' h => hk.bound hT' hr hsz v w' h) (fun ch w' h => hP ch _ w' h rfl)
            · rename_i hwt
              exact hk.bound hT' hr hsz undef w (hn (by rw [hev]; exact fun e => hwt (hw.2 e)))
          · cases hc
        · cases hc
  next => cases hc

/-! ### a row of operations, in the text's order -/
theorem put_nil (t : Array Value) (d : Option Tmp) (v : Value) : ∃ t', ((⟨t, []⟩ : Act).put d v) = ⟨t', []⟩ ∧ t'.size = t.size := by
  cases d with
  | none => exact ⟨t, rfl, rfl⟩
  | some d => exact ⟨t.setIfInBounds d v, rfl, by simp⟩

theorem cmpOps_sound {sz : Nat} {ops : Array Oper} {Q : Exit → Act → World → Prop} {B : List (List Value → World → Prop)} (hP : ∀ ch a w', R (.panicked ch) w' → a.defers = [] → Q (.panic ch) a w') :
    ∀ (l : List Oper) (sf : SF) (k : KK) (T : Tree) (env : Env) (w : World) (t : Array Value), cmpOps sz ops l sf env.length k = some T → Rel sf env t → t.size = sz → W P R T env w B →
      PostO P R env B sz k (Q .normal) → wpList P ops Q l ⟨t, []⟩ w
  | [], sf, k, T, env, w, t, hc, hr, hsz, hW, hk => hk _ _ _ _ _ _ hc rfl (List.suffix_refl _) hr hsz hW
  | o :: l, sf, k, T, env, w, t, hc, hr, hsz, hW, hk => by
    have key := cmpOp_sound (P := P) (R := R) (K' := wpList P ops Q l) (Q := Q) hc hr hsz hW
      (fun sf' n T' env' w' t' hT hn he hr' hsz' hW' => by
        subst hn
        exact cmpOps_sound hP l sf' k T' env' w' t' hT hr' hsz' hW' (hk.mono he)) hP
    unfold wpList
    split
    · rename_i h; rw [if_pos h] at key; exact .inl key
    · rename_i h; rw [if_neg h] at key; exact key

/-! ### a region that draws -/
theorem qAt_ren {sf : SF} {env : Env} {a : Act} (h : Rel sf env a.tmps) {o : Oper} (hk : okOp sf o = true) {C : World → Prop} {w : World} {v : Value} (hq : qAt P (renO env.length sf o) env C w v) : o.quietAt P a C w v := by
  unfold qAt at hq
  unfold Oper.quietAt
  rwa [exec_ren h hk] at hq

theorem cmpQs_sound {sz : Nat} {ops : Array Oper} : ∀ (l : List Oper) (sf : SF) (n : Nat) (acc : List Q) (k : List Q → KK) (T : Tree), cmpQs sz ops l sf n acc k = some T →
    ∃ qs sf' n', k (acc.reverse ++ qs) sf' n' = some T ∧ ∀ (C : World → Prop) (env : Env) (t : Array Value) (next : Env → Prop) (q : Act → Prop), env.length = n → Rel sf env t → t.size = sz → qsW P C qs env next →
      (∀ env' t', env'.length = n' → env <:+ env' → Rel sf' env' t' → t'.size = sz → next env' → q ⟨t', []⟩) → wpQuiet P ops C q l ⟨t, []⟩
  | [], sf, n, acc, k, T, hc => ⟨[], sf, n, by simpa [cmpQs] using hc, fun C env t next q hn hr hsz hq hk => hk env t hn (List.suffix_refl _) hr hsz hq⟩
  | o :: l, sf, n, acc, k, T, hc => by
    unfold cmpQs at hc
    split at hc
    next hok =>
      split at hc
      · rename_i j d hm
        obtain ⟨hg, hd, hop⟩ := plainMove_spec hm
        split at hc
        · rename_i lv hlv
          split at hc
          · rename_i hlt
            obtain ⟨qs, sf', n', hk', H⟩ := cmpQs_sound l _ n acc k T hc
            refine ⟨qs, sf', n', hk', fun C env t next q hn hr hsz hq hk => ?_⟩
            subst hn
            obtain ⟨_, h2, h3⟩ := hr.at_ j lv hlv
            unfold wpQuiet
            rw [if_pos (by simp [Region.wanted, hg])]
            refine ⟨val env lv, fun w _ => ?_, ?_⟩
            · have hv : (execOp (⟨t, []⟩ : Act).eval o) = pure (.value (val env lv)) := by
                rcases hop with e | e <;> simp only [execOp, e, Act.eval, h3]
              unfold Oper.quietAt
              rw [hv]
              exact ⟨rfl, rfl⟩
            · rw [hd]
              exact H C env _ next q rfl (hr.alias (show d < t.size by omega) h2) (by simpa using hsz) hq hk
          · cases hc
        · cases hc
      · split at hc
        · rename_i hg
          -- a bare operation
          rcases bindD_spec hc with ⟨d, hd, hlt, hT⟩ | ⟨hd, hT⟩
          all_goals
            obtain ⟨qs, sf', n', hk', H⟩ := cmpQs_sound l _ _ _ k T hT
            refine ⟨⟨none, renO n sf o⟩ :: qs, sf', n', by simpa using hk', fun C env t next q hn hr hsz hq hk => ?_⟩
            subst hn
            simp only [qsW, qOne] at hq
            obtain ⟨v, hv, hq⟩ := hq
            unfold wpQuiet
            rw [if_pos (by simp [Region.wanted, hg])]
            refine ⟨v, fun w hw => qAt_ren (a := ⟨t, []⟩) hr hok (hv w hw), ?_⟩
            rw [hd]
          · exact H C (v :: env) _ next q (by simp) (hr.bind (show d < t.size by omega) v) (by simpa using hsz) hq (fun env' t' h1 h2 => hk env' t' h1 ((List.suffix_cons _ _).trans h2))
          · exact H C (v :: env) _ next q (by simp) (hr.push v) hsz hq (fun env' t' h1 h2 => hk env' t' h1 ((List.suffix_cons _ _).trans h2))
        · rename_i j b hg
          split at hc
          · rename_i d0 hd0
            split at hc
            · rename_i hkn
              obtain ⟨lv, hlv⟩ := Option.isSome_iff_exists.1 hkn
              rcases bindD_spec hc with ⟨d, hd, hlt, hT⟩ | ⟨hd, hT⟩
              all_goals
                obtain ⟨qs, sf', n', hk', H⟩ := cmpQs_sound l _ _ _ k T hT
                refine ⟨⟨some (renX n sf (.tmp d0), b), renO n sf o⟩ :: qs, sf', n', by simpa using hk', fun C env t next q hn hr hsz hq hk => ?_⟩
                subst hn
                obtain ⟨h1, h2, h3⟩ := hr.at_ d0 lv hlv
                have hw := wanted_iff (ops := ops) (o := o) (t := t) hg hd0 h1
                have hev : ev env (renX env.length sf (.tmp d0)) = t.getD d0 undef := ev_ren (a := ⟨t, []⟩) hr (.tmp d0) (by simpa [known] using hkn)
                simp only [qsW, qOne] at hq
                obtain ⟨hy, hn⟩ := hq
                unfold wpQuiet
                split
              · rename_i hwt
                obtain ⟨v, hv, hq⟩ := hy (by rw [hev]; exact hw.1 hwt)
                refine ⟨v, fun w hw => qAt_ren (a := ⟨t, []⟩) hr hok (hv w hw), ?_⟩
                rw [hd]
                exact H C (v :: env) _ next q (by simp) (hr.bind (show d < t.size by omega) v) (by simpa using hsz) hq (fun env' t' h1 h2 => hk env' t' h1 ((List.suffix_cons _ _).trans h2))
              · rename_i hwt
                rw [hd]
                exact H C (undef :: env) _ next q (by simp) (hr.bind (show d < t.size by omega) undef) (by simpa using hsz) (hn (by rw [hev]; exact fun e => hwt (hw.2 e))) (fun env' t' h1 h2 => hk env' t' h1 ((List.suffix_cons _ _).trans h2))
              · rename_i hwt
                obtain ⟨v, hv, hq⟩ := hy (by rw [hev]; exact hw.1 hwt)
                refine ⟨v, fun w hw => qAt_ren (a := ⟨t, []⟩) hr hok (hv w hw), ?_⟩
                rw [hd]
                exact H C (v :: env) _ next q (by simp) (hr.push v) hsz hq (fun env' t' h1 h2 => hk env' t' h1 ((List.suffix_cons _ _).trans h2))
              · rename_i hwt
                rw [hd]
                exact H C (undef :: env) _ next q (by simp) (hr.push undef) hsz (hn (by rw [hev]; exact fun e => hwt (hw.2 e))) (fun env' t' h1 h2 => hk env' t' h1 ((List.suffix_cons _ _).trans h2))
            · cases hc
          · cases hc
    next => cases hc

/-! ### quiet operations in any order, then a tail in one order -/
section
variable {ops : Array Oper} {md : Region.Mode} {C : World → Prop}
def anyH (P : Program) (md : Region.Mode) (ops : Array Oper) (C : World → Prop) (n : Nat) (L : Array Bool → Act → Prop) : Nat → Array Bool → Act → Prop
  | 0, listed, a => L listed a
  | f + 1, listed, a => Region.ready md ops listed ≠ [] ∧ ∀ i ∈ Region.ready md ops listed, i < n ∧ qOp P ops C i (anyH P md ops C n L f (listed.setIfInBounds i true)) a

theorem wpAny_of_anyH {n g : Nat} {L : Array Bool → Act → Prop} {Q' : Exit → Act → World → Prop} (hL : ∀ listed a w, C w → L listed a → wpAny P md ops Q' g listed a w) :
    ∀ (f : Nat) (listed : Array Bool) (a : Act) (w : World), C w → anyH P md ops C n L f listed a → wpAny P md ops Q' (f + g) listed a w
  | 0, listed, a, w, hw, h => by rw [Nat.zero_add]; exact hL _ _ _ hw h
  | f + 1, listed, a, w, hw, h => by
    rw [show f + 1 + g = (f + g) + 1 by omega]
    exact ⟨fun h0 => absurd h0 h.1, fun i hi => wpOp_of_qOp hw (fun a' w' hw' h' => wpAny_of_anyH hL f _ a' w' hw' h') (h.2 i hi).2⟩

theorem anyH_first {n i : Nat} {oi : Oper} {v : Value} {L : Array Bool → Act → Prop} (hi : ops[i]? = some oi) (hsel : ∀ (j : Nat) (o : Oper) cs b, ops[j]? = some o → o.op ≠ .select cs b)
    (hs : Region.sinkB md ops n = true) (hc : Region.chainB md ops n = true) (hn : n < ops.size) (hin : i < n) (hdone : ∀ listed a, L listed a → ∀ j ∈ Region.ready md ops listed, n ≤ j) :
    ∀ (f : Nat) (listed : Array Bool) (a : Act), HeadInv md ops n listed →
      (∀ j oj, ops[j]? = some oj → j ≠ i → listed.getD j true = false → (∀ e ∈ oj.after, Region.binds md e = true → e.on ≠ i) → oi.apart ops oj = true) →
      i ∈ Region.ready md ops listed → YieldsIn P ops C oi v a → anyH P md ops C n L f (listed.setIfInBounds i true) (a.put oi.dst v) → anyH P md ops C n L (f + 1) listed a := by
  intro f
  have below : ∀ (listed : Array Bool), HeadInv md ops n listed → i ∈ Region.ready md ops listed → ∀ j ∈ Region.ready md ops listed, j < n := fun listed inv hr j hj => by
    rcases Nat.lt_or_ge j n with h | h
    · exact h
    · exact absurd hj (tail_waits hs hc hn inv _ i rfl hin (mem_ready.1 hr).1 j h)
  induction f with
  | zero =>
    intro listed a inv _ hr hy H
    refine ⟨fun h => (by rw [h] at hr; cases hr), fun j hj => ⟨below listed inv hr j hj, ?_⟩⟩
    by_cases hji : j = i
    · subst hji; exact hy.qOp hi H
    · have := hdone _ _ H j (ready_mono hj hji)
      have := below listed inv hr j hj
      omega
  | succ f ih =>
    intro listed a inv hfree hr hy H
    refine ⟨fun h => (by rw [h] at hr; cases hr), fun j hj => ?_⟩
    have hjn := below listed inv hr j hj
    refine ⟨hjn, ?_⟩
    by_cases hji : j = i
    · subst hji; exact hy.qOp hi H
    · have h1 := (H.2 j (ready_mono hj hji)).2
      have hun := (mem_ready.1 hr).1
      obtain ⟨hjun, oj, hoj, hall⟩ := mem_ready.1 hj
      have hnot : ∀ e ∈ oj.after, Region.binds md e = true → e.on ≠ i := fun e he hb heq => by
        have h2 := hall e he hb
        rw [heq, getD_both hun] at h2
        cases h2
      have h2 := qOp_put hoj (hfree j oj hoj hji hjun hnot) (fun cs b => hsel i oi cs b hi) (fun cs b => hsel j oj cs b hoj) hy h1
      refine qOp_mono (fun a' h3 => ih (listed.setIfInBounds j true) a' (inv.set hj hjn) ?_ (ready_mono hr (Ne.symm hji)) h3.1 ?_) h2
      · intro k ok hk hki hunk hno
        refine hfree k ok hk hki ?_ hno
        by_cases hjk : j = k
        · subst hjk; exact hjun
        · rw [getD_set_ne true hjk] at hunk; exact hunk
      · rw [Array.setIfInBounds_comm _ _ hji]
        exact h3.2

theorem headB_lex {n g : Nat} {q : Act → Prop} (hsel : Region.noSelect ops = true) (hs : Region.sinkB .any ops n = true) (hc : Region.chainB .any ops n = true) (hn : n < ops.size) :
    ∀ (l : List Oper) (k : Nat) (listed : Array Bool) (a : Act), (∀ j, j < l.length → l[j]? = ops[k + j]?) → k + l.length = n → HeadInv .any ops n listed → headB ops l.length k listed g = true → wpQuiet P ops C q l a →
      anyH P .any ops C n (fun listed' a' => Region.seqB .any ops g n listed' = true ∧ q a') l.length listed a
  | [], k, listed, a, _, hk, _, hB, h => by
    have : k = n := by simpa using hk
    subst this
    exact ⟨by simpa [headB] using hB, h⟩
  | o :: l, k, listed, a, hl, hk, inv, hB, h => by
    have h0 : ops[k]? = some o := by simpa using (hl 0 (by simp)).symm
    simp only [List.length_cons, headB, Bool.and_eq_true] at hB
    obtain ⟨⟨hr, hf⟩, hB'⟩ := hB
    have hkn : k < n := by simp only [List.length_cons] at hk; omega
    have hr' : k ∈ Region.ready .any ops listed := by simpa using hr
    have hst : qOp P ops C k (wpQuiet P ops C q l) a := by unfold qOp; simp only [h0]; exact h
    obtain ⟨v, hy, hK⟩ := yieldsIn_of_qOp h0 hst
    exact anyH_first h0 (Region.noSelect_spec hsel) hs hc hn hkn (fun listed' a' hL => seqB_ready hL.1) l.length listed a inv (Region.free_spec h0 hf) hr' hy
      (headB_lex hsel hs hc hn l (k + 1) _ _ (fun j hj => by have := hl (j + 1) (by simp; omega); simpa [Nat.add_assoc, Nat.add_comm 1 j] using this) (by simp only [List.length_cons] at hk; omega) (inv.set hr' hkn) hB' hK)

theorem wp_region_cut {id n : Nat} {Q : Exit → Act → World → Prop} {a : Act} {w : World} (hm : P.follows .mixedOrders = true) (hB : cutB ops n = true) (hC : C { w with drawn := w.drawn + 1 })
    (h : wpQuiet P ops C (fun a' => ∀ w', C w' → wpList P ops Q (ops.toList.drop n) a' w') (ops.toList.take n) a) : (Code.region id ops true).wp P Q a w := by
  simp only [cutB, Bool.and_eq_true, decide_eq_true_eq] at hB
  obtain ⟨⟨⟨⟨hsel, hn⟩, hs⟩, hc⟩, hlex⟩ := hB
  have htl : (ops.toList.take n).length = n := by simp; omega
  have hdl : (ops.toList.drop n).length = ops.size - n := by simp
  have inv0 : HeadInv .any ops n (Array.replicate ops.size false) :=
    ⟨by simp, fun j oj _ hl => (by rw [getD_replicate_false] at hl; cases hl), fun t _ ht => getD_in (by simpa using ht) (getD_replicate_false _ _)⟩
  have H := headB_lex (P := P) (C := C) (g := ops.size - n) hsel hs hc hn (ops.toList.take n) 0 _ a (fun j hj => by
    have hj' : j < n := by rw [htl] at hj; exact hj
    simp [hj']) (by simpa using htl) inv0 (by rw [htl]; exact hlex) h
  refine wp_region_any hm ?_
  have := wpAny_of_anyH (Q' := Q) (g := ops.size - n) (fun listed a' w' hw' hL => by
    have := wpAny_of_seq (md := .any) (P := P) (Q' := Q) (ops := ops) (ops.toList.drop n) n listed a' w' (fun j => by simp [List.getElem?_drop]) (by rw [hdl]; exact hL.1) (hL.2 w' hw')
    rwa [hdl] at this) _ _ _ _ hC H
  rw [htl, show n + (ops.size - n) = ops.size by omega] at this
  exact this
end
end Go.Sx
