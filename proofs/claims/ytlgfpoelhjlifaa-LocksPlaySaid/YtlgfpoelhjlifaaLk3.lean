/- Locks by names: does a task come back to itself? -/
import Derived.Test.YtlgfpoelhjlifaaTa
import Derived.Test.YtlgfpoelhjlifaaCol12
namespace Go.Proofs.Ytlgfpoelhjlifaa
open Go Go.Sx
set_option maxRecDepth 100000
set_option maxHeartbeats 4000000
set_option linter.unusedVariables false
set_option linter.unusedSimpArgs false
attribute [local irreducible] J JQ QS Con W opW
theorem ent47 : Sx.Enters Try.prog 47 := ⟨_, Try.func47, by kernel_rfl, by kernel_rfl⟩
theorem ent64 : Sx.Enters Try.prog 64 := ⟨_, Try.func64, by kernel_rfl, by kernel_rfl⟩
theorem ent65 : Sx.Enters Try.prog 65 := ⟨_, Try.func65, by kernel_rfl, by kernel_rfl⟩

open Go.MapKept Go.WideMaps Go.Maps
/-- a lock, and all locks, without their places in memory -/
structure AL where
  hm : List (Int × Bool)
  row : List (Int × Bool)
  sh : Bool
structure AT where
  lm : List (List UInt8 × AL)
  wm : List (Int × List UInt8)
def PL.al (l : PL) : AL := ⟨l.hm, l.row, l.sh⟩
def PT.at_ (p : PT) : AT := ⟨p.lm.map fun q => (q.1, q.2.al), p.wm⟩
theorem alook_map {κ α β : Type} [DecidableEq κ] (f : α → β) (m : List (κ × α)) (k : κ) : alook (m.map fun p => (p.1, f p.2)) k = (alook m k).map f := by
  unfold alook
  rw [List.find?_map, Option.map_map, Option.map_map]
  rfl
/-- who stands ahead of a task in a row -/
def tw (t : Int) (r : List (Int × Bool)) : List (Int × Bool) := r.takeWhile fun x => decide (x.1 ≠ t)
theorem tw_stop {t : Int} : ∀ {r : List (Int × Bool)} {i : Nat}, i < r.length → (∀ x ∈ r.take i, x.1 ≠ t) → (r.getD i (0, false)).1 = t → tw t r = r.take i
  | x :: r, 0, _, _, h => by
    have h' : x.1 = t := by simpa using h
    simp [tw, h']
  | x :: r, i + 1, hi, h, ht => by
    have hx := h x (by simp)
    have ih := tw_stop (r := r) (i := i) (by simpa using hi) (fun y hy => h y (by simp [hy])) (by simpa using ht)
    unfold tw at ih ⊢
    rw [List.takeWhile_cons_of_pos (by simpa using hx), ih]
    rfl
theorem tw_end {t : Int} : ∀ {r : List (Int × Bool)}, (∀ x ∈ r, x.1 ≠ t) → tw t r = r
  | [], _ => rfl
  | x :: r, h => by
    have ih := tw_end (r := r) fun y hy => h y (by simp [hy])
    unfold tw at ih ⊢
    rw [List.takeWhile_cons_of_pos (by simpa using h x (by simp)), ih]
/-- for whom a task waits -/
def succs (s : AT) (t : Int) : List Int :=
  match alook s.wm t with
  | none => []
  | some n => match alook s.lm n with
    | none => []
    | some l => l.hm.map Prod.fst ++ (tw t l.row).map Prod.fst
def univ (s : AT) : List Int := (s.lm.map fun q => q.2.hm.map Prod.fst ++ q.2.row.map Prod.fst).flatten
inductive Reach (s : AT) : Int → Int → Prop
  | one {a b : Int} : b ∈ succs s a → Reach s a b
  | more {a b c : Int} : c ∈ succs s a → Reach s c b → Reach s a b
def seen (m : List (Int × Bool)) (x : Int) : Prop := (alook m x).isSome = true
def AllT (m : List (Int × Bool)) : Prop := ∀ x b, alook m x = some b → b = true
def unseen (s : AT) (m : List (Int × Bool)) : Nat := ((univ s).filter fun x => (alook m x).isNone).length
def RP (s : AT) (t of : Int) (m0 m1 : List (Int × Bool)) (r : Bool) : Prop :=
  (r = true → Reach s t of) ∧ (r = false → (∀ x, seen m0 x → seen m1 x) ∧ (∀ c ∈ succs s t, c ≠ of ∧ seen m1 c) ∧ ∀ x, seen m1 x → ¬ seen m0 x → ∀ c ∈ succs s x, c ≠ of ∧ seen m1 c)
def RI (s : AT) (of : Int) (m0 m2 : List (Int × Bool)) (done : List Int) : Prop :=
  (∀ x, seen m0 x → seen m2 x) ∧ (∀ c ∈ done, c ≠ of ∧ seen m2 c) ∧ ∀ x, seen m2 x → ¬ seen m0 x → ∀ c ∈ succs s x, c ≠ of ∧ seen m2 c
theorem ri_init (s : AT) (of : Int) (m0 : List (Int × Bool)) : RI s of m0 m0 [] := ⟨fun _ h => h, (fun c h => by cases h), fun x h1 h2 => absurd h1 h2⟩
theorem seen_aset {m : List (Int × Bool)} {c x : Int} {b : Bool} : seen (aset m c b) x ↔ c = x ∨ seen m x := by
  unfold seen
  rw [alook_aset]
  by_cases h : c = x
  · simp [h]
  · simp [h]
theorem ri_skip {s : AT} {of c : Int} {m0 m2 : List (Int × Bool)} {done : List Int} (h : RI s of m0 m2 done) (hc : c ≠ of) (hs : seen m2 c) : RI s of m0 m2 (done ++ [c]) :=
  ⟨h.1, fun x hx => by
    rcases List.mem_append.1 hx with hx | hx
    · exact h.2.1 x hx
    · rw [List.mem_singleton] at hx
      rw [hx]
      exact ⟨hc, hs⟩, h.2.2⟩
theorem ri_step {s : AT} {of c : Int} {m0 m2 m3 : List (Int × Bool)} {done : List Int} (h : RI s of m0 m2 done) (hc : c ≠ of) (hp : RP s c of (aset m2 c true) m3 false) : RI s of m0 m3 (done ++ [c]) := by
  obtain ⟨p1, p2, p3⟩ := hp.2 rfl
  have up : ∀ x, seen m2 x → seen m3 x := fun x hx => p1 x (seen_aset.2 (.inr hx))
  refine ⟨fun x hx => up x (h.1 x hx), fun x hx => ?_, fun x hx hx0 d hd => ?_⟩
  · rcases List.mem_append.1 hx with hx | hx
    · exact ⟨(h.2.1 x hx).1, up x (h.2.1 x hx).2⟩
    · rw [List.mem_singleton] at hx
      rw [hx]
      exact ⟨hc, p1 c (seen_aset.2 (.inl rfl))⟩
  · by_cases hx2 : seen (aset m2 c true) x
    · rcases seen_aset.1 hx2 with rfl | hx2
      · exact p2 d hd
      · have := h.2.2 x hx2 hx0 d hd
        exact ⟨this.1, up d this.2⟩
    · exact p3 x hx hx2 d hd
theorem rp_fin {s : AT} {t of : Int} {m0 m2 : List (Int × Bool)} {nx : List Int} (h : RI s of m0 m2 nx) (hn : ∀ c ∈ succs s t, c ∈ nx) : RP s t of m0 m2 false :=
  ⟨(fun h => by cases h), fun _ => ⟨h.1, fun c hc => h.2.1 c (hn c hc), h.2.2⟩⟩
theorem filter_lt {l : List Int} {p q : Int → Bool} (h : ∀ x, q x = true → p x = true) {c : Int} (hc : c ∈ l) (h1 : p c = true) (h2 : q c = false) : (l.filter q).length < (l.filter p).length := by
  induction l with
  | nil => cases hc
  | cons x l ih =>
    have hle : (l.filter q).length ≤ (l.filter p).length := by
      clear ih hc
      induction l with
      | nil => exact Nat.le_refl _
      | cons y l ih =>
        rw [List.filter_cons, List.filter_cons]
        cases hq : q y
        · cases hp : p y <;> simp <;> omega
        · rw [h y hq]; simp; omega
    rw [List.filter_cons, List.filter_cons]
    rcases List.mem_cons.1 hc with rfl | hc
    · rw [h1, h2]; simp; omega
    · have := ih hc
      cases hq : q x
      · cases hp : p x <;> simp <;> omega
      · rw [h x hq]; simp; omega
theorem unseen_lt {s : AT} {m0 m2 : List (Int × Bool)} {c : Int} (hc : c ∈ univ s) (hn : ¬ seen m2 c) (h : ∀ x, seen m0 x → seen m2 x) : unseen s (aset m2 c true) < unseen s m0 := by
  have hno : ∀ {m : List (Int × Bool)} {x : Int}, (alook m x).isNone = true ↔ ¬ seen m x := by
    intro m x
    unfold seen
    cases alook m x <;> simp
  refine filter_lt (fun x hx => ?_) hc (hno.2 fun h1 => hn (h c h1)) ?_
  · exact hno.2 fun h1 => hno.1 hx (seen_aset.2 (.inr (h x h1)))
  · have := seen_aset (m := m2) (c := c) (x := c) (b := true)
    unfold seen at this
    cases hl : alook (aset m2 c true) c with
    | none => rw [hl] at this; simp at this
    | some b => rfl
theorem succs_univ {s : AT} {t c : Int} (h : c ∈ succs s t) : c ∈ univ s := by
  unfold succs at h
  cases h1 : alook s.wm t with
  | none => simp only [h1] at h; cases h
  | some n =>
    cases h2 : alook s.lm n with
    | none => simp only [h1, h2] at h; cases h
    | some l =>
      simp only [h1, h2] at h
      refine List.mem_flatten.2 ⟨_, List.mem_map.2 ⟨(n, l), alook_mem h2, rfl⟩, ?_⟩
      rcases List.mem_append.1 h with h | h
      · exact List.mem_append_left _ h
      · obtain ⟨x, hx, rfl⟩ := List.mem_map.1 h
        exact List.mem_append_right _ (List.mem_map.2 ⟨x, (List.takeWhile_sublist _).subset hx, rfl⟩)
theorem in_keepD {w w' : World} {c : SH} {S : List SH} {D : List Nat} (h : In w c) (hs : Sig ⟨w, D⟩ S w') (hD : ∀ q ∈ c, q.1 ∉ D) : In w' c := fun q hq => (hs.frame q.1 (lt_of_get (h q hq)) (hD q hq)).trans (h q hq)
theorem ownO_base {b : Base} {S : List SH} {e : TypeId} {sz n cap : Nat} {xs : List Value} {a : Addr} {c : SH} (h : OwnO e sz xs (.slice (some a) n cap) c) (hin : In b.w0 c) (hD : ∀ q ∈ c, q.1 ∉ b.D) : Rd b S a xs := by
  rcases h with ⟨h, _⟩ | ⟨g, n', cap', pre, rest, tail, fz, h, rfl, h1, h2, h3, h4⟩
  · cases h
  · cases h
    refine rd_rdo (n := xs.length) (rdo_base (o := .cells (pre ++ (xs ++ rest) ++ tail).toArray e fz) (hin (g, _) (List.mem_singleton.2 rfl)) (hD (g, _) (List.mem_singleton.2 rfl))) ?_
    rw [List.append_assoc, List.append_assoc, List.drop_left']
    · simp
    · rfl
theorem rd_win {b : Base} {S : List SH} {g o : Nat} {xs : List Value} (h : Rd b S ⟨g, o, none⟩ xs) (k m : Nat) : Rd b S ⟨g, o + k, none⟩ ((xs.drop k).take m) := fun w hw j u hu => by
  rw [List.getElem?_take] at hu
  split at hu
  · rw [List.getElem?_drop] at hu
    have := h w hw _ u hu
    rw [add_off] at this ⊢
    rw [Nat.add_assoc]
    exact this
  · cases hu
def ringPost (p : PT) (gs : Nat) (t of : Int) (m0 : List (Int × Bool)) : Value → List SH → Prop := fun u S' => ∃ r es' ck' m1, u = .bool r ∧ S' = [[(gs, .map es' ck')]] ∧ MapOk intEnc intOk es' ck' (m1.map fun q => (q.1, Value.bool q.2)) ∧ AllT m1 ∧ RP p.at_ t of m0 m1 r
theorem allT_aset {m : List (Int × Bool)} {c : Int} (h : AllT m) : AllT (aset m c true) := fun x b hx => by
  rw [alook_aset] at hx
  split at hx
  · injection hx with hx; exact hx.symm
  · exact h x b hx
/-- (*pantry.locks.Table).rings -/
theorem rings_step (k B : Nat) (hB : B ≤ 1000000) (p : PT) (hok : p.Ok B) (ih : ∀ (t of : Int) (m0 : List (Int × Bool)) (gs : Nat) (es : Array MapEntry) (ck : Nat) (w : World), In w p.heap → (∀ q ∈ p.heap, q.1 ≠ gs) → intOk t → intOk of → MapOk intEnc intOk es ck (m0.map fun q => (q.1, Value.bool q.2)) → AllT m0 → unseen p.at_ m0 < k → Con Try.prog 47 [.pointer (some ⟨p.gt, 0, none⟩), .int .i64 t, .int .i64 of, .map (some gs)] w [(gs, .map es ck)] (ringPost p gs t of m0)) (t of : Int) (m0 : List (Int × Bool)) (gs : Nat) (es : Array MapEntry) (ck : Nat) (w : World) (hin : In w p.heap) (hgs : ∀ q ∈ p.heap, q.1 ≠ gs) (ht : intOk t) (hof : intOk of) (hm : MapOk intEnc intOk es ck (m0.map fun q => (q.1, Value.bool q.2))) (hT : AllT m0) (hk : unseen p.at_ m0 = k) : Con Try.prog 47 [.pointer (some ⟨p.gt, 0, none⟩), .int .i64 t, .int .i64 of, .map (some gs)] w [(gs, .map es ck)] (ringPost p gs t of m0) := by
  refine con_of_tree mix Try.func47 T47_ok (by kernel_rfl) ?_
  unfold T47
  have hD : ∀ q ∈ p.heap, q.1 ∉ dom [(gs, Obj.map es ck)] := fun q hq => by simpa using hgs q hq
  have kgt := hD (p.gt, p.tobj) (by simp [PT.heap, PT.base])
  have kgL := hD (p.gL, .map p.Les p.Lck) (by simp [PT.heap, PT.base])
  have kgW := hD (p.gW, .map p.Wes p.Wck) (by simp [PT.heap, PT.base])
  refine j_q (qs_ac) ?_
  refine j_q (qs_nil rfl) ?_
  refine j_q (qs_field Try.underlying98 rfl sz96 (by decide) rfl) ?_
  refine j_q (qs_loadO (rdo_base (o := PT.tobj p) (PT.in_gt hin) kgt) Try.underlying96 rfl rfl rfl) ?_
  refine j_q (qs_lookup2R (key := t) intKey (rdo_base (PT.in_gW hin) kgW) Try.underlying96 zv9 rfl rfl hok.W ht) ?_
  rw [mlook_map nameV]
  refine j_q (qs_ext (vs := [((alook p.wm t).map nameV).getD (.string (bs [])), .bool ((alook p.wm t).map nameV).isSome]) rfl rfl) ?_
  refine j_q (qs_ext (vs := [((alook p.wm t).map nameV).getD (.string (bs [])), .bool ((alook p.wm t).map nameV).isSome]) rfl rfl) ?_
  refine j_q (qs_not rfl) ?_
  refine j_cond rfl (fun hc0 => ?_) (fun hc0 => ?_)
  · skip
    have hno : alook p.wm t = none := by
      cases hx : alook p.wm t with
      | none => rfl
      | some n => simp [hx] at hc0
    refine j_q (qs_ac) ?_
    refine j_ret_con (vs := [_]) (fun w' hw' => ⟨rfl, trivial⟩) ?_
    exact ⟨_, es, ck, m0, rfl, rfl, hm, hT, (fun h => by cases h), fun _ => ⟨fun _ h => h, (fun c hc => by
      unfold succs PT.at_ at hc
      simp only [hno] at hc
      cases hc), fun x h1 h2 => absurd h1 h2⟩⟩
  · skip
    obtain ⟨n, hn⟩ : ∃ n, alook p.wm t = some n := by
      cases hx : alook p.wm t with
      | none => simp [hx] at hc0
      | some n => exact ⟨n, rfl⟩
    rw [hn]
    obtain ⟨l, hl⟩ := Option.isSome_iff_exists.1 (hok.wl (t, n) (alook_mem hn))
    have hnok : strOk n := by
      exact hok.L.keys (n, ptrL l) (List.mem_map.2 ⟨(n, l), alook_mem hl, rfl⟩)
    have hinl := PT.in_lock hin hl
    have hlk := hok.lock hl
    have hlB := hlk.hrB
    have hDl : ∀ q ∈ l.heap, q.1 ∉ dom [(gs, Obj.map es ck)] := fun q hq => hD q (PT.lock_sub (n := n) (alook_mem hl) q hq)
    have kgl := hDl (l.gl, l.obj) (by simp [PL.heap])
    have krc : ∀ q ∈ l.rc, q.1 ∉ dom [(gs, Obj.map es ck)] := fun q hq => hDl q (by simp [PL.heap, hq])
    obtain ⟨n1, A1, cap1, gr, ro, hrv, hn1, hcap1, hA⟩ := row_first hlk.row
    have hrow : l.row ≠ [] → OwnO 102 2 (askers l.row) (.slice (some ⟨gr, ro, none⟩) n1 cap1) l.rc := fun h => by
      rw [← hA h, ← hrv]
      exact hlk.row
    have hsucc : succs p.at_ t = l.hm.map Prod.fst ++ (tw t l.row).map Prod.fst := by
      have e2 : alook p.at_.lm n = some l.al := by
        show alook (p.lm.map fun q => (q.1, q.2.al)) n = _
        rw [alook_map, hl]
        rfl
      unfold succs
      simp only [show alook p.at_.wm t = some n from hn, e2]
      rfl
    refine j_q (qs_nil rfl) ?_
    refine j_q (qs_field Try.underlying98 rfl sz95 (by decide) rfl) ?_
    refine j_q (qs_loadO (rdo_base (o := PT.tobj p) (PT.in_gt hin) kgt) Try.underlying95 rfl rfl rfl) ?_
    refine j_q (qs_lookupR (key := n) strKey (rdo_base (PT.in_gL hin) kgL) Try.underlying95 zv99 rfl rfl hok.L hnok) ?_
    rw [mlook_map ptrL, getD_ptr, hl]
    refine j_q (qs_nil rfl) ?_
    refine j_q (qs_field Try.underlying106 rfl sz103 (by decide) rfl) ?_
    refine j_q (qs_loadO (rdo_base (o := PL.obj l) (PL.in_gl hinl) kgl) Try.underlying103 rfl rfl rfl) ?_
    refine j_call0 ent65 rfl rfl rfl (fun w' hw' => keysI_con (some l.gh) w') (fun u S2 hu => ?_)
    obtain ⟨gk, rfl, rfl⟩ := hu
    refine j_subl (S' := [[(gk, .cells [.map (some l.gh)].toArray 103 (0, 0))], [(gs, .map es ck)]]) (by repeat first | exact List.Sublist.refl _ | exact List.nil_sublist _ | apply List.Sublist.cons_cons | apply List.Sublist.cons) ?_
    refine j_call0 ent64 rfl rfl rfl (fun w' hw' => collectKeys_con gk l.gh w' (lt_of_get (hw'.own (gk, .cells [.map (some l.gh)].toArray 103 (0, 0)) (by simp))) (by rw [cell_of (hw'.own (gk, .cells [.map (some l.gh)].toArray 103 (0, 0)) (by simp))]; rfl) (in_keepD hinl hw' hDl (l.gh, l.hobj) (by simp [PL.heap])) hlk.hm (by rw [List.length_map]; omega)) (fun u S2 hu => ?_)
    obtain ⟨oc0, zs, rfl, ho0, hzs0⟩ := hu
    have hzs : zs.Perm (l.hm.map Prod.fst) := by rw [List.map_map] at hzs0; exact hzs0
    refine j_subl (S' := [oc0, [(gs, .map es ck)]]) (by repeat first | exact List.Sublist.refl _ | exact List.nil_sublist _ | apply List.Sublist.cons_cons | apply List.Sublist.cons) ?_
    refine j_q (qs_nil rfl) ?_
    refine j_q (qs_field Try.underlying106 rfl sz104 (by decide) rfl) ?_
    refine j_q (qs_loadO (rdo_base (o := PL.obj l) (PL.in_gl hinl) kgl) Try.underlying104 rfl rfl rfl) ?_
    refine j_q (qs_lenl Try.underlying104 hrv) ?_
    refine j_q (qs_mc) ?_
    refine j_loop (fun m vs S' => ∃ (i : Nat) (nx : List Int) (ov : Value) (oc : SH), vs = [ov, .int .i64 (i : Int)] ∧ S' = [oc, [(gs, .map es ck)]] ∧ Sx.Own 3 1 (ks .i64 nx) ov oc ∧ nx = zs ++ (l.row.take i).map Prod.fst ∧ (∀ x ∈ l.row.take i, x.1 ≠ t) ∧ i ≤ l.row.length ∧ m = l.row.length - i) ⟨_, 0, zs, _, _, rfl, rfl, ho0, by simp, (fun x hx => by simp at hx), Nat.zero_le _, rfl⟩ ?_
    rintro m vs S' hlen ⟨i, nx, ov, oc, rfl, rfl, ho, hnxe, hnt, hi, hmi⟩
    refine j_q (qs_lss rfl rfl) ?_
    refine j_cond rfl (fun hc1 => ?_) (fun hc1 => ?_)
    · skip
      have hi1 : i < l.row.length := by
        simp only [Bool.and_eq_true, Bool.or_eq_true, Bool.and_eq_false_iff, Bool.or_eq_false_iff, Bool.not_eq_true', Bool.not_eq_false', decide_eq_true_eq, decide_eq_false_iff_not, beq_iff_eq, beq_eq_false_iff_ne, bne_iff_ne, bne_eq_false_iff_eq, ne_eq, Int.toNat_natCast] at *
        omega
      have hne : l.row ≠ [] := fun e => by rw [e] at hi1; simp at hi1
      refine j_q (qs_ixl (a := ⟨gr, ro, none⟩) (n := n1) (c := cap1) Try.underlying104 sz102 (hrv.trans (by rw [hA hne])) rfl (by omega) (by omega)) ?_
      rw [add_off, Int.toNat_natCast]
      refine j_q (qs_loadwR (rd_win (ownO_base (hrow hne) (in_sub hinl (fun q hq => by simp [PL.heap, hq])) krc) (i * 2) 2) Try.underlying102 rfl sz102 rfl (by rw [askers_get hi1]; rfl)) ?_
      rw [askers_get hi1]
      generalize hx : (l.row.getD i (0, false)) = x at *
      refine j_alloc zero102 (fun g26 hg26 hs26 => ?_)
      refine j_storew 0 sz102 rfl rfl rfl (by simp [oneV]) rfl rfl ?_
      refine j_q (qs_field Try.underlying102 rfl sz3 (by decide) rfl) ?_
      first
        | refine j_q (qs_loadk 0 Try.underlying3 rfl rfl (by first | omega | (simp only [Bool.and_eq_true, Bool.or_eq_true, Bool.and_eq_false_iff, Bool.or_eq_false_iff, Bool.not_eq_true', Bool.not_eq_false', decide_eq_true_eq, decide_eq_false_iff_not, beq_iff_eq, beq_eq_false_iff_ne, bne_iff_ne, bne_eq_false_iff_eq, ne_eq, Int.toNat_natCast] at *; omega))) ?_
        | refine j_q (qs_loadk 1 Try.underlying3 rfl rfl (by first | omega | (simp only [Bool.and_eq_true, Bool.or_eq_true, Bool.and_eq_false_iff, Bool.or_eq_false_iff, Bool.not_eq_true', Bool.not_eq_false', decide_eq_true_eq, decide_eq_false_iff_not, beq_iff_eq, beq_eq_false_iff_ne, bne_iff_ne, bne_eq_false_iff_eq, ne_eq, Int.toNat_natCast] at *; omega))) ?_
        | refine j_q (qs_load 0 Try.underlying3 rfl rfl rfl rfl) ?_
        | refine j_q (qs_load 1 Try.underlying3 rfl rfl rfl rfl) ?_
      refine j_q (qs_eql rfl rfl) ?_
      refine j_cond rfl (fun hc2 => ?_) (fun hc2 => ?_)
      · skip
        have hxt : (l.row.getD i (0, false)).1 = t := by
          rw [hx]
          simpa using hc2
        have hrow : nx = zs ++ (tw t l.row).map Prod.fst := by rw [hnxe, tw_stop hi1 hnt hxt]
        have hnx1 : ∀ c ∈ succs p.at_ t, c ∈ nx := fun c hc => by
          rw [hsucc] at hc
          rw [hrow]
          rcases List.mem_append.1 hc with hc | hc
          · exact List.mem_append_left _ (hzs.mem_iff.2 hc)
          · exact List.mem_append_right _ hc
        have hnx2 : ∀ c ∈ nx, c ∈ succs p.at_ t := fun c hc => by
          rw [hsucc]
          rw [hrow] at hc
          rcases List.mem_append.1 hc with hc | hc
          · exact List.mem_append_left _ (hzs.mem_iff.1 hc)
          · exact List.mem_append_right _ hc
        have hnxok : ∀ c ∈ nx, intOk c := fun c hc => by
          rw [hrow] at hc
          rcases List.mem_append.1 hc with hc | hc
          · obtain ⟨q, hq, rfl⟩ := List.mem_map.1 (hzs.mem_iff.1 hc)
            exact hlk.hm.keys (q.1, Value.bool q.2) (List.mem_map.2 ⟨q, hq, rfl⟩)
          · obtain ⟨q, hq, rfl⟩ := List.mem_map.1 hc
            exact hlk.rowOk q ((List.takeWhile_sublist _).subset hq)
        have hzl' := hzs.length_eq
        rw [List.length_map] at hzl'
        have htwl : (tw t l.row).length ≤ l.row.length := (List.takeWhile_sublist _).length_le
        have hnxl : nx.length ≤ 2000000 := by rw [hrow, List.length_append, List.length_map]; omega
        obtain ⟨n7, A7, cap7, rfl, hn7⟩ := own_form ho (by decide)
        rw [ks_length, Nat.mul_one] at hn7
        subst hn7
        refine j_subl (S' := [oc, [(gs, .map es ck)]]) (by repeat first | exact List.Sublist.refl _ | exact List.nil_sublist _ | apply List.Sublist.cons_cons | apply List.Sublist.cons) ?_
        refine j_q (qs_lenl Try.underlying36 rfl) ?_
        refine j_q (qs_mc) ?_
        refine j_loop (fun m vs S' => ∃ (j : Nat) (es2 : Array MapEntry) (ck2 : Nat) (m2 : List (Int × Bool)), vs = [.int .i64 (j : Int)] ∧ S' = [oc, [(gs, .map es2 ck2)]] ∧ MapOk intEnc intOk es2 ck2 (m2.map fun q => (q.1, Value.bool q.2)) ∧ AllT m2 ∧ RI p.at_ of m0 m2 (nx.take j) ∧ j ≤ nx.length ∧ m = nx.length - j) ⟨_, 0, es, ck, m0, rfl, rfl, hm, hT, ri_init _ _ _, Nat.zero_le _, rfl⟩ ?_
        rintro m vs S' hlen ⟨j, es2, ck2, m2, rfl, rfl, hm2, hT2, hri, hj, hmj⟩
        refine j_q (qs_lss rfl rfl) ?_
        refine j_cond rfl (fun hc3 => ?_) (fun hc3 => ?_)
        · skip
          have hj1 : j < nx.length := by
            simp only [Bool.and_eq_true, Bool.or_eq_true, Bool.and_eq_false_iff, Bool.or_eq_false_iff, Bool.not_eq_true', Bool.not_eq_false', decide_eq_true_eq, decide_eq_false_iff_not, beq_iff_eq, beq_eq_false_iff_ne, bne_iff_ne, bne_eq_false_iff_eq, ne_eq, Int.toNat_natCast] at *
            omega
          have hcmem : nx.getD j 0 ∈ nx := by
            rw [List.getD_eq_getElem?_getD, List.getElem?_eq_getElem hj1]
            exact List.getElem_mem hj1
          have hcok := hnxok _ hcmem
          have hcs := hnx2 _ hcmem
          have htk : nx.take (j + 1) = nx.take j ++ [nx.getD j 0] := by
            rw [List.take_add_one, List.getElem?_eq_getElem hj1, List.getD_eq_getElem?_getD, List.getElem?_eq_getElem hj1]
            rfl
          obtain ⟨go, rfl⟩ := own_addr ho (by rw [ks_length]; omega)
          generalize hcc : nx.getD j 0 = c at *
          first
            | refine j_q (qs_ixg Try.underlying36 sz3 rfl rfl ⟨(by first | omega | (simp only [Bool.and_eq_true, Bool.or_eq_true, Bool.and_eq_false_iff, Bool.or_eq_false_iff, Bool.not_eq_true', Bool.not_eq_false', decide_eq_true_eq, decide_eq_false_iff_not, beq_iff_eq, beq_eq_false_iff_ne, bne_iff_ne, bne_eq_false_iff_eq, ne_eq, Int.toNat_natCast] at *; omega)), (by first | omega | (simp only [Bool.and_eq_true, Bool.or_eq_true, Bool.and_eq_false_iff, Bool.or_eq_false_iff, Bool.not_eq_true', Bool.not_eq_false', decide_eq_true_eq, decide_eq_false_iff_not, beq_iff_eq, beq_eq_false_iff_ne, bne_iff_ne, bne_eq_false_iff_eq, ne_eq, Int.toNat_natCast] at *; omega))⟩) ?_
            | refine j_q (qs_ixl0 Try.underlying36 sz3 rfl rfl ⟨(by first | omega | (simp only [Bool.and_eq_true, Bool.or_eq_true, Bool.and_eq_false_iff, Bool.or_eq_false_iff, Bool.not_eq_true', Bool.not_eq_false', decide_eq_true_eq, decide_eq_false_iff_not, beq_iff_eq, beq_eq_false_iff_ne, bne_iff_ne, bne_eq_false_iff_eq, ne_eq, Int.toNat_natCast] at *; omega)), (by first | omega | (simp only [Bool.and_eq_true, Bool.or_eq_true, Bool.and_eq_false_iff, Bool.or_eq_false_iff, Bool.not_eq_true', Bool.not_eq_false', decide_eq_true_eq, decide_eq_false_iff_not, beq_iff_eq, beq_eq_false_iff_ne, bne_iff_ne, bne_eq_false_iff_eq, ne_eq, Int.toNat_natCast] at *; omega))⟩) ?_
          refine j_q (qs_loadR (a := ⟨go, 0, none⟩) (i := j) (vs := ks .i64 nx) (own_rd ho 0 rfl) Try.underlying3 rfl (by show Value.pointer (some ⟨go, (j : Int).toNat, none⟩) = _; rw [add_off, Nat.zero_add, Int.toNat_natCast]) (ks_get hj1)) ?_
          rw [hcc]
          refine j_q (qs_eql rfl rfl) ?_
          refine j_cond rfl (fun hc4 => ?_) (fun hc4 => ?_)
          · skip
            have hco : c = of := by simpa using hc4
            refine j_q (qs_ac) ?_
            refine j_subl (S' := [[(gs, .map es2 ck2)]]) (by repeat first | exact List.Sublist.refl _ | exact List.nil_sublist _ | apply List.Sublist.cons_cons | apply List.Sublist.cons) ?_
            refine j_ret_con (vs := [_]) (fun w' hw' => ⟨rfl, trivial⟩) ?_
            exact ⟨_, es2, ck2, m2, rfl, rfl, hm2, hT2, ⟨fun _ => hco ▸ .one hcs, (fun h => by cases h)⟩⟩
          · skip
            have hco : c ≠ of := by simpa using hc4
            refine j_q (qs_lookup (key := c) intKey 1 Try.underlying103 zv4 rfl rfl rfl hm2 hcok) ?_
            rw [mlook_map (fun b => Value.bool b)]
            rw [show ((alook m2 c).map fun b => Value.bool b).getD (.bool false) = .bool ((alook m2 c).getD false) by cases alook m2 c <;> rfl]
            refine j_q (qs_not rfl) ?_
            refine j_cond rfl (fun hc5 => ?_) (fun hc5 => ?_)
            · skip
              have hsn : ¬ seen m2 c := fun h => by
                unfold seen at h
                obtain ⟨bb, hx⟩ := Option.isSome_iff_exists.1 h
                have := hT2 c bb hx
                subst this
                simp [hx] at hc5
              refine j_mapset (key := c) (val := .bool true) intKey 1 Try.underlying103 rfl rfl rfl rfl hm2 hcok (fun es3 ck3 hm3 => ?_)
              rw [mset_map (fun b => Value.bool b)] at hm3
              refine j_call 1 ent47 rfl rfl rfl rfl (fun w' hw' => ih c of (aset m2 c true) gs es3 ck3 w' (in_keepD hin hw' hD) hgs hcok hof hm3 (allT_aset hT2) (by rw [← hk]; exact unseen_lt (succs_univ hcs) hsn hri.1)) (fun u S2 hu => ?_)
              obtain ⟨r, es4, ck4, m4, rfl, rfl, hm4, hT4, hrp⟩ := hu
              refine j_subl (S' := [[(gs, .map es4 ck4)], oc]) (by repeat first | exact List.Sublist.refl _ | exact List.nil_sublist _ | apply List.Sublist.cons_cons | apply List.Sublist.cons) ?_
              refine j_swap ?_
              refine j_cond rfl (fun hc6 => ?_) (fun hc6 => ?_)
              · skip
                refine j_q (qs_ac) ?_
                refine j_subl (S' := [[(gs, .map es4 ck4)]]) (by repeat first | exact List.Sublist.refl _ | exact List.nil_sublist _ | apply List.Sublist.cons_cons | apply List.Sublist.cons) ?_
                refine j_ret_con (vs := [_]) (fun w' hw' => ⟨rfl, trivial⟩) ?_
                exact ⟨_, es4, ck4, m4, rfl, rfl, hm4, hT4, ⟨fun _ => .more hcs (hrp.1 hc6), (fun h => by cases h)⟩⟩
              · skip
                refine j_q (qs_add64 rfl rfl (by first | omega | (simp only [Bool.and_eq_true, Bool.or_eq_true, Bool.and_eq_false_iff, Bool.or_eq_false_iff, Bool.not_eq_true', Bool.not_eq_false', decide_eq_true_eq, decide_eq_false_iff_not, beq_iff_eq, beq_eq_false_iff_ne, bne_iff_ne, bne_eq_false_iff_eq, ne_eq, Int.toNat_natCast] at *; omega))) ?_
                refine j_back rfl ?_
                exact ⟨nx.length - (j + 1), by omega, j + 1, es4, ck4, m4, rfl, rfl, hm4, hT4, by rw [htk]; exact ri_step hri hco (by rw [hc6] at hrp; exact hrp), by omega, rfl⟩
            · skip
              have hsn : seen m2 c := by
                unfold seen
                cases hx : alook m2 c with
                | none => simp [hx] at hc5
                | some bb => rfl
              refine j_q (qs_add64 rfl rfl (by first | omega | (simp only [Bool.and_eq_true, Bool.or_eq_true, Bool.and_eq_false_iff, Bool.or_eq_false_iff, Bool.not_eq_true', Bool.not_eq_false', decide_eq_true_eq, decide_eq_false_iff_not, beq_iff_eq, beq_eq_false_iff_ne, bne_iff_ne, bne_eq_false_iff_eq, ne_eq, Int.toNat_natCast] at *; omega))) ?_
              refine j_back rfl ?_
              exact ⟨nx.length - (j + 1), by omega, j + 1, es2, ck2, m2, rfl, rfl, hm2, hT2, by rw [htk]; exact ri_skip hri hco hsn, by omega, rfl⟩
        · skip
          obtain rfl : j = nx.length := by
            simp only [Bool.and_eq_true, Bool.or_eq_true, Bool.and_eq_false_iff, Bool.or_eq_false_iff, Bool.not_eq_true', Bool.not_eq_false', decide_eq_true_eq, decide_eq_false_iff_not, beq_iff_eq, beq_eq_false_iff_ne, bne_iff_ne, bne_eq_false_iff_eq, ne_eq, Int.toNat_natCast] at *
            omega
          rw [List.take_of_length_le (Nat.le_refl _)] at hri
          refine j_q (qs_ac) ?_
          refine j_subl (S' := [[(gs, .map es2 ck2)]]) (by repeat first | exact List.Sublist.refl _ | exact List.nil_sublist _ | apply List.Sublist.cons_cons | apply List.Sublist.cons) ?_
          refine j_ret_con (vs := [_]) (fun w' hw' => ⟨rfl, trivial⟩) ?_
          exact ⟨_, es2, ck2, m2, rfl, rfl, hm2, hT2, rp_fin hri hnx1⟩
      · skip
        have hxt : x.1 ≠ t := by simpa using hc2
        have htk : l.row.take (i + 1) = l.row.take i ++ [x] := by
          rw [List.take_add_one, List.getElem?_eq_getElem hi1, ← hx, List.getD_eq_getElem?_getD, List.getElem?_eq_getElem hi1]
          rfl
        have hnl : nx.length = zs.length + i := by rw [hnxe, List.length_append, List.length_map, List.length_take, Nat.min_eq_left (by omega)]
        have hzl := hzs.length_eq
        rw [List.length_map] at hzl
        refine j_q (qs_field Try.underlying102 rfl sz3 (by decide) rfl) ?_
        first
          | refine j_q (qs_loadk 0 Try.underlying3 rfl rfl (by first | omega | (simp only [Bool.and_eq_true, Bool.or_eq_true, Bool.and_eq_false_iff, Bool.or_eq_false_iff, Bool.not_eq_true', Bool.not_eq_false', decide_eq_true_eq, decide_eq_false_iff_not, beq_iff_eq, beq_eq_false_iff_ne, bne_iff_ne, bne_eq_false_iff_eq, ne_eq, Int.toNat_natCast] at *; omega))) ?_
          | refine j_q (qs_loadk 1 Try.underlying3 rfl rfl (by first | omega | (simp only [Bool.and_eq_true, Bool.or_eq_true, Bool.and_eq_false_iff, Bool.or_eq_false_iff, Bool.not_eq_true', Bool.not_eq_false', decide_eq_true_eq, decide_eq_false_iff_not, beq_iff_eq, beq_eq_false_iff_ne, bne_iff_ne, bne_eq_false_iff_eq, ne_eq, Int.toNat_natCast] at *; omega))) ?_
          | refine j_q (qs_load 0 Try.underlying3 rfl rfl rfl rfl) ?_
          | refine j_q (qs_load 1 Try.underlying3 rfl rfl rfl rfl) ?_
        refine j_lit (vs := [.int .i64 _]) Try.underlying36 sz3 zero3 rfl (by simp [oneV]) ⟨rfl, by decide⟩ (fun g48 v48 c48 hv48 hc48 ho48 => ?_)
        subst hv48 hc48
        refine j_append 2 Try.underlying36 Try.underlying36 (.inr ⟨_, rfl⟩) sb3 zero3 rfl ho rfl (.inl ⟨_, _, rfl, own_rd ho48 0 rfl, rfl⟩) (by intro u hu; rw [List.mem_singleton] at hu; rw [hu]; rfl) ⟨(by simp only [ks_length, List.length_singleton]; omega), (by decide)⟩ (fun v49 c49 ho49 => ?_)
        have ho49' : Sx.Own 3 1 (ks .i64 (nx ++ [x.1])) v49 c49 := by
          have e : ks .i64 (nx ++ [x.1]) = ks .i64 nx ++ [Value.int .i64 x.1] := by simp [ks]
          rw [e]
          exact ho49
        refine j_subl (S' := [c49, [(gs, .map es ck)]]) (by repeat first | exact List.Sublist.refl _ | exact List.nil_sublist _ | apply List.Sublist.cons_cons | apply List.Sublist.cons) ?_
        refine j_q (qs_add64 rfl rfl (by first | omega | (simp only [Bool.and_eq_true, Bool.or_eq_true, Bool.and_eq_false_iff, Bool.or_eq_false_iff, Bool.not_eq_true', Bool.not_eq_false', decide_eq_true_eq, decide_eq_false_iff_not, beq_iff_eq, beq_eq_false_iff_ne, bne_iff_ne, bne_eq_false_iff_eq, ne_eq, Int.toNat_natCast] at *; omega))) ?_
        refine j_back rfl ?_
        exact ⟨l.row.length - (i + 1), by omega, i + 1, _, _, c49, rfl, rfl, ho49', by rw [hnxe, htk, List.map_append, List.append_assoc]; rfl, fun y hy => by
          rw [htk] at hy
          rcases List.mem_append.1 hy with hy | hy
          · exact hnt y hy
          · rw [List.mem_singleton] at hy; rw [hy]; exact hxt, by omega, rfl⟩
    · skip
      obtain rfl : i = l.row.length := by
        simp only [Bool.and_eq_true, Bool.or_eq_true, Bool.and_eq_false_iff, Bool.or_eq_false_iff, Bool.not_eq_true', Bool.not_eq_false', decide_eq_true_eq, decide_eq_false_iff_not, beq_iff_eq, beq_eq_false_iff_ne, bne_iff_ne, bne_eq_false_iff_eq, ne_eq, Int.toNat_natCast] at *
        omega
      rw [List.take_of_length_le (Nat.le_refl _)] at hnxe hnt
      have hrow : nx = zs ++ (tw t l.row).map Prod.fst := by rw [hnxe, tw_end hnt]
      have hnx1 : ∀ c ∈ succs p.at_ t, c ∈ nx := fun c hc => by
        rw [hsucc] at hc
        rw [hrow]
        rcases List.mem_append.1 hc with hc | hc
        · exact List.mem_append_left _ (hzs.mem_iff.2 hc)
        · exact List.mem_append_right _ hc
      have hnx2 : ∀ c ∈ nx, c ∈ succs p.at_ t := fun c hc => by
        rw [hsucc]
        rw [hrow] at hc
        rcases List.mem_append.1 hc with hc | hc
        · exact List.mem_append_left _ (hzs.mem_iff.1 hc)
        · exact List.mem_append_right _ hc
      have hnxok : ∀ c ∈ nx, intOk c := fun c hc => by
        rw [hrow] at hc
        rcases List.mem_append.1 hc with hc | hc
        · obtain ⟨q, hq, rfl⟩ := List.mem_map.1 (hzs.mem_iff.1 hc)
          exact hlk.hm.keys (q.1, Value.bool q.2) (List.mem_map.2 ⟨q, hq, rfl⟩)
        · obtain ⟨q, hq, rfl⟩ := List.mem_map.1 hc
          exact hlk.rowOk q ((List.takeWhile_sublist _).subset hq)
      have hzl' := hzs.length_eq
      rw [List.length_map] at hzl'
      have htwl : (tw t l.row).length ≤ l.row.length := (List.takeWhile_sublist _).length_le
      have hnxl : nx.length ≤ 2000000 := by rw [hrow, List.length_append, List.length_map]; omega
      obtain ⟨n7, A7, cap7, rfl, hn7⟩ := own_form ho (by decide)
      rw [ks_length, Nat.mul_one] at hn7
      subst hn7
      refine j_q (qs_lenl Try.underlying36 rfl) ?_
      refine j_q (qs_mc) ?_
      refine j_loop (fun m vs S' => ∃ (j : Nat) (es2 : Array MapEntry) (ck2 : Nat) (m2 : List (Int × Bool)), vs = [.int .i64 (j : Int)] ∧ S' = [oc, [(gs, .map es2 ck2)]] ∧ MapOk intEnc intOk es2 ck2 (m2.map fun q => (q.1, Value.bool q.2)) ∧ AllT m2 ∧ RI p.at_ of m0 m2 (nx.take j) ∧ j ≤ nx.length ∧ m = nx.length - j) ⟨_, 0, es, ck, m0, rfl, rfl, hm, hT, ri_init _ _ _, Nat.zero_le _, rfl⟩ ?_
      rintro m vs S' hlen ⟨j, es2, ck2, m2, rfl, rfl, hm2, hT2, hri, hj, hmj⟩
      refine j_q (qs_lss rfl rfl) ?_
      refine j_cond rfl (fun hc7 => ?_) (fun hc7 => ?_)
      · skip
        have hj1 : j < nx.length := by
          simp only [Bool.and_eq_true, Bool.or_eq_true, Bool.and_eq_false_iff, Bool.or_eq_false_iff, Bool.not_eq_true', Bool.not_eq_false', decide_eq_true_eq, decide_eq_false_iff_not, beq_iff_eq, beq_eq_false_iff_ne, bne_iff_ne, bne_eq_false_iff_eq, ne_eq, Int.toNat_natCast] at *
          omega
        have hcmem : nx.getD j 0 ∈ nx := by
          rw [List.getD_eq_getElem?_getD, List.getElem?_eq_getElem hj1]
          exact List.getElem_mem hj1
        have hcok := hnxok _ hcmem
        have hcs := hnx2 _ hcmem
        have htk : nx.take (j + 1) = nx.take j ++ [nx.getD j 0] := by
          rw [List.take_add_one, List.getElem?_eq_getElem hj1, List.getD_eq_getElem?_getD, List.getElem?_eq_getElem hj1]
          rfl
        obtain ⟨go, rfl⟩ := own_addr ho (by rw [ks_length]; omega)
        generalize hcc : nx.getD j 0 = c at *
        first
          | refine j_q (qs_ixg Try.underlying36 sz3 rfl rfl ⟨(by first | omega | (simp only [Bool.and_eq_true, Bool.or_eq_true, Bool.and_eq_false_iff, Bool.or_eq_false_iff, Bool.not_eq_true', Bool.not_eq_false', decide_eq_true_eq, decide_eq_false_iff_not, beq_iff_eq, beq_eq_false_iff_ne, bne_iff_ne, bne_eq_false_iff_eq, ne_eq, Int.toNat_natCast] at *; omega)), (by first | omega | (simp only [Bool.and_eq_true, Bool.or_eq_true, Bool.and_eq_false_iff, Bool.or_eq_false_iff, Bool.not_eq_true', Bool.not_eq_false', decide_eq_true_eq, decide_eq_false_iff_not, beq_iff_eq, beq_eq_false_iff_ne, bne_iff_ne, bne_eq_false_iff_eq, ne_eq, Int.toNat_natCast] at *; omega))⟩) ?_
          | refine j_q (qs_ixl0 Try.underlying36 sz3 rfl rfl ⟨(by first | omega | (simp only [Bool.and_eq_true, Bool.or_eq_true, Bool.and_eq_false_iff, Bool.or_eq_false_iff, Bool.not_eq_true', Bool.not_eq_false', decide_eq_true_eq, decide_eq_false_iff_not, beq_iff_eq, beq_eq_false_iff_ne, bne_iff_ne, bne_eq_false_iff_eq, ne_eq, Int.toNat_natCast] at *; omega)), (by first | omega | (simp only [Bool.and_eq_true, Bool.or_eq_true, Bool.and_eq_false_iff, Bool.or_eq_false_iff, Bool.not_eq_true', Bool.not_eq_false', decide_eq_true_eq, decide_eq_false_iff_not, beq_iff_eq, beq_eq_false_iff_ne, bne_iff_ne, bne_eq_false_iff_eq, ne_eq, Int.toNat_natCast] at *; omega))⟩) ?_
        refine j_q (qs_loadR (a := ⟨go, 0, none⟩) (i := j) (vs := ks .i64 nx) (own_rd ho 0 rfl) Try.underlying3 rfl (by show Value.pointer (some ⟨go, (j : Int).toNat, none⟩) = _; rw [add_off, Nat.zero_add, Int.toNat_natCast]) (ks_get hj1)) ?_
        rw [hcc]
        refine j_q (qs_eql rfl rfl) ?_
        refine j_cond rfl (fun hc8 => ?_) (fun hc8 => ?_)
        · skip
          have hco : c = of := by simpa using hc8
          refine j_q (qs_ac) ?_
          refine j_subl (S' := [[(gs, .map es2 ck2)]]) (by repeat first | exact List.Sublist.refl _ | exact List.nil_sublist _ | apply List.Sublist.cons_cons | apply List.Sublist.cons) ?_
          refine j_ret_con (vs := [_]) (fun w' hw' => ⟨rfl, trivial⟩) ?_
          exact ⟨_, es2, ck2, m2, rfl, rfl, hm2, hT2, ⟨fun _ => hco ▸ .one hcs, (fun h => by cases h)⟩⟩
        · skip
          have hco : c ≠ of := by simpa using hc8
          refine j_q (qs_lookup (key := c) intKey 1 Try.underlying103 zv4 rfl rfl rfl hm2 hcok) ?_
          rw [mlook_map (fun b => Value.bool b)]
          rw [show ((alook m2 c).map fun b => Value.bool b).getD (.bool false) = .bool ((alook m2 c).getD false) by cases alook m2 c <;> rfl]
          refine j_q (qs_not rfl) ?_
          refine j_cond rfl (fun hc9 => ?_) (fun hc9 => ?_)
          · skip
            have hsn : ¬ seen m2 c := fun h => by
              unfold seen at h
              obtain ⟨bb, hx⟩ := Option.isSome_iff_exists.1 h
              have := hT2 c bb hx
              subst this
              simp [hx] at hc9
            refine j_mapset (key := c) (val := .bool true) intKey 1 Try.underlying103 rfl rfl rfl rfl hm2 hcok (fun es3 ck3 hm3 => ?_)
            rw [mset_map (fun b => Value.bool b)] at hm3
            refine j_call 1 ent47 rfl rfl rfl rfl (fun w' hw' => ih c of (aset m2 c true) gs es3 ck3 w' (in_keepD hin hw' hD) hgs hcok hof hm3 (allT_aset hT2) (by rw [← hk]; exact unseen_lt (succs_univ hcs) hsn hri.1)) (fun u S2 hu => ?_)
            obtain ⟨r, es4, ck4, m4, rfl, rfl, hm4, hT4, hrp⟩ := hu
            refine j_subl (S' := [[(gs, .map es4 ck4)], oc]) (by repeat first | exact List.Sublist.refl _ | exact List.nil_sublist _ | apply List.Sublist.cons_cons | apply List.Sublist.cons) ?_
            refine j_swap ?_
            refine j_cond rfl (fun hc10 => ?_) (fun hc10 => ?_)
            · skip
              refine j_q (qs_ac) ?_
              refine j_subl (S' := [[(gs, .map es4 ck4)]]) (by repeat first | exact List.Sublist.refl _ | exact List.nil_sublist _ | apply List.Sublist.cons_cons | apply List.Sublist.cons) ?_
              refine j_ret_con (vs := [_]) (fun w' hw' => ⟨rfl, trivial⟩) ?_
              exact ⟨_, es4, ck4, m4, rfl, rfl, hm4, hT4, ⟨fun _ => .more hcs (hrp.1 hc10), (fun h => by cases h)⟩⟩
            · skip
              refine j_q (qs_add64 rfl rfl (by first | omega | (simp only [Bool.and_eq_true, Bool.or_eq_true, Bool.and_eq_false_iff, Bool.or_eq_false_iff, Bool.not_eq_true', Bool.not_eq_false', decide_eq_true_eq, decide_eq_false_iff_not, beq_iff_eq, beq_eq_false_iff_ne, bne_iff_ne, bne_eq_false_iff_eq, ne_eq, Int.toNat_natCast] at *; omega))) ?_
              refine j_back rfl ?_
              exact ⟨nx.length - (j + 1), by omega, j + 1, es4, ck4, m4, rfl, rfl, hm4, hT4, by rw [htk]; exact ri_step hri hco (by rw [hc10] at hrp; exact hrp), by omega, rfl⟩
          · skip
            have hsn : seen m2 c := by
              unfold seen
              cases hx : alook m2 c with
              | none => simp [hx] at hc9
              | some bb => rfl
            refine j_q (qs_add64 rfl rfl (by first | omega | (simp only [Bool.and_eq_true, Bool.or_eq_true, Bool.and_eq_false_iff, Bool.or_eq_false_iff, Bool.not_eq_true', Bool.not_eq_false', decide_eq_true_eq, decide_eq_false_iff_not, beq_iff_eq, beq_eq_false_iff_ne, bne_iff_ne, bne_eq_false_iff_eq, ne_eq, Int.toNat_natCast] at *; omega))) ?_
            refine j_back rfl ?_
            exact ⟨nx.length - (j + 1), by omega, j + 1, es2, ck2, m2, rfl, rfl, hm2, hT2, by rw [htk]; exact ri_skip hri hco hsn, by omega, rfl⟩
      · skip
        obtain rfl : j = nx.length := by
          simp only [Bool.and_eq_true, Bool.or_eq_true, Bool.and_eq_false_iff, Bool.or_eq_false_iff, Bool.not_eq_true', Bool.not_eq_false', decide_eq_true_eq, decide_eq_false_iff_not, beq_iff_eq, beq_eq_false_iff_ne, bne_iff_ne, bne_eq_false_iff_eq, ne_eq, Int.toNat_natCast] at *
          omega
        rw [List.take_of_length_le (Nat.le_refl _)] at hri
        refine j_q (qs_ac) ?_
        refine j_subl (S' := [[(gs, .map es2 ck2)]]) (by repeat first | exact List.Sublist.refl _ | exact List.nil_sublist _ | apply List.Sublist.cons_cons | apply List.Sublist.cons) ?_
        refine j_ret_con (vs := [_]) (fun w' hw' => ⟨rfl, trivial⟩) ?_
        exact ⟨_, es2, ck2, m2, rfl, rfl, hm2, hT2, rp_fin hri hnx1⟩

theorem rings_con (B : Nat) (hB : B ≤ 1000000) (p : PT) (hok : p.Ok B) (t of : Int) (m0 : List (Int × Bool)) (gs : Nat) (es : Array MapEntry) (ck : Nat) (w : World) (hin : In w p.heap) (hgs : ∀ q ∈ p.heap, q.1 ≠ gs) (ht : intOk t) (hof : intOk of) (hm : MapOk intEnc intOk es ck (m0.map fun q => (q.1, Value.bool q.2))) (hT : AllT m0) : Con Try.prog 47 [.pointer (some ⟨p.gt, 0, none⟩), .int .i64 t, .int .i64 of, .map (some gs)] w [(gs, .map es ck)] (ringPost p gs t of m0) := by
  generalize hk : unseen p.at_ m0 = k
  induction k using Nat.strongRecOn generalizing t of m0 gs es ck w with
  | ind k ih => exact rings_step k B hB p hok (fun t of m0 gs es ck w a1 a2 a3 a4 a5 a6 a7 => ih _ a7 t of m0 gs es ck w a1 a2 a3 a4 a5 a6 rfl) t of m0 gs es ck w hin hgs ht hof hm hT hk
theorem rp_reach {s : AT} {t of : Int} {m1 : List (Int × Bool)} {r : Bool} (h : RP s t of [] m1 r) : r = true ↔ Reach s t of := by
  refine ⟨h.1, fun hr => ?_⟩
  cases hb : r with
  | true => rfl
  | false =>
    obtain ⟨_, h2, h3⟩ := h.2 hb
    have hno : ∀ x, ¬ seen [] x := fun x hx => by simp [seen, alook] at hx
    have key : ∀ {a b : Int}, Reach s a b → (∀ c ∈ succs s a, c ≠ of ∧ seen m1 c) → b ≠ of := by
      intro a b hab
      induction hab with
      | one hc => exact fun hs => (hs _ hc).1
      | more hc _ ih => exact fun hs => ih (h3 _ (hs _ hc).2 (hno _))
    exact absurd rfl (key hr h2)
end Go.Proofs.Ytlgfpoelhjlifaa
