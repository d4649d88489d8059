/- Rules for maps that can be read, for delete, for slices that do not begin where their row does, for function values. -/
import Derived.Test.YtfeabbeebkkhaaaGreatSx16
namespace Go.Sx
open Go Go.MapKept Go.WideMaps Go.Maps
set_option linter.unusedVariables false
set_option linter.unusedSimpArgs false
set_option linter.unusedSectionVars false
variable {P : Program} {R : Ending → World → Prop} {env : Env} {b : Base} {S : List SH} {B : JB} {T : Tree} {v : Value} {ty : TypeId}
/-- a block that can be read -/
def RdO (b : Base) (S : List SH) (g : Nat) (o : Obj) : Prop := ∀ w, Sig b S w → w.heap[g]? = some o
theorem rdo_mem {g : Nat} {o : Obj} {c : SH} (k : Nat) (hk : S[k]? = some c) (h : (g, o) ∈ c) : RdO b S g o := fun w hw => hw.own _ (mem_flatten_of hk h)
theorem rdo_own {g : Nat} {o : Obj} (k : Nat) (hk : S[k]? = some [(g, o)]) : RdO b S g o := rdo_mem k hk (by simp)
theorem rdo_base {g : Nat} {o : Obj} (h : b.w0.heap[g]? = some o) (hD : g ∉ b.D) : RdO b S g o := fun w hw => (hw.frame g (lt_of_get h) hD).trans h
theorem rd_rdo {g off n : Nat} {l vs : List Value} {e : TypeId} {fz : Nat × Nat} (hr : RdO b S g (.cells l.toArray e fz)) (h : (l.drop off).take n = vs) : Rd b S ⟨g, off, none⟩ vs := fun w hw j u hu => by
  subst h
  rw [add_off, cell_of (hr w hw)]
  rw [List.getElem?_take] at hu
  split at hu
  · rwa [List.getElem?_drop] at hu
  · cases hu
/-- a cell out of a block that can be read -/
theorem qs_loadO {t : TypeId} {d : TypeDesc} {x : Operand} {g i : Nat} {l : List Value} {e : TypeId} {fz : Nat × Nat} {u : Value} (hr : RdO b S g (.cells l.toArray e fz)) (hu : P.underlying t = some d) (hd : flat d = true) (hx : ev env x = .pointer (some ⟨g, i, none⟩)) (hi : l[i]? = some u) :
    QS P (O (.load t x) ty) env b S u := by
  refine qs_loadR (vs := l) (a := ⟨g, 0, none⟩) (i := i) (rd_rdo (n := l.length) hr (by simp)) hu hd (by rw [add_off, Nat.zero_add]; exact hx) hi
section
variable {κ : Type} [DecidableEq κ] {enc : κ → Value} {ok : κ → Prop} {es : Array MapEntry} {clock : Nat} {m : List (κ × Value)} {kt : TypeId}
theorem qs_lookupR (KE : KeyE P kt enc ok) {t vt : TypeId} {x y : Operand} {g : Nat} {key : κ} {z : Value} (hr : RdO b S g (.map es clock)) (ht : P.underlying t = some (.map kt vt)) (hz : (P.info? vt).bind (·.zero) = some z) (hx : ev env x = .map (some g)) (hy : ev env y = enc key) (hm : MapOk enc ok es clock m) (hok : ok key) :
    QS P (O (.lookup t x y false) ty) env b S ((mlook m key).getD z) := qs_val fun w hw => by
  simp only [O, execOp, hx, hy, Sem.run_bind, run_lookup_ok KE ht hz hm hok (hr w hw) false, Result.andThen_ok, Sem.run_pure]
  rfl
theorem qs_lookup2R (KE : KeyE P kt enc ok) {t vt : TypeId} {x y : Operand} {g : Nat} {key : κ} {z : Value} (hr : RdO b S g (.map es clock)) (ht : P.underlying t = some (.map kt vt)) (hz : (P.info? vt).bind (·.zero) = some z) (hx : ev env x = .map (some g)) (hy : ev env y = enc key) (hm : MapOk enc ok es clock m) (hok : ok key) :
    QS P (O (.lookup t x y true) ty) env b S (.tuple #[(mlook m key).getD z, .bool (mlook m key).isSome]) := qs_val fun w hw => by
  simp only [O, execOp, hx, hy, Sem.run_bind, run_lookup_ok KE ht hz hm hok (hr w hw) true, Result.andThen_ok, Sem.run_pure]
  rfl
theorem qs_maplen {t kt vt : TypeId} {x : Operand} {g : Nat} (hr : RdO b S g (.map es clock)) (ht : P.underlying t = some (.map kt vt)) (hx : ev env x = .map (some g)) (hm : MapOk enc ok es clock m) : QS P (O (.call ⟨.builtin .len, #[x], #[t]⟩) ty) env b S (.int .i64 (m.length : Nat)) := qs_val fun w hw => by
  have hs := hm.size
  simp [O, execOp, resolve, invoke, builtin, Builtin.len_, Sem.run_bind, Sem.run_pure, Result.andThen_ok, hx, run_underlying_ok ht, getObj_map (hr w hw), goInt, hs]
theorem run_mapeq {t kt vt : TypeId} {mb : Option Nat} (ht : P.underlying t = some (.map kt vt)) (d : Nat) (w : World) : (Op.equalIn (d + 1) t (.map mb) (.map none)).run P w = .ok mb.isNone w := by
  cases mb <;> simp only [Op.equalIn, Sem.run_bind, run_underlying_ok ht, Result.andThen_ok, Sem.run_pure] <;> rfl
theorem qs_mapnil {t t' kt vt : TypeId} {x y : Operand} {mb : Option Nat} (ht : P.underlying t = some (.map kt vt)) (hgd : P.eqGuardType P.depth t = false) (hx : ev env x = .map mb) (hy : ev env y = .map none) : QS P (O (.binOp .eql t x y t') ty) env b S (.bool mb.isNone) := qs_run fun w => by
  have hg : ∀ w, (eqGuard .eql t x y (.map mb) (.map none)).run P w = .ok () w := fun w => by
    unfold eqGuard
    simp [Sem.run_bind, program, Sem.run, hgd]
  have he' : (Op.equal t (.map mb) (.map none)).run P w = .ok mb.isNone w := run_mapeq ht 9999 w
  have hb : binOp .eql t (.map mb) (.map none) = (do pure (.bool (← Op.equal t (.map mb) (.map none)))) := rfl
  simp only [O, execOp, hx, hy, hg, Sem.run_bind, Sem.run_pure, Result.andThen_ok]
  rw [hb]
  simp [Sem.run_bind, he', Sem.run_pure, Result.andThen_ok]
/-- the entries but for a key's -/
def mdel {α : Type} (m : List (κ × α)) (k : κ) : List (κ × α) := m.filter fun p => decide (p.1 ≠ k)
theorem mdel_none {m : List (κ × Value)} {k : κ} (h : mlook m k = none) : mdel m k = m := by
  unfold mdel
  rw [List.filter_eq_self]
  intro p hp
  simpa using mlook_none.1 h p hp
theorem MapOk.erase (h : MapOk enc ok es clock m) {k : κ} {j : Nat} {v : Value} (hm : m[j]? = some (k, v)) : MapOk enc ok (es.eraseIdxIfInBounds j) clock (mdel m k) := by
  have hjlt : j < m.length := (List.getElem?_eq_some_iff.1 hm).1
  have hje : j < es.size := by rw [h.size]; exact hjlt
  have hl : (es.eraseIdxIfInBounds j).toList = es.toList.eraseIdx j := by
    unfold Array.eraseIdxIfInBounds
    rw [dif_pos hje, Array.toList_eraseIdx]
  have hd : mdel m k = m.eraseIdx j := by
    unfold mdel
    have := Go.ChangeMaps.filter_eq_eraseIdx (fun p : κ × Value => decide (p.1 = k)) m j (k, v) hm (by simp) ?_
    · rw [← this]
      refine List.filter_congr fun p _ => ?_
      by_cases hp : p.1 = k <;> simp [hp]
    · have hn := h.nodup
      rw [List.Nodup, List.pairwise_map] at hn
      exact hn.imp fun hne hpq => hne (by
        simp only [decide_eq_true_eq] at hpq
        rw [hpq.1, hpq.2])
  refine ⟨?_, ?_, fun p hp => h.keys p (by rw [hd] at hp; exact List.eraseIdx_subset hp)⟩
  · rw [hl, hd, Go.ChangeMaps.map_eraseIdx, Go.ChangeMaps.map_eraseIdx, h.ents]
  · exact stamped_erase h.stamped j
/-- delete -/
theorem j_mapdel (KE : KeyE P kt enc ok) {t t' vt : TypeId} {x y : Operand} {g : Nat} {key : κ} (k : Nat) (ht : P.underlying t = some (.map kt vt)) (hx : ev env x = .map (some g)) (hy : ev env y = enc key) (hk : S[k]? = some [(g, .map es clock)]) (hm : MapOk enc ok es clock m) (hok : ok key)
    (h : ∀ es', MapOk enc ok es' clock (mdel m key) → J P R T (.tuple #[] :: env) (S.set k [(g, .map es' clock)]) b B) : J P R (.op (O (.call ⟨.builtin .delete, #[x, y], #[t, t']⟩) ty) T) env S b B := fun w hw => by
  have hg := hw.map_at hk
  obtain ⟨l, hl⟩ := KE.lit key hok
  have hck := fun em => KE.keyed.check w em hl
  show opW _ _ _ _ _ _
  unfold opW
  rcases find_cases KE hm hok w with ⟨h1, h2⟩ | ⟨j, e, h1, h3, h4, h5, h2⟩
  · have hrun : (execOp (ev env) (O (.call ⟨.builtin .delete, #[x, y], #[t, t']⟩) ty)).run P w = .ok (.value (.tuple #[])) { w with heap := w.heap.setIfInBounds g (.map es clock) } := by
      simp [O, execOp, resolve, invoke, builtin, Builtin.delete_, Sem.run_bind, Sem.run_pure, Result.andThen_ok, hx, hy, run_underlying_ok ht, getObj_map hg, hck, h1, setObj_map _ hg]
    rw [hrun]
    exact h es (by rw [mdel_none h2]; exact hm) _ (sig_setmap hw hk _)
  · have hrun : (execOp (ev env) (O (.call ⟨.builtin .delete, #[x, y], #[t, t']⟩) ty)).run P w = .ok (.value (.tuple #[])) { w with heap := w.heap.setIfInBounds g (.map (es.eraseIdxIfInBounds j) clock) } := by
      simp [O, execOp, resolve, invoke, builtin, Builtin.delete_, Sem.run_bind, Sem.run_pure, Result.andThen_ok, hx, hy, run_underlying_ok ht, getObj_map hg, hck, h1, setObj_map _ hg]
    rw [hrun]
    exact h _ (hm.erase h5) _ (sig_setmap hw hk _)
end
/-! slices within a row -/
/-- a slice that is alone in its row, wherever it begins -/
def OwnO (e : TypeId) (sz : Nat) (xs : List Value) (v : Value) (c : SH) : Prop :=
  (v = .slice none 0 0 ∧ xs = [] ∧ c = []) ∨ ∃ g n cap pre rest tail fz, v = .slice (some ⟨g, pre.length, none⟩) n cap ∧ c = [(g, .cells (pre ++ (xs ++ rest) ++ tail).toArray e fz)] ∧ xs.length = n * sz ∧ (xs ++ rest).length = cap * sz ∧ n ≤ cap ∧ ∀ j, j < (pre ++ (xs ++ rest) ++ tail).length → ¬ (fz.1 ≤ j ∧ j < fz.2)
theorem ownO_nil {e : TypeId} {sz : Nat} : OwnO e sz [] (.slice none 0 0) [] := .inl ⟨rfl, rfl, rfl⟩
theorem Own.toO {e : TypeId} {sz : Nat} {xs : List Value} {v : Value} {c : SH} (h : Own e sz xs v c) : OwnO e sz xs v c := by
  rcases h with h | ⟨g, n, cap, rest, fz, rfl, rfl, h1, h2, h3, h4⟩
  · exact .inl h
  · exact .inr ⟨g, n, cap, [], rest, [], fz, rfl, by simp, h1, h2, h3, fun j hj => h4 j (by simpa using hj)⟩
theorem ownO_form {e : TypeId} {sz : Nat} {xs : List Value} {v : Value} {c : SH} (h : OwnO e sz xs v c) : ∃ n A cap, v = .slice A n cap ∧ xs.length = n * sz ∧ n ≤ cap := by
  rcases h with ⟨rfl, rfl, rfl⟩ | ⟨g, n, cap, pre, rest, tail, fz, rfl, rfl, h1, h2, h3, h4⟩
  · exact ⟨0, none, 0, rfl, by simp, Nat.le_refl _⟩
  · exact ⟨n, _, _, rfl, h1, h3⟩
theorem ownO_addr {e : TypeId} {sz n cap : Nat} {xs : List Value} {A : Option Addr} {c : SH} (h : OwnO e sz xs (.slice A n cap) c) (hx : xs ≠ []) : ∃ g o, A = some ⟨g, o, none⟩ := by
  rcases h with ⟨h, h1, _⟩ | ⟨g, n', cap', pre, rest, tail, fz, h, _⟩
  · exact absurd h1 hx
  · injection h with h1 h2 h3
    exact ⟨g, _, h1⟩
theorem ownO_rd {e : TypeId} {sz n cap : Nat} {xs : List Value} {a : Addr} {c : SH} (h : OwnO e sz xs (.slice (some a) n cap) c) (k : Nat) (hk : S[k]? = some c) : Rd b S a xs := by
  rcases h with ⟨h, _⟩ | ⟨g, n', cap', pre, rest, tail, fz, h, rfl, h1, h2, h3, h4⟩
  · cases h
  · cases h
    refine rd_own (n := xs.length) k hk ?_
    rw [List.append_assoc, List.append_assoc, List.drop_left']
    · simp
    · rfl
theorem ownO_src {e : TypeId} {sz n cap : Nat} {xs : List Value} {A : Option Addr} {c : SH} (h : OwnO e sz xs (.slice A n cap) c) (k : Nat) (hk : S[k]? = some c) : Src b S sz (.slice A n cap) n xs := by
  rcases id h with ⟨h1, h2, h3⟩ | ⟨g, n', cap', pre, rest, tail, fz, h1, h2, h3, h4⟩
  · injection h1 with e1 e2 e3
    subst e1 e2 e3 h2
    exact .inr (.inl ⟨0, rfl, rfl, rfl⟩)
  · injection h1 with e1 e2 e3
    subst e1 e2 e3
    exact .inl ⟨_, _, rfl, ownO_rd h k hk, h3⟩
/-- the first member goes -/
theorem ownO_tail {e : TypeId} {sz n cap : Nat} {x xs : List Value} {A : Option Addr} {c : SH} (h : OwnO e sz (x ++ xs) (.slice A n cap) c) (hx : x.length = sz) (h0 : 0 < sz) : OwnO e sz xs (.slice (if cap = 1 then A else A.map (·.add (1 * sz))) (n - 1) (cap - 1)) c := by
  rcases h with ⟨h, h1, _⟩ | ⟨g, n', cap', pre, rest, tail, fz, h, rfl, h1, h2, h3, h4⟩
  · have := congrArg List.length h1
    simp only [List.length_append, List.length_nil] at this
    omega
  · injection h with e1 e2 e3
    subst e1 e2 e3
    have hn : 1 ≤ n := by
      rcases Nat.eq_zero_or_pos n with rfl | hp
      · simp only [List.length_append, Nat.zero_mul] at h1; omega
      · exact hp
    simp only [List.length_append] at h1 h2
    have hn1 : xs.length = (n - 1) * sz := by rw [Nat.sub_mul, Nat.one_mul]; omega
    have hc1 : xs.length + rest.length = (cap - 1) * sz := by rw [Nat.sub_mul, Nat.one_mul]; omega
    by_cases hc : cap = 1
    · rw [if_pos hc]
      subst hc
      obtain rfl : n = 1 := by omega
      simp only [Nat.sub_self, Nat.zero_mul] at hn1 hc1
      refine .inr ⟨g, 0, 0, pre, [], x ++ xs ++ rest ++ tail, fz, rfl, ?_, by rw [hn1, Nat.zero_mul], by simp [hn1], Nat.le_refl _, fun j hj => h4 j ?_⟩
      · have e1 : xs = [] := List.eq_nil_of_length_eq_zero hn1
        subst e1
        simp
      · have e1 : xs = [] := List.eq_nil_of_length_eq_zero hn1
        subst e1
        simp only [List.length_append, List.length_nil] at hj ⊢
        omega
    · rw [if_neg hc]
      refine .inr ⟨g, n - 1, cap - 1, pre ++ x, rest, tail, fz, ?_, ?_, hn1, by rw [List.length_append]; exact hc1, by omega, fun j hj => h4 j ?_⟩
      · simp only [Option.map_some, Nat.one_mul, add_off, List.length_append, hx]
      · simp only [List.append_assoc]
      · simp only [List.length_append] at hj ⊢
        omega
/-- what is behind goes -/
theorem ownO_cut {e : TypeId} {sz n cap i : Nat} {xs : List Value} {A : Option Addr} {c : SH} (h : OwnO e sz xs (.slice A n cap) c) (hi : i ≤ n) : OwnO e sz (xs.take (i * sz)) (.slice (if cap = 0 then A else A.map (·.add (0 * sz))) (i - 0) (cap - 0)) c := by
  have ea : ∀ a : Addr, a.add (0 * sz) = a := fun a => by rw [Nat.zero_mul]; exact add_zero_ a
  rcases h with ⟨h, rfl, rfl⟩ | ⟨g, n', cap', pre, rest, tail, fz, h, rfl, h1, h2, h3, h4⟩
  · injection h with e1 e2 e3
    subst e1 e2 e3
    obtain rfl : i = 0 := by omega
    rw [if_pos rfl, List.take_nil]
    exact ownO_nil
  · injection h with e1 e2 e3
    subst e1 e2 e3
    have hm : i * sz ≤ xs.length := by rw [h1]; exact Nat.mul_le_mul_right _ hi
    refine .inr ⟨g, i, cap, pre, xs.drop (i * sz) ++ rest, tail, fz, ?_, ?_, by rw [List.length_take]; omega, ?_, by omega, fun j hj => h4 j ?_⟩
    · simp only [Option.map_some, ea, Nat.sub_zero, if_t_t]
    · rw [← List.append_assoc (xs.take (i * sz)), List.take_append_drop]
    · rw [← List.append_assoc, List.take_append_drop]; exact h2
    · rw [← List.append_assoc (xs.take (i * sz)), List.take_append_drop] at hj; exact hj
where
  if_t_t {α : Type} {p : Prop} [Decidable p] {a : α} : (if p then a else a) = a := by split <;> rfl
/-- append -/
theorem j_appendO {t t' e : TypeId} {x y : Operand} {sz by_ m : Nat} {xs news : List Value} {c : SH} {d : TypeDesc} (k : Nat) (ht : P.underlying t = some (.slice e)) (ht' : P.underlying t' = some d) (hd : d = .string ∨ ∃ e', d = .slice e') (hi : (P.info? e).map (fun i => (i.size, i.bytes)) = some (sz, by_)) {z : List Value} (hz : zeroL P e = some z) (hzl : z.length = sz)
    (hx : OwnO e sz xs (ev env x) c) (hk : S[k]? = some c) (hy : Src b S sz (ev env y) m news) (h1 : ∀ u ∈ news, oneV u = true) (hb : (xs.length + news.length) * (by_ + 1) ≤ 140737488355328 ∧ 0 < sz)
    (h : ∀ v' c', OwnO e sz (xs ++ news) v' c' → J P R T (v' :: env) (S.set k c') b B) : J P R (.op (O (.call ⟨.builtin .append, #[x, y], #[t, t']⟩) ty) T) env S b B := fun w hw => by
  rcases hd with rfl | ⟨e', rfl⟩
  all_goals (
    obtain ⟨i, hi', hsb⟩ := Option.map_eq_some_iff.1 hi
    obtain ⟨rfl, rfl⟩ : i.size = sz ∧ i.bytes = by_ := by simpa using hsb
    obtain ⟨zv, hzv, hrunz⟩ := run_zero_ok hz
    obtain ⟨hb, hsz⟩ := hb
    have hml := src_len hy
    have hsize : ∀ w, (sizeOf e).run P w = .ok i.size w := run_sizeOf_ok (by rw [hi']; rfl)
    have hinfo : ∀ w, (typeInfo e).run P w = .ok i w := fun w => by simp only [typeInfo, program, Sem.run_bind, Sem.run, Result.andThen_ok, hi']; simp only [Sem.run_pure]
    have hgo : ∀ v' w' c', OwnO e i.size (xs ++ news) v' c' → Sig b (S.set k c') w' → (Builtin.append_ #[t, t'] ty #[ev env x, ev env y]).run P w = .ok v' w' → opW P (O (.call ⟨.builtin .append, #[x, y], #[t, t']⟩) ty) env w R fun v w' => W P R T (v :: env) w' (B.map (lift b)) := fun v' w' c' ho hs hr => by
      unfold opW
      have e1 : (execOp (ev env) (O (.call ⟨.builtin .append, #[x, y], #[t, t']⟩) ty)).run P w = .ok (.value v') w' := by
        simp [O, execOp, resolve, invoke, builtin, Sem.run_bind, Sem.run_pure, Result.andThen_ok, hr]
      rw [e1]
      exact h v' c' ho w' hs
    show opW _ _ _ _ _ _
    have hmle : m ≤ news.length := by rw [hml]; exact Nat.le_mul_of_pos_right _ hsz
    have hsum : xs.length + news.length ≤ 140737488355328 := Nat.le_trans (Nat.le_mul_of_pos_right _ (by omega)) hb
    -- a new row
    have grow : ∀ (n cap : Nat) (A : Option Addr), ev env x = .slice A n cap → cap < n + m → xs.length = n * i.size → (∀ w, Sig b S w → (Builtin.firstCells i.size n (.slice A n cap)).run P w = .ok xs.toArray w) →
        opW P (O (.call ⟨.builtin .append, #[x, y], #[t, t']⟩) ty) env w R fun v w' => W P R T (v :: env) w' (B.map (lift b)) := by
      intro n cap A hxe hc hxl hfirst
      have hnle : n ≤ xs.length := by rw [hxl]; exact Nat.le_mul_of_pos_right _ hsz
      have h48 : ¬ (Builtin.nextslicecap (n + m) cap * i.bytes > 2 ^ 48) := by
        have := growslice_fits (need := n + m) (old := cap) (bytes := i.bytes) hc (by
          refine Nat.le_trans (Nat.mul_le_mul_right _ (by omega : n + m ≤ xs.length + news.length)) (Nat.le_trans (Nat.mul_le_mul_left _ (Nat.le_succ _)) hb))
        omega
      have h63 : ¬ ((((n + m : Nat) : Int) > IntKind.i64.max) ∧ (False ∨ i.bytes = 0)) := by
        have : IntKind.i64.max = 9223372036854775807 := rfl
        rw [this]; omega
      have hge := grownCap_ge w (n + m) cap e
      refine hgo (.slice (some ⟨w.heap.size, 0, none⟩) (n + m) (grownCap w (n + m) cap e)) (w.drew.alloc (.cells ((xs ++ news) ++ (Builtin.zeroCells zv.cells (grownCap w (n + m) cap e - (n + m))).toList).toArray e)) _ (Own.toO (.inr ⟨w.heap.size, n + m, grownCap w (n + m) cap e, (Builtin.zeroCells zv.cells (grownCap w (n + m) cap e - (n + m))).toList, (0, 0), rfl, rfl, ?_, ?_, hge, fun _ _ h => by omega⟩)) ?_ ?_
      · rw [List.length_append, hxl, hml, Nat.add_mul]
      · rw [List.length_append, List.length_append, hxl, hml, Array.length_toList, size_zeroCells, hzv, List.size_toArray, hzl, ← Nat.add_mul, ← Nat.add_mul]
        congr 1
        omega
      · exact hw.swap hk rfl rfl rfl rfl
      · have f1 := hfirst w.drew hw.drew
        have f2 := run_firsts (P := P) hy (w := w.drew) hw.drew
        rw [hxe]
        have hroom : ¬ (n + m ≤ cap) := by omega
        have e1 : ∀ (b : Bool) (w : World), (if b = true then (mark Mark.noRoom : Sem PUnit) else pure ()).run P w = .ok ⟨⟩ w := fun b w => by cases b <;> rfl
        have e2 : ∀ (n : Nat) (w : World), (askRoom n).run P w = .ok () w := fun n w => by unfold askRoom; split <;> rfl
        simp only [Builtin.append_, List.getElem?_toArray, List.getElem?_cons_zero, List.getElem?_cons_succ, Sem.run_bind, run_underlying_ok ht, run_underlying_ok ht', Result.andThen_ok, hsize, Sem.run_pure, run_lenOf hy, hinfo]
        simp only [Bool.false_eq_true, if_false, run_lenOf hy, Result.andThen_ok, if_neg hroom, hinfo, Sem.run_bind, Bool.not_false, if_true, if_neg h48, if_neg h63]
        simp only [choose, Sem.run, Question.forced, Bool.false_eq_true, if_false, Result.andThen_ok, Sem.run_bind, e2]
        show ((Builtin.firstCells i.size n (Value.slice A n cap)).run P w.drew).andThen _ = _
        rw [f1]
        simp only [Result.andThen_ok, Sem.run_bind, f2, hrunz, newRow, Sem.run_pure]
        simp only [newObj, Sem.run, Result.andThen_ok]
        simp only [grownCap, Question.cut, Array.toList_append, List.append_assoc]
        congr 1
        simp only [World.alloc, World.drew]
        congr 2
        congr 1
        apply Array.ext'
        simp
    rcases hx with ⟨hxe, rfl, rfl⟩ | ⟨g, n, cap, pre, rest, tail, fz, hxe, rfl, hxl, hcl, hnc, hfz⟩
    · by_cases hm : m = 0
      · subst hm
        have hn : news = [] := List.eq_nil_of_length_eq_zero (by simpa using hml)
        subst hn
        have hs : S.set k [] = S := by
          obtain ⟨hlt, he⟩ := List.getElem?_eq_some_iff.1 hk
          have := List.set_getElem_self hlt
          rwa [he] at this
        refine hgo (.slice none 0 0) w [] ownO_nil (by rw [hs]; exact hw) ?_
        rw [hxe]
        simp only [Builtin.append_, List.getElem?_toArray, List.getElem?_cons_zero, List.getElem?_cons_succ, Sem.run_bind, run_underlying_ok ht, run_underlying_ok ht', Result.andThen_ok, hsize, Sem.run_pure]
        simp only [Bool.false_eq_true, if_false, run_lenOf hy, Result.andThen_ok, Nat.add_zero, Nat.le_refl, if_true, Bool.not_false, run_firsts (P := P) hy hw, Sem.run_bind, Sem.run_pure]
      · exact grow 0 0 none hxe (by omega) (by simp) (fun w _ => by simp only [Builtin.firstCells, Sem.run_pure])
    · by_cases hroom : n + m ≤ cap
      · have hgb := hw.at_ hk
        have hfit : n * i.size + news.length ≤ (xs ++ rest).length := by
          rw [hcl, hml, ← Nat.add_mul]
          exact Nat.mul_le_mul_right _ hroom
        have hlen : (pre ++ (xs ++ rest) ++ tail).length = pre.length + (xs ++ rest).length + tail.length := by simp only [List.length_append]
        obtain ⟨w', e1, e2, e3, e4, e5, e6, e7⟩ := run_storeCells_ok (P := P) news (pre.length + n * i.size) 0 (pre ++ (xs ++ rest) ++ tail) w hgb (by rw [hlen]; omega) (fun j _ hj => hfz j (by rw [hlen]; omega)) h1
        have hE : (pre ++ (xs ++ rest) ++ tail).take (pre.length + n * i.size + 0) ++ news ++ (pre ++ (xs ++ rest) ++ tail).drop (pre.length + n * i.size + 0 + news.length) = pre ++ ((xs ++ news) ++ rest.drop news.length) ++ tail := by
          rw [Nat.add_zero, ← hxl] at *
          have a1 : (pre ++ (xs ++ rest) ++ tail).take (pre.length + xs.length) = pre ++ xs := by
            rw [show pre ++ (xs ++ rest) ++ tail = (pre ++ xs) ++ (rest ++ tail) by simp only [List.append_assoc], List.take_left']
            simp
          have a2 : (pre ++ (xs ++ rest) ++ tail).drop (pre.length + xs.length + news.length) = rest.drop news.length ++ tail := by
            rw [show pre ++ (xs ++ rest) ++ tail = (pre ++ xs) ++ (rest ++ tail) by simp only [List.append_assoc], List.drop_append, List.drop_of_length_le (by simp only [List.length_append]; omega), List.nil_append, List.length_append, Nat.add_sub_cancel_left, List.drop_append_of_le_length (by simp only [List.length_append] at hfit; omega)]
          rw [a1, a2]
          simp only [List.append_assoc]
        rw [hE] at e6
        refine hgo (.slice (some ⟨g, pre.length, none⟩) (n + m) cap) w' [(g, .cells (pre ++ ((xs ++ news) ++ rest.drop news.length) ++ tail).toArray e fz)] (.inr ⟨g, n + m, cap, pre, rest.drop news.length, tail, fz, rfl, rfl, ?_, ?_, hroom, fun j hj => hfz j ?_⟩) (hw.set hk e2 e3 e4 e5 e6 e7) ?_
        · rw [List.length_append, hxl, hml, Nat.add_mul]
        · rw [← hcl]
          simp only [List.length_append, List.length_drop] at hfit hcl ⊢
          omega
        · simp only [List.length_append, List.length_drop] at hfit hj ⊢
          omega
        · rw [hxe]
          simp only [Builtin.append_, List.getElem?_toArray, List.getElem?_cons_zero, List.getElem?_cons_succ, Sem.run_bind, run_underlying_ok ht, run_underlying_ok ht', Result.andThen_ok, hsize, Sem.run_pure]
          simp only [Bool.false_eq_true, if_false, run_lenOf hy, Result.andThen_ok, if_pos hroom, Bool.not_false, if_true, run_firsts (P := P) hy hw, add_off, Sem.run_bind]
          have e1' : (storeCells ⟨g, pre.length + n * i.size, none⟩ news.toArray.toList).run P w = .ok () w' := e1
          rw [e1']
          rfl
      · refine grow n cap (some ⟨g, pre.length, none⟩) hxe (by omega) hxl (fun w hw => ?_)
        exact run_firstCells_some w i.size n _ n cap xs hxl (fun j u hu => by
          have hj := (List.getElem?_eq_some_iff.1 hu).1
          rw [add_off, cell_of (hw.at_ hk), List.append_assoc, List.getElem?_append_right (by omega), Nat.add_sub_cancel_left, List.getElem?_append_left (by rw [List.length_append]; omega), List.getElem?_append_left hj]
          exact hu))

/-- a slice's literal of one element of some cells -/
theorem j_litw {t e : TypeId} {x : Operand} {vs z : List Value} {sz : Nat} (ht : P.underlying t = some (.slice e)) (hz : (P.info? e).map (·.size) = some sz) (h0 : zeroL P e = some z) (hzl : z.length = sz) (hx : ev env x = .agg vs.toArray) (hl : vs.length = sz ∧ 0 < sz ∧ sz ≤ 1000)
    (h : ∀ g, b.w0.heap.size ≤ g → Own e sz vs (.slice (some ⟨g, 0, none⟩) 1 1) [(g, .cells vs.toArray e (0, 0))] → J P R T (.slice (some ⟨g, 0, none⟩) 1 1 :: env) ([(g, .cells vs.toArray e (0, 0))] :: S) b B) : J P R (.op (O (.buildSlice t 1 #[(0, x)]) ty) T) env S b B := fun w hw => by
  obtain ⟨zv, hzv, hrunz⟩ := run_zero_ok h0
  obtain ⟨hl, hs0, hs1⟩ := hl
  have hrun : (execOp (ev env) (O (.buildSlice t 1 #[(0, x)]) ty)).run P w = .ok (.value (.slice (some ⟨w.heap.size, 0, none⟩) 1 1)) (w.alloc (.cells vs.toArray e)) := by
    have hgt : ¬ (1 * sz > 2 ^ 24) := by omega
    have hne : ¬ (1 * sz = 0) := by omega
    have hf : ∀ zs : Array Value, zs.size = 1 * sz → Instr.fill (fun i => some (i * sz, sz)) zs [(0, Value.agg vs.toArray)] = some vs.toArray := by
      intro zs hzs
      have := fill_put (place := fun i => some (i * sz, sz)) [(0, Value.agg vs.toArray)] [(0, vs)] zs.toList rfl fun j p q hp hq => by
        cases j with
        | zero =>
          simp only [List.getElem?_cons_zero, Option.some.injEq] at hp hq
          subst hp hq
          refine ⟨by rw [hl, Nat.zero_mul], rfl, by show 0 + vs.length ≤ zs.size; rw [hzs, hl]; omega⟩
        | succ j => simp at hp
      simp only [Array.toArray_toList] at this
      rw [this]
      congr 2
      simp only [List.foldl_cons, List.foldl_nil]
      unfold putAt
      rw [List.take_zero, List.nil_append, Nat.zero_add, List.drop_of_length_le (by rw [Array.length_toList, hzs, hl]; omega), List.append_nil]
    have hp : (#[(0, x)].map fun p : Nat × Operand => (p.1, ev env p.2)).toList = [(0, Value.agg vs.toArray)] := by simp [hx]
    simp only [O, execOp, Instr.buildSlice, Sem.run_bind, run_underlying_ok ht, Result.andThen_ok, run_sizeOf_ok hz, if_neg hgt, if_neg hne, hrunz, Sem.run_pure]
    rw [hp, hf _ (by simp)]
    rfl
  show opW _ _ _ _ _ _
  unfold opW
  rw [hrun]
  obtain ⟨h1, h2, h3⟩ := hw.new (o := .cells vs.toArray e) (w' := w.alloc (.cells vs.toArray e)) rfl rfl rfl rfl
  exact h w.heap.size h3 (.inr ⟨w.heap.size, 1, 1, [], (0, 0), rfl, by simp, by omega, by simp; omega, Nat.le_refl _, fun _ _ h => by omega⟩) _ h1
/-- clear of a part of a row, each element some cells -/
theorem j_clearw {t e : TypeId} {x : Operand} {g off n c sz : Nat} {l z : List Value} {e' : TypeId} {fz : Nat × Nat} (k : Nat) (ht : P.underlying t = some (.slice e)) (h0 : zeroL P e = some z) (hz1 : ∀ v ∈ z, oneV v = true) (hzl : z.length = sz ∧ 0 < sz) (hx : ev env x = .slice (some ⟨g, off, none⟩) n c) (hk : S[k]? = some [(g, .cells l.toArray e' fz)])
    (hi : off + n * sz ≤ l.length) (hf : ∀ j, off ≤ j → j < off + n * sz → ¬ (fz.1 ≤ j ∧ j < fz.2)) (h : ∀ zs : List Value, zs.length = n * sz → J P R T (.tuple #[] :: env) (S.set k [(g, .cells (l.take off ++ zs ++ l.drop (off + n * sz)).toArray e' fz)]) b B) :
    J P R (.op (O (.call ⟨.builtin .clear, #[x], #[t]⟩) ty) T) env S b B := fun w hw => by
  have hg := hw.at_ hk
  obtain ⟨hzl, hsz⟩ := hzl
  show opW _ _ _ _ _ _
  unfold opW
  rw [run_b1 w, hx]
  by_cases hn : n = 0
  · subst hn
    have h := h [] (by simp)
    have hset : S.set k [(g, .cells (l.take off ++ [] ++ l.drop (off + 0 * sz)).toArray e' fz)] = S := by
      have e1 : l.take off ++ [] ++ l.drop (off + 0 * sz) = l := by simp
      rw [e1]
      obtain ⟨hlt, he⟩ := List.getElem?_eq_some_iff.1 hk
      have := List.set_getElem_self hlt
      rwa [he] at this
    rw [hset] at h
    have hr : ∀ cs, (builtin .clear #[t] ty cs #[Value.slice (some ⟨g, off, none⟩) 0 c]).run P w = .ok (.value (.tuple #[])) w := by
      intro cs
      simp only [builtin, Builtin.clear_, List.getElem?_toArray, List.getElem?_cons_zero, Sem.run_bind, run_underlying_ok ht, Result.andThen_ok, Sem.run_pure]
    rw [hr]
    exact h w hw
  · obtain ⟨zv, hzv, hrunz⟩ := run_zero_ok h0
    have hzs : (Builtin.zeroCells zv.cells n).toList.length = n * sz := by rw [Array.length_toList, size_zeroCells, hzv, List.size_toArray, hzl]
    have hone : ∀ v ∈ (Builtin.zeroCells zv.cells n).toList, oneV v = true := fun v hv => by
      unfold Builtin.zeroCells at hv
      simp only [Array.toList_map, Array.toList_range, List.mem_map, List.mem_range] at hv
      obtain ⟨i, _, rfl⟩ := hv
      rw [hzv]
      refine hz1 _ ?_
      have hlt : i % z.toArray.size < z.length := by
        rw [List.size_toArray]
        exact Nat.mod_lt _ (by omega)
      rw [getElem!_pos z.toArray _ (by simpa using hlt)]
      simp
    obtain ⟨w', e1, e2, e3, e4, e5, e6, e7⟩ := run_storeCells_ok (P := P) (Builtin.zeroCells zv.cells n).toList off 0 l w hg (by rw [hzs]; omega) (fun j h1 h2 => hf j (by omega) (by rw [hzs] at h2; omega)) hone
    have hr : ∀ cs, (builtin .clear #[t] ty cs #[Value.slice (some ⟨g, off, none⟩) n c]).run P w = .ok (.value (.tuple #[])) w' := by
      intro cs
      obtain ⟨m, rfl⟩ : ∃ m, n = m + 1 := ⟨n - 1, by omega⟩
      simp only [builtin, Builtin.clear_, List.getElem?_toArray, List.getElem?_cons_zero, Sem.run_bind, run_underlying_ok ht, Result.andThen_ok, Sem.run_pure, hrunz, e1]
    rw [hr]
    refine h (Builtin.zeroCells zv.cells n).toList hzs _ (hw.set hk e2 e3 e4 e5 ?_ e7)
    rw [e6, hzs]
    simp
/-! function values -/
theorem qs_mkfunc {f : FuncId} {xs ys : Array Operand} : QS P (O (.makeFunc (.func f) xs ys) ty) env b S (.func (.func f) (xs.map (ev env)) (ys.map (ev env))) := qs_run fun w => by
  simp only [O, execOp, Instr.makeFunc, Sem.run_bind, Sem.run_pure, Result.andThen_ok]
theorem qs_mkfunc1 {f : FuncId} {x : Operand} {v : Value} (hx : ev env x = v) : QS P (O (.makeFunc (.func f) #[] #[x]) ty) env b S (.func (.func f) #[] #[v]) := by
  have := qs_mkfunc (P := P) (env := env) (b := b) (S := S) (ty := ty) (f := f) (xs := #[]) (ys := #[x])
  simpa [hx] using this
/-- a call of a function value -/
theorem qs_callf {o : Oper} {v : Value} {f : FuncId} {xs : Array Operand} {tys : Array TypeId} {g : Operand} {args : List Value} {first cap : Array Value} (h : Enters P f) (ho : o.op = .call ⟨.value g, xs, tys⟩) (hg : ev env g = .func (.func f) first cap) (ha : first.toList ++ xs.toList.map (ev env) ++ cap.toList = args)
    (hc : ∀ w, Sig b S w → Con P f args w [] fun u _ => u = v) : QS P o env b S v := fun w hw => by
  unfold qAt
  rw [run_call h g ho hg w]
  have e : (first ++ xs.map (ev env) ++ cap : Array Value) = args.toArray := by
    rw [← ha]; apply Array.ext'; simp
  rw [e]
  refine ⟨rfl, (hc w hw (by simp) (by simp)).mono ?_⟩
  rintro e w' ⟨u, S', rfl, rfl, hS⟩
  refine ⟨rfl, ?_⟩
  have := Sig.call (Fp := []) (Fr := S.flatten) (S2 := S'.flatten :: S) hw (by simp) hS (by simp)
  exact this.sub (by simp)
end Go.Sx
