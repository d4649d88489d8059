/- Rules: records in rows, function values that are called, library functions without a body, panics. -/
import Derived.Test.YtfeabbeebkkhaaaGreatSx18
import Derived.Laws.LoneSync
namespace Go.Sx
open Go Go.MapKept Go.WideMaps Go.Maps
set_option linter.unusedVariables false
set_option linter.unusedSimpArgs false
set_option linter.unusedSectionVars false
variable {P : Program} {R : Ending → World → Prop} {env : Env} {b : Base} {S : List SH} {B : JB} {T : Tree} {v : Value} {ty : TypeId}
def isNilF : Value → Bool | .nilFunc => true | _ => false
/-- a function value, held against nil -/
theorem qs_fnil {t t' : TypeId} {x : Operand} {u : Value} {ps rs : Array TypeId} {vd : Bool} (ht : P.underlying t = some (.func ps rs vd)) (hx : ev env x = u) (hu : u = .nilFunc ∨ ∃ f a c, u = .func f a c) : QS P (O (.binOp .eql t x (.const .nilFunc) t') ty) env b S (.bool (isNilF u)) := qs_run fun w => by
  rcases hu with rfl | ⟨f, a, c, rfl⟩
  · refine run_eq (r := true) (.inl rfl) hx rfl (by unfold eqGuard; rfl) (fun _ _ h => by cases h) (fun _ _ h => by cases h) (fun _ _ _ h => by cases h) (fun _ h => by cases h) fun d => ?_
    simp only [Op.equalIn, Sem.run_bind, run_underlying_ok ht, Result.andThen_ok, ev]
    rfl
  · refine run_eq (r := false) (.inl rfl) hx rfl (by unfold eqGuard; rfl) (fun _ _ h => by cases h) (fun _ _ h => by cases h) (fun _ _ _ h => by cases h) (fun _ h => by cases h) fun d => ?_
    simp only [Op.equalIn, Sem.run_bind, run_underlying_ok ht, Result.andThen_ok, ev]
    rfl
/-- the address of a row's member, by a number from zero up -/
theorem qs_ixn {t e : TypeId} {x y : Operand} {n c sz g off i : Nat} {k : IntKind} (ht : P.underlying t = some (.slice e)) (hz : (P.info? e).map (·.size) = some sz) (hx : ev env x = .slice (some ⟨g, off, none⟩) n c) (hy : ev env y = .int k (i : Int)) (h : i < n) :
    QS P (O (.indexAddr t x y) ty) env b S (.pointer (some ⟨g, off + i * sz, none⟩)) := by
  have := qs_ixl (P := P) (env := env) (b := b) (S := S) (ty := ty) (x := x) (y := y) ht hz hx hy (by omega) (by omega)
  rw [add_off, Int.toNat_natCast] at this
  exact this
/-- a field of a row's member -/
theorem qs_loadrec {α : Type} {encA : α → List Value} {n : Nat} {rs : List α} {d : α} {t : TypeId} {dd : TypeDesc} {x : Operand} {g off i fo : Nat} (hl : ∀ a, (encA a).length = n) (hr : Rd b S ⟨g, off, none⟩ (rs.map encA).flatten) (hi : i < rs.length) (hu : P.underlying t = some dd) (hd : flat dd = true)
    (hx : ev env x = .pointer (some ⟨g, off + i * n + fo, none⟩)) (hv : (encA (rs.getD i d))[fo]? = some v) : QS P (O (.load t x) ty) env b S v := by
  refine qs_loadR (a := ⟨g, off, none⟩) (i := i * n + fo) hr hu hd (by rw [add_off, ← Nat.add_assoc]; exact hx) ?_
  have hk : fo < n := by
    have := (List.getElem?_eq_some_iff.1 hv).1
    rwa [hl] at this
  rw [flat_get hl rs i fo hk, List.getElem?_eq_getElem hi]
  rw [List.getD_eq_getElem?_getD, List.getElem?_eq_getElem hi] at hv
  exact hv
/-- a row's member, whole -/
theorem qs_loadrecw {α : Type} {encA : α → List Value} {n : Nat} {rs : List α} {d : α} {t : TypeId} {dd : TypeDesc} {x : Operand} {g off i : Nat} (hl : ∀ a, (encA a).length = n) (hr : Rd b S ⟨g, off, none⟩ (rs.map encA).flatten) (hi : i < rs.length) (hu : P.underlying t = some dd) (hd : flat dd = false) (hz : (P.info? t).map (·.size) = some n)
    (hx : ev env x = .pointer (some ⟨g, off + i * n, none⟩)) : QS P (O (.load t x) ty) env b S (.agg (encA (rs.getD i d)).toArray) := by
  refine qs_loadwR (g := g) (off := off + i * n) (n := n) (vs := encA (rs.getD i d)) (fun w hw j u hj => ?_) hu hd hz hx (hl _)
  have hk : j < n := by
    have := (List.getElem?_eq_some_iff.1 hj).1
    rwa [hl] at this
  have h := hr w hw (i * n + j) u (by
    rw [flat_get hl rs i j hk, List.getElem?_eq_getElem hi]
    rw [List.getD_eq_getElem?_getD, List.getElem?_eq_getElem hi] at hj
    exact hj)
  rw [add_off] at h ⊢
  rw [Nat.add_assoc]
  exact h
/-- a function value is made -/
theorem qs_mkfuncv {f : FuncId} {ys : Array Operand} {vs : List Value} (h : ys.toList.map (ev env) = vs) : QS P (O (.makeFunc (.func f) #[] ys) ty) env b S (.func (.func f) #[] vs.toArray) := by
  have := qs_mkfunc (P := P) (env := env) (b := b) (S := S) (ty := ty) (f := f) (xs := #[]) (ys := ys)
  have e : ys.map (ev env) = vs.toArray := by rw [← h]; apply Array.ext'; simp
  rw [e] at this
  simpa using this
/-- a call of a function value that may change chunk k -/
theorem j_callf {o : Oper} {f : FuncId} {xs : Array Operand} {tys : Array TypeId} {g : Operand} {args : List Value} {first cap : Array Value} {post : Value → List SH → Prop} (k : Nat) {c : SH} (h : Enters P f) (ho : o.op = .call ⟨.value g, xs, tys⟩) (hg : ev env g = .func (.func f) first cap) (ha : first.toList ++ xs.toList.map (ev env) ++ cap.toList = args)
    (hk : S[k]? = some c) (hc : ∀ w, Sig b S w → Con P f args w c post) (hn : ∀ u S', post u S' → J P R T (u :: env) (S' ++ S.set k []) b B) : J P R (.op o T) env S b B := fun w hw => by
  show opW _ _ _ _ _ _
  unfold opW
  rw [run_call h g ho hg w]
  have e : (first ++ xs.map (ev env) ++ cap : Array Value) = args.toArray := by
    rw [← ha]; apply Array.ext'; simp
  rw [e]
  obtain ⟨r, h1, h2⟩ := flatten_set hk []
  have hnd : (dom c).Nodup := by
    have := (h1.map Prod.fst).nodup_iff.1 hw.nodup
    rw [List.map_append, List.nodup_append] at this
    exact this.1
  refine (hc w hw (fun p hp => hw.own p (mem_flatten_of hk hp)) hnd).mono ?_
  rintro e w' ⟨u, S', rfl, hp, hS⟩
  refine hn u S' hp w' (Sig.call (Fr := r) hw h1 hS ?_)
  rw [List.flatten_append]
  exact (by simpa using h2 : (S.set k []).flatten.Perm r).append_left _
/-- a library function without a body that changes nothing -/
theorem qs_extw {f : FuncId} {fn : Func} {e : Array Value → Sem Value} {xs : Array Operand} {tys : Array TypeId} {g : Operand} {args : List Value} {o : Oper} (ho : o.op = .call ⟨.value g, xs, tys⟩) (hg : ev env g = .func (.func f) #[] #[]) (ha : xs.toList.map (ev env) = args) (hr : ∀ w, Sig b S w → (callFunc f args.toArray).run P w = .ok (.value v) w) : QS P o env b S v := qs_val fun w hw => by
  have e1 : (#[] ++ xs.map (ev env) ++ #[] : Array Value) = args.toArray := by
    rw [← ha]; apply Array.ext'; simp
  simp only [execOp, ho, resolve, hg, Deferred.ofValue, invoke, Sem.run_bind, Sem.run_pure, Result.andThen_ok, e1, hr w hw]
theorem setCell_same {w : World} {g i : Nat} {l : List Value} {e : TypeId} {fz : Nat × Nat} {u : Value} (h : w.heap[g]? = some (.cells l.toArray e fz)) : (w.setCell ⟨g, i, none⟩ u).heap[g]? = some (.cells (l.set i u).toArray e fz) := by
  unfold World.setCell
  simp [Array.getElem?_modify, h]
theorem setCell_other {w : World} {g i j : Nat} {u : Value} (h : j ≠ g) : (w.setCell ⟨g, i, none⟩ u).heap[j]? = w.heap[j]? := by
  unfold World.setCell
  simp only [Array.getElem?_modify, if_neg (fun e => h (Eq.symm e))]
/-- a library function without a body that turns one cell -/
theorem j_extset {f : FuncId} {xs : Array Operand} {tys : Array TypeId} {g : Operand} {args : List Value} {o : Oper} {gb i : Nat} {l : List Value} {e : TypeId} {fz : Nat × Nat} {u : Value} (k : Nat) (ho : o.op = .call ⟨.value g, xs, tys⟩) (hg : ev env g = .func (.func f) #[] #[]) (ha : xs.toList.map (ev env) = args)
    (hk : S[k]? = some [(gb, .cells l.toArray e fz)]) (hr : ∀ w, w.heap[gb]? = some (.cells l.toArray e fz) → (callFunc f args.toArray).run P w = .ok (.value v) (w.setCell ⟨gb, i, none⟩ u))
    (h : J P R T (v :: env) (S.set k [(gb, .cells (l.set i u).toArray e fz)]) b B) : J P R (.op o T) env S b B := fun w hw => by
  have hgb := hw.at_ hk
  show opW _ _ _ _ _ _
  unfold opW
  have e1 : (#[] ++ xs.map (ev env) ++ #[] : Array Value) = args.toArray := by
    rw [← ha]; apply Array.ext'; simp
  have hrun : (execOp (ev env) o).run P w = .ok (.value v) (w.setCell ⟨gb, i, none⟩ u) := by
    simp only [execOp, ho, resolve, hg, Deferred.ofValue, invoke, Sem.run_bind, Sem.run_pure, Result.andThen_ok, e1, hr w hgb]
  rw [hrun]
  exact h _ (hw.set hk (o' := .cells (l.set i u).toArray e fz) rfl rfl rfl (by unfold World.setCell; simp) (setCell_same hgb) (fun j hj => setCell_other hj))

/-! contracts of functions that may panic, with a value of their own -/
def ConX (P : Program) (f : FuncId) (args : List Value) (w : World) (Fp : SH) (post : Value → List SH → Prop) (bad : List SH → Prop) : Prop :=
  (∀ p ∈ Fp, w.heap[p.1]? = some p.2) → (dom Fp).Nodup → Calls P f args.toArray w fun e w' => (∃ v S', e = .returned v ∧ post v S' ∧ Sig ⟨w, dom Fp⟩ S' w') ∨ ∃ u pv S', e = .panicked [{ v := .iface u pv, recovered := false }] ∧ bad S' ∧ Sig ⟨w, dom Fp⟩ S' w'
theorem conx_of_con {f : FuncId} {args : List Value} {w : World} {Fp : SH} {post : Value → List SH → Prop} {bad : List SH → Prop} (h : Con P f args w Fp post) : ConX P f args w Fp post bad := fun h1 h2 =>
  (h h1 h2).mono fun e w' hh => .inl hh
theorem conx_of_tree {f : FuncId} {fn : Func} {args : List Value} {w : World} {Fp : SH} {post : Value → List SH → Prop} {bad : List SH → Prop} {hs : List (Nat × Nat)} (hmix : P.follows .mixedOrders = true) (hf : P.funcs[f]? = some fn)
    (hT : tree hs fn args.length = some T) (hn : Nat.ble args.length fn.ntmps = true)
    (h : J P (fun e w' => (∃ v S', e = .returned v ∧ post v S' ∧ Sig ⟨w, dom Fp⟩ S' w') ∨ ∃ u pv S', e = .panicked [{ v := .iface u pv, recovered := false }] ∧ bad S' ∧ Sig ⟨w, dom Fp⟩ S' w') T args [Fp] ⟨w, dom Fp⟩ []) : ConX P f args w Fp post bad := fun hown hnd => by
  obtain ⟨c, hb⟩ : ∃ c, fn.body = some c := by
    cases hb : fn.body with
    | none => simp [tree, hb] at hT
    | some c => exact ⟨c, rfl⟩
  exact calls_of_tree hmix hf hb hT (Nat.le_of_ble_eq_true hn) (h w ⟨rfl, rfl, rfl, Nat.le_refl _, by simpa using hown, by simpa using hnd, fun k hk => .inl (by simpa using hk), fun _ _ _ => rfl⟩)
theorem j_ret_conx {w : World} {Fp : SH} {post : Value → List SH → Prop} {bad : List SH → Prop} {rs : List RV} {vs : List Value} (hv : ∀ w', Sig ⟨w, dom Fp⟩ S w' → rvsW P env w' rs vs) (h : post (retVal vs) S) :
    J P (fun e w' => (∃ v S', e = .returned v ∧ post v S' ∧ Sig ⟨w, dom Fp⟩ S' w') ∨ ∃ u pv S', e = .panicked [{ v := .iface u pv, recovered := false }] ∧ bad S' ∧ Sig ⟨w, dom Fp⟩ S' w') (.ret rs) env S ⟨w, dom Fp⟩ B := j_ret hv fun _ hw => .inl ⟨_, S, rfl, h, hw⟩
theorem j_panic_conx {w : World} {Fp : SH} {post : Value → List SH → Prop} {bad : List SH → Prop} {x : Operand} {u : TypeId} {pv : Value} (hx : ev env x = .iface u pv) (h : bad S) :
    J P (fun e w' => (∃ v S', e = .returned v ∧ post v S' ∧ Sig ⟨w, dom Fp⟩ S' w') ∨ ∃ u pv S', e = .panicked [{ v := .iface u pv, recovered := false }] ∧ bad S' ∧ Sig ⟨w, dom Fp⟩ S' w') (.op (O (.panic x) ty) T) env S ⟨w, dom Fp⟩ B := fun w' hw => by
  show opW _ _ _ _ _ _
  unfold opW
  have hrun : (execOp (ev env) (O (.panic x) ty)).run P w' = .halt (.panic (.iface u pv)) w' := by
    simp only [O, execOp, hx]
    rfl
  rw [hrun]
  exact .inr ⟨u, pv, S, rfl, h, hw⟩
/-- a value as an interface -/
theorem qs_mkiface {t : TypeId} {x : Operand} {u : Value} {d : TypeDesc} (ht : P.underlying t = some d) (hd : ∀ ms, d ≠ .interface ms) (hx : ev env x = u) : QS P (O (.makeInterface t x) ty) env b S (.iface t u) := qs_run fun w => by
  simp only [O, execOp, hx, Instr.makeInterface, Sem.run_bind, run_underlying_ok ht, Result.andThen_ok]
  cases d <;> first | rfl | exact absurd rfl (hd _)
end Go.Sx
