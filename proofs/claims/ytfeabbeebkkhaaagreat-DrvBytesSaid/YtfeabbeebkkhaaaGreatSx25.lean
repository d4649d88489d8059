/- The rest of a function by its tree, while deferred calls wait; and steps of a region told one by one. -/
import Derived.Test.YtfeabbeebkkhaaaGreatSx24
import Derived.Tactics
import Derived.Defers
import Derived.Recover
namespace Go.Sx
open Go
set_option linter.unusedVariables false
variable {P : Program} {R : Ending → World → Prop} {ds : List Deferred}
theorem at_mem : ∀ {sf : SF} {j lv : Nat}, at_ sf j = some lv → (j, lv) ∈ sf
  | (s, l) :: r, j, lv, h => by
    simp only [at_] at h
    split at h
    · rename_i e
      injection h with h
      subst e h
      exact List.mem_cons_self
    · exact List.mem_cons_of_mem _ (at_mem h)
theorem rel_of {sf : SF} {env : Env} {t : Array Value} (h : ∀ p ∈ sf, p.1 < t.size ∧ p.2 < env.length ∧ t.getD p.1 undef = val env p.2) : Rel sf env t := ⟨fun j lv hj => h _ (at_mem hj)⟩
theorem wp_rest_code {hs : List (Nat × Nat)} {sz : Nat} {fn : Func} {rl n : Nat} {c : Code} {sf : SF} {T : Tree} {env : Env} {w : World} {t : Array Value} {Q : Exit → Act → World → Prop} (hmix : P.follows .mixedOrders = true)
    (hT : cmp hs sz fn.results.toList rl c sf n [] 0 (fun sf n _ => (rvsOf n sf fn.results.toList).map .ret) rl = some T) (hn : env.length = n) (hr : Rel sf env t) (hsz : t.size = sz) (hW : W P R T env w [])
    (hQ : ∀ a w v, a.defers = ds → (results fn a.tmps).run P w = .ok v w → R (.returned v) w → Q .ret a w ∧ Q .normal a w)
    (hP : ∀ ch a w', R (.panicked ch) w' → a.defers = ds → Q (.panic ch) a w') : c.wp P Q ⟨t, ds⟩ w := by
  refine cmp_sound (fn := fn) hmix c _ _ [] 0 _ _ T env w _ [] _ hT hn rfl hr hsz hW ?_ (fun id kk h => by simp [lookupL] at h) (fun a w v h1 h2 h3 => (hQ a w v h1 h2 h3).1) hP
  intro sf n l T' env w' t B hk hn' _ _ _ hr _ hW'
  obtain ⟨rs, hrs, rfl⟩ := Option.map_eq_some_iff.1 hk
  subst hn'
  obtain ⟨vs, hv, hR⟩ := hW'
  exact (hQ ⟨t, ds⟩ w' _ rfl (results_run hr hrs hv) hR).2
theorem wp_rest {hs : List (Nat × Nat)} {sz : Nat} {fn : Func} {rl n : Nat} {ops : Array Oper} {l : List Oper} {c : Code} {sf : SF} {T : Tree} {env : Env} {w : World} {t : Array Value} {Q : Exit → Act → World → Prop} (hmix : P.follows .mixedOrders = true)
    (hT : cmpOps sz ops l sf n (fun sf n => cmp hs sz fn.results.toList rl c sf n [] 0 (fun sf n _ => (rvsOf n sf fn.results.toList).map .ret) rl) = some T) (hn : env.length = n) (hr : Rel sf env t) (hsz : t.size = sz) (hW : W P R T env w [])
    (hQ : ∀ a w v, a.defers = ds → (results fn a.tmps).run P w = .ok v w → R (.returned v) w → Q .ret a w ∧ Q .normal a w)
    (hP : ∀ ch a w', R (.panicked ch) w' → a.defers = ds → Q (.panic ch) a w') : wpList P ops (Exit.then (c.wp P Q) Q) l ⟨t, ds⟩ w := by
  subst hn
  refine cmpOps_sound (R := R) (Q := Exit.then (c.wp P Q) Q) (fun ch a w' h1 h2 => hP ch a w' h1 h2) l sf _ T env w t hT hr hsz hW ?_
  intro sf' n' T' env' w' t' hT' hn' he hr' hsz' hW'
  exact wp_rest_code hmix hT' hn' hr' hsz' hW' hQ hP
section
variable {ops : Array Oper} {Q : Exit → Act → World → Prop} {a : Act} {w w' : World} {l : List Oper} {o : Oper} {v : Value}
theorem wpl_val (hg : o.guard = none) (h : (execOp a.eval o).run P w = .ok (.value v) w') (hk : wpList P ops Q l (a.put o.dst v) w') : wpList P ops Q (o :: l) a w := by
  unfold wpList
  rw [if_pos (by simp [Region.wanted, hg])]
  left
  unfold Oper.wp
  rw [h]
  exact hk
theorem wpl_defer {d : Deferred} (hg : o.guard = none) (h : (execOp a.eval o).run P w = .ok (.defer d) w') (hk : wpList P ops Q l ({ a with defers := d :: a.defers }.put o.dst undef) w') : wpList P ops Q (o :: l) a w := by
  unfold wpList
  rw [if_pos (by simp [Region.wanted, hg])]
  left
  unfold Oper.wp
  rw [h]
  exact hk
theorem wpl_call {f : FuncId} {args : Array Value} {R' : Ending → World → Prop} (hg : o.guard = none) (h : (execOp a.eval o).run P w = .ok (.enter f args) w') (hc : Calls P f args w' R')
    (hret : ∀ v w2, R' (.returned v) w2 → wpList P ops Q l (a.put o.dst v) w2) (hpan : ∀ ch w2, R' (.panicked ch) w2 → Q (.panic ch) a w2) (hout : ∀ w2, ¬ R' .outgrown w2) : wpList P ops Q (o :: l) a w := by
  unfold wpList
  rw [if_pos (by simp [Region.wanted, hg])]
  left
  unfold Oper.wp
  rw [h]
  refine Calls.mono hc fun e w2 he => ?_
  cases e with
  | returned v => exact hret _ _ he
  | panicked ch => exact hpan _ _ he
  | outgrown => exact absurd he (hout w2)
theorem run_alloc_op {f : Operand → Value} {t : TypeId} {z : List Value} (ho : o.op = .alloc t) (hz : zeroL P t = some z) : (execOp f o).run P w = .ok (.value (.pointer (some ⟨w.heap.size, 0, none⟩))) { w with heap := w.heap.push (.cells z.toArray t (0, 0)) } := by
  obtain ⟨dst, op, ty, pos, after, guard⟩ := o
  simp only at ho
  subst ho
  obtain ⟨z', hz, hrun⟩ := run_zero_ok hz
  simp only [execOp, Instr.alloc, Sem.run_bind, hrun, Result.andThen_ok, newVar, newRow, newObj, hz, Sem.run, Sem.run_pure]
theorem run_box_op {f : Operand → Value} {t : TypeId} {x : Operand} {z : List Value} (ho : o.op = .box t x) (hx : (f x).cells = z.toArray) : (execOp f o).run P w = .ok (.value (.pointer (some ⟨w.heap.size, 0, none⟩))) { w with heap := w.heap.push (.cells z.toArray t (0, 0)) } := by
  obtain ⟨dst, op, ty, pos, after, guard⟩ := o
  simp only at ho
  subst ho
  simp only [execOp, Instr.box, Sem.run_bind, Result.andThen_ok, newVar, newRow, newObj, hx, Sem.run, Sem.run_pure]
theorem wpl_abs (F : Act → Prop) (hF : F a) (h : ∀ A, F A → wpList P ops Q l A w) : wpList P ops Q l a w := h a hF
theorem run_call_op {ev : Operand → Value} {f : FuncId} {g : Operand} {xs : Array Operand} {tys : Array TypeId} {args : List Value} (h : Enters P f) (ho : o.op = .call ⟨.value g, xs, tys⟩) (hg : ev g = .func (.func f) #[] #[]) (ha : xs.toList.map ev = args) (w : World) : (execOp ev o).run P w = .ok (.enter f args.toArray) w := by
  have e : (#[] ++ xs.map ev ++ #[] : Array Value) = args.toArray := by rw [← ha]; apply Array.ext'; simp
  rw [← e]
  simp only [execOp, ho, resolve, hg, Deferred.ofValue, invoke, Sem.run_bind, Sem.run_pure, Result.andThen_ok, run_callFunc h]
end
theorem sig_rfl0 (w : World) : Sig ⟨w, dom []⟩ [] w := ⟨rfl, rfl, rfl, Nat.le_refl _, by simp, by simp, by simp, fun _ _ _ => rfl⟩
end Go.Sx
