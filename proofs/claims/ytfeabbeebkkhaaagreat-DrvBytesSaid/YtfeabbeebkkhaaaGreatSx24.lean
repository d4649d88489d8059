/- Rules: functions that may panic with one value that is told. -/
import Derived.Test.YtfeabbeebkkhaaaGreatSx23
import Derived.Test.YtfeabbeebkkhaaaGreatSx15
namespace Go.Sx
open Go
set_option linter.unusedVariables false
variable {P : Program} {R : Ending → World → Prop} {env : Env} {b : Base} {S : List SH} {B : JB} {T : Tree} {v : Value} {ty : TypeId}
abbrev RB (pv : Value) (w : World) (Fp : SH) (post : Value → List SH → Prop) (bad : Prop) : Ending → World → Prop := fun e w' => (∃ v S', e = .returned v ∧ post v S' ∧ Sig ⟨w, dom Fp⟩ S' w') ∨ (e = .panicked [{ v := pv, recovered := false }] ∧ bad ∧ Sig ⟨w, dom Fp⟩ [] w')
/-- a contract of a function that may panic: with 'pv', and only where 'bad' holds -/
def ConB (P : Program) (pv : Value) (f : FuncId) (args : List Value) (w : World) (Fp : SH) (post : Value → List SH → Prop) (bad : Prop) : Prop :=
  (∀ p ∈ Fp, w.heap[p.1]? = some p.2) → (dom Fp).Nodup → Calls P f args.toArray w (RB pv w Fp post bad)
theorem conb_of_tree {pv : Value} {f : FuncId} {fn : Func} {args : List Value} {w : World} {Fp : SH} {post : Value → List SH → Prop} {bad : Prop} {hs : List (Nat × Nat)} (hmix : P.follows .mixedOrders = true) (hf : P.funcs[f]? = some fn)
    (hT : tree hs fn args.length = some T) (hn : Nat.ble args.length fn.ntmps = true)
    (h : J P (RB pv w Fp post bad) T args [Fp] ⟨w, dom Fp⟩ []) : ConB P pv f args w Fp post bad := fun hown hnd => by
  obtain ⟨c, hb⟩ : ∃ c, fn.body = some c := by
    cases hb : fn.body with
    | none => simp [tree, hb] at hT
    | some c => exact ⟨c, rfl⟩
  exact calls_of_tree hmix hf hb hT (Nat.le_of_ble_eq_true hn) (h w ⟨rfl, rfl, rfl, Nat.le_refl _, by simpa using hown, by simpa using hnd, fun k hk => .inl (by simpa using hk), fun _ _ _ => rfl⟩)
theorem j_ret_conb {pv : Value} {w : World} {Fp : SH} {post : Value → List SH → Prop} {bad : Prop} {rs : List RV} {vs : List Value} (hv : ∀ w', Sig ⟨w, dom Fp⟩ S w' → rvsW P env w' rs vs) (h : post (retVal vs) S) :
    J P (RB pv w Fp post bad) (.ret rs) env S ⟨w, dom Fp⟩ B := j_ret hv fun _ hw => .inl ⟨_, S, rfl, h, hw⟩
theorem sig_none {w : World} (h : Sig b S w) : Sig b [] w := h.sub (List.nil_sublist _)
theorem j_ret_conbs {pv : Value} {w : World} {Fp : SH} {post : Value → List SH → Prop} {bad : Prop} {rs : List RV} {vs : List Value} (S1 : List SH) (hs : S1.Sublist S) (hv : ∀ w', Sig ⟨w, dom Fp⟩ S w' → rvsW P env w' rs vs) (h : post (retVal vs) S1) :
    J P (RB pv w Fp post bad) (.ret rs) env S ⟨w, dom Fp⟩ B := j_ret hv fun _ hw => .inl ⟨_, S1, rfl, h, hw.sub (sub_flatten hs)⟩
theorem j_panic_conb {pv : Value} {w : World} {Fp : SH} {post : Value → List SH → Prop} {bad : Prop} {x : Operand} {u : TypeId} {p : Value} (hx : ev env x = .iface u p) (hp : pv = .iface u p) (h : bad) :
    J P (RB pv w Fp post bad) (.op (O (.panic x) ty) T) env S ⟨w, dom Fp⟩ B := fun w' hw => by
  show opW _ _ _ _ _ _
  unfold opW
  have hrun : (execOp (ev env) (O (.panic x) ty)).run P w' = .halt (.panic (.iface u p)) w' := by
    simp only [O, execOp, hx]
    rfl
  rw [hrun]
  exact .inr ⟨by rw [hp], h, sig_none hw⟩
/-- a call of such a function, within such a one -/
theorem j_callfB {pv : Value} {w0 : World} {Fp : SH} {post : Value → List SH → Prop} {bad : Prop} {o : Oper} {f : FuncId} {xs : Array Operand} {tys : Array TypeId} {g : Operand} {args : List Value} {first cap : Array Value} {post' : Value → List SH → Prop} {bad' : Prop} (k : Nat) {c : SH} (h : Enters P f) (ho : o.op = .call ⟨.value g, xs, tys⟩) (hg : ev env g = .func (.func f) first cap) (ha : first.toList ++ xs.toList.map (ev env) ++ cap.toList = args)
    (hk : S[k]? = some c) (hc : ∀ w, Sig ⟨w0, dom Fp⟩ S w → ConB P pv f args w c post' bad') (hb : bad' → bad) (hn : ∀ u S', post' u S' → J P (RB pv w0 Fp post bad) T (u :: env) (S' ++ S.set k []) ⟨w0, dom Fp⟩ B) : J P (RB pv w0 Fp post bad) (.op o T) env S ⟨w0, dom Fp⟩ B := fun w hw => by
  show opW _ _ _ _ _ _
  unfold opW
  rw [run_call h g ho hg w]
  have e : (first ++ xs.map (ev env) ++ cap : Array Value) = args.toArray := by
    rw [← ha]; apply Array.ext'; simp
  rw [e]
  obtain ⟨r, h1, h2⟩ := flatten_set hk []
  have hnd : (dom c).Nodup := by
    have := (h1.map Prod.fst).nodup_iff.1 hw.nodup
    rw [List.map_append, List.nodup_append] at this
    exact this.1
  refine (hc w hw (fun p hp => hw.own p (mem_flatten_of hk hp)) hnd).mono ?_
  rintro e w' (⟨u, S', rfl, hp, hS⟩ | ⟨rfl, hb', hS⟩)
  · refine hn u S' hp w' (Sig.call (Fr := r) hw h1 hS ?_)
    rw [List.flatten_append]
    exact (by simpa using h2 : (S.set k []).flatten.Perm r).append_left _
  · exact .inr ⟨rfl, hb hb', sig_none (Sig.call (S2 := r :: []) (Fr := r) hw h1 hS (by simp))⟩
theorem j_callB {pv : Value} {w0 : World} {Fp : SH} {post : Value → List SH → Prop} {bad : Prop} {o : Oper} {f : FuncId} {xs : Array Operand} {tys : Array TypeId} {g : Operand} {args : List Value} {post' : Value → List SH → Prop} {bad' : Prop} (k : Nat) {c : SH} (h : Enters P f) (ho : o.op = .call ⟨.value g, xs, tys⟩) (hg : ev env g = .func (.func f) #[] #[]) (ha : xs.toList.map (ev env) = args)
    (hk : S[k]? = some c) (hc : ∀ w, Sig ⟨w0, dom Fp⟩ S w → ConB P pv f args w c post' bad') (hb : bad' → bad) (hn : ∀ u S', post' u S' → J P (RB pv w0 Fp post bad) T (u :: env) (S' ++ S.set k []) ⟨w0, dom Fp⟩ B) : J P (RB pv w0 Fp post bad) (.op o T) env S ⟨w0, dom Fp⟩ B :=
  j_callfB k h ho hg (by simpa using ha) hk hc hb hn
end Go.Sx
