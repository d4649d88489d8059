/- Rules: methods that are called through an interface, methods bound to a receiver. -/
import Derived.Test.YtfeabbeebkkhaaaGreatSx19
import Derived.Lib.Bytealg
namespace Go.Sx
open Go
set_option linter.unusedVariables false
variable {P : Program} {R : Ending → World → Prop} {env : Env} {b : Base} {S : List SH} {B : JB} {T : Tree} {v : Value} {ty : TypeId}
theorem run_meth {f : FuncId} {name : String} {x : Operand} {xs : Array Operand} {tys : Array TypeId} {o : Oper} {args args2 : List Value} (ho : o.op = .call ⟨.invoke x name, xs, tys⟩) (ha : ev env x :: xs.toList.map (ev env) = args)
    (hi : ∀ w, (invoke (.fn (.method name) #[]) args.toArray).run P w = .ok (.enter f args2.toArray) w) (w : World) : (execOp (ev env) o).run P w = .ok (.enter f args2.toArray) w := by
  simp only [execOp, ho, resolve, Sem.run_bind, Sem.run_pure, Result.andThen_ok]
  have e : (#[ev env x] ++ xs.map (ev env) : Array Value) = args.toArray := by
    rw [← ha]; apply Array.ext'; simp
  rw [e]
  exact hi w
/-- a method through an interface, that changes nothing and yields v -/
theorem qs_meth {o : Oper} {f : FuncId} {name : String} {x : Operand} {xs : Array Operand} {tys : Array TypeId} {args args2 : List Value} (ho : o.op = .call ⟨.invoke x name, xs, tys⟩) (ha : ev env x :: xs.toList.map (ev env) = args)
    (hi : ∀ w, (invoke (.fn (.method name) #[]) args.toArray).run P w = .ok (.enter f args2.toArray) w)
    (hc : ∀ w, Sig b S w → Con P f args2 w [] fun u _ => u = v) : QS P o env b S v := fun w hw => by
  unfold qAt
  rw [run_meth ho ha hi w]
  refine ⟨rfl, (hc w hw (by simp) (by simp)).mono ?_⟩
  rintro e w' ⟨u, S', rfl, rfl, hS⟩
  refine ⟨rfl, ?_⟩
  have := Sig.call (Fp := []) (Fr := S.flatten) (S2 := S'.flatten :: S) hw (by simp) hS (by simp)
  exact this.sub (by simp)
theorem qs_mkfuncF {f : FuncId} {x : Operand} {v : Value} (hx : ev env x = v) : QS P (O (.makeFunc (.func f) #[x] #[]) ty) env b S (.func (.func f) #[v] #[]) := by
  have := qs_mkfunc (P := P) (env := env) (b := b) (S := S) (ty := ty) (f := f) (xs := #[x]) (ys := #[])
  simpa [hx] using this
end Go.Sx
