/- Calls of functions that the model stands in for; the place of a digit. -/
import Derived.Test.YtfeabbeebkkhaaaGreatSx9
import Derived.Laws.Externs
namespace Go.Sx
open Go
set_option linter.unusedVariables false
variable {P : Program} {env : Env} {b : Base} {S : List SH} {v : Value} {o : Oper}
theorem qs_extern {f : FuncId} {fn : Func} {e : Array Value → Sem Value} {xs : Array Operand} {tys : Array TypeId} {g : Operand} {args : List Value} (hf : P.funcs[f]? = some fn) (hname : (fn.name == "runtime.NumGoroutine") = false) (hb : fn.body.isNone = true) (hn : Extern.findNext fn = none) (he : Extern.find fn = some e)
    (ho : o.op = .call ⟨.value g, xs, tys⟩) (hg : ev env g = .func (.func f) #[] #[]) (ha : xs.toList.map (ev env) = args) (hr : ∀ w, (e args.toArray).run P w = .ok v w) : QS P o env b S v := qs_run fun w => by
  have e1 : (#[] ++ xs.map (ev env) ++ #[] : Array Value) = args.toArray := by
    rw [← ha]; apply Array.ext'; simp
  simp only [execOp, ho, resolve, hg, Deferred.ofValue, invoke, Sem.run_bind, Sem.run_pure, Result.andThen_ok, e1, run_callFunc_extern hf hname hb hn he, hr]
/-- the place of a byte among the digits; -1: it is none -/
def dpos (c : UInt8) : Int := match (List.range 32).find? (fun i => DIG.getD i 0 == c) with | some i => i | none => -1
theorem ofNat_lt (c : UInt8) : UInt8.ofNat (⟨c.toNat, c.toNat_lt⟩ : Fin 256).val = c := by simp
theorem firstIdx_dig (c : UInt8) : firstIdx (bs DIG) c = dpos c := by
  have : ∀ k : Fin 256, firstIdx (bs DIG) (UInt8.ofNat k.val) = dpos (UInt8.ofNat k.val) := by decide +kernel
  have h := this ⟨c.toNat, c.toNat_lt⟩
  rwa [ofNat_lt] at h
theorem dpos_at (i : Nat) (h : i < 32) : dpos (DIG.getD i 0) = i := by
  have : ∀ k : Fin 32, dpos (DIG.getD k.val 0) = (k.val : Int) := by decide +kernel
  exact this ⟨i, h⟩
theorem dpos_none (c : UInt8) (h : ∀ j, j < 32 → DIG.getD j 0 ≠ c) : dpos c = -1 := by
  have : ∀ k : Fin 256, (∀ j : Fin 32, DIG.getD j.val 0 ≠ UInt8.ofNat k.val) → dpos (UInt8.ofNat k.val) = -1 := by decide +kernel
  have h2 := this ⟨c.toNat, c.toNat_lt⟩
  rw [ofNat_lt] at h2
  exact h2 fun j => h j.val j.isLt
theorem dpos_range (c : UInt8) : -1 ≤ dpos c ∧ dpos c < 32 := by
  have : ∀ k : Fin 256, -1 ≤ dpos (UInt8.ofNat k.val) ∧ dpos (UInt8.ofNat k.val) < 32 := by decide +kernel
  have h := this ⟨c.toNat, c.toNat_lt⟩
  rwa [ofNat_lt] at h
/-- every byte is a digit -/
def allDig (l : List UInt8) : Bool := l.all fun c => decide (0 ≤ dpos c)
theorem allDig_fail {l : List UInt8} {i : Nat} (hi : i < l.length) (h : dpos (l.getD i 0) < 0) : allDig l = false := by
  have e : l.getD i 0 = l[i] := by rw [List.getD_eq_getElem?_getD, List.getElem?_eq_getElem hi]; rfl
  rw [e] at h
  unfold allDig
  rw [List.all_eq_false]
  exact ⟨l[i], List.getElem_mem hi, by simp; omega⟩
theorem allDig_of {l : List UInt8} (h : ∀ i, i < l.length → 0 ≤ dpos (l.getD i 0)) : allDig l = true := by
  unfold allDig
  rw [List.all_eq_true]
  intro c hc
  obtain ⟨i, hi, rfl⟩ := List.getElem_of_mem hc
  have := h i hi
  rw [List.getD_eq_getElem?_getD, List.getElem?_eq_getElem hi] at this
  simpa using this
theorem or32' (m c h : Nat) (hm : m < 2 ^ h) (hc : c < 32) (hh : h ≤ 7) : oo (m : Int) (shl32 (cv (c : Int)) (h : Int)) = ((m + c * 2 ^ h : Nat) : Int) := or32 m c h hm (by omega) hh
theorem shr8' (m : Nat) : shr32 (m : Int) 8 = ((m / 256 : Nat) : Int) := by
  show Int.fdiv (m : Int) 256 = _
  rw [Int.fdiv_eq_ediv_of_nonneg _ (by omega)]
  rfl
/-- behind one digit more there are fewer than so many bits -/
theorem more_lt (m c h : Nat) (hm : m < 2 ^ h) (hc : c < 32) : m + c * 2 ^ h < 2 ^ (h + 5) := by
  have : 2 ^ (h + 5) = 2 ^ h * 32 := by rw [Nat.pow_add]
  rw [this]
  have h1 : c * 2 ^ h ≤ 31 * 2 ^ h := Nat.mul_le_mul_right _ (by omega)
  omega
theorem less_lt (m h : Nat) (hm : m < 2 ^ h) (h8 : 8 ≤ h) : m / 256 < 2 ^ (h - 8) := by
  have : 2 ^ h = 2 ^ (h - 8) * 256 := by
    have h2 : (256 : Nat) = 2 ^ 8 := rfl
    rw [h2, ← Nat.pow_add, Nat.sub_add_cancel h8]
  omega
end Go.Sx
