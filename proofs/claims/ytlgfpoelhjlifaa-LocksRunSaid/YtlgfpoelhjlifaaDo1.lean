/- A task's step, which may panic; and sync.Once. -/
import Derived.Test.YtlgfpoelhjlifaaLk12
import Derived.Tactics
import Derived.Tactics2
import Derived.Defers
import Derived.Recover
import Derived.Laws.Pointers
import Derived.RegionTactic
import Derived.RegionCalls
import Derived.ChangeAlike
namespace Go.Proofs.Ytlgfpoelhjlifaa
open Go Go.Sx
set_option linter.unusedVariables false
theorem catch_panicking (p : Addr) (x : Value) (u : TypeId) (pv : Value) (older : List PanicEntry) (w : World) (hc : w.cell? p = some x) (hz : w.frozen? p = false) :
    CallsD Try.prog 60 #[.pointer (some p)] (.panicking ({ v := .iface u pv, recovered := false } :: older)) w fun e u' w' =>
      e = .returned (.tuple #[]) ∧ u' = .panicking ({ v := .iface u pv, recovered := true } :: older) ∧ w' = w.setCell p (.bool false) := by
  refine callsD_of_wpS Try.func60 rfl fun c₀ cs hu => ?_
  apply wpS_seq
  apply wpS_region
  simp [wpOpsS, go_sem, recoverD, hu, Try.ntmps60, Exit.thenS]
  refine wpS_cond (t := true) (by simp [Act.eval, Array.replicate]) ?_
  simp only [if_true]
  apply wpS_region
  simp [wpOpsS, go_sem, hc, hz, bodyPostS, results, Try.results60]
theorem catch_idle (p : Addr) (w : World) :
    CallsD Try.prog 60 #[.pointer (some p)] .returning w fun e u' w' => e = .returned (.tuple #[]) ∧ u' = .returning ∧ w' = w := by
  refine callsD_of_wpS Try.func60 rfl fun c₀ cs hu => ?_
  apply wpS_seq
  apply wpS_region
  simp [wpOpsS, go_sem, recoverD, hu, Try.ntmps60, Exit.thenS]
  refine wpS_cond (t := false) (by simp [Act.eval, Array.replicate]) ?_
  simp only [Bool.false_eq_true, if_false]
  refine wpS_of_wp (wp_skip ?_)
  cases c₀
  simp_all [bodyPostS, results, Try.results60]
theorem does_gen (g : Nat) (f : FuncId) (cap : Array Value) (w : World) (K : Bool → World → Prop) (hs : (w.alloc (.cells #[.bool false] 4)).cell? ⟨g, 0, none⟩ = some (.func (.func f) #[] cap)) (hen : Sx.Enters Try.prog f)
    (hc : Calls Try.prog f cap (w.alloc (.cells #[.bool false] 4)) fun e w' => (∃ x, w'.cell? ⟨w.heap.size, 0, none⟩ = some x) ∧ w'.frozen? ⟨w.heap.size, 0, none⟩ = false ∧ ((∃ b, e = .returned (.bool b) ∧ K b w') ∨ ∃ u pv, e = .panicked [{ v := .iface u pv, recovered := false }] ∧ K false w')) :
    Calls Try.prog 38 #[.pointer (some ⟨g, 0, none⟩)] w fun e w' => ∃ b w1, K b w1 ∧ e = .returned (.bool b) ∧ w' = w1.setCell ⟨w.heap.size, 0, none⟩ (.bool b) := by
  have hmf : ∀ (fn : Fn) (first cap : Array Value) (w : World), (Instr.makeFunc fn first cap).run Try.prog w = .ok (.func fn first cap) w := fun _ _ _ _ => rfl
  have hcall : ∀ w, (callFunc f cap).run Try.prog w = .ok (.enter f cap) w := fun w => run_callFunc hen cap w
  go_enter_defers Try.func38, Try.ntmps38
  go_wp2_with (refine hc.mono ?_)
  rintro e w1 ⟨⟨x, hx⟩, hz, ⟨b, rfl, hK⟩ | ⟨u, pv, rfl, hK⟩⟩
  · simp only
    go_wp2
    refine leaves_cons (f := 60) (args := #[.pointer (some ⟨w.heap.size, 0, none⟩)]) (by simp) (by simp [go_sem]) ?_
    refine (catch_idle ⟨w.heap.size, 0, none⟩ _).mono ?_
    rintro e u' w'' ⟨rfl, rfl, rfl⟩
    simp [Leaves, settle, results, Try.results38, go_sem]
    rw [World.cell?_setCell_same w1 _ _ hx]
    refine ⟨.bool b, rfl, ?_⟩
    cases b
    · exact .inl ⟨w1, hK, rfl, rfl⟩
    · exact .inr ⟨w1, hK, rfl, rfl⟩
  · simp only
    refine leaves_cons (f := 60) (args := #[.pointer (some ⟨w.heap.size, 0, none⟩)]) (by simp) (by simp [go_sem]) ?_
    refine (catch_panicking ⟨w.heap.size, 0, none⟩ x u pv [] _ hx hz).mono ?_
    rintro e u' w'' ⟨rfl, rfl, rfl⟩
    simp [Leaves, settle, results, Try.results38, go_sem]
    rw [World.cell?_setCell_same w1 _ _ hx]
    exact ⟨.bool false, rfl, .inl ⟨w1, hK, rfl, rfl⟩⟩
end Go.Proofs.Ytlgfpoelhjlifaa
