/- Rules: an empty literal of records; rows of records read, appended. -/
import Derived.Test.YtfeabbeebkkhaaaGreatSx18
import Derived.Test.YtfeabbeebkkhaaaGreatSx19
namespace Go.Sx
open Go
set_option linter.unusedVariables false
variable {P : Program} {R : Ending → World → Prop} {env : Env} {b : Base} {S : List SH} {B : JB} {T : Tree} {v : Value} {ty : TypeId}
theorem j_lit0 {t e : TypeId} {sz : Nat} (ht : P.underlying t = some (.slice e)) (hz : (P.info? e).map (·.size) = some sz)
    (h : ∀ g, b.w0.heap.size ≤ g → Own e sz [] (.slice (some ⟨g, 0, none⟩) 0 0) [(g, .cells [].toArray e (0, 0))] → J P R T (.slice (some ⟨g, 0, none⟩) 0 0 :: env) ([(g, .cells [].toArray e (0, 0))] :: S) b B) : J P R (.op (O (.buildSlice t 0 #[]) ty) T) env S b B := fun w hw => by
  have hrun : (execOp (ev env) (O (.buildSlice t 0 #[]) ty)).run P w = .ok (.value (.slice (some ⟨w.heap.size, 0, none⟩) 0 0)) (w.alloc (.cells [].toArray e)) := by
    have hgt : ¬ (0 * sz > 2 ^ 24) := by omega
    have hn0 : 0 * sz = 0 := Nat.zero_mul _
    simp only [O, execOp, Instr.buildSlice, Sem.run_bind, run_underlying_ok ht, Result.andThen_ok, run_sizeOf_ok hz, if_neg hgt, if_pos hn0, Sem.run_pure]
    have e1 : (Array.map (fun p : Nat × Operand => (p.1, ev env p.2)) #[]).toList = [] := by simp
    rw [e1]
    simp only [Nat.zero_mul, Instr.fill]
    have e2 : ∀ f : Nat → Value, Array.map f (Array.range 0) = #[] := fun f => by simp
    rw [e2]
    rfl
  show opW _ _ _ _ _ _
  unfold opW
  rw [hrun]
  obtain ⟨h1, h2, h3⟩ := hw.new (o := .cells [].toArray e) (w' := w.alloc (.cells [].toArray e)) rfl rfl rfl rfl
  exact h w.heap.size h3 (.inr ⟨w.heap.size, 0, 0, [], (0, 0), rfl, rfl, by simp, by simp, Nat.le_refl _, fun _ _ h => by omega⟩) _ h1
theorem src_rsln {w : World} {A : Option Addr} {n sz cap : Nat} {vs : List Value} (h : RSlN sz w (.slice A n cap) vs n) : Src ⟨w, dom []⟩ S sz (.slice A n cap) n vs := by
  obtain ⟨hl, ⟨hv, rfl⟩ | ⟨g, off, cap', hv, h1, h2, h3⟩⟩ := h
  · injection hv with hA hn hc
    subst hA hc
    exact .inr (.inl ⟨0, rfl, rfl, List.eq_nil_of_length_eq_zero (by omega)⟩)
  · injection hv with hA hn hc
    subst hA hc
    exact .inl ⟨_, _, rfl, rd_cells (b := ⟨w, dom []⟩) h3 (by simp), hl⟩
theorem rsln_ownw {w : World} {e : TypeId} {sz len : Nat} {xs : List Value} {v : Value} {c : SH} (ho : Own e sz xs v c) (h0 : 0 < sz) (hl : xs.length = len * sz) (h : ∀ p ∈ c, w.heap[p.1]? = some p.2) : RSlN sz w v xs len := by
  rcases ho with ⟨rfl, rfl, rfl⟩ | ⟨g, n, cap, rest, fz, rfl, rfl, h1, h2, h3, h4⟩
  · refine ⟨hl, .inl ⟨rfl, ?_⟩⟩
    rcases Nat.eq_zero_or_pos len with h | h
    · exact h
    · have := Nat.mul_pos h h0
      simp at hl
      omega
  · obtain rfl : n = len := Nat.eq_of_mul_eq_mul_right h0 (h1.symm.trans hl)
    have hg := h (g, _) (List.mem_singleton.2 rfl)
    exact ⟨hl, .inr ⟨g, 0, cap, rfl, lt_of_get hg, h3, fun j u hu => by
      rw [add_off, Nat.zero_add, cell_of hg, List.getElem?_append_left (List.getElem?_eq_some_iff.1 hu).1]
      exact hu⟩⟩
end Go.Sx
