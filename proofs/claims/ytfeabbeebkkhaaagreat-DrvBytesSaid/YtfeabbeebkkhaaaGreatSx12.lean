/- Rules for pointers into structs, and for what package strings' Builder does with unsafe pointers. -/
import Derived.Test.YtfeabbeebkkhaaaGreatSx10
import Derived.Lib.Builder
import Derived.Lib.UnsafeStr
namespace Go.Sx
open Go
set_option linter.unusedVariables false
set_option linter.unusedSimpArgs false
variable {P : Program} {R : Ending → World → Prop} {env : Env} {b : Base} {S : List SH} {B : JB} {T : Tree} {v : Value} {ty : TypeId}
/-- the address of a field -/
theorem qs_field {s : TypeId} {x : Operand} {i sz : Nat} {fs : Array Field} {f : Field} {g off : Nat} (hs : P.underlying s = some (.struct fs)) (hf : fs[i]? = some f) (hz : (P.info? f.type).map (·.size) = some sz) (hsz : sz ≠ 0) (hx : ev env x = .pointer (some ⟨g, off, none⟩)) :
    QS P (O (.fieldAddr s x i) ty) env b S (.pointer (some ⟨g, off + f.offset, none⟩)) := qs_run fun w => by
  simp only [O, execOp, hx, Instr.fieldAt, Instr.sureAddr, Sem.run_bind, Sem.run_pure, Result.andThen_ok, run_underlying_ok hs, hf, fieldPlace, run_sizeOf_ok hz, if_neg hsz, add_off]
theorem qs_pnil {t e t' : TypeId} {x : Operand} {A : Option Addr} (ht : P.underlying t = some (.pointer e)) (hx : ev env x = .pointer A) : QS P (O (.binOp .eql t x (.const (.pointer none)) t') ty) env b S (.bool A.isNone) := qs_run fun w => by
  refine run_eq (r := A.isNone) (.inl rfl) hx rfl (by unfold eqGuard; rfl) (fun _ _ h => by cases h) (fun _ _ h => by cases h) (fun _ _ _ h => by cases h) (fun _ h => by cases h) fun d => ?_
  simp only [Op.equalIn, Sem.run_bind, run_underlying_ok ht, Result.andThen_ok, ev]
  cases A <;> rfl
theorem qs_pnnil {t e t' : TypeId} {x : Operand} {A : Option Addr} (ht : P.underlying t = some (.pointer e)) (hx : ev env x = .pointer A) : QS P (O (.binOp .neq t x (.const (.pointer none)) t') ty) env b S (.bool A.isSome) := qs_run fun w => by
  have := run_eq (P := P) (ty := ty) (t := t) (t' := t') (r := A.isNone) (w := w) (.inr rfl) hx (y := .const (.pointer none)) rfl (by unfold eqGuard; rfl) (fun _ _ h => by cases h) (fun _ _ h => by cases h) (fun _ _ _ h => by cases h) (fun _ h => by cases h) fun d => by
    simp only [Op.equalIn, Sem.run_bind, run_underlying_ok ht, Result.andThen_ok, ev]
    cases A <;> rfl
  rw [this]
  cases A <;> rfl
theorem qs_psame {t e t' : TypeId} {x y : Operand} {a : Addr} {n : Nat} (ht : P.underlying t = some (.pointer e)) (he : (P.info? e).map (·.size) = some n) (hx : ev env x = .pointer (some a)) (hy : ev env y = .pointer (some a)) : QS P (O (.binOp .neq t x y t') ty) env b S (.bool false) := qs_run fun w => by
  obtain ⟨j, hj, _⟩ := Option.map_eq_some_iff.1 he
  have hg : (eqGuard .neq t x y (.pointer (some a)) (.pointer (some a))) = pure () := by unfold eqGuard; rfl
  simp only [O, execOp, hx, hy, hg, Sem.run_bind, Sem.run_pure, Result.andThen_ok, Lib.run_neq_ptr_same w a ht hj]
theorem Sig.shape {w : World} (hw : Sig b S w) {k g : Nat} {l : List Value} {e : TypeId} {fz : Nat × Nat} (hk : S[k]? = some [(g, .cells l.toArray e fz)]) : w.shape? g = some (e, l.length) := by
  simp [World.shape?, hw.at_ hk]
theorem qs_tounsafe {t t' u e : TypeId} {x : Operand} {g off n : Nat} {l : List Value} {fz : Nat × Nat} (k : Nat) (hs : P.underlying t = some (.pointer u)) (hd : P.underlying t' = some .unsafePointer) (hu : (P.info? u).map (·.size) = some n) (hn : n ≠ 0) (hx : ev env x = .pointer (some ⟨g, off, none⟩)) (hk : S[k]? = some [(g, .cells l.toArray e fz)]) (ho : off < l.length) :
    QS P (O (.convert t t' x) ty) env b S (.pointer (some ⟨g, off, none⟩)) := qs_val fun w hw => by
  obtain ⟨j, hj, rfl⟩ := Option.map_eq_some_iff.1 hu
  simp only [O, execOp, hx, Sem.run_bind, Lib.run_to_unsafe w ⟨g, off, none⟩ hs hd hj hn (hw.shape hk) ho, Result.andThen_ok, Sem.run_pure]
theorem qs_fromunsafe {t t' u e : TypeId} {x : Operand} {g off n : Nat} {l : List Value} {fz : Nat × Nat} (k : Nat) (hs : P.underlying t = some .unsafePointer) (hd : P.underlying t' = some (.pointer u)) (hu : (P.info? u).map (·.size) = some n) (hx : ev env x = .pointer (some ⟨g, off, none⟩)) (hk : S[k]? = some [(g, .cells l.toArray e fz)]) (hl : liesAt P P.depth e (l.length / P.cellsOf e) off u 1 = true) :
    QS P (O (.convert t t' x) ty) env b S (.pointer (some ⟨g, off, none⟩)) := qs_val fun w hw => by
  obtain ⟨j, hj, rfl⟩ := Option.map_eq_some_iff.1 hu
  simp only [O, execOp, hx, Sem.run_bind, Lib.run_from_unsafe w ⟨g, off, none⟩ hs hd hj (hw.shape hk) hl, Result.andThen_ok, Sem.run_pure]
theorem qs_usd {t : TypeId} {x : Operand} {a : Addr} {n c : Nat} (hx : ev env x = .slice (some a) n c) (hc : c ≠ 0) : QS P (O (.call ⟨.builtin .unsafeSliceData, #[x], #[t]⟩) ty) env b S (.pointer (some a)) := qs_run fun w => by
  rw [run_b1 w, hx]
  simp only [builtin, Sem.run_bind, Lib.run_unsafeSliceData_row w _ _ a n c hc, Result.andThen_ok, Sem.run_pure]
/-- a string of a buffer's own bytes: they are frozen from then on -/
theorem j_ustr {t t' e : TypeId} {x y : Operand} {g : Nat} {l : List UInt8} {rest : List Value} {fz : Nat × Nat} (k : Nat) (ht : P.underlying t = some (.pointer e)) (hc : P.cellsOf e = 1) (hx : ev env x = .pointer (some ⟨g, 0, none⟩)) (hy : ev env y = .int .i64 l.length) (hk : S[k]? = some [(g, .cells (ints l ++ rest).toArray e fz)]) (h0 : l ≠ []) (hl : l.length ≤ 9223372036854775807)
    (h : J P R T (.string (bs l) :: env) (S.set k []) b B) : J P R (.op (O (.call ⟨.builtin .unsafeString, #[x, y], #[t, t']⟩) ty) T) env S b B := fun w hw => by
  have hg := hw.at_ hk
  have hr := Lib.run_unsafeString_row (P := P) w t t' ty e ht hc g (ints l ++ rest).length (hw.shape hk) l h0 (by simp [ints_length]) hl (fun j x hx => by
    rw [add_off, Nat.zero_add, cell_of hg, List.getElem?_append_left (by rw [ints_length]; exact (List.getElem?_eq_some_iff.1 hx).1), ints_get, hx]
    rfl)
  have hrun : (execOp (ev env) (O (.call ⟨.builtin .unsafeString, #[x, y], #[t, t']⟩) ty)).run P w = .ok (.value (.string (bs l))) (w.freeze ⟨g, 0, none⟩ l.length) := by
    simp [O, execOp, resolve, invoke, hx, hy, builtin, Sem.run_bind, Sem.run_pure, Result.andThen_ok]
    rw [hr]
    rfl
  show opW _ _ _ _ _ _
  unfold opW
  rw [hrun]
  refine h _ ?_
  obtain ⟨r, p1, p2⟩ := flatten_set hk []
  have hnd := (p1.map Prod.fst).nodup_iff.1 hw.nodup
  simp only [List.map_cons, List.cons_append, List.nil_append, List.nodup_cons] at hnd
  have hother : ∀ j, j ≠ g → (w.freeze ⟨g, 0, none⟩ l.length).heap[j]? = w.heap[j]? := fun j hj => by
    unfold World.freeze
    split
    · rfl
    · simp only [Array.getElem?_modify]
      rw [if_neg (fun e => hj e.symm)]
  have hsz : (w.freeze ⟨g, 0, none⟩ l.length).heap.size = w.heap.size := by
    unfold World.freeze
    split <;> simp
  have hrest : (w.freeze ⟨g, 0, none⟩ l.length).os = w.os ∧ (w.freeze ⟨g, 0, none⟩ l.length).tape = w.tape ∧ (w.freeze ⟨g, 0, none⟩ l.length).output = w.output := by
    unfold World.freeze
    split <;> exact ⟨rfl, rfl, rfl⟩
  have ht' := hw.tomb hk
  have hgm : g ∈ dom S.flatten := (p1.map Prod.fst).mem_iff.2 (by simp)
  refine ⟨hrest.1.trans ht'.os, hrest.2.1.trans ht'.tape, hrest.2.2.trans ht'.output, by rw [hsz]; exact ht'.size, fun p hp => ?_, ht'.nodup, ht'.dom_, fun j hj hD => ?_⟩
  · rw [hother p.1 (fun e => hnd.1 (by
      rw [← e]
      have := p2.mem_iff.1 hp
      exact List.mem_map_of_mem (by simpa using this)))]
    exact ht'.own p hp
  · rw [hother j (fun e => ?_)]
    · exact ht'.frame j hj hD
    · subst e
      rcases hw.dom_ _ hgm with hd | hd
      · exact hD hd
      · omega
end Go.Sx
