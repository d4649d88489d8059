/- A slice of structs among a law's arguments. -/
import Derived.Test.YtfeabbeebkkhaaaGreatSxR
import Derived.Test.YtfeabbeebkkhaaaGreatSx17
import Derived.SliceStrings
namespace Go.Sx
open Go Go.ChangeShapes Go.WideShapes Go.ChangeAt Go.RowKit
set_option linter.unusedVariables false
/-- a slice that can be read, each of whose elements is some cells -/
def RSlN (n : Nat) (w : World) (v : Value) (vs : List Value) (len : Nat) : Prop :=
  vs.length = len * n ∧ ((v = .slice none 0 0 ∧ len = 0) ∨ ∃ g off cap, v = .slice (some ⟨g, off, none⟩) len cap ∧ g < w.heap.size ∧ len ≤ cap ∧ Cells w ⟨g, off, none⟩ vs)
theorem rsln_form {n : Nat} {w : World} {v : Value} {vs : List Value} {len : Nat} (h : RSlN n w v vs len) : ∃ A cap g off, v = .slice A len cap ∧ len ≤ cap ∧ (0 < len → A = some ⟨g, off, none⟩ ∧ g < w.heap.size ∧ Cells w ⟨g, off, none⟩ vs) := by
  rcases h with ⟨_, ⟨rfl, rfl⟩ | ⟨g, off, cap, rfl, h1, h2, h3⟩⟩
  · exact ⟨none, 0, 0, 0, rfl, Nat.le_refl _, fun h => by omega⟩
  · exact ⟨_, cap, g, off, rfl, h2, fun _ => ⟨rfl, h1, h3⟩⟩
theorem rsln_keep {n : Nat} {w w' : World} {v : Value} {vs : List Value} {len : Nat} (h : RSlN n w v vs len) {S : List SH} (hs : Sig ⟨w, dom []⟩ S w') : RSlN n w' v vs len := by
  obtain ⟨h0, h | ⟨g, off, cap, rfl, h1, h2, h3⟩⟩ := h
  · exact ⟨h0, .inl h⟩
  · exact ⟨h0, .inr ⟨g, off, cap, rfl, Nat.lt_of_lt_of_le h1 hs.size, h2, cells_stay h3 hs (by simp)⟩⟩
section
variable {α : Type}
theorem flat_len {encA : α → List Value} {n : Nat} (hl : ∀ a, (encA a).length = n) (rs : List α) : (rs.map encA).flatten.length = rs.length * n := by
  induction rs with
  | nil => simp
  | cons a rs ih => simp only [List.map_cons, List.flatten_cons, List.length_append, hl, ih, List.length_cons, Nat.add_mul, Nat.one_mul]; omega
theorem flat_get {encA : α → List Value} {n : Nat} (hl : ∀ a, (encA a).length = n) : ∀ (rs : List α) (i k : Nat), k < n → (rs.map encA).flatten[i * n + k]? = (rs[i]?).bind fun a => (encA a)[k]?
  | [], i, k, hk => by simp
  | a :: rs, 0, k, hk => by
    rw [List.map_cons, List.flatten_cons, Nat.zero_mul, Nat.zero_add, List.getElem?_append_left (by rw [hl]; exact hk)]
    rfl
  | a :: rs, i + 1, k, hk => by
    have ih := flat_get hl rs i k hk
    rw [List.map_cons, List.flatten_cons, List.getElem?_append_right (by rw [hl, Nat.add_mul, Nat.one_mul]; omega), hl, show (i + 1) * n + k - n = i * n + k by rw [Nat.add_mul, Nat.one_mul]; omega, ih]
    rfl
theorem list_of {Q : Nat → α → Prop} : ∀ (len : Nat), (∀ i, i < len → ∃ a, Q i a) → ∃ rs : List α, rs.length = len ∧ ∀ i a, rs[i]? = some a → Q i a
  | 0, _ => ⟨[], rfl, fun i a h => by simp at h⟩
  | len + 1, h => by
    obtain ⟨rs, h1, h2⟩ := list_of len fun i hi => h i (by omega)
    obtain ⟨a, ha⟩ := h len (by omega)
    refine ⟨rs ++ [a], by simp [h1], fun i b hb => ?_⟩
    rcases Nat.lt_or_ge i rs.length with hi | hi
    · rw [List.getElem?_append_left hi] at hb
      exact h2 i b hb
    · rw [List.getElem?_append_right hi] at hb
      have : i - rs.length = 0 := by
        have := (List.getElem?_eq_some_iff.1 hb).1
        simp at this
        omega
      rw [this] at hb
      simp at hb
      subst hb
      obtain rfl : i = len := by omega
      exact ha
theorem open_sln {H : Type} {enc : TypeId × Value → H} {P : Program} {w : World} {r : Reach} {base b0 : Nat} {sp : Nat → Bool} {held : Bool} {t e : TypeId} {v : Value} {x : DataW H × List MemPlace} {n : Nat} (encA : α → List Value) (ok : α → Prop) (hl : ∀ a, (encA a).length = n) (hn : 0 < n) (ht : P.underlying t = some (.slice e)) (hc : P.cellsOf e = n) (hv : Value.okWide P w r base t v)
    (hE : ∀ fuel cs y, DataW.trod enc P w b0 sp held fuel e cs = some y → (y.1.weights P e).all (· ≤ reachBytes) = true → ∃ a, ok a ∧ cs = encA a) (h : ∃ fuel, DataW.trod enc P w b0 sp held fuel t v.cells.toList = some x) (hw : (x.1.weights P t).all (· ≤ reachBytes) = true) :
    ∃ rs : List α, RSlN n w v (rs.map encA).flatten rs.length ∧ (∀ a ∈ rs, ok a) ∧ rs.length * P.bytesOf e ≤ reachBytes := by
  obtain ⟨a0, len, cap, rfl⟩ := okWide_slice ht hv
  obtain ⟨fuel, hf⟩ := h
  have hcells : (Value.slice a0 len cap).cells.toList = [Value.slice a0 len cap] := rfl
  rcases DataW.trod_slice ht hf with ⟨hcs, _⟩ | ⟨a, len', cap', elems, rest, m, rfl, hcs, hx, hb, hlc, hm, hel, hall, _, _⟩
  · rw [hcells] at hcs
    injection hcs with hcs
    rw [hcs]
    exact ⟨[], ⟨by simp, .inl ⟨rfl, rfl⟩⟩, (fun a ha => by cases ha), by simp⟩
  · rw [hcells] at hcs
    injection hcs with hcs
    injection hcs with h1 h2 h3
    subst h1 h2 h3
    simp only [Value.okWide, ht, Cell.okWide, Cell.ok] at hv
    obtain ⟨_, _, _, hspot, row, cells, hshape, _⟩ := hv
    obtain ⟨g, off, spot⟩ := a
    simp only at hspot hshape
    subst hspot
    have hg : g < w.heap.size := by
      unfold World.shape? at hshape
      split at hshape
      · rename_i hh; exact (Array.getElem?_eq_some_iff.1 hh).1
      · cases hshape
    rw [hx] at hw
    unfold DataW.weights at hw
    simp only [ht, List.all_cons, Bool.and_eq_true, decide_eq_true_eq, List.all_append] at hw
    obtain ⟨hw1, hw2, _⟩ := hw
    have hwe : ∀ (l : List (DataW H)), (DataW.weightsAll P e l).all (· ≤ reachBytes) = true → ∀ d ∈ l, (d.weights P e).all (· ≤ reachBytes) = true := by
      intro l
      induction l with
      | nil => intro _ d hd; cases hd
      | cons d l ih =>
        intro hh d' hd'
        unfold DataW.weightsAll at hh
        rw [List.all_append, Bool.and_eq_true] at hh
        rcases List.mem_cons.1 hd' with rfl | hd'
        · exact hh.1
        · exact ih hh.2 d' hd'
    obtain ⟨rs, hr1, hr2⟩ := list_of (Q := fun i (a : α) => ok a ∧ w.cells? b0 ((⟨g, off, none⟩ : Addr).add (i * n)) n = some (encA a)) len fun i hi => by
      have h4 := hall i hi
      obtain ⟨y, hy⟩ : ∃ y, elems[i]? = some y := ⟨_, List.getElem?_eq_getElem (by omega)⟩
      rw [hy, hc] at h4
      obtain ⟨cs, h5, h6⟩ := Option.bind_eq_some_iff.1 h4
      obtain ⟨a, ha1, ha2⟩ := hE _ _ _ h6 (hwe _ hw2 y.1 (List.mem_map.2 ⟨y, List.mem_of_getElem? hy, rfl⟩))
      exact ⟨a, ha1, by rw [h5, ha2]⟩
    refine ⟨rs, ⟨flat_len hl rs, .inr ⟨g, off, cap, by rw [hr1], hg, by rw [hr1]; exact hlc, fun j u hu => ?_⟩⟩, fun a ha => ?_, ?_⟩
    · have hj : j = j / n * n + j % n := by have := Nat.div_add_mod j n; rw [Nat.mul_comm]; omega
      have hk : j % n < n := Nat.mod_lt _ hn
      rw [hj, flat_get hl rs _ _ hk] at hu
      obtain ⟨a, ha, hu⟩ := Option.bind_eq_some_iff.1 hu
      obtain ⟨_, hcs⟩ := hr2 _ _ ha
      obtain ⟨_, _, h7⟩ := World.cells?_some hcs
      have h8 := h7 (j % n) hk
      rw [hu] at h8
      rw [hj]
      rw [add_off] at h8 ⊢
      rw [add_off] at h8
      rw [← h8]
      congr 2
      omega
    · obtain ⟨i, hi⟩ := List.mem_iff_getElem?.1 ha
      exact (hr2 i a hi).1
    · rw [hr1]
      refine Nat.le_trans (Nat.mul_le_mul_right _ ?_) hw1
      simp only [List.length_map]
      omega
end
end Go.Sx
