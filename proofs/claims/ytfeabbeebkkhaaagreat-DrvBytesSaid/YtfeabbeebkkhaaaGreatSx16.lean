/- Slices that can be read; a slice of bytes among a law's arguments. -/
import Derived.Test.YtfeabbeebkkhaaaGreatSx15
import Derived.Test.YtfeabbeebkkhaaaGreatSxR
import Derived.ChangeSlices
import Derived.SizedLaws
namespace Go.Sx
open Go Go.ChangeShapes Go.WideShapes Go.ChangeAt Go.RowKit
set_option linter.unusedVariables false
variable {P : Program} {R : Ending → World → Prop} {env : Env} {b : Base} {S : List SH} {B : JB} {T : Tree} {v : Value} {ty : TypeId}
/-- a slice, its elements of one cell each, that can be read -/
def RSl (w : World) (v : Value) (vs : List Value) : Prop :=
  (v = .slice none 0 0 ∧ vs = []) ∨ ∃ g off cap, v = .slice (some ⟨g, off, none⟩) vs.length cap ∧ g < w.heap.size ∧ vs.length ≤ cap ∧ Cells w ⟨g, off, none⟩ vs
theorem rsl_form {w : World} {v : Value} {vs : List Value} (h : RSl w v vs) : ∃ A cap, v = .slice A vs.length cap ∧ vs.length ≤ cap := by
  rcases h with ⟨rfl, rfl⟩ | ⟨g, off, cap, rfl, _, h, _⟩
  · exact ⟨none, 0, rfl, Nat.le_refl _⟩
  · exact ⟨_, cap, rfl, h⟩
theorem rsl_addr {w : World} {A : Option Addr} {n cap : Nat} {vs : List Value} (h : RSl w (.slice A n cap) vs) (h0 : 0 < vs.length) : ∃ g off, A = some ⟨g, off, none⟩ ∧ g < w.heap.size ∧ Cells w ⟨g, off, none⟩ vs := by
  rcases h with ⟨_, rfl⟩ | ⟨g, off, cap', hv, h1, _, h2⟩
  · simp at h0
  · injection hv with hA
    exact ⟨g, off, hA, h1, h2⟩
/-- what can be read stays so while nothing of it is handed over -/
theorem cells_stay {w w' : World} {a : Addr} {vs : List Value} {D : List Nat} (h : Cells w a vs) (hs : Sig ⟨w, D⟩ S w') (hD : a.block ∉ D) : Cells w' a vs := rd_w (rd_cells (b := ⟨w, D⟩) h hD) hs
theorem rsl_stay {w w' : World} {v : Value} {vs : List Value} {D : List Nat} (h : RSl w v vs) (hs : Sig ⟨w, D⟩ S w') (hD : ∀ a n c, v = .slice (some a) n c → a.block ∉ D) : RSl w' v vs := by
  rcases h with h | ⟨g, off, cap, rfl, h1, h2, h3⟩
  · exact .inl h
  · exact .inr ⟨g, off, cap, rfl, Nat.lt_of_lt_of_le h1 hs.size, h2, cells_stay h3 hs (hD _ _ _ rfl)⟩
theorem rsl_keep {w w' : World} {v : Value} {vs : List Value} (h : RSl w v vs) (hs : Sig ⟨w, dom []⟩ S w') : RSl w' v vs := rsl_stay h hs fun _ _ _ _ => by simp
theorem rsl_own {w : World} {e : TypeId} {xs : List Value} {v : Value} {c : SH} (ho : Own e 1 xs v c) (k : Nat) (hk : S[k]? = some c) (hw : Sig b S w) : RSl w v xs := by
  rcases ho with ⟨rfl, h, rfl⟩ | ⟨g, n, cap, rest, fz, rfl, rfl, h1, h2, h3, h4⟩
  · exact .inl ⟨rfl, h⟩
  · rw [Nat.mul_one] at h1
    subst h1
    exact .inr ⟨g, 0, cap, rfl, lt_of_get (hw.at_ hk), h3, rd_w (rd_own (n := xs.length) k hk (by simp)) hw⟩
theorem rsl_cut {w : World} {A : Option Addr} {n cap : Nat} {vs : List Value} (h : RSl w (.slice A n cap) vs) {a z : Nat} (h1 : a ≤ z) (h2 : z ≤ n) (hn : n = vs.length) : RSl w (.slice (if cap = a then A else A.map (·.add (a * 1))) (z - a) (cap - a)) ((vs.take z).drop a) := by
  rcases h with ⟨hv, rfl⟩ | ⟨g, off, cap', hv, h3, h4, h5⟩
  · injection hv with hA hn' hc
    subst hA hc
    simp at hn
    obtain rfl : a = 0 := by omega
    obtain rfl : z = 0 := by omega
    exact .inl ⟨by simp, by simp⟩
  · injection hv with hA hn' hc
    subst hA hc
    have hl : ((vs.take z).drop a).length = z - a := by simp only [List.length_drop, List.length_take]; omega
    have hc2 : ∀ o, (o = off ∧ z - a = 0) ∨ o = off + a → Cells w ⟨g, o, none⟩ ((vs.take z).drop a) := fun o ho j u hu => by
      have hj := (List.getElem?_eq_some_iff.1 hu).1
      rw [hl] at hj
      rcases ho with ⟨_, ho⟩ | rfl
      · omega
      · have := h5 (a + j) u (by rw [← hu, List.getElem?_drop, List.getElem?_take]; rw [if_pos (by omega)])
        rw [add_off] at this ⊢
        rwa [Nat.add_assoc]
    by_cases hca : cap = a
    · rw [if_pos hca]
      exact .inr ⟨g, off, _, by rw [hl], h3, by rw [hl]; omega, hc2 off (.inl ⟨rfl, by omega⟩)⟩
    · rw [if_neg hca, Option.map_some, add_off, Nat.mul_one]
      exact .inr ⟨g, off + a, _, by rw [hl], h3, by rw [hl]; omega, hc2 _ (.inr rfl)⟩
theorem src_rsl {w : World} {A : Option Addr} {n cap : Nat} {vs : List Value} {D : List Nat} (h : RSl w (.slice A n cap) vs) (hD : ∀ a, A = some a → a.block ∉ D) : Src ⟨w, D⟩ S 1 (.slice A n cap) n vs := by
  rcases h with ⟨hv, rfl⟩ | ⟨g, off, cap', hv, h1, h2, h3⟩
  · injection hv with hA hn hc
    subst hA hn hc
    exact .inr (.inl ⟨0, rfl, rfl, rfl⟩)
  · injection hv with hA hn hc
    subst hA hn hc
    exact .inl ⟨_, _, rfl, rd_cells (b := ⟨w, D⟩) h3 (hD _ rfl), by rw [Nat.mul_one]⟩
theorem strsl_rsl {w : World} {v : Value} {rs : List (List UInt8)} : StrSl w v rs ↔ RSl w v (strs rs) := by
  unfold StrSl RSl
  rw [strs_length]
  constructor
  · rintro (⟨h1, rfl⟩ | h)
    · exact .inl ⟨h1, rfl⟩
    · exact .inr h
  · rintro (⟨h1, h2⟩ | h)
    · exact .inl ⟨h1, strs_nil h2⟩
    · exact .inr h
theorem ints_take (l : List UInt8) (n : Nat) : (ints l).take n = ints (l.take n) := by simp [ints]
theorem ints_drop (l : List UInt8) (n : Nat) : (ints l).drop n = ints (l.drop n) := by simp [ints]
/-- the bytes of an argument that is a slice of them -/
theorem open_bytesl {H : Type} {enc : TypeId × Value → H} {P : Program} {w : World} {r : Reach} {base b0 : Nat} {sp : Nat → Bool} {held : Bool} {t e : TypeId} {v : Value} {x : DataW H × List MemPlace} (ht : P.underlying t = some (.slice e)) (he : P.underlying e = some (.int .u8)) (hc : P.cellsOf e = 1) (hv : Value.okWide P w r base t v)
    (h : ∃ fuel, DataW.trod enc P w b0 sp held fuel t v.cells.toList = some x) : ∃ l : List UInt8, RSl w v (ints l) ∧ (l = [] ∨ ∃ el spr, x.1 = .slice el spr ∧ el.length = l.length) := by
  obtain ⟨a0, len, cap, rfl⟩ := okWide_slice ht hv
  obtain ⟨fuel, hf⟩ := h
  have hcells : (Value.slice a0 len cap).cells.toList = [Value.slice a0 len cap] := rfl
  rcases open_ints ht he hc hf with ⟨hcs, _⟩ | ⟨a, len', cap', zs, hcs, hb, hl, hm, hz, hx, hcell, hsz⟩
  · rw [hcells] at hcs
    injection hcs with hcs
    rw [hcs]
    exact ⟨[], .inl ⟨rfl, rfl⟩, .inl rfl⟩
  · rw [hcells] at hcs
    injection hcs with hcs
    injection hcs with h1 h2 h3
    subst h1 h2 h3
    simp only [Value.okWide, ht, Cell.okWide, Cell.ok] at hv
    obtain ⟨_, _, _, hspot, row, cells, hshape, _⟩ := hv
    obtain ⟨g, off, spot⟩ := a
    simp only at hspot hshape
    subst hspot
    have hlen : len ≤ zs.length := by rw [hz]; split <;> omega
    have hg : g < w.heap.size := by
      unfold World.shape? at hshape
      split at hshape
      · rename_i hh; exact (Array.getElem?_eq_some_iff.1 hh).1
      · cases hshape
    refine ⟨(zs.take len).map by8, .inr ⟨g, off, cap, by simp [ints, Nat.min_eq_left hlen], hg, by simp [ints, Nat.min_eq_left hlen]; exact hl, fun j u hu => ?_⟩, .inr ⟨_, _, by rw [hx], by simp [lits]⟩⟩
    rw [ints_get] at hu
    obtain ⟨c, hc1, rfl⟩ := Option.map_eq_some_iff.1 hu
    rw [List.getElem?_map] at hc1
    obtain ⟨z, hz1, rfl⟩ := Option.map_eq_some_iff.1 hc1
    have hz2 : zs[j]? = some z := by
      rw [List.getElem?_take] at hz1
      split at hz1
      · exact hz1
      · cases hz1
    have hlt := (List.getElem?_eq_some_iff.1 hz2).1
    rw [hcell j hlt]
    have hr := hsz z (List.mem_of_getElem? hz2)
    have hr2 : 0 ≤ z ∧ z ≤ 255 := by
      have h1 : IntKind.u8.min = 0 := rfl
      have h2 : IntKind.u8.max = 255 := rfl
      simp [Lit.wf, h1, h2] at hr
      omega
    have hw : IntKind.u8.wrap z = z := by rw [IntKind.wrap_u8]; omega
    rw [← wrap_by8, hw]
    simp [List.getD_eq_getElem?_getD, hz2]
theorem bytes_sized {H : Type} {P : Program} {ts : List TypeId} {ds : List (DataW H)} (hsz : (DataW.weightsEach P ts ds).all (· ≤ reachBytes) = true) {j : Nat} {t e : TypeId} {d : DataW H} {l : List UInt8} (ht : ts[j]? = some t) (hd : ds[j]? = some d) (hu : P.underlying t = some (.slice e)) (hb : P.bytesOf e = 1)
    (h : l = [] ∨ ∃ el spr, d = .slice el spr ∧ el.length = l.length) : l.length ≤ reachBytes := by
  rcases h with rfl | ⟨el, spr, rfl, h⟩
  · simp
  · have := sized_slice hsz ht hd hu
    rw [hb] at this
    omega
end Go.Sx
