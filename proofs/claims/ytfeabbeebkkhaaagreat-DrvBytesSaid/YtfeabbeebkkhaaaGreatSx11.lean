/- The library's sort of strings, as a contract of this framework. -/
import Derived.Test.YtfeabbeebkkhaaaGreatSx7
import Derived.Sort.Grow
import Derived.Sort.EncStr
namespace Go.Sx
open Go Go.Sort Go.Proofs
set_option linter.unusedVariables false
/-- strings as cells -/
def strs (ss : List (List UInt8)) : List Value := ss.map fun l => .string (bs l)
theorem strs_enc (ss : List (List UInt8)) : strs ss = ss.map encStr := rfl
theorem strs_length (ss : List (List UInt8)) : (strs ss).length = ss.length := by simp [strs]
theorem strs_get {ss : List (List UInt8)} {i : Nat} (h : i < ss.length) : (strs ss)[i]? = some (.string (bs (ss.getD i []))) := by
  simp [strs, List.getElem?_eq_getElem h, List.getD_eq_getElem?_getD]
theorem strs_one {ss : List (List UInt8)} : ∀ u ∈ strs ss, oneV u = true := by
  intro u hu
  obtain ⟨c, _, rfl⟩ := List.mem_map.1 hu
  rfl
/-- in the order of their bytes -/
def sortS (ss : List (List UInt8)) : List (List UInt8) := ss.mergeSort fun x y => decide (x ≤ y)
theorem sortS_length (ss : List (List UInt8)) : (sortS ss).length = ss.length := by unfold sortS; exact List.length_mergeSort _
theorem mid_get {α : Type} {A B Z : List α} {k : Nat} (h1 : A.length ≤ k) (h2 : k < A.length + B.length) : (A ++ B ++ Z)[k]? = B[k - A.length]? := by
  rw [List.append_assoc, List.getElem?_append_right h1, List.getElem?_append_left (by omega)]
theorem con_sort {P : Program} {f : FuncId}
    (h : ∀ (blk off cap : Nat) (ss : List (List UInt8)) (w : World), Holds encStr w blk off ss.toArray → blk < w.heap.size → ss.length < 4611686018427387904 → Calls P f #[.slice (some ⟨blk, off, none⟩) ss.length cap] w fun e w' =>
      e = .returned (.tuple #[]) ∧ ∃ n os, w' = grow (putRow encStr (Sort.ahead w n) blk off (ss.mergeSort fun x y => decide (x ≤ y)).toArray) os)
    (g cap : Nat) (e : TypeId) (fz : Nat × Nat) (A Z : List Value) (ss : List (List UInt8)) (w : World) (hfz : ∀ j, j < A.length + ss.length → ¬ (fz.1 ≤ j ∧ j < fz.2)) (hsz : ss.length < 4611686018427387904) :
    Con P f [.slice (some ⟨g, A.length, none⟩) ss.length cap] w [(g, .cells (A ++ strs ss ++ Z).toArray e fz)] fun v S' => v = .tuple #[] ∧ S' = [[(g, .cells (A ++ strs (sortS ss) ++ Z).toArray e fz)]] := fun hown hnd => by
  have hg : w.heap[g]? = some (.cells (A ++ strs ss ++ Z).toArray e fz) := hown (g, _) (by simp)
  have hlt := lt_of_get hg
  have hH : Holds encStr w g A.length ss.toArray := fun j hj => by
    rw [List.size_toArray] at hj
    refine ⟨?_, ?_⟩
    · rw [cell_of hg, List.append_assoc, List.getElem?_append_right (by omega), Nat.add_sub_cancel_left, List.getElem?_append_left (by rw [strs_length]; exact hj), strs_get hj]
      simp only [encStr]
      congr 3
      rw [List.getD_eq_getElem?_getD, List.getElem?_eq_getElem hj]
      simp [hj]
    · unfold World.frozen?
      simp only [hg]
      have := hfz (A.length + j) (by omega)
      simpa using this
  refine (h g A.length cap ss w hH hlt hsz).mono ?_
  rintro e' w' ⟨rfl, n, os, rfl⟩
  refine ⟨_, _, rfl, ⟨rfl, rfl⟩, ?_⟩
  have hheap : ∀ k, k < w.heap.size → (grow (putRow encStr (Sort.ahead w n) g A.length (ss.mergeSort fun x y => decide (x ≤ y)).toArray) os).heap[k]? = (putRow encStr (Sort.ahead w n) g A.length (ss.mergeSort fun x y => decide (x ≤ y)).toArray).heap[k]? := fun k hk => by
    unfold grow
    simp only []
    rw [Array.getElem?_append_left]
    unfold putRow mapBlock
    simpa [Sort.ahead] using hk
  have hput : ∀ k, (putRow encStr (Sort.ahead w n) g A.length (ss.mergeSort fun x y => decide (x ≤ y)).toArray).heap[k]? = if g = k then w.heap[k]?.map (onCells (putCells encStr A.length (ss.mergeSort fun x y => decide (x ≤ y)).toArray)) else w.heap[k]? := fun k => by
    unfold putRow mapBlock
    simp only [Sort.ahead, Array.getElem?_modify]
  refine ⟨rfl, rfl, rfl, ?_, fun p hp => ?_, by simp, fun k hk => .inl (by simpa using hk), fun k hk hD => ?_⟩
  · show w.heap.size ≤ _
    rw [size_grow]
    unfold putRow mapBlock
    simp [Sort.ahead]
  · simp only [List.flatten_cons, List.flatten_nil, List.append_nil, List.mem_singleton] at hp
    subst hp
    simp only []
    rw [hheap g hlt, hput, if_pos rfl, hg]
    simp only [Option.map_some, onCells]
    congr 2
    apply Array.ext_getElem?
    intro k
    simp only [putCells, Array.getElem?_mapIdx, List.getElem?_toArray, List.size_toArray, List.length_mergeSort]
    by_cases h1 : k < A.length
    · rw [List.append_assoc, List.append_assoc, List.getElem?_append_left h1, List.getElem?_append_left h1, List.getElem?_eq_getElem h1]
      simp only [Option.map_some]
      rw [if_neg (by omega)]
    · by_cases h2 : k < A.length + ss.length
      · rw [mid_get (by omega) (by rw [strs_length]; omega), mid_get (by omega) (by rw [strs_length, sortS_length]; omega)]
        rw [strs_get (by omega), strs_get (by rw [sortS_length]; omega)]
        simp only [Option.map_some]
        rw [if_pos (by omega)]
        simp only [encStr]
        congr 3
        have h3 : k - A.length < (ss.mergeSort fun x y => decide (x ≤ y)).length := by rw [List.length_mergeSort]; omega
        rw [List.getD_eq_getElem?_getD]
        have h4 : (sortS ss)[k - A.length]? = some ((ss.mergeSort fun x y => decide (x ≤ y))[k - A.length]) := List.getElem?_eq_getElem h3
        rw [h4]
        have h5 : (ss.mergeSort fun x y => decide (x ≤ y)).toArray[k - A.length]! = (ss.mergeSort fun x y => decide (x ≤ y))[k - A.length] := by
          rw [getElem!_pos _ _ (by simpa using h3)]
          simp
        rw [h5]
        rfl
      · rw [List.getElem?_append_right (by simp [strs_length]; omega), List.getElem?_append_right (by simp [strs_length, sortS_length]; omega)]
        simp only [List.length_append, strs_length, sortS_length]
        cases Z[k - (A.length + ss.length)]? with
        | none => rfl
        | some y => simp only [Option.map_some]; rw [if_neg (by omega)]
  · have hk' : k < w.heap.size := hk
    have hne : g ≠ k := fun e => hD (by simp [e])
    rw [hheap k hk', hput, if_neg hne]
/-- a contract that hands back a row of its own -/
theorem con_of_own {P : Program} {f : FuncId} {args : List Value} {w : World} {e : TypeId} {sz n : Nat} {xs : List Value} (h : Calls P f args.toArray w fun e' w' => ∃ v, e' = .returned v ∧ w'.ownsRow w.heap.size e sz v n xs ∧ _root_.Go.RowKit.Below w.heap.size w w') :
    Con P f args w [] fun v S' => ∃ c, S' = [c] ∧ Own e sz xs v c := fun _ _ => by
  refine h.mono ?_
  rintro e' w' ⟨v, rfl, ⟨hl, ho⟩, hb⟩
  rcases ho with ⟨rfl, rfl⟩ | ⟨g, cap, cur, rfl, hg1, hg2, hc1, hc2, hc3, hc4⟩
  · have hx : xs = [] := List.eq_nil_of_length_eq_zero (by simpa using hl)
    subst hx
    exact ⟨_, [[]], rfl, ⟨[], rfl, own_nil⟩, ⟨hb.os, hb.tape, hb.output, hb.size, by simp, by simp, by simp, fun k hk _ => hb.block k hk⟩⟩
  · have hcur : cur = (xs ++ cur.toList.drop (n * sz)).toArray := by
      apply Array.ext'
      simp only
      rw [← hc4, List.take_append_drop]
    have hlen : (xs ++ cur.toList.drop (n * sz)).length = cap * sz := by
      rw [← hc4, List.take_append_drop, Array.length_toList, hc3]
    refine ⟨_, [[(g, .cells (xs ++ cur.toList.drop (n * sz)).toArray e (0, 0))]], rfl, ⟨_, rfl, .inr ⟨g, n, cap, cur.toList.drop (n * sz), (0, 0), rfl, rfl, hl, hlen, hc1, fun _ _ h => by omega⟩⟩, ⟨hb.os, hb.tape, hb.output, hb.size, ?_, by simp, ?_, fun k hk _ => hb.block k hk⟩⟩
    · intro p hp
      simp only [List.flatten_cons, List.flatten_nil, List.append_nil, List.mem_singleton] at hp
      subst hp
      simp only []
      rw [hg2, ← hcur]
    · intro k hk
      simp only [dom, List.flatten_cons, List.flatten_nil, List.append_nil, List.map_cons, List.map_nil, List.mem_singleton] at hk
      subst hk
      exact .inr hg1
theorem con_sort_nil {P : Program} {f : FuncId} (h : ∀ (p : Option Addr) (cap : Nat) (w : World), Calls P f #[.slice p 0 cap] w fun e w' => e = .returned (.tuple #[]) ∧ w' = w) (p : Option Addr) (cap : Nat) (w : World) :
    Con P f [.slice p 0 cap] w [] fun v S' => v = .tuple #[] ∧ S' = [[]] := fun _ _ => by
  refine (h p cap w).mono ?_
  rintro e' w' ⟨rfl, rfl⟩
  exact ⟨_, _, rfl, ⟨rfl, rfl⟩, ⟨rfl, rfl, rfl, Nat.le_refl _, by simp, by simp, by simp, fun _ _ _ => rfl⟩⟩
/-- the sort of a slice that is alone in its row, or none -/
theorem con_sort_own {P : Program} {f : FuncId}
    (h : ∀ (blk off cap : Nat) (ss : List (List UInt8)) (w : World), Holds encStr w blk off ss.toArray → blk < w.heap.size → ss.length < 4611686018427387904 → Calls P f #[.slice (some ⟨blk, off, none⟩) ss.length cap] w fun e w' =>
      e = .returned (.tuple #[]) ∧ ∃ n os, w' = grow (putRow encStr (Sort.ahead w n) blk off (ss.mergeSort fun x y => decide (x ≤ y)).toArray) os)
    (h0 : ∀ (p : Option Addr) (cap : Nat) (w : World), Calls P f #[.slice p 0 cap] w fun e w' => e = .returned (.tuple #[]) ∧ w' = w)
    {e : TypeId} {ss : List (List UInt8)} {v : Value} {c : SH} (ho : Own e 1 (strs ss) v c) (hsz : ss.length < 4611686018427387904) (w : World) : Con P f [v] w c fun u S' => u = .tuple #[] ∧ ∃ c', S' = [c'] ∧ Own e 1 (strs (sortS ss)) v c' := by
  rcases ho with ⟨rfl, hx, rfl⟩ | ⟨g, n, cap, rest, fz, rfl, rfl, h1, h2, h3, h4⟩
  · have : ss = [] := by cases ss <;> first | rfl | cases hx
    subst this
    intro ha hb
    refine (con_sort_nil h0 none 0 w ha hb).mono ?_
    rintro e' w' ⟨v, S', rfl, ⟨rfl, rfl⟩, hS⟩
    exact ⟨_, _, rfl, ⟨rfl, [], rfl, by rw [show strs (sortS []) = [] by simp [sortS, strs]]; exact own_nil⟩, hS⟩
  · rw [strs_length] at h1
    obtain rfl : n = ss.length := by omega
    have hc := con_sort h g cap e fz [] rest ss w (fun j hj => h4 j (by simp [strs_length] at hj ⊢; omega)) hsz
    simp only [List.nil_append, List.length_nil] at hc
    intro ha hb
    refine (hc ha hb).mono ?_
    rintro e' w' ⟨v, S', rfl, ⟨rfl, rfl⟩, hS⟩
    refine ⟨_, _, rfl, ⟨rfl, _, rfl, .inr ⟨g, ss.length, cap, rest, fz, rfl, rfl, by rw [strs_length, sortS_length]; omega, ?_, h3, fun j hj => h4 j ?_⟩⟩, hS⟩
    · rw [← h2]; simp [strs_length, sortS_length]
    · simpa [strs_length, sortS_length] using hj
theorem qs_makefunc {P : Program} {env : Env} {b : Base} {S : List SH} {ty : TypeId} {fn : Fn} {fi ca : Array Operand} {fv cv : List Value} (h1 : fi.toList.map (ev env) = fv) (h2 : ca.toList.map (ev env) = cv) : QS P (O (.makeFunc fn fi ca) ty) env b S (.func fn fv.toArray cv.toArray) := qs_run fun w => by
  have e1 : fi.map (ev env) = fv.toArray := by rw [← h1]; apply Array.ext'; simp
  have e2 : ca.map (ev env) = cv.toArray := by rw [← h2]; apply Array.ext'; simp
  simp only [O, execOp, Instr.makeFunc, e1, e2, Sem.run_bind, Sem.run_pure, Result.andThen_ok]
end Go.Sx
