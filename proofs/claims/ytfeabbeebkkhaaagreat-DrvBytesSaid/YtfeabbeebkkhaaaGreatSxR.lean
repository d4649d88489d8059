/- A law's row out of its contract. -/
import Derived.Test.YtfeabbeebkkhaaaGreatSx7
import Derived.ProofKit
import Derived.Carry
namespace Go.Sx
open Go Go.ChangeShapes Go.WideShapes Go.ChangeAt Go.RowKit
set_option linter.unusedVariables false
theorem trodAll_stays {H : Type} {enc : TypeId × Value → H} {P : Program} (hl : laidOutB P = true) {W W' : World} (hb : Below W.heap.size W W') : ∀ {ts : List TypeId} {vs : List Value} {ds : List (DataW H)} {ps : List MemPlace},
    (∀ t ∈ ts, P.readableRec t = true ∧ t < P.types.size) → DataW.TrodAll enc P W 0 (fun _ => true) true ts vs ds ps → (∀ x ∈ ps, x.block < W.heap.size) → DataW.TrodAll enc P W' 0 (fun b => decide (b < W.heap.size)) true ts vs ds ps
  | [], vs, ds, ps, _, h, _ => by
    obtain ⟨rfl, rfl, rfl⟩ := trodAll_nil h
    rfl
  | t :: ts, vs, ds, ps, ht, h, hlt => by
    obtain ⟨v, vs1, d, ds1, a, b, rfl, rfl, rfl, h1, h2⟩ := trodAll_cons h
    have h0 := ht t (by simp)
    exact ⟨a, b, Below.trod hl h0.1 h0.2 h1 hb (fun x hx => hlt x (List.mem_append_left _ hx)), trodAll_stays hl hb (fun t h => ht t (by simp [h])) h2 (fun x hx => hlt x (List.mem_append_right _ hx)), rfl⟩
/-- what a law's row asks behind the call, where the call left all that was there as it was -/
theorem post_law {H : Type} {enc : TypeId × Value → H} {P : Program} {f : Func} {s : ChangeSpec} {apart fresh handsOn : Bool} {W W' : World} {args : Array Value} {ds : List (DataW H)} {before : List MemPlace} {tb : TypeId}
    (hW : DataW.Whole enc P f.params.toList s.vars apart W args.toList ds [] before) (hv : s.vars = []) (hs : s.fn H (ds ++ []) = { results := [.lit (.bool true)], args := ds }) (hl : laidOutB P = true)
    (hp : ∀ t ∈ f.params.toList, P.readableRec t = true ∧ t < P.types.size) (hr : f.resultTypes = #[tb]) (hb : P.underlying tb = some .bool) (hB : Below W.heap.size W W') : s.post enc P f apart fresh handsOn false W args (.bool true) W' := by
  have hlt := hW.lt
  obtain ⟨p, q, hA, hV, rfl, hfz, hnd⟩ := id hW
  have hq : q = [] := by
    rw [hv] at hV
    exact (trodVars_none hV).2
  subst hq
  have hres : ∀ (b : Nat) (sp : Nat → Bool) (hd : Bool), DataW.TrodAll enc P W' b sp hd f.resultTypes.toList ((Value.bool true).resultList f.resultTypes.size) (s.fn H (ds ++ [])).results [] := fun b sp hd => by
    rw [hs, hr]
    exact trodAll_mk1 (shut_bool hb true)
  have hargs : DataW.TrodAll enc P W' 0 (fun b => decide (b < W.heap.size)) true f.params.toList args.toList (s.fn H (ds ++ [])).args p := by
    rw [hs]
    exact trodAll_stays hl hB hp hA (fun x hx => hlt x (List.mem_append_left _ hx))
  refine ⟨ds, [], p ++ [], [], p, [], hW, hres _ _ _, hargs, ?_, World.keptBut_mono (fun x hx => ⟨hx, ?_⟩) (hB.frame (· ∈ p ++ [])), fun h => absurd h (by decide)⟩
  · rw [hs, hv]
    rfl
  · rw [List.mem_append] at hx
    exact Or.inr hx
/-- a contract that is handed nothing to write leaves all as it was -/
theorem below_of_sig {w w' : World} {S : List SH} (h : Sig ⟨w, dom []⟩ S w') : Below w.heap.size w w' := ⟨h.os, h.tape, h.output, h.size, fun k hk => h.frame k hk (by simp)⟩
/-- the bytes of an argument that is an array of them -/
theorem open_bytes {P : Program} {w : World} {r : Reach} {base : Nat} {t e : TypeId} {n : Nat} {v : Value} (ht : P.underlying t = some (.array n e)) (he : P.underlying e = some (.int .u8)) (hct : P.cellTypes P.depth t = some (List.replicate n e)) (hcells : P.cellsOf t = n)
    (h : Value.okWide P w r base t v) : ∃ l : List UInt8, v = .agg (ints l).toArray ∧ l.length = n := by
  unfold Value.okWide at h
  simp only [ht] at h
  obtain ⟨cs, rfl, hsz, ts, hts, _, hall⟩ := h
  rw [hct] at hts
  injection hts with hts
  subst hts
  rw [hcells] at hsz
  refine ⟨cs.toList.map (fun v => match v with | .int _ m => by8 m | _ => 0), ?_, by simp [hsz]⟩
  congr 1
  apply Array.ext_getElem?
  intro i
  by_cases hi : i < cs.size
  · obtain ⟨u, hu, hc⟩ := hall i cs[i] (by simp [hi])
    have hmod : i % (List.replicate n e).length = i := by rw [List.length_replicate]; exact Nat.mod_eq_of_lt (by omega)
    rw [hmod, List.getElem?_replicate, if_pos (by omega)] at hu
    injection hu with hu
    subst hu
    unfold Cell.okWide at hc
    simp only [he] at hc
    unfold Cell.ok at hc
    simp only [he] at hc
    have hget : cs[i]? = some cs[i] := by simp [hi]
    generalize hx : cs[i] = x at *
    cases x <;> simp only at hc
    case int k m =>
      obtain ⟨rfl, hm⟩ := hc
      have hr : 0 ≤ m ∧ m ≤ 255 := by
        simp only [IntKind.has] at hm
        have h1 : IntKind.u8.min = 0 := rfl
        have h2 : IntKind.u8.max = 255 := rfl
        rw [h1, h2] at hm
        simpa using hm
      have hw : IntKind.u8.wrap m = m := by rw [IntKind.wrap_u8]; omega
      rw [hget]
      simp only [List.getElem?_toArray, ints_get, List.getElem?_map, Array.getElem?_toList, hget, Option.map_some]
      rw [← wrap_by8, hw]
    all_goals exact hc.elim
  · have h1 : cs[i]? = none := by simp; omega
    rw [h1]
    symm
    rw [List.getElem?_toArray, List.getElem?_eq_none]
    rw [ints_length, List.length_map, Array.length_toList]
    omega
end Go.Sx
