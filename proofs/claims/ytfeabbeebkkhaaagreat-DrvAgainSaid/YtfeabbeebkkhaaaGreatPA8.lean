/- Part 8. -/
import Derived.Test.YtfeabbeebkkhaaaGreatPA7
import Derived.WideKeyElems2
import Derived.Test.YtfeabbeebkkhaaaGreatPA5
import Derived.Test.YtfeabbeebkkhaaaGreatPA3
import Derived.SliceStrings
import Derived.Test.YtfeabbeebkkhaaaGreatRows
import Derived.ProofKit
import Derived.Carry
import Derived.SizedLaws
/-! Arg30 -/
namespace Go.Proofs.YtfeabbeebkkhaaaGreat
open Go Go.Sx Go.ChangeShapes Go.WideShapes Go.ChangeAt Go.RowKit
set_option linter.unusedVariables false
set_option maxRecDepth 100000
theorem hmap_entry {H : Type} {enc : TypeId × Value → H} {w : World} {b0 n : Nat} {sp : Nat → Bool} {held : Bool} {x : MapEntry} {y : Lit × DataW H} (h : WideElems.rd Tryz.prog 49 (WideElems.elemAt enc Tryz.prog w b0 sp held n 51) x = some y) :
    ∃ p : Bs × Hsh, x.key = strEnc p.1 ∧ x.val = (hent p).2 ∧ strOk p.1 := by
  have hk := WideElems.rd_key h
  obtain ⟨z, hz, _⟩ := WideElems.rd_val h
  have h49 : Tryz.prog.underlying 49 = some .string := Tryz.underlying49
  unfold keyOf at hk
  rw [h49] at hk
  simp only at hk
  unfold mapKey at hk
  rw [h49] at hk
  unfold WideElems.elemAt at hz
  split at hz
  · rename_i hf
    have h51 := Tryz.underlying51
    unfold Value.formed at hf
    have hc51 : Tryz.prog.cellsOf 51 = 32 := by kernel_rfl
    cases hv : x.val with
    | agg cs =>
      rw [hv] at hf hz
      simp only [h51, hc51, beq_iff_eq] at hf
      obtain ⟨l, hl⟩ := hash_trod (cs := cs.toList) (by simpa using hf) (by simpa [Value.cells] using hz)
      cases hkv : x.key with
      | string s =>
        rw [hkv] at hk
        simp only at hk
        split at hk
        · rename_i hs
          refine ⟨(s.data.toList, l), ?_, ?_, hs⟩
          · show _ = Value.string (bs s.data.toList)
            rw [← bs_of]
          · show _ = Value.agg (ints l.1).toArray
            rw [← hl]
        · cases hk
      | _ => rw [hkv] at hk; simp at hk
    | _ => rw [hv] at hf; simp [h51] at hf
  · cases hz
theorem open_hmap {H : Type} {enc : TypeId × Value → H} {w : World} {r : Go.Reach} {base b0 : Nat} {sp : Nat → Bool} {held : Bool} {v : Value} {x : DataW H × List MemPlace} (hv : Value.okWide Tryz.prog w r base 55 v)
    (h : ∃ fuel, DataW.trod enc Tryz.prog w b0 sp held fuel 55 v.cells.toList = some x) : ∃ M : HM, HMR w v M := by
  obtain ⟨fuel, hf⟩ := h
  obtain ⟨a, rfl⟩ := okWide_map Tryz.underlying55 hv
  rcases WideElems.open_map Tryz.underlying55 hf with ⟨hcs, _⟩ | ⟨b, es, clock, n, _, hcs, hb, _, F, _⟩
  · have : a = none := by simpa [Value.cells] using hcs
    subst this
    exact ⟨[], .inl ⟨rfl, rfl⟩⟩
  · have : a = some b := by simpa [Value.cells] using hcs
    subst this
    have hex : ∀ l : List MapEntry, (∀ e ∈ l, e ∈ es.toList) → ∃ M : HM, l.map (fun e => (e.key, e.val)) = (M.map hent).map (fun p => (strEnc p.1, p.2)) ∧ ∀ p ∈ M, strOk p.1 := fun l => by
      induction l with
      | nil => exact fun _ => ⟨[], rfl, by simp⟩
      | cons e l ih =>
        intro hl
        obtain ⟨M, h1, h2⟩ := ih fun e he => hl e (by simp [he])
        obtain ⟨y, hy⟩ := F.reads e (hl e (by simp))
        obtain ⟨p, q1, q2, q3⟩ := hmap_entry hy
        refine ⟨p :: M, ?_, fun q hq => ?_⟩
        · simp only [List.map_cons, h1, q1, q2]
        · rcases List.mem_cons.1 hq with rfl | hq
          · exact q3
          · exact h2 q hq
    obtain ⟨M, h1, h2⟩ := hex es.toList (fun _ h => h)
    refine ⟨M, .inr ⟨b, es, clock, rfl, hb, ⟨h1, F.stamped, fun p hp => ?_⟩⟩⟩
    obtain ⟨q, hq, rfl⟩ := List.mem_map.1 hp
    exact h2 q hq
end Go.Proofs.YtfeabbeebkkhaaaGreat
/-! SxT -/
namespace Go.Sx
open Go Go.ChangeShapes Go.WideShapes Go.ChangeAt Go.RowKit
set_option linter.unusedVariables false
end Go.Sx
/-! RowA -/
namespace Go.Proofs.YtfeabbeebkkhaaaGreat
open Go Go.Sx Go.ChangeShapes Go.WideShapes Go.ChangeAt Go.RowKit
set_option linter.unusedVariables false
theorem own_drvAgain : ownKnob Tryz.prog.godebug = none := by kernel_rfl
theorem laid_drvAgain : laidOutB Tryz.prog = true := by kernel_rfl
set_option maxRecDepth 100000 in
theorem drvAgain_lifted (os : Os) (started : os.Started) (H : Type) (enc : TypeId × Value → H) :
    ReturnsInHanded {} Tryz.checked os 7 .any (Rows.drvAgainSpec.pre6 enc Tryz.prog Tryz.f7 Rows.drvAgainRow.domain false) (Rows.drvAgainSpec.post enc Tryz.prog Tryz.f7 false true false false) := by
  refine returnsInHanded_of_change_sized (C := Tryz.checked) own_drvAgain started (by kernel_rfl) Tryz.func7
    (ChangeSpec.witness6 (enc := enc) (C := Tryz.checked) false ⟨#[], #[.agg #[.string ⟨#[]⟩, .string ⟨#[]⟩, .string ⟨#[]⟩, .slice none 0 0, .slice none 0 0, .slice none 0 0, .slice none 0 0, .slice none 0 0], .map none], []⟩ 8 (by kernel_rfl) (by kernel_rfl) (by kernel_rfl) (by kernel_rfl)) ?_
  intro W base args ds gs before hval0 hW hcnd hsz0 _
  have hsz : (DataW.weightsEach Tryz.prog (Tryz.f7.params.toList ++ Rows.drvAgainSpec.plain.varTypes Tryz.prog) (ds ++ gs)).all (· ≤ reachBytes) = true := hsz0
  have hreach : reachBytes = 140737488351232 := rfl
  have hval : ∀ (j : Nat) t v, Tryz.f7.params[j]? = some t → args[j]? = some v → Value.okWide Tryz.prog W .any base t v := hval0
  have hW' := hW
  obtain ⟨p, q, hA0, hV, rfl, hfz, hnd⟩ := hW
  have hA : DataW.TrodAll enc Tryz.prog W 0 (fun _ => true) true Tryz.f7.params.toList args.toList ds p := hA0
  rw [Tryz.params7] at hA hval
  obtain ⟨v0, v1, d0, d1, p0, p1, rfl, rfl, rfl, h0, h1⟩ := trodAll_two hA
  obtain ⟨rfl, rfl⟩ := trodVars_none hV
  obtain ⟨a0, x0, rfl, wa0, sz0⟩ := open_drv (hval 0 28 v0 rfl rfl) h0 (weights_at hsz (j := 0) (t := 28) (by rw [Tryz.params7]; rfl) rfl)
  obtain ⟨a1, wa1⟩ := open_hmap (hval 1 55 v1 rfl rfl) h1
  clear hA0 hval0
  have hc := drvAgain_con a0 x0 a1 v1 W wa0 sz0 wa1 (by simp) (by simp)
  refine hc.mono fun e W' h => ?_
  obtain ⟨v, S', rfl, rfl, hS⟩ := h
  exact ⟨_, rfl, post_law hW' rfl rfl laid_drvAgain (by decide +kernel) rfl Tryz.underlying4 (below_of_sig hS)⟩
theorem drvAgain_holds : Rows.DrvAgainSaid :=
  OpenClaim.holds_of_wide 7 Tryz.f7 rfl rfl rfl rfl rfl rfl rfl ⟨rfl, rfl, rfl, rfl, rfl⟩ rfl rfl rfl rfl rfl (by kernel_rfl) Tryz.func7 (by kernel_rfl)
    (of_decide_eq_true (by kernel_rfl)) (by unfold Func.isWrapper; first | (rw [if_pos (by decide +kernel)]; kernel_rfl) | (rw [if_neg (by decide +kernel)]; exact ⟨rfl, rfl⟩))
    (fun os started H enc _ => drvAgain_lifted os started H enc)
end Go.Proofs.YtfeabbeebkkhaaaGreat
