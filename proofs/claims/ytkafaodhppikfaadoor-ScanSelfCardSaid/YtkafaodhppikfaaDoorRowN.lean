/- ScanSelf: for every input the law returns true. -/
import Derived.Test.YtkafaodhppikfaaDoorRows
import Derived.Test.YtkafaodhppikfaaDoorSelf
import Derived.Test.YtkafaodhppikfaaDoorSxT
import Derived.Test.YtkafaodhppikfaaDoorSx16
import Derived.Test.YtkafaodhppikfaaDoorSxR
import Derived.ProofKit
import Derived.LaidMore
import Derived.Lib.LaidTab
import Derived.Stop.LaidErr
import Derived.MakeChecks
import Derived.SevenTiedAt
import Derived.Test.YtkafaodhppikfaaDoorCards
import Derived.Test.YtkafaodhppikfaaDoorTie
import Derived.Carry
import Derived.SizedLaws
namespace Go.Proofs.YtkafaodhppikfaaDoor
open Go Go.Sx Go.ChangeShapes Go.WideShapes Go.ChangeAt Go.RowKit
set_option linter.unusedVariables false
theorem own_scanSelf : ownKnob Tryd.prog.godebug = none := by kernel_rfl
theorem laid_scanSelf : laidOutB Tryd.prog = true := by kernel_rfl
set_option maxRecDepth 100000 in
theorem door_met_scanSelf (os : Os) (args : Array Value) : laidMetH Tryd.prog Rows.scanSelfRow.laid ((World.doorLaid Tryd.prog 400 os).forCall (fun _ _ => 0) ⟨#[], args, []⟩).memory := by
  rw [MakeChecks.laidMetH_plain _ _ _ (by kernel_rfl)]
  exact laidMet_of_run' 8 (by kernel_rfl) (by kernel_rfl)
theorem p10_of_laid_scanSelf {W : World} (h : laidMetH Tryd.prog Rows.scanSelfRow.laid W) : P10 W := by
  rw [MakeChecks.laidMetH_plain _ _ _ (by kernel_rfl)] at h
  have h3 : Lib.TabIs Tryd.prog W "internal/strconv.uint64pow10" .u64 p10 := Lib.tabIs_of_head (t := 102) (e := 65) (n := 20) (g := 0) (by kernel_rfl) (by kernel_rfl) Tryd.underlying102 Tryd.underlying65 (by kernel_rfl) (by kernel_rfl) (rest := []) h.tail.tail
  have hc : ∀ i, i < 20 → W.cell? ⟨0, i, none⟩ = some (.int .u64 (p10.getD i 0)) := fun i hi => h3.cell (by kernel_rfl) i hi
  refine ⟨?_, fun j u hu => ?_⟩
  · have h0 := hc 0 (by decide)
    unfold World.cell? at h0
    by_cases hz : 0 < W.heap.size
    · exact hz
    · rw [Array.getElem?_eq_none (by simp only []; omega)] at h0
      cases h0
  · obtain ⟨hj, rfl⟩ := List.getElem?_eq_some_iff.1 hu
    have hj' : j < 20 := by rw [ks_length] at hj; exact hj
    rw [add_off, Nat.zero_add, hc j hj']
    have := ks_get (k := .u64) (l := p10) (i := j) hj'
    rw [← this, List.getElem?_eq_getElem hj]
set_option maxRecDepth 100000 in
theorem scanSelf_lifted (os : Os) (started : os.Started) (H : Type) (enc : TypeId × Value → H) :
    ReturnsInHanded {} Tryd.checked os 4 .any (fun w args => (Rows.scanSelfSpec.pre enc Tryd.prog Tryd.f4 [] false w args ∧ laidMetH Tryd.prog Rows.scanSelfRow.laid w) ∧ sizedMet enc Tryd.prog Tryd.f4 (OpenSpec.ofChange Rows.scanSelfSpec) false w args) (Rows.scanSelfSpec.post enc Tryd.prog Tryd.f4 false true false false) := by
  refine returnsInHanded_of_change_and (C := Tryd.checked) (X := fun w _ => laidMetH Tryd.prog Rows.scanSelfRow.laid w) (fun _ _ _ hh h => h.of_heap hh) own_scanSelf started (by kernel_rfl) Tryd.func4
    (ChangeSpec.witness_shaped (enc := enc) (C := Tryd.checked) (os := os) (X := fun w _ => laidMetH Tryd.prog Rows.scanSelfRow.laid w) false (World.doorLaid Tryd.prog 400 os) #[.slice none 0 0, .string ⟨#[]⟩, .string ⟨#[]⟩] 8 rfl (World.shaped_of_RefB (by kernel_rfl) (by kernel_rfl)) (by kernel_rfl) (by kernel_rfl) (by kernel_rfl) (door_met_scanSelf os _)) ?_
  intro W base args ds gs before hval0 hW hcnd hsz0 hL _
  have hsz : (DataW.weightsEach Tryd.prog (Tryd.f4.params.toList ++ Rows.scanSelfSpec.plain.varTypes Tryd.prog) (ds ++ gs)).all (· ≤ reachBytes) = true := hsz0
  have hreach : reachBytes = 140737488351232 := rfl
  have hval : ∀ (j : Nat) t v, Tryd.f4.params[j]? = some t → args[j]? = some v → Value.okWide Tryd.prog W .any base t v := hval0
  have hW' := hW
  obtain ⟨p, q, hA0, hV, rfl, hfz, hnd⟩ := hW
  have hA : DataW.TrodAll enc Tryd.prog W 0 (fun _ => true) true Tryd.f4.params.toList args.toList ds p := hA0
  rw [Tryd.params4] at hA hval
  obtain ⟨v0, v1, v2, d0, d1, d2, p0, p1, p2, rfl, rfl, rfl, h0, h1, h2⟩ := trodAll_three hA
  obtain ⟨rfl, rfl⟩ := trodVars_none hV
  obtain ⟨a0, wa0, wc0⟩ := open_bytesl Tryd.underlying22 Tryd.underlying5 (by kernel_rfl) (hval 0 22 v0 rfl rfl) h0
  have wb0 : a0.length ≤ reachBytes := bytes_sized hsz (j := 0) (t := 22) (by rw [Tryd.params4]; rfl) rfl Tryd.underlying22 (by kernel_rfl) wc0
  obtain ⟨a1, rfl, rfl, rfl, wa1⟩ := Go.ChangeMaps.open_string Tryd.underlying23 (hval 1 23 v1 rfl rfl) h1
  have wb1 : a1.data.toList.length ≤ reachBytes := sized_string hsz (j := 1) (t := 23) (by rw [Tryd.params4]; rfl) rfl
  obtain ⟨a2, rfl, rfl, rfl, wa2⟩ := Go.ChangeMaps.open_string Tryd.underlying23 (hval 2 23 v2 rfl rfl) h2
  have wb2 : a2.data.toList.length ≤ reachBytes := sized_string hsz (j := 2) (t := 23) (by rw [Tryd.params4]; rfl) rfl
  clear hA0 hval0
  have hP := p10_of_laid_scanSelf hL
  have hc := scanSelf_con a0 v0 a1.data.toList a2.data.toList W wa0 (by omega) (by omega) hP (by simp) (by simp)
  simp only [← bs_of] at hc
  refine hc.mono fun e W' h => ?_
  obtain ⟨v, S', rfl, rfl, hS⟩ := h
  exact ⟨_, rfl, post_law hW' rfl rfl laid_scanSelf (by decide +kernel) rfl Tryd.underlying4 (below_of_sig hS)⟩
theorem scanSelf_holds : Rows.ScanSelfSaid :=
  OpenClaim.holds_of_wide 4 Tryd.f4 rfl rfl rfl rfl rfl rfl rfl ⟨rfl, rfl, rfl, rfl, rfl⟩ rfl rfl rfl rfl rfl (by kernel_rfl) Tryd.func4 (by kernel_rfl)
    (of_decide_eq_true (by kernel_rfl)) (by unfold Func.isWrapper; first | (rw [if_pos (by decide +kernel)]; kernel_rfl) | (rw [if_neg (by decide +kernel)]; exact ⟨rfl, rfl⟩))
    (fun os started H enc _ => scanSelf_lifted os started H enc)
theorem scanSelfCard_holds : Rows.ScanSelfCardSaid :=
  Claim7.holds_tied_plain_at .later [] [.data, .data, .data] true (true, "2418ec2ca608219da9ba33dc3eb977f097a8fc8072551c3f64c5a82e41bec299") false
    scanSelf_holds (fun _ h => by cases h) (by kernel_rfl) (fun _ h => by cases h) scanSelf_row_tie rfl ⟨rfl, rfl⟩ (by kernel_rfl) rfl
    (fun f fn hf hfn => by
      obtain rfl : f = 4 := Option.some.inj ((show Tryd.prog.funcNamed "pantry/pantrylaw6.ScanSelf" = some 4 by kernel_rfl).symm.trans hf) |>.symm
      obtain rfl : fn = Tryd.f4 := (Option.some.inj (Tryd.func4.symm.trans hfn)).symm
      exact ⟨by kernel_rfl, fun j t ht => by
        rw [Tryd.params4] at ht
        have hm : t ∈ [22, 23] := by simpa using Array.mem_of_getElem? ht
        have hall : ([22, 23].all fun u => !Tryd.prog.wantsStandIn u) = true := by kernel_rfl
        exact (show Tryd.prog.wantsStandIn t = false by simpa using List.all_eq_true.1 hall t hm)⟩)
    (by kernel_rfl)
end Go.Proofs.YtkafaodhppikfaaDoor
