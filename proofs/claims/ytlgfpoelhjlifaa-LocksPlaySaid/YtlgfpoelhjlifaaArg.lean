/- A script among a law's arguments. -/
import Derived.Test.YtlgfpoelhjlifaaLk9
import Derived.Lib.SmallJoins
import Derived.SizedLaws
namespace Go.Proofs.Ytlgfpoelhjlifaa
open Go Go.Sx Go.ChangeShapes Go.WideShapes Go.ChangeAt Go.RowKit
set_option linter.unusedVariables false
set_option maxRecDepth 100000
theorem weights_at {H : Type} {P : Program} {ts : List TypeId} {ds : List (DataW H)} (h : (DataW.weightsEach P ts ds).all (· ≤ reachBytes) = true) {j : Nat} {t : TypeId} {d : DataW H} (ht : ts[j]? = some t) (hd : ds[j]? = some d) : (d.weights P t).all (· ≤ reachBytes) = true :=
  List.all_eq_true.2 fun n hn => List.all_eq_true.1 h n (DataW.weights_mem_each ht hd n hn)
theorem int_wf {n : Int} (h : (Lit.int .i64 n).wf = true) : intOk n := by
  have h1 : IntKind.i64.min = -9223372036854775808 := rfl
  have h2 : IntKind.i64.max = 9223372036854775807 := rfl
  simp only [Lit.wf, h1, h2, Bool.and_eq_true, decide_eq_true_eq] at h
  exact h
theorem st_trod {H : Type} {enc : TypeId × Value → H} {w : World} {b0 : Nat} {sp : Nat → Bool} {held : Bool} (fuel : Nat) (cs : List Value) (y : DataW H × List MemPlace) (h : DataW.trod enc Try.prog w b0 sp held fuel 52 cs = some y) (hw : (y.1.weights Try.prog 52).all (· ≤ reachBytes) = true) :
    ∃ a : St, a.Ok ∧ cs = encS a := by
  obtain ⟨y0, y1, y2, y3, n, rfl, hl, h0, h1, h2, h3⟩ := Go.Joins.trod_struct4 Try.underlying52 h
  have hc : Try.prog.cellsOf 52 = 4 := by kernel_rfl
  rw [hc] at hl
  match cs, hl with
  | [c0, c1, c2, c3], _ =>
    have e3 : Try.prog.cellsOf 3 = 1 := by kernel_rfl
    have e9 : Try.prog.cellsOf 9 = 1 := by kernel_rfl
    have e4 : Try.prog.cellsOf 4 = 1 := by kernel_rfl
    simp only [e3, e4, e9, List.drop_zero, List.take_succ_cons, List.take_zero, List.drop_succ_cons] at h0 h1 h2 h3
    obtain ⟨k0, hk0, e0, w0⟩ := DataW.trod_int Try.underlying3 h0
    obtain ⟨k1, hk1, e1, w1⟩ := DataW.trod_int Try.underlying3 h1
    obtain ⟨s2, hs2, e2, w2⟩ := DataW.trod_string Try.underlying9 h2
    obtain ⟨b3, hb3, e3'⟩ := DataW.trod_bool Try.underlying4 h3
    injection hk0 with hk0
    injection hk1 with hk1
    injection hs2 with hs2
    injection hb3 with hb3
    subst hk0 hk1 hs2 hb3
    refine ⟨⟨k0, k1, s2.data.toList, b3⟩, ⟨int_wf w0, int_wf w1, ?_⟩, ?_⟩
    · subst e2
      unfold DataW.weights at hw
      rw [Try.underlying52] at hw
      simp only [List.map_cons, List.map_nil, DataW.weightsEach, DataW.weights, List.all_append, List.all_cons, List.all_nil, Bool.and_eq_true, decide_eq_true_eq] at hw
      have hreach : reachBytes = 140737488351232 := rfl
      show s2.data.toList.length ≤ 140737488351232
      omega
    · unfold encS
      simp only [← bs_of]
theorem open_script {H : Type} {enc : TypeId × Value → H} {w : World} {r : Go.Reach} {base b0 : Nat} {sp : Nat → Bool} {held : Bool} {v : Value} {x : DataW H × List MemPlace} (hv : Value.okWide Try.prog w r base 43 v)
    (h : ∃ fuel, DataW.trod enc Try.prog w b0 sp held fuel 43 v.cells.toList = some x) (hw : (x.1.weights Try.prog 43).all (· ≤ reachBytes) = true) : ∃ rs : List St, Script w v rs ∧ rs.length ≤ 4611686018427387903 := by
  obtain ⟨rs, h1, h2, h3⟩ := open_sln (α := St) encS St.Ok encS_len (by decide) Try.underlying43 (by kernel_rfl) hv st_trod h hw
  have hb : Try.prog.bytesOf 52 = 40 := by kernel_rfl
  have hreach : reachBytes = 140737488351232 := rfl
  rw [hb] at h3
  exact ⟨rs, ⟨h1, h2⟩, by omega⟩
theorem int1_trod {H : Type} {enc : TypeId × Value → H} {w : World} {b0 : Nat} {sp : Nat → Bool} {held : Bool} (fuel : Nat) (cs : List Value) (y : DataW H × List MemPlace) (h : DataW.trod enc Try.prog w b0 sp held fuel 3 cs = some y) (hw : (y.1.weights Try.prog 3).all (· ≤ reachBytes) = true) :
    ∃ a : Int, intOk a ∧ cs = [.int .i64 a] := by
  obtain ⟨k0, hk0, e0, w0⟩ := DataW.trod_int Try.underlying3 h
  exact ⟨k0, int_wf w0, hk0⟩
theorem ks_flat (l : List Int) : (l.map fun n : Int => [Value.int .i64 n]).flatten = ks .i64 l := by
  induction l with
  | nil => rfl
  | cons a l ih => rw [List.map_cons, List.flatten_cons, ih]; rfl
theorem open_intsl {H : Type} {enc : TypeId × Value → H} {w : World} {r : Go.Reach} {base b0 : Nat} {sp : Nat → Bool} {held : Bool} {v : Value} {x : DataW H × List MemPlace} (hv : Value.okWide Try.prog w r base 36 v)
    (h : ∃ fuel, DataW.trod enc Try.prog w b0 sp held fuel 36 v.cells.toList = some x) (hw : (x.1.weights Try.prog 36).all (· ≤ reachBytes) = true) : ∃ l : List Int, RSl w v (ks .i64 l) ∧ l.length ≤ 4611686018427387903 ∧ ∀ n ∈ l, intOk n := by
  obtain ⟨l, ⟨h0, h1⟩, h2, h3⟩ := open_sln (α := Int) (fun n : Int => [Value.int .i64 n]) intOk (fun _ => rfl) (by decide) Try.underlying36 (by kernel_rfl) hv int1_trod h hw
  have hb : Try.prog.bytesOf 3 = 8 := by kernel_rfl
  have hreach : reachBytes = 140737488351232 := rfl
  rw [hb] at h3
  rw [ks_flat] at h1
  refine ⟨l, ?_, by omega, h2⟩
  rcases h1 with ⟨rfl, hz⟩ | ⟨g, off, cap, rfl, h4, h5, h6⟩
  · exact .inl ⟨rfl, by rw [List.eq_nil_of_length_eq_zero hz]; rfl⟩
  · exact .inr ⟨g, off, cap, by rw [ks_length], h4, by rw [ks_length]; exact h5, h6⟩
end Go.Proofs.Ytlgfpoelhjlifaa
