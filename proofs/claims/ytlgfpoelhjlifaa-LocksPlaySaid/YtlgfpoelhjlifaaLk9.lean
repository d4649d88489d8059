/- Locks by names: what a law's script is; heavy, has. -/
import Derived.Test.YtlgfpoelhjlifaaTa
import Derived.Test.YtlgfpoelhjlifaaLk8
import Derived.Test.YtlgfpoelhjlifaaSx18
namespace Go.Proofs.Ytlgfpoelhjlifaa
open Go Go.Sx
set_option maxRecDepth 100000
set_option maxHeartbeats 4000000
set_option linter.unusedVariables false
set_option linter.unusedSimpArgs false
attribute [local irreducible] J JQ QS Con W opW
theorem sz52 : (Try.prog.info? 52).map (·.size) = some 4 := by kernel_rfl

open Go.MapKept Go.WideMaps Go.Maps
/-- a step of a script -/
structure St where
  kind : Int
  task : Int
  name : List UInt8
  sh : Bool
def encS (x : St) : List Value := [.int .i64 x.kind, .int .i64 x.task, .string (bs x.name), .bool x.sh]
theorem encS_len (x : St) : (encS x).length = 4 := rfl
def St.Ok (x : St) : Prop := intOk x.kind ∧ intOk x.task ∧ x.name.length ≤ 140737488351232
theorem St.Ok.str {x : St} (h : x.Ok) : strOk x.name := by have := h.2.2; show x.name.length ≤ 9223372036854775807; omega
abbrev steps (rs : List St) : List Value := (rs.map encS).flatten
abbrev St0 : St := ⟨0, 0, [], false⟩
theorem steps_get {rs : List St} {i k : Nat} {u : Value} (h : i < rs.length) (hk : (encS (rs.getD i St0))[k]? = some u) : (steps rs)[i * 4 + k]? = some u := by
  have hk4 : k < 4 := by
    have := (List.getElem?_eq_some_iff.1 hk).1
    rw [encS_len] at this
    exact this
  rw [flat_get encS_len rs i k hk4, List.getElem?_eq_getElem h]
  rw [List.getD_eq_getElem?_getD, List.getElem?_eq_getElem h] at hk
  exact hk
theorem steps_take {rs : List St} {i : Nat} (h : i < rs.length) : ((steps rs).drop (i * 4)).take 4 = encS (rs.getD i St0) := by
  apply List.ext_getElem?
  intro k
  rw [List.getElem?_take]
  by_cases hk : k < 4
  · rw [if_pos hk, List.getElem?_drop]
    obtain ⟨u, hu⟩ : ∃ u, (encS (rs.getD i St0))[k]? = some u := ⟨_, List.getElem?_eq_getElem (by rw [encS_len]; exact hk)⟩
    rw [hu]
    exact steps_get h hu
  · rw [if_neg hk]
    symm
    rw [List.getElem?_eq_none_iff, encS_len]
    omega
/-- a script that a law was handed -/
def Script (w : World) (v : Value) (rs : List St) : Prop := RSlN 4 w v (steps rs) rs.length ∧ ∀ x ∈ rs, x.Ok
theorem script_form {w : World} {v : Value} {rs : List St} (h : Script w v rs) : ∃ A cap g off, v = .slice A rs.length cap ∧ rs.length ≤ cap ∧ (0 < rs.length → A = some ⟨g, off, none⟩ ∧ g < w.heap.size ∧ Cells w ⟨g, off, none⟩ (steps rs)) := rsln_form h.1
theorem script_keep {w w' : World} {v : Value} {rs : List St} (h : Script w v rs) {S : List SH} (hs : Sig ⟨w, dom []⟩ S w') : Script w' v rs := ⟨rsln_keep h.1 hs, h.2⟩
theorem script_ok {w : World} {v : Value} {rs : List St} (h : Script w v rs) {i : Nat} (hi : i < rs.length) : (rs.getD i St0).Ok := by
  refine h.2 _ ?_
  rw [List.getD_eq_getElem?_getD, List.getElem?_eq_getElem hi, Option.getD_some]
  exact List.getElem_mem hi
theorem off_field (g off : Nat) (i : Nat) (k : Nat) : (⟨g, off + (i : Int).toNat * 4 + k, none⟩ : Addr) = (⟨g, off, none⟩ : Addr).add (i * 4 + k) := by
  rw [add_off, Int.toNat_natCast, Nat.add_assoc]
def hasI (l : List Int) (n : Int) : Bool := l.any fun x => x == n
theorem hasI_iff {l : List Int} {n : Int} : hasI l n = true ↔ n ∈ l := by
  unfold hasI
  rw [List.any_eq_true]
  constructor
  · rintro ⟨x, hx, e⟩
    rw [← beq_iff_eq.1 e]
    exact hx
  · exact fun h => ⟨n, h, by simp⟩
def weight (rs : List St) (i : Nat) : Nat := ((rs.take i).map fun x => x.name.length).sum
theorem weight_succ {rs : List St} {i : Nat} (h : i < rs.length) : weight rs (i + 1) = weight rs i + (rs.getD i St0).name.length := by
  unfold weight
  rw [List.take_add_one, List.getElem?_eq_getElem h, List.map_append, List.sum_append, List.getD_eq_getElem?_getD, List.getElem?_eq_getElem h]
  simp
theorem weight_mono {rs : List St} {i j : Nat} (h : i ≤ j) : weight rs i ≤ weight rs j := by
  unfold weight
  have e : rs.take i = (rs.take j).take i := by rw [List.take_take, Nat.min_eq_left h]
  rw [e]
  conv => rhs; rw [← List.take_append_drop i (rs.take j), List.map_append, List.sum_append]
  omega
theorem weight_top {rs : List St} {i : Nat} (h : rs.length ≤ i ∨ 200 ≤ i) : weight rs 200 ≤ weight rs i := by
  rcases h with h | h
  · have e : weight rs i = weight rs (max i 200) := by unfold weight; rw [List.take_of_length_le h, List.take_of_length_le (by omega)]
    rw [e]
    exact weight_mono (by omega)
  · exact weight_mono h
/-- more than is looked at -/
def heavyF (rs : List St) : Bool := decide (4000 < weight rs 200)
theorem light {rs : List St} (h : heavyF rs = false) {i : Nat} (hi : i < rs.length) (h2 : i < 200) : (rs.getD i St0).name.length ≤ 4000 := by
  have h1 : ¬ 4000 < weight rs 200 := of_decide_eq_false h
  have h3 : weight rs (i + 1) ≤ weight rs 200 := weight_mono (by omega)
  have := weight_succ hi
  omega
/-- pantry.pantrylaw12.heavy -/
theorem heavy_con (rs : List St) (v : Value) (w : World) (h : Script w v rs) (hl : rs.length ≤ 4611686018427387903) : Con Try.prog 22 [v] w [] fun u _ => u = .bool (heavyF rs) := by
  refine con_of_tree mix Try.func22 T22_ok (by kernel_rfl) ?_
  unfold T22
  obtain ⟨A, cap, g, off, rfl, hcap, hA⟩ := script_form h
  refine j_q (qs_ac) ?_
  refine j_q (qs_ac) ?_
  refine j_q (qs_ac) ?_
  refine j_loop (fun m vs S' => ∃ i : Nat, vs = [.int .i64 (weight rs i : Nat), .int .i64 (i : Int)] ∧ S' = [[]] ∧ weight rs i ≤ 4000 ∧ i ≤ rs.length ∧ m = rs.length - i) ⟨_, 0, rfl, rfl, Nat.zero_le _, Nat.zero_le _, rfl⟩ ?_
  rintro m vs S' hlen ⟨i, rfl, rfl, hwt, hi, rfl⟩
  refine j_q (qs_lenl Try.underlying43 rfl) ?_
  refine j_q (qs_lss rfl rfl) ?_
  refine j_g rfl (fun hb => qs_mt rfl) ?_
  refine j_g rfl (fun hb => qs_lss (gd_eq hb) rfl) ?_
  refine j_q (qs_and rfl rfl) ?_
  refine j_cond rfl (fun hc0 => ?_) (fun hc0 => ?_)
  · skip
    have hi1 : i < rs.length ∧ i < 200 := by
      simp [gd] at hc0
      omega
    obtain ⟨hi1, hi200⟩ := hi1
    obtain ⟨rfl, hgs, hcl⟩ := hA (by omega)
    have hrd : Rd (⟨w, dom []⟩ : Base) [[]] ⟨g, off, none⟩ (steps rs) := rd_cells hcl (by simp)
    have hws := weight_succ hi1
    have hnl := (script_ok h hi1).2.2
    refine j_q (qs_ixl Try.underlying43 sz52 rfl rfl (by first | omega | (simp only [Bool.and_eq_true, Bool.or_eq_true, Bool.and_eq_false_iff, Bool.or_eq_false_iff, Bool.not_eq_true', Bool.not_eq_false', decide_eq_true_eq, decide_eq_false_iff_not, beq_iff_eq, beq_eq_false_iff_ne, bne_iff_ne, bne_eq_false_iff_eq, ne_eq, Int.toNat_natCast] at *; omega)) (by first | omega | (simp only [Bool.and_eq_true, Bool.or_eq_true, Bool.and_eq_false_iff, Bool.or_eq_false_iff, Bool.not_eq_true', Bool.not_eq_false', decide_eq_true_eq, decide_eq_false_iff_not, beq_iff_eq, beq_eq_false_iff_ne, bne_iff_ne, bne_eq_false_iff_eq, ne_eq, Int.toNat_natCast] at *; omega))) ?_
    refine j_q (qs_field (g := g) (off := off + (i : Int).toNat * 4) Try.underlying52 rfl sz9 (by decide) (by rw [add_off]; rfl)) ?_
    refine j_q (qs_loadR (v := .string (bs (rs.getD i St0).name)) (a := ⟨g, off, none⟩) (i := i * 4 + 2) hrd Try.underlying9 rfl (congrArg (fun a => Value.pointer (some a)) (off_field g off i 2)) (steps_get (by omega) rfl)) ?_
    refine j_q (qs_lens Try.underlying9 rfl) ?_
    refine j_q (qs_add64 rfl rfl (by first | omega | (simp only [Bool.and_eq_true, Bool.or_eq_true, Bool.and_eq_false_iff, Bool.or_eq_false_iff, Bool.not_eq_true', Bool.not_eq_false', decide_eq_true_eq, decide_eq_false_iff_not, beq_iff_eq, beq_eq_false_iff_ne, bne_iff_ne, bne_eq_false_iff_eq, ne_eq, Int.toNat_natCast] at *; omega))) ?_
    refine j_q (qs_gtr rfl rfl) ?_
    refine j_cond rfl (fun hc1 => ?_) (fun hc1 => ?_)
    · skip
      have hle : 4000 < weight rs (i + 1) := by
        have h1 : ((weight rs i : Nat) : Int) + ((rs.getD i St0).name.length : Nat) > 4000 := by simpa using hc1
        omega
      refine j_q (qs_ac) ?_
      refine j_ret_con (vs := [_]) (fun w' hw' => ⟨rfl, trivial⟩) ?_
      show Value.bool _ = _
      congr 1
      symm
      exact decide_eq_true (Nat.lt_of_lt_of_le hle (weight_mono (by omega)))
    · skip
      have hle : weight rs (i + 1) ≤ 4000 := by
        have h1 : ¬ ((weight rs i : Nat) : Int) + ((rs.getD i St0).name.length : Nat) > 4000 := by simpa using hc1
        omega
      refine j_q (qs_add64 rfl rfl (by first | omega | (simp only [Bool.and_eq_true, Bool.or_eq_true, Bool.and_eq_false_iff, Bool.or_eq_false_iff, Bool.not_eq_true', Bool.not_eq_false', decide_eq_true_eq, decide_eq_false_iff_not, beq_iff_eq, beq_eq_false_iff_ne, bne_iff_ne, bne_eq_false_iff_eq, ne_eq, Int.toNat_natCast] at *; omega))) ?_
      refine j_back rfl ?_
      exact ⟨rs.length - (i + 1), by omega, i + 1, by rw [hws]; rfl, rfl, hle, by omega, rfl⟩
  · skip
    have hend : rs.length ≤ i ∨ 200 ≤ i := by
      by_cases h1 : i < rs.length
      · simp [gd, h1] at hc0
        omega
      · omega
    refine j_q (qs_ac) ?_
    refine j_ret_con (vs := [_]) (fun w' hw' => ⟨rfl, trivial⟩) ?_
    show Value.bool _ = _
    congr 1
    symm
    exact decide_eq_false (Nat.not_lt.2 (Nat.le_trans (weight_top hend) hwt))
/-- pantry.pantrylaw12.has -/
theorem hasL_con (l : List Int) (t : Int) (v : Value) (w : World) (h : RSl w v (ks .i64 l)) (hl : l.length ≤ 4611686018427387903) : Con Try.prog 35 [v, .int .i64 t] w [] fun u _ => u = .bool (hasI l t) := by
  refine con_of_tree mix Try.func35 T35_ok (by kernel_rfl) ?_
  unfold T35
  obtain ⟨A, c, rfl, hc'⟩ := rsl_form h
  rw [ks_length] at h hc' ⊢
  refine j_q (qs_ac) ?_
  refine j_q (qs_ac) ?_
  refine j_loop (fun m vs S' => ∃ i : Nat, vs = [.int .i64 (i : Int)] ∧ S' = [[]] ∧ hasI (l.take i) t = false ∧ i ≤ l.length ∧ m = l.length - i) ⟨_, 0, rfl, rfl, rfl, Nat.zero_le _, rfl⟩ ?_
  rintro m vs S' hlen ⟨i, rfl, rfl, hno, hi, rfl⟩
  refine j_q (qs_lenl Try.underlying36 rfl) ?_
  refine j_q (qs_lss rfl rfl) ?_
  refine j_cond rfl (fun hc0 => ?_) (fun hc0 => ?_)
  · skip
    have hi1 : i < l.length := by
      simp only [Bool.and_eq_true, Bool.or_eq_true, Bool.and_eq_false_iff, Bool.or_eq_false_iff, Bool.not_eq_true', Bool.not_eq_false', decide_eq_true_eq, decide_eq_false_iff_not, beq_iff_eq, beq_eq_false_iff_ne, bne_iff_ne, bne_eq_false_iff_eq, ne_eq, Int.toNat_natCast] at *
      omega
    obtain ⟨g1, o1, rfl, _, hcells1⟩ := rsl_addr h (by rw [ks_length]; omega)
    have htk : l.take (i + 1) = l.take i ++ [l.getD i 0] := by
      rw [List.take_add_one, List.getElem?_eq_getElem hi1, List.getD_eq_getElem?_getD, List.getElem?_eq_getElem hi1]
      rfl
    refine j_q (qs_ixl0 Try.underlying36 sz3 rfl rfl ⟨(by first | omega | (simp only [Bool.and_eq_true, Bool.or_eq_true, Bool.and_eq_false_iff, Bool.or_eq_false_iff, Bool.not_eq_true', Bool.not_eq_false', decide_eq_true_eq, decide_eq_false_iff_not, beq_iff_eq, beq_eq_false_iff_ne, bne_iff_ne, bne_eq_false_iff_eq, ne_eq, Int.toNat_natCast] at *; omega)), (by first | omega | (simp only [Bool.and_eq_true, Bool.or_eq_true, Bool.and_eq_false_iff, Bool.or_eq_false_iff, Bool.not_eq_true', Bool.not_eq_false', decide_eq_true_eq, decide_eq_false_iff_not, beq_iff_eq, beq_eq_false_iff_ne, bne_iff_ne, bne_eq_false_iff_eq, ne_eq, Int.toNat_natCast] at *; omega))⟩) ?_
    refine j_q (qs_loadrk (rd_cells hcells1 (by simp)) Try.underlying3 rfl (by simp only [Int.toNat_natCast]; omega)) ?_
    simp only [Int.toNat_natCast]
    refine j_q (qs_eql rfl rfl) ?_
    refine j_cond rfl (fun hc1 => ?_) (fun hc1 => ?_)
    · skip
      have hd : l.getD i 0 = t := by simpa using hc1
      refine j_q (qs_ac) ?_
      refine j_ret_con (vs := [_]) (fun w' hw' => ⟨rfl, trivial⟩) ?_
      show Value.bool _ = _
      congr 1
      symm
      rw [hasI_iff, ← hd, List.getD_eq_getElem?_getD, List.getElem?_eq_getElem hi1, Option.getD_some]
      exact List.getElem_mem hi1
    · skip
      have hd : l.getD i 0 ≠ t := by simpa using hc1
      refine j_q (qs_add64 rfl rfl (by first | omega | (simp only [Bool.and_eq_true, Bool.or_eq_true, Bool.and_eq_false_iff, Bool.or_eq_false_iff, Bool.not_eq_true', Bool.not_eq_false', decide_eq_true_eq, decide_eq_false_iff_not, beq_iff_eq, beq_eq_false_iff_ne, bne_iff_ne, bne_eq_false_iff_eq, ne_eq, Int.toNat_natCast] at *; omega))) ?_
      refine j_back rfl ?_
      exact ⟨l.length - (i + 1), by omega, i + 1, rfl, rfl, by rw [htk]; unfold hasI at hno ⊢; rw [List.any_append, hno]; simpa using hd, by omega, rfl⟩
  · skip
    have hi1 : i = l.length := by
      simp only [Bool.and_eq_true, Bool.or_eq_true, Bool.and_eq_false_iff, Bool.or_eq_false_iff, Bool.not_eq_true', Bool.not_eq_false', decide_eq_true_eq, decide_eq_false_iff_not, beq_iff_eq, beq_eq_false_iff_ne, bne_iff_ne, bne_eq_false_iff_eq, ne_eq, Int.toNat_natCast] at *
      omega
    rw [hi1, List.take_of_length_le (Nat.le_refl _)] at hno
    refine j_q (qs_ac) ?_
    refine j_ret_con (vs := [_]) (fun w' hw' => ⟨rfl, trivial⟩) ?_
    rw [hno]
    rfl
end Go.Proofs.Ytlgfpoelhjlifaa
