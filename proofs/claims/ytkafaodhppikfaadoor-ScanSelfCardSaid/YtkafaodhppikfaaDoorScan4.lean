/- Refs: what the program's and the document's functions answer; the small functions of the laws. -/
import Derived.Test.YtkafaodhppikfaaDoorTa
import Derived.Test.YtkafaodhppikfaaDoorScan3
namespace Go.Proofs.YtkafaodhppikfaaDoor
open Go Go.Sx
set_option maxRecDepth 100000
set_option maxHeartbeats 4000000
set_option linter.unusedVariables false
set_option linter.unusedSimpArgs false
attribute [local irreducible] J JQ QS Con W opW
theorem ent33 : Sx.Enters Tryd.prog 33 := ⟨_, Tryd.func33, by kernel_rfl, by kernel_rfl⟩
theorem ent34 : Sx.Enters Tryd.prog 34 := ⟨_, Tryd.func34, by kernel_rfl, by kernel_rfl⟩
theorem ent35 : Sx.Enters Tryd.prog 35 := ⟨_, Tryd.func35, by kernel_rfl, by kernel_rfl⟩
theorem ent46 : Sx.Enters Tryd.prog 46 := ⟨_, Tryd.func46, by kernel_rfl, by kernel_rfl⟩
theorem ent47 : Sx.Enters Tryd.prog 47 := ⟨_, Tryd.func47, by kernel_rfl, by kernel_rfl⟩

open Go.MapKept Go.WideMaps Go.Maps
def kP : List UInt8 := [48, 48, 48, 48, 48, 48, 48, 48, 48, 48, 48, 48, 48, 48, 48, 48, 48, 48, 48, 48, 48, 48, 48, 48, 48, 48, 48, 48, 48, 48, 48, 48, 45, 97]
def kQ : List UInt8 := [49, 48, 48, 48, 48, 48, 48, 48, 48, 48, 48, 48, 48, 48, 48, 48, 48, 48, 48, 48, 48, 48, 48, 48, 48, 48, 48, 48, 48, 48, 48, 48, 45, 98]
theorem kP_path : isPath kP = true := by decide +kernel
theorem kQ_path : isPath kQ = true := by decide +kernel
def standsB (l d : List UInt8) : Bool := (List.range (l.length + 1)).any fun j => decide (j + 32 ≤ l.length) && ((l.drop j).take 32 == d)
theorem standsB_iff {l d : List UInt8} : standsB l d = true ↔ Win l l.length d := by
  unfold standsB Win
  rw [List.any_eq_true]
  simp only [List.mem_range, Bool.and_eq_true, decide_eq_true_eq, beq_iff_eq]
  constructor
  · rintro ⟨j, _, h1, h2⟩
    exact ⟨j, h1, h2⟩
  · rintro ⟨j, h1, h2⟩
    exact ⟨j, by omega, h1, h2⟩
theorem kP_win : standsB ([120] ++ kP) (kP.take 32) = true := by decide +kernel
theorem kQ_win : standsB ([120] ++ kP) (kQ.take 32) = false := by decide +kernel
theorem standsB_no {l d : List UInt8} {i : Nat} (h : ∀ j, j < i → (l.drop j).take 32 ≠ d) (hi : l.length < i + 32) : standsB l d = false := by
  rw [Bool.eq_false_iff]
  intro hb
  obtain ⟨j, h1, h2⟩ := standsB_iff.1 hb
  exact h j (by omega) h2
theorem standsB_yes {l d : List UInt8} {i : Nat} (hi : i + 32 ≤ l.length) (h : (l.drop i).take 32 = d) : standsB l d = true := standsB_iff.2 ⟨i, hi, h⟩
theorem nodup_le {α : Type} [DecidableEq α] : ∀ {l m : List α}, l.Nodup → (∀ x ∈ l, x ∈ m) → l.length ≤ m.length
  | [], _, _, _ => by simp
  | a :: l, m, hn, h => by
    rw [List.nodup_cons] at hn
    have ha := h a (by simp)
    have := nodup_le (l := l) (m := m.erase a) hn.2 fun x hx => (List.mem_erase_of_ne (by rintro rfl; exact hn.1 hx)).2 (h x (by simp [hx]))
    rw [List.length_erase_of_mem ha] at this
    have hp := List.length_pos_of_mem ha
    simp only [List.length_cons]
    omega
/-- what stood before is none of what is new -/
theorem rsl_fresh {w w' : World} {v : Value} {vs : List Value} {c : SH} (h : RSl w v vs) (hs : Sig ⟨w, dom []⟩ [c] w') : ∀ a n cap, v = .slice (some a) n cap → a.block ∉ dom c := fun a n cap hv hm => by
  rcases h with ⟨h1, _⟩ | ⟨g, off, cap', h1, h2, _⟩
  · rw [h1] at hv; cases hv
  · rw [h1] at hv
    injection hv with hv
    injection hv with hv
    subst hv
    rcases hs.dom_ g (by simpa using hm) with hd | hd
    · simp at hd
    · exact absurd h2 (Nat.not_lt.2 hd)
theorem fnd_mem {m3 : List (List UInt8 × Value)} {ps : List (List UInt8)} {l : List UInt8} (h : Fnd [] m3 ps l l.length) (x : List UInt8) : x ∈ m3.map Prod.fst ↔ x ∈ ps ∧ isPath x = true ∧ Win l l.length (x.take 32) := by
  rw [h x]
  simp
theorem get_le {rs : List (List UInt8)} {M : Nat} (h : ∀ r ∈ rs, r.length ≤ M) {i : Nat} (hi : i < rs.length) : (rs.getD i []).length ≤ M := by
  refine h _ ?_
  rw [List.getD_eq_getElem?_getD, List.getElem?_eq_getElem hi]
  exact List.getElem_mem hi
theorem spAE {p : List UInt8} (h : (spE p == 0) = true) : isPath p = true ∧ spA p = p.take 32 ∧ (spA p).length = 32 := by
  have hp : isPath p = true := by
    rw [spE_eq] at h
    exact h
  exact ⟨hp, spA_yes hp, by rw [spA_yes hp]; exact path_take_len hp⟩
attribute [local irreducible] isName isPath spA spB spE cp sortS rise dg PT ofDig Fnd RunOk Win isDig standsB kP kQ
/-- (*pantry.scan.search).told -/
theorem told_con (gs g2 : Nat) (es2 : Array MapEntry) (ck2 : Nat) (m2 : List (List UInt8 × Value)) (w : World) (hc : w.cell? ⟨gs, 1, none⟩ = some (.map (some g2))) (hg : w.heap[g2]? = some (.map es2 ck2)) (hm : MapOk strEnc strOk es2 ck2 m2) (hn : m2.length ≤ 1000000000) : Con Tryd.prog 35 [.pointer (some ⟨gs, 0, none⟩)] w [] fun v S' => ∃ c zs, S' = [c] ∧ Sx.Own 23 1 (strs zs) v c ∧ Strict zs ∧ ∀ x, x ∈ zs ↔ x ∈ m2.map Prod.fst := by
  refine con_of_tree mix Tryd.func35 T35_ok (by kernel_rfl) ?_
  unfold T35
  refine j_q (qs_ac) ?_
  refine j_q (qs_nil rfl) ?_
  refine j_q (qs_field Tryd.underlying88 rfl sz86 (by decide) rfl) ?_
  refine j_q (qs_loadr Tryd.underlying86 rfl rfl hc (by simp)) ?_
  refine j_call0 ent47 rfl rfl rfl (fun w' hw' => keys_con (some g2) w') (fun u S2 hu => ?_)
  obtain ⟨g4, rfl, rfl⟩ := hu
  refine j_call0 ent46 rfl rfl rfl (fun w' hw' => sortedKeys_con g4 g2 w' (lt_of_get (hw'.at_ (k := 0) rfl)) (by rw [cell_of (hw'.at_ (k := 0) rfl)]; rfl) (by rw [hw'.frame g2 (lt_of_get hg) (by simp)]; exact hg) hm hn) (fun u S2 hu => ?_)
  obtain ⟨c, zs, rfl, ho, hs, hmem⟩ := hu
  refine j_subl (S' := [c]) (by repeat first | exact List.Sublist.refl _ | exact List.nil_sublist _ | apply List.Sublist.cons_cons | apply List.Sublist.cons) ?_
  refine j_ret_con (vs := [_]) (fun w' hw' => ⟨rfl, trivial⟩) ?_
  exact ⟨c, zs, rfl, ho, hs, hmem⟩
/-- pantry.scan.Refs -/
theorem refs_con (l : List UInt8) (vb : Value) (rs : List (List UInt8)) (vr : Value) (w : World) (hvb : RSl w vb (ints l)) (hvr : StrSl w vr rs) (hl : l.length ≤ 4611686018427387903) (hn : rs.length ≤ 90000) (hr : ∀ r ∈ rs, r.length ≤ 9223372036854775807) : Con Tryd.prog 23 [vb, vr] w [] fun u S' => ∃ c zs, S' = [c] ∧ Sx.Own 23 1 (strs zs) u c ∧ Strict zs ∧ ∀ x, x ∈ zs ↔ x ∈ rs ∧ isPath x = true ∧ Win l l.length (x.take 32) := by
  refine con_of_tree mix Tryd.func23 T23_ok (by kernel_rfl) ?_
  unfold T23
  refine j_q (qs_ac) ?_
  refine j_call0 ent33 rfl rfl rfl (fun w' hw' => begins_con rs vr w' (strsl_keep hvr hw') hn hr) (fun u S2 hu => ?_)
  obtain ⟨gs, g1, g2, es, ck, m1, rows, rfl, rfl, hm1, hpt⟩ := hu
  refine j_perm (S' := [((gs, .cells [.map (some g1), .map (some g2)].toArray 88 (0, 0)) :: (g2, .map #[] 0) :: (g1, .map es ck) :: rows)]) (by simp) ?_
  refine j_call 0 ent34 rfl rfl rfl rfl (fun w' hw' => in_con gs g1 g2 es #[] ck 0 m1 [] rows rs l vb w' (rsl_keep hvb hw') (rsl_fresh hvb hw') hm1 hpt mapOk_nil hr hn hl) (fun u S2 hu => ?_)
  obtain ⟨es3, ck3, m3, rfl, rfl, hm3, hfnd⟩ := hu
  have hmem := fnd_mem hfnd
  have hlen : m3.length ≤ rs.length := by
    have := nodup_le hm3.nodup (m := rs) fun x hx => ((hmem x).1 hx).1
    rwa [List.length_map] at this
  refine j_call0 ent35 rfl rfl rfl (fun w' hw' => told_con gs g2 es3 ck3 m3 w' (by rw [cell_of (hw'.at_ (k := 0) rfl)]; rfl) (hw'.at_ (k := 1) rfl) hm3 (by omega)) (fun u S2 hu => ?_)
  obtain ⟨c, zs, rfl, ho, hs, hz⟩ := hu
  refine j_subl (S' := [c]) (by repeat first | exact List.Sublist.refl _ | exact List.nil_sublist _ | apply List.Sublist.cons_cons | apply List.Sublist.cons) ?_
  refine j_ret_con (vs := [_]) (fun w' hw' => ⟨rfl, trivial⟩) ?_
  exact ⟨c, zs, rfl, ho, hs, fun x => (hz x).trans (hmem x)⟩
/-- pantry.pantrylaw6.paths -/
theorem paths_con (rs : List (List UInt8)) (v1 v2 : Value) (w : World) (hv1 : StrSl w v1 rs) (hv2 : StrSl w v2 rs) (hn : rs.length ≤ 90000) : Con Tryd.prog 22 [v1, v2] w [] fun u _ => u = .bool true := by
  refine con_of_tree mix Tryd.func22 T22_ok (by kernel_rfl) ?_
  unfold T22
  obtain ⟨A1, cap1, rfl, hcap1⟩ := strsl_form hv1
  obtain ⟨A2, cap2, rfl, hcap2⟩ := strsl_form hv2
  refine j_q (qs_ac) ?_
  refine j_q (qs_lenl Tryd.underlying55 rfl) ?_
  refine j_q (qs_lenl Tryd.underlying55 rfl) ?_
  refine j_q (qs_neq rfl rfl) ?_
  refine j_cond rfl (fun hc0 => ?_) (fun hc0 => ?_)
  · skip
    simp at hc0
  · skip
    refine j_q (qs_ac) ?_
    refine j_loop (fun m vs S' => ∃ i : Nat, vs = [.int .i64 (i : Int)] ∧ S' = [[]] ∧ i ≤ rs.length ∧ m = rs.length - i) ⟨_, 0, rfl, rfl, Nat.zero_le _, rfl⟩ ?_
    rintro m vs S' hlen ⟨i, rfl, rfl, hin, rfl⟩
    refine j_q (qs_lenl Tryd.underlying55 rfl) ?_
    refine j_q (qs_lss rfl rfl) ?_
    refine j_cond rfl (fun hc1 => ?_) (fun hc1 => ?_)
    · skip
      have hi : i < rs.length := by
        simp only [Bool.and_eq_true, Bool.or_eq_true, Bool.and_eq_false_iff, Bool.or_eq_false_iff, Bool.not_eq_true', Bool.not_eq_false', decide_eq_true_eq, decide_eq_false_iff_not, beq_iff_eq, beq_eq_false_iff_ne, bne_iff_ne, bne_eq_false_iff_eq, ne_eq, Int.toNat_natCast] at *
        omega
      obtain ⟨ga, off, rfl, hga, hcells⟩ := strsl_addr hv1 (by omega)
      obtain ⟨ga2, off2, rfl, hga2, hcells2⟩ := strsl_addr hv2 (by omega)
      refine j_draw ?_
      refine jq_q (qs_ixl0 Tryd.underlying55 sz23 rfl rfl ⟨(by first | omega | (simp only [Bool.and_eq_true, Bool.or_eq_true, Bool.and_eq_false_iff, Bool.or_eq_false_iff, Bool.not_eq_true', Bool.not_eq_false', decide_eq_true_eq, decide_eq_false_iff_not, beq_iff_eq, beq_eq_false_iff_ne, bne_iff_ne, bne_eq_false_iff_eq, ne_eq, Int.toNat_natCast] at *; omega)), (by first | omega | (simp only [Bool.and_eq_true, Bool.or_eq_true, Bool.and_eq_false_iff, Bool.or_eq_false_iff, Bool.not_eq_true', Bool.not_eq_false', decide_eq_true_eq, decide_eq_false_iff_not, beq_iff_eq, beq_eq_false_iff_ne, bne_iff_ne, bne_eq_false_iff_eq, ne_eq, Int.toNat_natCast] at *; omega))⟩) ?_
      refine jq_q (qs_loadrs (rd_cells hcells (by simp)) Tryd.underlying23 rfl (by simp only [Int.toNat_natCast]; omega)) ?_
      refine jq_q (qs_ixl0 Tryd.underlying55 sz23 rfl rfl ⟨(by first | omega | (simp only [Bool.and_eq_true, Bool.or_eq_true, Bool.and_eq_false_iff, Bool.or_eq_false_iff, Bool.not_eq_true', Bool.not_eq_false', decide_eq_true_eq, decide_eq_false_iff_not, beq_iff_eq, beq_eq_false_iff_ne, bne_iff_ne, bne_eq_false_iff_eq, ne_eq, Int.toNat_natCast] at *; omega)), (by first | omega | (simp only [Bool.and_eq_true, Bool.or_eq_true, Bool.and_eq_false_iff, Bool.or_eq_false_iff, Bool.not_eq_true', Bool.not_eq_false', decide_eq_true_eq, decide_eq_false_iff_not, beq_iff_eq, beq_eq_false_iff_ne, bne_iff_ne, bne_eq_false_iff_eq, ne_eq, Int.toNat_natCast] at *; omega))⟩) ?_
      refine jq_q (qs_loadrs (rd_cells hcells2 (by simp)) Tryd.underlying23 rfl (by simp only [Int.toNat_natCast]; omega)) ?_
      refine jq_q (qs_sneq rfl rfl) ?_
      refine jq_nil ?_
      refine j_cond rfl (fun hc2 => ?_) (fun hc2 => ?_)
      · skip
        simp at hc2
      · skip
        refine j_q (qs_add64 rfl rfl (by first | omega | (simp only [Bool.and_eq_true, Bool.or_eq_true, Bool.and_eq_false_iff, Bool.or_eq_false_iff, Bool.not_eq_true', Bool.not_eq_false', decide_eq_true_eq, decide_eq_false_iff_not, beq_iff_eq, beq_eq_false_iff_ne, bne_iff_ne, bne_eq_false_iff_eq, ne_eq, Int.toNat_natCast] at *; omega))) ?_
        refine j_back rfl ?_
        exact ⟨rs.length - (i + 1), by omega, i + 1, rfl, rfl, by omega, rfl⟩
    · skip
      refine j_q (qs_ac) ?_
      refine j_ret_con (vs := [_]) (fun w' hw' => ⟨rfl, trivial⟩) ?_
      rfl
end Go.Proofs.YtkafaodhppikfaaDoor
