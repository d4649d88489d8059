/- Refs: what the program's and the document's functions answer; the small functions of the laws. -/
import Derived.Test.YtkafaodhppikfaaTa
import Derived.Test.YtkafaodhppikfaaScan3
namespace Go.Proofs.Ytkafaodhppikfaa
open Go Go.Sx
set_option maxRecDepth 100000
set_option maxHeartbeats 4000000
set_option linter.unusedVariables false
set_option linter.unusedSimpArgs false
attribute [local irreducible] J JQ QS Con W opW
theorem ent16 : Sx.Enters Try.prog 16 := ⟨_, Try.func16, by kernel_rfl, by kernel_rfl⟩
theorem ent29 : Sx.Enters Try.prog 29 := ⟨_, Try.func29, by kernel_rfl, by kernel_rfl⟩
theorem ent30 : Sx.Enters Try.prog 30 := ⟨_, Try.func30, by kernel_rfl, by kernel_rfl⟩
theorem ent31 : Sx.Enters Try.prog 31 := ⟨_, Try.func31, by kernel_rfl, by kernel_rfl⟩
theorem ent33 : Sx.Enters Try.prog 33 := ⟨_, Try.func33, by kernel_rfl, by kernel_rfl⟩
theorem ent45 : Sx.Enters Try.prog 45 := ⟨_, Try.func45, by kernel_rfl, by kernel_rfl⟩
theorem ent46 : Sx.Enters Try.prog 46 := ⟨_, Try.func46, by kernel_rfl, by kernel_rfl⟩

open Go.MapKept Go.WideMaps Go.Maps
def kP : List UInt8 := [48, 48, 48, 48, 48, 48, 48, 48, 48, 48, 48, 48, 48, 48, 48, 48, 48, 48, 48, 48, 48, 48, 48, 48, 48, 48, 48, 48, 48, 48, 48, 48, 45, 97]
def kQ : List UInt8 := [49, 48, 48, 48, 48, 48, 48, 48, 48, 48, 48, 48, 48, 48, 48, 48, 48, 48, 48, 48, 48, 48, 48, 48, 48, 48, 48, 48, 48, 48, 48, 48, 45, 98]
theorem kP_path : isPath kP = true := by decide +kernel
theorem kQ_path : isPath kQ = true := by decide +kernel
def standsB (l d : List UInt8) : Bool := (List.range (l.length + 1)).any fun j => decide (j + 32 ≤ l.length) && ((l.drop j).take 32 == d)
theorem standsB_iff {l d : List UInt8} : standsB l d = true ↔ Win l l.length d := by
  unfold standsB Win
  rw [List.any_eq_true]
  simp only [List.mem_range, Bool.and_eq_true, decide_eq_true_eq, beq_iff_eq]
  constructor
  · rintro ⟨j, _, h1, h2⟩
    exact ⟨j, h1, h2⟩
  · rintro ⟨j, h1, h2⟩
    exact ⟨j, by omega, h1, h2⟩
theorem kP_win : standsB ([120] ++ kP) (kP.take 32) = true := by decide +kernel
theorem kQ_win : standsB ([120] ++ kP) (kQ.take 32) = false := by decide +kernel
theorem standsB_no {l d : List UInt8} {i : Nat} (h : ∀ j, j < i → (l.drop j).take 32 ≠ d) (hi : l.length < i + 32) : standsB l d = false := by
  rw [Bool.eq_false_iff]
  intro hb
  obtain ⟨j, h1, h2⟩ := standsB_iff.1 hb
  exact h j (by omega) h2
theorem standsB_yes {l d : List UInt8} {i : Nat} (hi : i + 32 ≤ l.length) (h : (l.drop i).take 32 = d) : standsB l d = true := standsB_iff.2 ⟨i, hi, h⟩
theorem nodup_le {α : Type} [DecidableEq α] : ∀ {l m : List α}, l.Nodup → (∀ x ∈ l, x ∈ m) → l.length ≤ m.length
  | [], _, _, _ => by simp
  | a :: l, m, hn, h => by
    rw [List.nodup_cons] at hn
    have ha := h a (by simp)
    have := nodup_le (l := l) (m := m.erase a) hn.2 fun x hx => (List.mem_erase_of_ne (by rintro rfl; exact hn.1 hx)).2 (h x (by simp [hx]))
    rw [List.length_erase_of_mem ha] at this
    have hp := List.length_pos_of_mem ha
    simp only [List.length_cons]
    omega
/-- what stood before is none of what is new -/
theorem rsl_fresh {w w' : World} {v : Value} {vs : List Value} {c : SH} (h : RSl w v vs) (hs : Sig ⟨w, dom []⟩ [c] w') : ∀ a n cap, v = .slice (some a) n cap → a.block ∉ dom c := fun a n cap hv hm => by
  rcases h with ⟨h1, _⟩ | ⟨g, off, cap', h1, h2, _⟩
  · rw [h1] at hv; cases hv
  · rw [h1] at hv
    injection hv with hv
    injection hv with hv
    subst hv
    rcases hs.dom_ g (by simpa using hm) with hd | hd
    · simp at hd
    · exact absurd h2 (Nat.not_lt.2 hd)
theorem fnd_mem {m3 : List (List UInt8 × Value)} {ps : List (List UInt8)} {l : List UInt8} (h : Fnd [] m3 ps l l.length) (x : List UInt8) : x ∈ m3.map Prod.fst ↔ x ∈ ps ∧ isPath x = true ∧ Win l l.length (x.take 32) := by
  rw [h x]
  simp
theorem get_le {rs : List (List UInt8)} {M : Nat} (h : ∀ r ∈ rs, r.length ≤ M) {i : Nat} (hi : i < rs.length) : (rs.getD i []).length ≤ M := by
  refine h _ ?_
  rw [List.getD_eq_getElem?_getD, List.getElem?_eq_getElem hi]
  exact List.getElem_mem hi
theorem spAE {p : List UInt8} (h : (spE p == 0) = true) : isPath p = true ∧ spA p = p.take 32 ∧ (spA p).length = 32 := by
  have hp : isPath p = true := by
    rw [spE_eq] at h
    exact h
  exact ⟨hp, spA_yes hp, by rw [spA_yes hp]; exact path_take_len hp⟩
attribute [local irreducible] isName isPath spA spB spE cp sortS rise dg PT ofDig Fnd RunOk Win isDig standsB kP kQ
/-- (*pantry.scan.search).told -/
theorem told_con (gs g2 : Nat) (es2 : Array MapEntry) (ck2 : Nat) (m2 : List (List UInt8 × Value)) (w : World) (hc : w.cell? ⟨gs, 1, none⟩ = some (.map (some g2))) (hg : w.heap[g2]? = some (.map es2 ck2)) (hm : MapOk strEnc strOk es2 ck2 m2) (hn : m2.length ≤ 1000000000) : Con Try.prog 31 [.pointer (some ⟨gs, 0, none⟩)] w [] fun v S' => ∃ c zs, S' = [c] ∧ Sx.Own 25 1 (strs zs) v c ∧ Strict zs ∧ ∀ x, x ∈ zs ↔ x ∈ m2.map Prod.fst := by
  refine con_of_tree mix Try.func31 T31_ok (by kernel_rfl) ?_
  unfold T31
  refine j_q (qs_ac) ?_
  refine j_q (qs_nil rfl) ?_
  refine j_q (qs_field Try.underlying82 rfl sz80 (by decide) rfl) ?_
  refine j_q (qs_loadr Try.underlying80 rfl rfl hc (by simp)) ?_
  refine j_call0 ent46 rfl rfl rfl (fun w' hw' => keys_con (some g2) w') (fun u S2 hu => ?_)
  obtain ⟨g4, rfl, rfl⟩ := hu
  refine j_call0 ent45 rfl rfl rfl (fun w' hw' => sortedKeys_con g4 g2 w' (lt_of_get (hw'.at_ (k := 0) rfl)) (by rw [cell_of (hw'.at_ (k := 0) rfl)]; rfl) (by rw [hw'.frame g2 (lt_of_get hg) (by simp)]; exact hg) hm hn) (fun u S2 hu => ?_)
  obtain ⟨c, zs, rfl, ho, hs, hmem⟩ := hu
  refine j_subl (S' := [c]) (by repeat first | exact List.Sublist.refl _ | exact List.nil_sublist _ | apply List.Sublist.cons_cons | apply List.Sublist.cons) ?_
  refine j_ret_con (vs := [_]) (fun w' hw' => ⟨rfl, trivial⟩) ?_
  exact ⟨c, zs, rfl, ho, hs, hmem⟩
/-- pantry.scan.Refs -/
theorem refs_con (l : List UInt8) (vb : Value) (rs : List (List UInt8)) (vr : Value) (w : World) (hvb : RSl w vb (ints l)) (hvr : StrSl w vr rs) (hl : l.length ≤ 4611686018427387903) (hn : rs.length ≤ 90000) (hr : ∀ r ∈ rs, r.length ≤ 9223372036854775807) : Con Try.prog 11 [vb, vr] w [] fun u S' => ∃ c zs, S' = [c] ∧ Sx.Own 25 1 (strs zs) u c ∧ Strict zs ∧ ∀ x, x ∈ zs ↔ x ∈ rs ∧ isPath x = true ∧ Win l l.length (x.take 32) := by
  refine con_of_tree mix Try.func11 T11_ok (by kernel_rfl) ?_
  unfold T11
  refine j_q (qs_ac) ?_
  refine j_call0 ent29 rfl rfl rfl (fun w' hw' => begins_con rs vr w' (strsl_keep hvr hw') hn hr) (fun u S2 hu => ?_)
  obtain ⟨gs, g1, g2, es, ck, m1, rows, rfl, rfl, hm1, hpt⟩ := hu
  refine j_perm (S' := [((gs, .cells [.map (some g1), .map (some g2)].toArray 82 (0, 0)) :: (g2, .map #[] 0) :: (g1, .map es ck) :: rows)]) (by simp) ?_
  refine j_call 0 ent30 rfl rfl rfl rfl (fun w' hw' => in_con gs g1 g2 es #[] ck 0 m1 [] rows rs l vb w' (rsl_keep hvb hw') (rsl_fresh hvb hw') hm1 hpt mapOk_nil hr hn hl) (fun u S2 hu => ?_)
  obtain ⟨es3, ck3, m3, rfl, rfl, hm3, hfnd⟩ := hu
  have hmem := fnd_mem hfnd
  have hlen : m3.length ≤ rs.length := by
    have := nodup_le hm3.nodup (m := rs) fun x hx => ((hmem x).1 hx).1
    rwa [List.length_map] at this
  refine j_call0 ent31 rfl rfl rfl (fun w' hw' => told_con gs g2 es3 ck3 m3 w' (by rw [cell_of (hw'.at_ (k := 0) rfl)]; rfl) (hw'.at_ (k := 1) rfl) hm3 (by omega)) (fun u S2 hu => ?_)
  obtain ⟨c, zs, rfl, ho, hs, hz⟩ := hu
  refine j_subl (S' := [c]) (by repeat first | exact List.Sublist.refl _ | exact List.nil_sublist _ | apply List.Sublist.cons_cons | apply List.Sublist.cons) ?_
  refine j_ret_con (vs := [_]) (fun w' hw' => ⟨rfl, trivial⟩) ?_
  exact ⟨c, zs, rfl, ho, hs, fun x => (hz x).trans (hmem x)⟩
/-- pantry.pantryref6.stands -/
theorem rstands_con (l : List UInt8) (v : Value) (d : List UInt8) (w : World) (hv : RSl w v (ints l)) (hd : d.length = 32) (hl : l.length ≤ 4611686018427387903) : Con Try.prog 33 [v, .string (bs d)] w [] fun u _ => u = .bool (standsB l d) := by
  refine con_of_tree mix Try.func33 T33_ok (by kernel_rfl) ?_
  unfold T33
  obtain ⟨A, cap, rfl, hcap⟩ := rsl_form hv
  rw [ints_length] at hv hcap ⊢
  refine j_q (qs_ac) ?_
  refine j_q (qs_ac) ?_
  refine j_loop (fun m vs S' => ∃ i : Nat, vs = [.int .i64 (i : Int)] ∧ S' = [[]] ∧ i ≤ l.length + 1 ∧ (∀ j, j < i → (l.drop j).take 32 ≠ d) ∧ m = l.length + 1 - i) ⟨_, 0, rfl, rfl, Nat.zero_le _, fun j h => by omega, rfl⟩ ?_
  rintro m vs S' hlen ⟨i, rfl, rfl, hin, hno, rfl⟩
  refine j_q (qs_lens Try.underlying9 rfl) ?_
  refine j_q (qs_add64 rfl rfl (by first | omega | (simp only [Bool.and_eq_true, Bool.or_eq_true, Bool.and_eq_false_iff, Bool.or_eq_false_iff, Bool.not_eq_true', Bool.not_eq_false', decide_eq_true_eq, decide_eq_false_iff_not, beq_iff_eq, beq_eq_false_iff_ne, bne_iff_ne, bne_eq_false_iff_eq, ne_eq, Int.toNat_natCast] at *; omega))) ?_
  refine j_q (qs_lenl Try.underlying22 rfl) ?_
  refine j_q (qs_leq rfl rfl) ?_
  refine j_cond rfl (fun hc0 => ?_) (fun hc0 => ?_)
  · skip
    have hi : i + 32 ≤ l.length := by
      simp only [Bool.and_eq_true, Bool.or_eq_true, Bool.and_eq_false_iff, Bool.or_eq_false_iff, Bool.not_eq_true', Bool.not_eq_false', decide_eq_true_eq, decide_eq_false_iff_not, beq_iff_eq, beq_eq_false_iff_ne, bne_iff_ne, bne_eq_false_iff_eq, ne_eq, Int.toNat_natCast] at *
      omega
    obtain ⟨ga, off, rfl, hga, hcells⟩ := rsl_addr hv (by rw [ints_length]; omega)
    refine j_q (qs_lens Try.underlying9 rfl) ?_
    refine j_q (qs_add64 rfl rfl (by first | omega | (simp only [Bool.and_eq_true, Bool.or_eq_true, Bool.and_eq_false_iff, Bool.or_eq_false_iff, Bool.not_eq_true', Bool.not_eq_false', decide_eq_true_eq, decide_eq_false_iff_not, beq_iff_eq, beq_eq_false_iff_ne, bne_iff_ne, bne_eq_false_iff_eq, ne_eq, Int.toNat_natCast] at *; omega))) ?_
    refine j_q (qs_cutl (a := i) (z := i + 32) Try.underlying22 sz5 rfl ⟨.i64, rfl⟩ ⟨.i64, by show Value.int .i64 ((i : Int) + (d.length : Int)) = _; rw [hd]; rfl⟩ (by omega) (by omega)) ?_
    rw [if_neg (show ¬ cap = i by omega), show i + 32 - i = ((l.drop i).take 32).length by rw [List.length_take, List.length_drop]; omega]
    simp only [Option.map_some, add_off, Nat.mul_one]
    refine j_q (qs_str Try.underlying22 Try.underlying5 Try.underlying9 rfl (rd_cells (win_cells hcells (by omega)) (by simp))) ?_
    refine j_q (qs_seql rfl rfl) ?_
    refine j_cond rfl (fun hc1 => ?_) (fun hc1 => ?_)
    · skip
      have hwin : (l.drop i).take 32 = d := by simpa using hc1
      refine j_q (qs_ac) ?_
      refine j_ret_con (vs := [_]) (fun w' hw' => ⟨rfl, trivial⟩) ?_
      show Value.bool _ = _
      rw [standsB_yes hi hwin]
    · skip
      have hwin : (l.drop i).take 32 ≠ d := by simpa using hc1
      refine j_q (qs_add64 rfl rfl (by first | omega | (simp only [Bool.and_eq_true, Bool.or_eq_true, Bool.and_eq_false_iff, Bool.or_eq_false_iff, Bool.not_eq_true', Bool.not_eq_false', decide_eq_true_eq, decide_eq_false_iff_not, beq_iff_eq, beq_eq_false_iff_ne, bne_iff_ne, bne_eq_false_iff_eq, ne_eq, Int.toNat_natCast] at *; omega))) ?_
      refine j_back rfl ?_
      exact ⟨l.length + 1 - (i + 1), by omega, i + 1, rfl, rfl, by omega, fun j hj => by
        by_cases h : j < i
        · exact hno j h
        · obtain rfl : j = i := by omega
          exact hwin, rfl⟩
  · skip
    have hi : l.length < i + 32 := by
      simp only [Bool.and_eq_true, Bool.or_eq_true, Bool.and_eq_false_iff, Bool.or_eq_false_iff, Bool.not_eq_true', Bool.not_eq_false', decide_eq_true_eq, decide_eq_false_iff_not, beq_iff_eq, beq_eq_false_iff_ne, bne_iff_ne, bne_eq_false_iff_eq, ne_eq, Int.toNat_natCast] at *
      omega
    refine j_q (qs_ac) ?_
    refine j_ret_con (vs := [_]) (fun w' hw' => ⟨rfl, trivial⟩) ?_
    show Value.bool _ = _
    rw [standsB_no hno hi]
/-- pantry.pantryref6.Refs -/
theorem rrefs_con (l : List UInt8) (vb : Value) (rs : List (List UInt8)) (vr : Value) (w : World) (hvb : RSl w vb (ints l)) (hvr : StrSl w vr rs) (hl : l.length ≤ 4611686018427387903) (hn : rs.length ≤ 90000) (hr : ∀ r ∈ rs, r.length ≤ 9223372036854775807) : Con Try.prog 12 [vb, vr] w [] fun u S' => ∃ c zs, S' = [c] ∧ Sx.Own 25 1 (strs zs) u c ∧ Strict zs ∧ ∀ x, x ∈ zs ↔ x ∈ rs ∧ isPath x = true ∧ Win l l.length (x.take 32) := by
  refine con_of_tree mix Try.func12 T12_ok (by kernel_rfl) ?_
  unfold T12
  obtain ⟨A, cap, rfl, hcap⟩ := strsl_form hvr
  refine j_q (qs_ac) ?_
  refine j_q (qs_ac) ?_
  refine j_q (qs_ac) ?_
  refine j_loop (fun m vs S' => ∃ (i : Nat) (zs : List (List UInt8)) (ov : Value) (c : SH), vs = [ov, .int .i64 (i : Int)] ∧ S' = [c] ∧ Sx.Own 25 1 (strs zs) ov c ∧ Strict zs ∧ (∀ x, x ∈ zs ↔ x ∈ rs.take i ∧ isPath x = true ∧ Win l l.length (x.take 32)) ∧ zs.length ≤ i ∧ i ≤ rs.length ∧ m = rs.length - i) ⟨_, 0, [], _, [], rfl, rfl, own_nil, List.Pairwise.nil, by simp, Nat.zero_le _, Nat.zero_le _, rfl⟩ ?_
  rintro m vs S' hlen ⟨i, zs, ov, c, rfl, rfl, ho, hst, hmem, hzl, hin, rfl⟩
  refine j_q (qs_lenl Try.underlying23 rfl) ?_
  refine j_q (qs_lss rfl rfl) ?_
  refine j_cond rfl (fun hc0 => ?_) (fun hc0 => ?_)
  · skip
    have hi : i < rs.length := by
      simp only [Bool.and_eq_true, Bool.or_eq_true, Bool.and_eq_false_iff, Bool.or_eq_false_iff, Bool.not_eq_true', Bool.not_eq_false', decide_eq_true_eq, decide_eq_false_iff_not, beq_iff_eq, beq_eq_false_iff_ne, bne_iff_ne, bne_eq_false_iff_eq, ne_eq, Int.toNat_natCast] at *
      omega
    obtain ⟨ga, off, rfl, hga, hcells⟩ := strsl_addr hvr (by omega)
    refine j_q (qs_ixl0 Try.underlying23 sz25 rfl rfl ⟨(by first | omega | (simp only [Bool.and_eq_true, Bool.or_eq_true, Bool.and_eq_false_iff, Bool.or_eq_false_iff, Bool.not_eq_true', Bool.not_eq_false', decide_eq_true_eq, decide_eq_false_iff_not, beq_iff_eq, beq_eq_false_iff_ne, bne_iff_ne, bne_eq_false_iff_eq, ne_eq, Int.toNat_natCast] at *; omega)), (by first | omega | (simp only [Bool.and_eq_true, Bool.or_eq_true, Bool.and_eq_false_iff, Bool.or_eq_false_iff, Bool.not_eq_true', Bool.not_eq_false', decide_eq_true_eq, decide_eq_false_iff_not, beq_iff_eq, beq_eq_false_iff_ne, bne_iff_ne, bne_eq_false_iff_eq, ne_eq, Int.toNat_natCast] at *; omega))⟩) ?_
    refine j_q (qs_loadrs (rd_cells hcells (by simp)) Try.underlying25 rfl (by simp only [Int.toNat_natCast]; omega)) ?_
    simp only [Int.toNat_natCast]
    refine j_q (qs_call ent32 rfl rfl rfl (fun w' hw' => rsplit_con (rs.getD i []) w' (get_le hr hi))) ?_
    unfold spl
    refine j_q (qs_ext (vs := [.string (bs (spA (rs.getD i []))), .string (bs (spB (rs.getD i []))), .int .i64 (spE (rs.getD i []))]) rfl rfl) ?_
    refine j_q (qs_ext (vs := [.string (bs (spA (rs.getD i []))), .string (bs (spB (rs.getD i []))), .int .i64 (spE (rs.getD i []))]) rfl rfl) ?_
    refine j_q (qs_ext (vs := [.string (bs (spA (rs.getD i []))), .string (bs (spB (rs.getD i []))), .int .i64 (spE (rs.getD i []))]) rfl rfl) ?_
    refine j_q (qs_eql rfl rfl) ?_
    refine j_g rfl (fun hb => qs_mt rfl) ?_
    refine j_g rfl (fun hb => qs_mt rfl) ?_
    refine j_g rfl (fun hb => qs_call ent33 rfl rfl (args2 (gd_eq hb) (gd_eq hb)) (fun w' hw' => rstands_con l vb _ w' (rsl_keep hvb hw') (spAE hb).2.2 hl)) ?_
    refine j_q (qs_and rfl rfl) ?_
    refine j_cond rfl (fun hc1 => ?_) (fun hc1 => ?_)
    · skip
      simp only [Bool.and_eq_true] at hc1
      obtain ⟨hp1, hp2, hp3⟩ := spAE hc1.1
      have hwin := hc1.2
      rw [hp2] at hwin
      refine j_q (qs_ixl0 Try.underlying23 sz25 rfl rfl ⟨(by first | omega | (simp only [Bool.and_eq_true, Bool.or_eq_true, Bool.and_eq_false_iff, Bool.or_eq_false_iff, Bool.not_eq_true', Bool.not_eq_false', decide_eq_true_eq, decide_eq_false_iff_not, beq_iff_eq, beq_eq_false_iff_ne, bne_iff_ne, bne_eq_false_iff_eq, ne_eq, Int.toNat_natCast] at *; omega)), (by first | omega | (simp only [Bool.and_eq_true, Bool.or_eq_true, Bool.and_eq_false_iff, Bool.or_eq_false_iff, Bool.not_eq_true', Bool.not_eq_false', decide_eq_true_eq, decide_eq_false_iff_not, beq_iff_eq, beq_eq_false_iff_ne, bne_iff_ne, bne_eq_false_iff_eq, ne_eq, Int.toNat_natCast] at *; omega))⟩) ?_
      refine j_q (qs_loadrs (rd_cells hcells (by simp)) Try.underlying25 rfl (by simp only [Int.toNat_natCast]; omega)) ?_
      simp only [Int.toNat_natCast]
      refine j_call 0 ent16 rfl rfl rfl rfl (fun w' hw' => lay_con zs _ ov c ho hst (by omega) w') (fun u S2 hu => ?_)
      obtain ⟨zs2, c2, rfl, ho2, hst2, hmem2, hl2⟩ := hu
      refine j_subl (S' := [c2]) (by repeat first | exact List.Sublist.refl _ | exact List.nil_sublist _ | apply List.Sublist.cons_cons | apply List.Sublist.cons) ?_
      refine j_q (qs_add64 rfl rfl (by first | omega | (simp only [Bool.and_eq_true, Bool.or_eq_true, Bool.and_eq_false_iff, Bool.or_eq_false_iff, Bool.not_eq_true', Bool.not_eq_false', decide_eq_true_eq, decide_eq_false_iff_not, beq_iff_eq, beq_eq_false_iff_ne, bne_iff_ne, bne_eq_false_iff_eq, ne_eq, Int.toNat_natCast] at *; omega))) ?_
      refine j_back rfl ?_
      exact ⟨rs.length - (i + 1), by omega, i + 1, zs2, _, c2, rfl, rfl, ho2, hst2, fun x => by
        rw [hmem2, take_snoc hi, List.mem_append, List.mem_singleton, hmem]
        constructor
        · rintro (h | rfl)
          · exact ⟨.inl h.1, h.2⟩
          · exact ⟨.inr rfl, hp1, standsB_iff.1 hwin⟩
        · rintro ⟨h | rfl, h2⟩
          · exact .inl ⟨h, h2⟩
          · exact .inr rfl, by omega, by omega, rfl⟩
    · skip
      have hno : ¬ (isPath (rs.getD i []) = true ∧ Win l l.length ((rs.getD i []).take 32)) := fun ⟨h1, h2⟩ => by
        have e0 : (spE (rs.getD i []) == 0) = true := by rw [spE_eq]; exact h1
        rw [e0, (spAE e0).2.1, standsB_iff.2 h2] at hc1
        cases hc1
      refine j_q (qs_add64 rfl rfl (by first | omega | (simp only [Bool.and_eq_true, Bool.or_eq_true, Bool.and_eq_false_iff, Bool.or_eq_false_iff, Bool.not_eq_true', Bool.not_eq_false', decide_eq_true_eq, decide_eq_false_iff_not, beq_iff_eq, beq_eq_false_iff_ne, bne_iff_ne, bne_eq_false_iff_eq, ne_eq, Int.toNat_natCast] at *; omega))) ?_
      refine j_back rfl ?_
      exact ⟨rs.length - (i + 1), by omega, i + 1, zs, ov, c, rfl, rfl, ho, hst, fun x => by
        rw [hmem, take_snoc hi, List.mem_append, List.mem_singleton]
        constructor
        · rintro ⟨h, h2⟩
          exact ⟨.inl h, h2⟩
        · rintro ⟨h | rfl, h2⟩
          · exact ⟨h, h2⟩
          · exact absurd h2 hno, by omega, by omega, rfl⟩
  · skip
    obtain rfl : i = rs.length := by
      simp only [Bool.and_eq_true, Bool.or_eq_true, Bool.and_eq_false_iff, Bool.or_eq_false_iff, Bool.not_eq_true', Bool.not_eq_false', decide_eq_true_eq, decide_eq_false_iff_not, beq_iff_eq, beq_eq_false_iff_ne, bne_iff_ne, bne_eq_false_iff_eq, ne_eq, Int.toNat_natCast] at *
      omega
    rw [List.take_of_length_le (Nat.le_refl _)] at hmem
    refine j_ret_con (vs := [_]) (fun w' hw' => ⟨rfl, trivial⟩) ?_
    exact ⟨c, zs, rfl, ho, hst, hmem⟩
/-- pantry.pantrylaw6.paths -/
theorem paths_con (rs : List (List UInt8)) (v1 v2 : Value) (w : World) (hv1 : StrSl w v1 rs) (hv2 : StrSl w v2 rs) (hn : rs.length ≤ 90000) : Con Try.prog 10 [v1, v2] w [] fun u _ => u = .bool true := by
  refine con_of_tree mix Try.func10 T10_ok (by kernel_rfl) ?_
  unfold T10
  obtain ⟨A1, cap1, rfl, hcap1⟩ := strsl_form hv1
  obtain ⟨A2, cap2, rfl, hcap2⟩ := strsl_form hv2
  refine j_q (qs_ac) ?_
  refine j_q (qs_lenl Try.underlying23 rfl) ?_
  refine j_q (qs_lenl Try.underlying23 rfl) ?_
  refine j_q (qs_neq rfl rfl) ?_
  refine j_cond rfl (fun hc0 => ?_) (fun hc0 => ?_)
  · skip
    simp at hc0
  · skip
    refine j_q (qs_ac) ?_
    refine j_loop (fun m vs S' => ∃ i : Nat, vs = [.int .i64 (i : Int)] ∧ S' = [[]] ∧ i ≤ rs.length ∧ m = rs.length - i) ⟨_, 0, rfl, rfl, Nat.zero_le _, rfl⟩ ?_
    rintro m vs S' hlen ⟨i, rfl, rfl, hin, rfl⟩
    refine j_q (qs_lenl Try.underlying23 rfl) ?_
    refine j_q (qs_lss rfl rfl) ?_
    refine j_cond rfl (fun hc1 => ?_) (fun hc1 => ?_)
    · skip
      have hi : i < rs.length := by
        simp only [Bool.and_eq_true, Bool.or_eq_true, Bool.and_eq_false_iff, Bool.or_eq_false_iff, Bool.not_eq_true', Bool.not_eq_false', decide_eq_true_eq, decide_eq_false_iff_not, beq_iff_eq, beq_eq_false_iff_ne, bne_iff_ne, bne_eq_false_iff_eq, ne_eq, Int.toNat_natCast] at *
        omega
      obtain ⟨ga, off, rfl, hga, hcells⟩ := strsl_addr hv1 (by omega)
      obtain ⟨ga2, off2, rfl, hga2, hcells2⟩ := strsl_addr hv2 (by omega)
      refine j_draw ?_
      refine jq_q (qs_ixl0 Try.underlying23 sz25 rfl rfl ⟨(by first | omega | (simp only [Bool.and_eq_true, Bool.or_eq_true, Bool.and_eq_false_iff, Bool.or_eq_false_iff, Bool.not_eq_true', Bool.not_eq_false', decide_eq_true_eq, decide_eq_false_iff_not, beq_iff_eq, beq_eq_false_iff_ne, bne_iff_ne, bne_eq_false_iff_eq, ne_eq, Int.toNat_natCast] at *; omega)), (by first | omega | (simp only [Bool.and_eq_true, Bool.or_eq_true, Bool.and_eq_false_iff, Bool.or_eq_false_iff, Bool.not_eq_true', Bool.not_eq_false', decide_eq_true_eq, decide_eq_false_iff_not, beq_iff_eq, beq_eq_false_iff_ne, bne_iff_ne, bne_eq_false_iff_eq, ne_eq, Int.toNat_natCast] at *; omega))⟩) ?_
      refine jq_q (qs_loadrs (rd_cells hcells (by simp)) Try.underlying25 rfl (by simp only [Int.toNat_natCast]; omega)) ?_
      refine jq_q (qs_ixl0 Try.underlying23 sz25 rfl rfl ⟨(by first | omega | (simp only [Bool.and_eq_true, Bool.or_eq_true, Bool.and_eq_false_iff, Bool.or_eq_false_iff, Bool.not_eq_true', Bool.not_eq_false', decide_eq_true_eq, decide_eq_false_iff_not, beq_iff_eq, beq_eq_false_iff_ne, bne_iff_ne, bne_eq_false_iff_eq, ne_eq, Int.toNat_natCast] at *; omega)), (by first | omega | (simp only [Bool.and_eq_true, Bool.or_eq_true, Bool.and_eq_false_iff, Bool.or_eq_false_iff, Bool.not_eq_true', Bool.not_eq_false', decide_eq_true_eq, decide_eq_false_iff_not, beq_iff_eq, beq_eq_false_iff_ne, bne_iff_ne, bne_eq_false_iff_eq, ne_eq, Int.toNat_natCast] at *; omega))⟩) ?_
      refine jq_q (qs_loadrs (rd_cells hcells2 (by simp)) Try.underlying25 rfl (by simp only [Int.toNat_natCast]; omega)) ?_
      refine jq_q (qs_sneq rfl rfl) ?_
      refine jq_nil ?_
      refine j_cond rfl (fun hc2 => ?_) (fun hc2 => ?_)
      · skip
        simp at hc2
      · skip
        refine j_q (qs_add64 rfl rfl (by first | omega | (simp only [Bool.and_eq_true, Bool.or_eq_true, Bool.and_eq_false_iff, Bool.or_eq_false_iff, Bool.not_eq_true', Bool.not_eq_false', decide_eq_true_eq, decide_eq_false_iff_not, beq_iff_eq, beq_eq_false_iff_ne, bne_iff_ne, bne_eq_false_iff_eq, ne_eq, Int.toNat_natCast] at *; omega))) ?_
        refine j_back rfl ?_
        exact ⟨rs.length - (i + 1), by omega, i + 1, rfl, rfl, by omega, rfl⟩
    · skip
      refine j_q (qs_ac) ?_
      refine j_ret_con (vs := [_]) (fun w' hw' => ⟨rfl, trivial⟩) ?_
      rfl
/-- pantry.pantrylaw6.roomy -/
theorem roomy_con (l : List UInt8) (v : Value) (w : World) (hv : RSl w v (ints l)) (hl : l.length ≤ 100000) : Con Try.prog 9 [v] w [] fun u S' => ∃ g cap c, u = .slice (some ⟨g, 0, none⟩) (l.length + 1) cap ∧ S' = [c] ∧ l.length + 2 ≤ cap ∧ Sx.Own 5 1 (ints (l ++ [171, 171])) (.slice (some ⟨g, 0, none⟩) (l.length + 2) cap) c := by
  refine con_of_tree mix Try.func9 T9_ok (by kernel_rfl) ?_
  unfold T9
  obtain ⟨A, cap, rfl, hcap⟩ := rsl_form hv
  rw [ints_length] at hv hcap ⊢
  refine j_q (qs_ac) ?_
  refine j_lit (vs := []) Try.underlying22 sz5 zero5 rfl (by simp [oneV]) ⟨rfl, by decide⟩ (fun g1 v1 c1 hv1 hc1 ho1 => ?_)
  subst hv1 hc1
  refine j_append 0 Try.underlying22 Try.underlying22 (.inr ⟨_, rfl⟩) sb5 zero5 rfl ho1 rfl (src_rsl hv (fun _ _ => by simp)) ints_one ⟨(by simp [ints_length]; omega), (by decide)⟩ (fun v2 c2 ho2 => ?_)
  refine j_lit (vs := [.int .u8 _]) Try.underlying22 sz5 zero5 rfl (by simp [oneV]) ⟨rfl, by decide⟩ (fun g3 v3 c3 hv3 hc3 ho3 => ?_)
  subst hv3 hc3
  refine j_append 1 Try.underlying22 Try.underlying22 (.inr ⟨_, rfl⟩) sb5 zero5 rfl ho2 rfl (.inl ⟨_, _, rfl, own_rd ho3 0 rfl, rfl⟩) (by intro u hu; rw [List.mem_singleton] at hu; rw [hu]; rfl) ⟨(by simp [ints_length]; omega), (by decide)⟩ (fun v4 c4 ho4 => ?_)
  refine j_lit (vs := [.int .u8 _]) Try.underlying22 sz5 zero5 rfl (by simp [oneV]) ⟨rfl, by decide⟩ (fun g5 v5 c5 hv5 hc5 ho5 => ?_)
  subst hv5 hc5
  refine j_append 2 Try.underlying22 Try.underlying22 (.inr ⟨_, rfl⟩) sb5 zero5 rfl ho4 rfl (.inl ⟨_, _, rfl, own_rd ho5 0 rfl, rfl⟩) (by intro u hu; rw [List.mem_singleton] at hu; rw [hu]; rfl) ⟨(by simp [ints_length]; omega), (by decide)⟩ (fun v6 c6 ho6 => ?_)
  rw [List.nil_append, show [Value.int .u8 171] = ints [171] from rfl, ← ints_append, ← ints_append, List.append_assoc, show ([171] ++ [171] : List UInt8) = [171, 171] from rfl] at ho6
  obtain ⟨n6, A6, cap6, rfl, hn6⟩ := own_form ho6 (by decide)
  have hn6' : n6 = l.length + 2 := by
    rw [ints_length, List.length_append, Nat.mul_one] at hn6
    simpa using hn6.symm
  subst hn6'
  obtain ⟨g6, rfl⟩ := own_addr ho6 (by rw [ints_length]; simp)
  have hc6 := own_cap ho6
  refine j_q (qs_lenl Try.underlying22 rfl) ?_
  refine j_q (qs_add64 rfl rfl (by first | omega | (simp only [Bool.and_eq_true, Bool.or_eq_true, Bool.and_eq_false_iff, Bool.or_eq_false_iff, Bool.not_eq_true', Bool.not_eq_false', decide_eq_true_eq, decide_eq_false_iff_not, beq_iff_eq, beq_eq_false_iff_ne, bne_iff_ne, bne_eq_false_iff_eq, ne_eq, Int.toNat_natCast] at *; omega))) ?_
  refine j_q (qs_cutl (z := l.length + 1) Try.underlying22 sz5 rfl rfl ⟨_, rfl⟩ (by first | omega | (simp only [Bool.and_eq_true, Bool.or_eq_true, Bool.and_eq_false_iff, Bool.or_eq_false_iff, Bool.not_eq_true', Bool.not_eq_false', decide_eq_true_eq, decide_eq_false_iff_not, beq_iff_eq, beq_eq_false_iff_ne, bne_iff_ne, bne_eq_false_iff_eq, ne_eq, Int.toNat_natCast] at *; omega)) (by first | omega | (simp only [Bool.and_eq_true, Bool.or_eq_true, Bool.and_eq_false_iff, Bool.or_eq_false_iff, Bool.not_eq_true', Bool.not_eq_false', decide_eq_true_eq, decide_eq_false_iff_not, beq_iff_eq, beq_eq_false_iff_ne, bne_iff_ne, bne_eq_false_iff_eq, ne_eq, Int.toNat_natCast] at *; omega))) ?_
  rw [if_neg (show ¬ cap6 = 0 by omega)]
  simp only [Option.map_some, Nat.zero_mul, add_zero_, Nat.sub_zero]
  refine j_subl (S' := [c6]) (by repeat first | exact List.Sublist.refl _ | exact List.nil_sublist _ | apply List.Sublist.cons_cons | apply List.Sublist.cons) ?_
  refine j_ret_con (vs := [_]) (fun w' hw' => ⟨rfl, trivial⟩) ?_
  exact ⟨g6, cap6, c6, rfl, rfl, hc6, ho6⟩
end Go.Proofs.Ytkafaodhppikfaa
