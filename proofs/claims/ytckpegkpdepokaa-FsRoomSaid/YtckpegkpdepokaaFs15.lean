/- Files that forget: the law FsRoom. -/
import Derived.Test.YtckpegkpdepokaaTa
import Derived.Test.YtckpegkpdepokaaAny7
import Derived.Test.YtckpegkpdepokaaArg7
namespace Go.Proofs.Ytckpegkpdepokaa
open Go Go.Sx
set_option maxRecDepth 100000
set_option maxHeartbeats 4000000
set_option linter.unusedVariables false
set_option linter.unusedSimpArgs false
attribute [local irreducible] J JQ QS Con W opW
theorem sz22 : (Try.prog.info? 22).map (·.size) = some 1 := by kernel_rfl

open Go.MapKept Go.WideMaps Go.Maps
abbrev R0 : Value × List UInt8 := (.slice none 0 0, [])
abbrev rowsV (rs : List (Value × List UInt8)) : List Value := (rs.map fun p => [p.1]).flatten
theorem rows_get {rs : List (Value × List UInt8)} {i : Nat} (h : i < rs.length) : (rowsV rs)[i]? = some (rs.getD i R0).1 := by
  have := flat_get (encA := fun p : Value × List UInt8 => [p.1]) (n := 1) (fun _ => rfl) rs i 0 (by decide)
  rw [Nat.mul_one, Nat.add_zero] at this
  show ((rs.map fun p => [p.1]).flatten)[i]? = _
  rw [this, List.getElem?_eq_getElem h, List.getD_eq_getElem?_getD, List.getElem?_eq_getElem h]
  rfl
theorem rows_mem {rs : List (Value × List UInt8)} {i : Nat} (h : i < rs.length) : rs.getD i R0 ∈ rs := by
  rw [List.getD_eq_getElem?_getD, List.getElem?_eq_getElem h, Option.getD_some]
  exact List.getElem_mem h
theorem cont_len {s : SM} (h : Raw s) (n : List UInt8) : (cont s n).length ≤ 1000000000 := by
  rcases look_cases h n with hl | ⟨x, hx, hl⟩
  · rw [cont_none hl]; exact Nat.zero_le _
  · rw [cont_some h hx hl]
    obtain ⟨_, _, _, h2⟩ := h.form x hx
    exact h2
def nmR (i : Nat) : List UInt8 := [102, by8 ((i : Int) % 3)]
theorem nmR_ok (i : Nat) : nameOk (nmR i) = true ∧ strOk (nmR i) := ⟨rfl, by show 2 ≤ _; decide⟩
/-- pantry.pantrylaw7.FsRoom -/
theorem fsRoom_con (room : Int) (rs : List (Value × List UInt8)) (v : Value) (w : World) (hrs1 : RSlN 1 w v (rowsV rs) rs.length) (hrs2 : ∀ p ∈ rs, BRz w p ∧ p.2.length ≤ 140737488351232) (hrl : rs.length ≤ 4611686018427387903) : Con Try.prog 3 [.int .i64 room, v] w [] fun u _ => u = .bool true := by
  refine con_of_tree mix Try.func3 T3_ok (by kernel_rfl) ?_
  unfold T3
  obtain ⟨A, cap, g, off, rfl, hcap, hA⟩ := rsln_form hrs1
  refine j_q (qs_ac) ?_
  refine j_q (qs_ac) ?_
  refine j_q (qs_ac) ?_
  refine j_loop (fun m vs S' => ∃ (i t : Nat), vs = [.int .i64 (t : Int), .int .i64 (i : Int)] ∧ S' = [[]] ∧ (∀ j, j < i → (rs.getD j R0).2.length ≤ t) ∧ t ≤ 140737488365000 ∧ i ≤ rs.length ∧ m = rs.length - i) ⟨_, 0, 0, rfl, rfl, (fun j hj => by omega), by omega, Nat.zero_le _, rfl⟩ ?_
  rintro m vs S' hlen ⟨i, t, rfl, rfl, hall, ht, hi, rfl⟩
  refine j_q (qs_lenl Try.underlying22 rfl) ?_
  refine j_q (qs_lss rfl rfl) ?_
  refine j_g rfl (fun hb => qs_mt rfl) ?_
  refine j_g rfl (fun hb => qs_leq (gd_eq hb) rfl) ?_
  refine j_q (qs_and rfl rfl) ?_
  refine j_cond rfl (fun hc0 => ?_) (fun hc0 => ?_)
  · skip
    have hi1 : i < rs.length := by
      simp [gd] at hc0
      omega
    obtain ⟨rfl, hgs, hcl⟩ := hA (by omega)
    obtain ⟨hbz, hbl⟩ := hrs2 _ (rows_mem hi1)
    have hbr : BR w (rs.getD i R0).1 (rs.getD i R0).2 := brz_br hbz
    obtain ⟨rA, rC, hrv, _⟩ := br_form hbr
    have ht8 : t ≤ 8000 := by
      simp [gd, hi1] at hc0
      omega
    refine j_q (qs_add64 rfl rfl (by first | omega | (simp only [Bool.and_eq_true, Bool.or_eq_true, Bool.and_eq_false_iff, Bool.or_eq_false_iff, Bool.not_eq_true', Bool.not_eq_false', decide_eq_true_eq, decide_eq_false_iff_not, beq_iff_eq, beq_eq_false_iff_ne, bne_iff_ne, bne_eq_false_iff_eq, ne_eq, Int.toNat_natCast] at *; omega))) ?_
    refine j_q (qs_ixn (g := g) (off := off) (n := rs.length) (c := cap) (i := i) Try.underlying22 sz23 rfl rfl hi1) ?_
    refine j_q (qs_loadR (v := (rs.getD i R0).1) (a := ⟨g, off, none⟩) (i := i) (rd_cells hcl (by simp)) Try.underlying23 rfl (by rw [add_off]; show Value.pointer (some ⟨g, off + i * 1, none⟩) = _; rw [Nat.mul_one]) (rows_get hi1)) ?_
    refine j_q (qs_lenl (n := (rs.getD i R0).2.length) (A := rA) (c := rC) Try.underlying23 hrv) ?_
    refine j_q (qs_add64 rfl rfl (by first | omega | (simp only [Bool.and_eq_true, Bool.or_eq_true, Bool.and_eq_false_iff, Bool.or_eq_false_iff, Bool.not_eq_true', Bool.not_eq_false', decide_eq_true_eq, decide_eq_false_iff_not, beq_iff_eq, beq_eq_false_iff_ne, bne_iff_ne, bne_eq_false_iff_eq, ne_eq, Int.toNat_natCast] at *; omega))) ?_
    refine j_q (qs_add64 rfl rfl (by first | omega | (simp only [Bool.and_eq_true, Bool.or_eq_true, Bool.and_eq_false_iff, Bool.or_eq_false_iff, Bool.not_eq_true', Bool.not_eq_false', decide_eq_true_eq, decide_eq_false_iff_not, beq_iff_eq, beq_eq_false_iff_ne, bne_iff_ne, bne_eq_false_iff_eq, ne_eq, Int.toNat_natCast] at *; omega))) ?_
    refine j_back rfl ?_
    exact ⟨rs.length - (i + 1), by omega, i + 1, t + 1 + (rs.getD i R0).2.length, by rw [show ((t + 1 + (rs.getD i R0).2.length : Nat) : Int) = (t : Int) + 1 + ((rs.getD i R0).2.length : Int) by omega]; rfl, rfl, fun j hj => by
      rcases Nat.lt_or_ge j i with h | h
      · have := hall j h
        omega
      · obtain rfl : j = i := by omega
        omega, by omega, by omega, rfl⟩
  · skip
    have hend : t ≤ 8000 → i = rs.length := fun h => by
      by_cases h1 : i < rs.length
      · simp [gd, h1] at hc0
        omega
      · omega
    refine j_q (qs_gtr rfl rfl) ?_
    refine j_g rfl (fun hb => qs_mt rfl) ?_
    refine j_g rfl (fun hb => qs_lss (gd_eq hb) rfl) ?_
    refine j_q (qs_or rfl rfl) ?_
    refine j_g rfl (fun hb => qs_mt rfl) ?_
    refine j_g rfl (fun hb => qs_gtr (gd_eq hb) rfl) ?_
    refine j_q (qs_or rfl rfl) ?_
    refine j_g rfl (fun hb => qs_mt rfl) ?_
    refine j_g rfl (fun hb => qs_lenl Try.underlying22 (gd_eq hb)) ?_
    refine j_g rfl (fun hb => qs_gtr (gd_eq hb) rfl) ?_
    refine j_q (qs_or rfl rfl) ?_
    refine j_cond rfl (fun hc1 => ?_) (fun hc1 => ?_)
    · skip
      refine j_q (qs_call ent9 rfl rfl rfl (fun w' hw' => known_con w')) ?_
      refine j_ret_con (vs := [_]) (fun w' hw' => ⟨rfl, trivial⟩) ?_
      rfl
    · skip
      have hgood : t ≤ 8000 ∧ 0 ≤ room ∧ room ≤ 5000 ∧ rs.length ≤ 60 := by
        simp [gd] at hc1
        omega
      obtain ⟨ht8, hr0, hr5, hr60⟩ := hgood
      obtain rfl := hend ht8
      refine j_call0 ent10 rfl rfl rfl (fun w' hw' => new_con room w' hr0 (by omega)) (fun u S2 hu => ?_)
      obtain ⟨f0, rfl, rfl, hok0, hroom0, hfu0, hl0, hP0, hts0, hml0, hfs0, hus0⟩ := hu
      refine j_subl (S' := [f0.heap]) (by repeat first | exact List.Sublist.refl _ | exact List.nil_sublist _ | apply List.Sublist.cons_cons | apply List.Sublist.cons) ?_
      refine j_q (qs_ext (vs := [f0.ptr, .int .i64 0]) rfl rfl) ?_
      refine j_q (qs_ext (vs := [f0.ptr, .int .i64 0]) rfl rfl) ?_
      refine j_q (qs_neq rfl rfl) ?_
      refine j_g rfl (fun hb => qs_mt rfl) ?_
      refine j_g rfl (fun hb => qs_pnil Try.underlying25 (gd_eq hb)) ?_
      refine j_q (qs_or rfl rfl) ?_
      refine j_cond rfl (fun hc2 => ?_) (fun hc2 => ?_)
      · skip
        simp [gd] at hc2
      · skip
        refine j_q (qs_ac) ?_
        refine j_loop (fun m vs S' => ∃ (i : Nat) (f : FM), vs = [.int .i64 (i : Int)] ∧ S' = [f.heap] ∧ f.gf = f0.gf ∧ f.room = room ∧ RI f i ∧ i ≤ rs.length ∧ m = rs.length - i) ⟨_, 0, f0, rfl, rfl, rfl, hroom0, ⟨hok0, hfu0, hl0, (by rw [hfs0]; intro x hx; cases hx), (by rw [hfs0]; intro x hx; cases hx), by rw [hfs0, hus0]; rfl, by rw [hus0, hroom0]; exact hr0, by rw [hroom0]; omega, by rw [hml0]; exact Nat.zero_le _⟩, Nat.zero_le _, rfl⟩ ?_
        rintro m vs S' hlen ⟨i, f, rfl, rfl, hgf, hrm, hri, hi, rfl⟩
        have hp1 : f0.ptr = f.ptr := by unfold FM.ptr; rw [hgf]
        rw [hp1]
        refine j_q (qs_lenl Try.underlying22 rfl) ?_
        refine j_q (qs_lss rfl rfl) ?_
        refine j_cond rfl (fun hc3 => ?_) (fun hc3 => ?_)
        · skip
          have hi1 : i < rs.length := by
            simp only [Bool.and_eq_true, Bool.or_eq_true, Bool.and_eq_false_iff, Bool.or_eq_false_iff, Bool.not_eq_true', Bool.not_eq_false', decide_eq_true_eq, decide_eq_false_iff_not, beq_iff_eq, beq_eq_false_iff_ne, bne_iff_ne, bne_eq_false_iff_eq, ne_eq, Int.toNat_natCast] at *
            omega
          obtain ⟨rfl, hgs, hcl⟩ := hA (by omega)
          obtain ⟨hbz, hbl⟩ := hrs2 _ (rows_mem hi1)
          have hbr : BR w (rs.getD i R0).1 (rs.getD i R0).2 := brz_br hbz
          obtain ⟨rA, rC, hrv, _⟩ := br_form hbr
          have hrl8 := hall i hi1
          have hri0 := hri
          refine j_q (qs_rem64 rfl rfl (by first | omega | (simp only [Bool.and_eq_true, Bool.or_eq_true, Bool.and_eq_false_iff, Bool.or_eq_false_iff, Bool.not_eq_true', Bool.not_eq_false', decide_eq_true_eq, decide_eq_false_iff_not, beq_iff_eq, beq_eq_false_iff_ne, bne_iff_ne, bne_eq_false_iff_eq, ne_eq, Int.toNat_natCast] at *; omega)) (by first | omega | (simp only [Bool.and_eq_true, Bool.or_eq_true, Bool.and_eq_false_iff, Bool.or_eq_false_iff, Bool.not_eq_true', Bool.not_eq_false', decide_eq_true_eq, decide_eq_false_iff_not, beq_iff_eq, beq_eq_false_iff_ne, bne_iff_ne, bne_eq_false_iff_eq, ne_eq, Int.toNat_natCast] at *; omega))) ?_
          refine j_q (qs_conv8 Try.underlying3 Try.underlying5 rfl) ?_
          refine j_lit (vs := [.int .u8 _, .int .u8 _]) Try.underlying23 sz5 zero5 rfl (by simp [oneV]) ⟨rfl, by decide⟩ (fun g39 v39 c39 hv39 hc39 ho39 => ?_)
          subst hv39 hc39
          refine j_q (qs_stro (l := nmR i) 0 Try.underlying23 Try.underlying5 Try.underlying9 ho39 rfl) ?_
          refine j_subl (S' := [f.heap]) (by repeat first | exact List.Sublist.refl _ | exact List.nil_sublist _ | apply List.Sublist.cons_cons | apply List.Sublist.cons) ?_
          refine j_call0 ent11 rfl rfl rfl (fun w' hw' => readAny_con f i (nmR i) w' (in_own hw' 0 rfl) hri.ok (nmR_ok i).2) (fun u S2 hu => ?_)
          obtain ⟨v1, Q1, e1, rfl, rfl, hrv1⟩ := hu
          obtain ⟨aA1, aC1, hv1, _, _⟩ := hrv1.form
          refine j_subl (S' := [ph Q1, f.heap]) (by repeat first | exact List.Sublist.refl _ | exact List.nil_sublist _ | apply List.Sublist.cons_cons | apply List.Sublist.cons) ?_
          refine j_q (qs_ext (vs := [v1, .int .i64 e1]) rfl rfl) ?_
          refine j_q (qs_ext (vs := [v1, .int .i64 e1]) rfl rfl) ?_
          refine j_q (qs_call ent12 rfl rfl rfl (fun w' hw' => used_con f w' (in_own hw' 1 rfl))) ?_
          refine j_q (qs_ixn (g := g) (off := off) (n := rs.length) (c := cap) (i := i) Try.underlying22 sz23 rfl rfl hi1) ?_
          refine j_q (qs_loadR (v := (rs.getD i R0).1) (a := ⟨g, off, none⟩) (i := i) (rd_cells hcl (by simp)) Try.underlying23 rfl (by rw [add_off]; show Value.pointer (some ⟨g, off + i * 1, none⟩) = _; rw [Nat.mul_one]) (rows_get hi1)) ?_
          refine j_call 1 ent13 rfl rfl rfl rfl (fun w' hw' => writeAny_con f i (by omega) hri (nmR i) _ _ w' (nmR_ok i).2 (nmR_ok i).1 (br0 hbr hw') (base_sep hbr hw' 1 rfl) (by omega)) (fun u S2 hu => ?_)
          obtain ⟨e, f2, rfl, rfl, hgf2, hrm2, hri2, hres⟩ := hu
          refine j_subl (S' := [f2.heap, ph Q1]) (by repeat first | exact List.Sublist.refl _ | exact List.nil_sublist _ | apply List.Sublist.cons_cons | apply List.Sublist.cons) ?_
          have hp2 : f.ptr = f2.ptr := by unfold FM.ptr; rw [hgf2]
          rw [hp2]
          refine j_call0 ent11 rfl rfl rfl (fun w' hw' => readAny_con f2 (i + 1) (nmR i) w' (in_own hw' 0 rfl) hri2.ok (nmR_ok i).2) (fun u S2 hu => ?_)
          obtain ⟨v2, Q2, e2, rfl, rfl, hrv2⟩ := hu
          refine j_subl (S' := [ph Q2, f2.heap, ph Q1]) (by repeat first | exact List.Sublist.refl _ | exact List.nil_sublist _ | apply List.Sublist.cons_cons | apply List.Sublist.cons) ?_
          have ht1 := hri.tt
          have ht2 := hri.ur
          have ht3 := hri2.tt
          have ht4 := hri2.ur
          have hcl0 := cont_len hri.ok.raw (nmR i)
          have hroomN := hri.rm
          refine j_q (qs_ext (vs := [v2, .int .i64 e2]) rfl rfl) ?_
          refine j_q (qs_ext (vs := [v2, .int .i64 e2]) rfl rfl) ?_
          refine j_q (qs_lenl (n := (cont f.now (nmR i)).length) (A := aA1) (c := aC1) Try.underlying23 hv1) ?_
          refine j_q (qs_sub64 rfl rfl (by first | omega | (simp only [Bool.and_eq_true, Bool.or_eq_true, Bool.and_eq_false_iff, Bool.or_eq_false_iff, Bool.not_eq_true', Bool.not_eq_false', decide_eq_true_eq, decide_eq_false_iff_not, beq_iff_eq, beq_eq_false_iff_ne, bne_iff_ne, bne_eq_false_iff_eq, ne_eq, Int.toNat_natCast] at *; omega))) ?_
          refine j_q (qs_ixn (g := g) (off := off) (n := rs.length) (c := cap) (i := i) Try.underlying22 sz23 rfl rfl hi1) ?_
          refine j_q (qs_loadR (v := (rs.getD i R0).1) (a := ⟨g, off, none⟩) (i := i) (rd_cells hcl (by simp)) Try.underlying23 rfl (by rw [add_off]; show Value.pointer (some ⟨g, off + i * 1, none⟩) = _; rw [Nat.mul_one]) (rows_get hi1)) ?_
          refine j_q (qs_lenl (n := (rs.getD i R0).2.length) (A := rA) (c := rC) Try.underlying23 hrv) ?_
          refine j_q (qs_add64 rfl rfl (by first | omega | (simp only [Bool.and_eq_true, Bool.or_eq_true, Bool.and_eq_false_iff, Bool.or_eq_false_iff, Bool.not_eq_true', Bool.not_eq_false', decide_eq_true_eq, decide_eq_false_iff_not, beq_iff_eq, beq_eq_false_iff_ne, bne_iff_ne, bne_eq_false_iff_eq, ne_eq, Int.toNat_natCast] at *; omega))) ?_
          refine j_q (qs_leq rfl rfl) ?_
          refine j_q (qs_eql rfl rfl) ?_
          refine j_q (qs_bne Try.underlying4 rfl rfl) ?_
          refine j_g rfl (fun hb => qs_mt rfl) ?_
          refine j_g rfl (fun hb => qs_call ent12 rfl rfl (args1 (gd_eq hb)) (fun w' hw' => used_con f2 w' (in_own hw' 1 rfl))) ?_
          refine j_g rfl (fun hb => qs_mt rfl) ?_
          refine j_g rfl (fun hb => qs_gtr (gd_eq hb) (gd_eq hb)) ?_
          refine j_q (qs_or rfl rfl) ?_
          refine j_g rfl (fun hb => qs_mt rfl) ?_
          refine j_g rfl (fun hb => qs_not (gd_eq hb)) ?_
          refine j_g rfl (fun hb => qs_move (gd_eq hb)) ?_
          refine j_gg rfl (fun hb hb1 => qs_mt rfl) ?_
          refine j_gg rfl (fun hb hb1 => qs_mt rfl) ?_
          refine j_gg rfl (fun hb hb1 => qs_call ent14 rfl rfl (args2 (gd_eq2 hb hb1) (gd_eq2 hb hb1)) (fun w' hw' => same_con (cont f2.now (nmR i)) (cont f.now (nmR i)) _ _ w' (br_rv hrv2 (in_own hw' 0 rfl)) (br_rv hrv1 (in_own hw' 2 rfl)) (cont_len hri2.ok.raw _))) ?_
          refine j_gg rfl (fun hb hb1 => qs_not (gd_eq2 hb hb1)) ?_
          refine j_gg rfl (fun hb hb1 => qs_move (gd_eq2 hb hb1)) ?_
          refine j_ggg rfl (fun hb hb1 hb2 => qs_mt rfl) ?_
          refine j_ggg rfl (fun hb hb1 hb2 => qs_call ent12 rfl rfl (args1 (gd_eq3 hb hb1 hb2)) (fun w' hw' => used_con f2 w' (in_own hw' 1 rfl))) ?_
          refine j_ggg rfl (fun hb hb1 hb2 => qs_mt rfl) ?_
          refine j_ggg rfl (fun hb hb1 hb2 => qs_neq (gd_eq3 hb hb1 hb2) (gd_eq3 hb hb1 hb2)) ?_
          refine j_gg rfl (fun hb hb1 => qs_or (gd_eq2 hb hb1) (gd_eq2 hb hb1)) ?_
          refine j_g rfl (fun hb => qs_and (gd_eq hb) (gd_eq hb)) ?_
          refine j_q (qs_or rfl rfl) ?_
          refine j_g rfl (fun hb => qs_mt rfl) ?_
          refine j_g rfl (fun hb => qs_move (gd_eq hb)) ?_
          refine j_gg rfl (fun hb hb1 => qs_mt rfl) ?_
          refine j_gg rfl (fun hb hb1 => qs_mt rfl) ?_
          refine j_gg rfl (fun hb hb1 => qs_mt rfl) ?_
          refine j_gg rfl (fun hb hb1 => qs_ixn (g := g) (off := off) (n := rs.length) (c := cap) (i := i) Try.underlying22 sz23 (gd_eq2 hb hb1) (gd_eq2 hb hb1) hi1) ?_
          refine j_gg rfl (fun hb hb1 => qs_loadR (v := (rs.getD i R0).1) (a := ⟨g, off, none⟩) (i := i) (rd_cells hcl (by simp)) Try.underlying23 rfl ((gd_eq2 hb hb1).trans (by rw [add_off]; show Value.pointer (some ⟨g, off + i * 1, none⟩) = _; rw [Nat.mul_one])) (rows_get hi1)) ?_
          refine j_gg rfl (fun hb hb1 => qs_call ent14 rfl rfl (args2 (gd_eq2 hb hb1) (gd_eq2 hb hb1)) (fun w' hw' => same_con (cont f2.now (nmR i)) (rs.getD i R0).2 _ _ w' (br_rv hrv2 (in_own hw' 0 rfl)) (br0 hbr hw') (cont_len hri2.ok.raw _))) ?_
          refine j_gg rfl (fun hb hb1 => qs_not (gd_eq2 hb hb1)) ?_
          refine j_g rfl (fun hb => qs_and (gd_eq hb) (gd_eq hb)) ?_
          refine j_q (qs_or rfl rfl) ?_
          refine j_cond rfl (fun hc4 => ?_) (fun hc4 => ?_)
          · skip
            have hcl1 := cont_len hri.ok.raw (nmR i)
            by_cases hfit : f.now.used - ((cont f.now (nmR i)).length : Int) + ((rs.getD i R0).2.length : Int) ≤ f.room
            · rw [if_pos hfit] at hres
              obtain ⟨rfl, h1, h2⟩ := hres
              rw [hrm] at hfit
              rw [hrm2, hrm] at ht4
              rw [h1] at hc4
              simp [gd, hfit, -List.getD_eq_getElem?_getD] at hc4
              omega
            · rw [if_neg hfit] at hres
              obtain ⟨rfl, h1, h2⟩ := hres
              rw [hrm] at hfit
              rw [hrm2, hrm] at ht4
              rw [h1, h2] at hc4
              rw [h2] at ht4
              simp [gd, hfit, -List.getD_eq_getElem?_getD] at hc4
              omega
          · skip
            refine j_subl (S' := [f2.heap]) (by repeat first | exact List.Sublist.refl _ | exact List.nil_sublist _ | apply List.Sublist.cons_cons | apply List.Sublist.cons) ?_
            refine j_q (qs_add64 rfl rfl (by first | omega | (simp only [Bool.and_eq_true, Bool.or_eq_true, Bool.and_eq_false_iff, Bool.or_eq_false_iff, Bool.not_eq_true', Bool.not_eq_false', decide_eq_true_eq, decide_eq_false_iff_not, beq_iff_eq, beq_eq_false_iff_ne, bne_iff_ne, bne_eq_false_iff_eq, ne_eq, Int.toNat_natCast] at *; omega))) ?_
            refine j_back rfl ?_
            exact ⟨rs.length - (i + 1), by omega, i + 1, f2, rfl, rfl, hgf2.trans hgf, hrm2.trans hrm, hri2, by omega, rfl⟩
        · skip
          refine j_q (qs_call ent9 rfl rfl rfl (fun w' hw' => known_con w')) ?_
          refine j_ret_con (vs := [_]) (fun w' hw' => ⟨rfl, trivial⟩) ?_
          rfl
end Go.Proofs.Ytckpegkpdepokaa
