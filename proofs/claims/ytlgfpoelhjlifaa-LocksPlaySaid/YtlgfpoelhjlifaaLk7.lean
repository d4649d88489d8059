/- Locks by names: one that is known; nil ones; the law LocksOfNothing. -/
import Derived.Test.YtlgfpoelhjlifaaTa
import Derived.Test.YtlgfpoelhjlifaaLk6
import Derived.Test.YtlgfpoelhjlifaaSx16
namespace Go.Proofs.Ytlgfpoelhjlifaa
open Go Go.Sx
set_option maxRecDepth 100000
set_option maxHeartbeats 4000000
set_option linter.unusedVariables false
set_option linter.unusedSimpArgs false
attribute [local irreducible] J JQ QS Con W opW
theorem ent23 : Sx.Enters Try.prog 23 := ⟨_, Try.func23, by kernel_rfl, by kernel_rfl⟩
theorem ent24 : Sx.Enters Try.prog 24 := ⟨_, Try.func24, by kernel_rfl, by kernel_rfl⟩
theorem ent28 : Sx.Enters Try.prog 28 := ⟨_, Try.func28, by kernel_rfl, by kernel_rfl⟩

open Go.MapKept Go.WideMaps Go.Maps
def K1 : AT := ⟨[([97], ⟨[(1, true)], [], true⟩)], []⟩
def K2 : AT := ⟨[([97], ⟨[(1, true)], [(2, false)], true⟩)], [(2, [97])]⟩
def K3 : AT := ⟨[([97], ⟨[(2, false)], [], false⟩)], []⟩
theorem k1 : takeF ⟨[], []⟩ 1 [97] true = (K1, true, 0) := by
  unfold takeF
  rw [if_neg (by decide), if_neg (by decide), if_pos (by decide)]
  rfl
theorem k2r : ¬ Reach K2 2 2 := by
  have s2 : succs K2 2 = [1] := by decide +kernel
  have s1 : succs K2 1 = [] := by decide +kernel
  intro h
  cases h with
  | one h => rw [s2] at h; simp at h
  | more h h' =>
    rw [s2, List.mem_singleton] at h
    subst h
    cases h' with
    | one h => rw [s1] at h; cases h
    | more h _ => rw [s1] at h; cases h
theorem k2 : takeF K1 2 [97] false = (K2, false, 0) := by
  have e : ({ lm := aset (ensure K1 [97]).lm [97] { lockA K1 [97] with row := (lockA K1 [97]).row ++ [(2, false)] }, wm := aset K1.wm 2 [97] } : AT) = K2 := by rfl
  unfold takeF
  rw [if_neg (by decide), if_neg (by decide +kernel), if_neg (by decide +kernel), e, if_neg k2r]
theorem k3 : giveF K2 1 [97] = (K3, [2], 0) := by rfl
theorem k4 : holdsA K3 [97] 2 = true := by rfl
theorem ks_inj {l m : List Int} (h : l.length = m.length) (h2 : ∀ i, i < l.length → l.getD i 0 = m.getD i 0) : l = m := by
  apply List.ext_getElem h
  intro i h1 h3
  have := h2 i h1
  rw [List.getD_eq_getElem?_getD, List.getD_eq_getElem?_getD, List.getElem?_eq_getElem h1, List.getElem?_eq_getElem h3] at this
  simpa using this
/-- pantry.pantrylaw12.ints -/
theorem ints_con (l k : List Int) (v1 v2 : Value) (w : World) (h1 : RSl w v1 (ks .i64 l)) (h2 : RSl w v2 (ks .i64 k)) (hl : l.length ≤ 4611686018427387903) : Con Try.prog 28 [v1, v2] w [] fun u _ => u = .bool (l == k) := by
  refine con_of_tree mix Try.func28 T28_ok (by kernel_rfl) ?_
  unfold T28
  obtain ⟨A1, c1, rfl, hc1'⟩ := rsl_form h1
  obtain ⟨A2, c2, rfl, hc2'⟩ := rsl_form h2
  rw [ks_length] at h1 h2 hc1' hc2' ⊢
  rw [ks_length]
  refine j_q (qs_ac) ?_
  refine j_q (qs_lenl Try.underlying36 rfl) ?_
  refine j_q (qs_lenl Try.underlying36 rfl) ?_
  refine j_q (qs_neq rfl rfl) ?_
  refine j_cond rfl (fun hc0 => ?_) (fun hc0 => ?_)
  · skip
    have hne : l.length ≠ k.length := by
      simp only [Bool.and_eq_true, Bool.or_eq_true, Bool.and_eq_false_iff, Bool.or_eq_false_iff, Bool.not_eq_true', Bool.not_eq_false', decide_eq_true_eq, decide_eq_false_iff_not, beq_iff_eq, beq_eq_false_iff_ne, bne_iff_ne, bne_eq_false_iff_eq, ne_eq, Int.toNat_natCast] at *
      omega
    refine j_q (qs_ac) ?_
    refine j_ret_con (vs := [_]) (fun w' hw' => ⟨rfl, trivial⟩) ?_
    show Value.bool _ = _
    congr 1
    symm
    rw [beq_eq_false_iff_ne]
    exact fun e => hne (by rw [e])
  · skip
    have heq : l.length = k.length := by
      simp only [Bool.and_eq_true, Bool.or_eq_true, Bool.and_eq_false_iff, Bool.or_eq_false_iff, Bool.not_eq_true', Bool.not_eq_false', decide_eq_true_eq, decide_eq_false_iff_not, beq_iff_eq, beq_eq_false_iff_ne, bne_iff_ne, bne_eq_false_iff_eq, ne_eq, Int.toNat_natCast] at *
      omega
    refine j_q (qs_ac) ?_
    refine j_loop (fun m vs S' => ∃ i : Nat, vs = [.int .i64 (i : Int)] ∧ S' = [[]] ∧ (∀ j, j < i → l.getD j 0 = k.getD j 0) ∧ i ≤ l.length ∧ m = l.length - i) ⟨_, 0, rfl, rfl, (fun j hj => by omega), Nat.zero_le _, rfl⟩ ?_
    rintro m vs S' hlen ⟨i, rfl, rfl, hall, hin, rfl⟩
    refine j_q (qs_lenl Try.underlying36 rfl) ?_
    refine j_q (qs_lss rfl rfl) ?_
    refine j_cond rfl (fun hc1 => ?_) (fun hc1 => ?_)
    · skip
      have hi : i < l.length := by
        simp only [Bool.and_eq_true, Bool.or_eq_true, Bool.and_eq_false_iff, Bool.or_eq_false_iff, Bool.not_eq_true', Bool.not_eq_false', decide_eq_true_eq, decide_eq_false_iff_not, beq_iff_eq, beq_eq_false_iff_ne, bne_iff_ne, bne_eq_false_iff_eq, ne_eq, Int.toNat_natCast] at *
        omega
      obtain ⟨g1, o1, rfl, _, hcells1⟩ := rsl_addr h1 (by rw [ks_length]; omega)
      obtain ⟨g2, o2, rfl, _, hcells2⟩ := rsl_addr h2 (by rw [ks_length]; omega)
      refine j_draw ?_
      refine jq_q (qs_ixl0 Try.underlying36 sz3 rfl rfl ⟨(by first | omega | (simp only [Bool.and_eq_true, Bool.or_eq_true, Bool.and_eq_false_iff, Bool.or_eq_false_iff, Bool.not_eq_true', Bool.not_eq_false', decide_eq_true_eq, decide_eq_false_iff_not, beq_iff_eq, beq_eq_false_iff_ne, bne_iff_ne, bne_eq_false_iff_eq, ne_eq, Int.toNat_natCast] at *; omega)), (by first | omega | (simp only [Bool.and_eq_true, Bool.or_eq_true, Bool.and_eq_false_iff, Bool.or_eq_false_iff, Bool.not_eq_true', Bool.not_eq_false', decide_eq_true_eq, decide_eq_false_iff_not, beq_iff_eq, beq_eq_false_iff_ne, bne_iff_ne, bne_eq_false_iff_eq, ne_eq, Int.toNat_natCast] at *; omega))⟩) ?_
      refine jq_q (qs_loadrk (rd_cells hcells1 (by simp)) Try.underlying3 rfl (by simp only [Int.toNat_natCast]; omega)) ?_
      simp only [Int.toNat_natCast]
      refine jq_q (qs_ixl0 Try.underlying36 sz3 rfl rfl ⟨(by first | omega | (simp only [Bool.and_eq_true, Bool.or_eq_true, Bool.and_eq_false_iff, Bool.or_eq_false_iff, Bool.not_eq_true', Bool.not_eq_false', decide_eq_true_eq, decide_eq_false_iff_not, beq_iff_eq, beq_eq_false_iff_ne, bne_iff_ne, bne_eq_false_iff_eq, ne_eq, Int.toNat_natCast] at *; omega)), (by first | omega | (simp only [Bool.and_eq_true, Bool.or_eq_true, Bool.and_eq_false_iff, Bool.or_eq_false_iff, Bool.not_eq_true', Bool.not_eq_false', decide_eq_true_eq, decide_eq_false_iff_not, beq_iff_eq, beq_eq_false_iff_ne, bne_iff_ne, bne_eq_false_iff_eq, ne_eq, Int.toNat_natCast] at *; omega))⟩) ?_
      refine jq_q (qs_loadrk (rd_cells hcells2 (by simp)) Try.underlying3 rfl (by simp only [Int.toNat_natCast]; omega)) ?_
      simp only [Int.toNat_natCast]
      refine jq_q (qs_neq rfl rfl) ?_
      refine jq_nil ?_
      refine j_cond rfl (fun hc2 => ?_) (fun hc2 => ?_)
      · skip
        have hd : l.getD i 0 ≠ k.getD i 0 := by simpa using hc2
        refine j_q (qs_ac) ?_
        refine j_ret_con (vs := [_]) (fun w' hw' => ⟨rfl, trivial⟩) ?_
        show Value.bool _ = _
        congr 1
        symm
        rw [beq_eq_false_iff_ne]
        exact fun e => hd (by rw [e])
      · skip
        have hd : l.getD i 0 = k.getD i 0 := by simpa using hc2
        refine j_q (qs_add64 rfl rfl (by first | omega | (simp only [Bool.and_eq_true, Bool.or_eq_true, Bool.and_eq_false_iff, Bool.or_eq_false_iff, Bool.not_eq_true', Bool.not_eq_false', decide_eq_true_eq, decide_eq_false_iff_not, beq_iff_eq, beq_eq_false_iff_ne, bne_iff_ne, bne_eq_false_iff_eq, ne_eq, Int.toNat_natCast] at *; omega))) ?_
        refine j_back rfl ?_
        exact ⟨l.length - (i + 1), by omega, i + 1, rfl, rfl, fun j hj => by
          rcases Nat.lt_or_ge j i with h | h
          · exact hall j h
          · obtain rfl : j = i := by omega
            exact hd, by omega, rfl⟩
    · skip
      have hi : i = l.length := by
        simp only [Bool.and_eq_true, Bool.or_eq_true, Bool.and_eq_false_iff, Bool.or_eq_false_iff, Bool.not_eq_true', Bool.not_eq_false', decide_eq_true_eq, decide_eq_false_iff_not, beq_iff_eq, beq_eq_false_iff_ne, bne_iff_ne, bne_eq_false_iff_eq, ne_eq, Int.toNat_natCast] at *
        omega
      refine j_q (qs_ac) ?_
      refine j_ret_con (vs := [_]) (fun w' hw' => ⟨rfl, trivial⟩) ?_
      show Value.bool _ = _
      congr 1
      symm
      rw [beq_iff_eq]
      exact ks_inj heq fun j hj => hall j (by omega)
/-- pantry.pantrylaw12.known -/
theorem known_con (w : World) : Con Try.prog 9 [] w [] fun u _ => u = .bool true := by
  refine con_of_tree mix Try.func9 T9_ok (by kernel_rfl) ?_
  unfold T9
  refine j_q (qs_ac) ?_
  refine j_call0 ent23 rfl rfl rfl (fun w' hw' => new_con w') (fun u S2 hu => ?_)
  obtain ⟨p0, rfl, rfl, hok0, hlm0, hwm0⟩ := hu
  refine j_subl (S' := [p0.heap]) (by repeat first | exact List.Sublist.refl _ | exact List.nil_sublist _ | apply List.Sublist.cons_cons | apply List.Sublist.cons) ?_
  have hA0 : p0.at_ = ⟨[], []⟩ := by
    show AT.mk _ _ = _
    rw [hlm0, hwm0]
    rfl
  refine j_call 0 ent24 rfl rfl rfl rfl (fun w' hw' => take_con 0 (by decide) p0 1 [97] true w' hok0 ⟨by decide, by decide⟩ (by decide)) (fun u S2 hu => ?_)
  obtain ⟨p1, r2, e2, rfl, rfl, hgt2, hok2, hT2⟩ := hu
  rw [hA0, k1] at hT2
  obtain ⟨hA2, hr2⟩ := Prod.mk.inj hT2
  obtain ⟨hr2, he2⟩ := Prod.mk.inj hr2
  subst hr2 he2
  refine j_subl (S' := [p1.heap]) (by repeat first | exact List.Sublist.refl _ | exact List.nil_sublist _ | apply List.Sublist.cons_cons | apply List.Sublist.cons) ?_
  rw [← hgt2]
  refine j_q (qs_ext (vs := [.bool true, .int .i64 0]) rfl rfl) ?_
  refine j_q (qs_ext (vs := [.bool true, .int .i64 0]) rfl rfl) ?_
  refine j_call 0 ent24 rfl rfl rfl rfl (fun w' hw' => take_con 1 (by decide) p1 2 [97] false w' hok2 ⟨by decide, by decide⟩ (by decide)) (fun u S2 hu => ?_)
  obtain ⟨p2, r5, e5, rfl, rfl, hgt5, hok5, hT5⟩ := hu
  rw [hA2, k2] at hT5
  obtain ⟨hA5, hr5⟩ := Prod.mk.inj hT5
  obtain ⟨hr5, he5⟩ := Prod.mk.inj hr5
  subst hr5 he5
  refine j_subl (S' := [p2.heap]) (by repeat first | exact List.Sublist.refl _ | exact List.nil_sublist _ | apply List.Sublist.cons_cons | apply List.Sublist.cons) ?_
  rw [← hgt5]
  refine j_q (qs_ext (vs := [.bool false, .int .i64 0]) rfl rfl) ?_
  refine j_q (qs_ext (vs := [.bool false, .int .i64 0]) rfl rfl) ?_
  refine j_call 0 ent26 rfl rfl rfl rfl (fun w' hw' => give_con 2 (by decide) p2 1 [97] w' hok5 ⟨by decide, by decide⟩ (by decide)) (fun u S2 hu => ?_)
  obtain ⟨p3, out, oc, e8, v8, rfl, rfl, ho8, hgt8, hok8, hG, _⟩ := hu
  rw [hA5, k3] at hG
  obtain ⟨hA8, hr8⟩ := Prod.mk.inj hG
  obtain ⟨hr8, he8⟩ := Prod.mk.inj hr8
  subst hr8 he8
  refine j_subl (S' := [p3.heap, oc]) (by repeat first | exact List.Sublist.refl _ | exact List.nil_sublist _ | apply List.Sublist.cons_cons | apply List.Sublist.cons) ?_
  rw [← hgt8]
  refine j_q (qs_ext (vs := [v8, .int .i64 0]) rfl rfl) ?_
  refine j_q (qs_ext (vs := [v8, .int .i64 0]) rfl rfl) ?_
  refine j_g rfl (fun hb => qs_mt rfl) ?_
  refine j_g rfl (fun hb => qs_not (gd_eq hb)) ?_
  refine j_q (qs_and rfl rfl) ?_
  refine j_g rfl (fun hb => qs_mt rfl) ?_
  refine j_g rfl (fun hb => qs_eql (gd_eq hb) rfl) ?_
  refine j_q (qs_and rfl rfl) ?_
  refine j_g rfl (fun hb => qs_mt rfl) ?_
  refine j_g rfl (fun hb => qs_eql (gd_eq hb) rfl) ?_
  refine j_q (qs_and rfl rfl) ?_
  refine j_g rfl (fun hb => qs_mt rfl) ?_
  refine j_g rfl (fun hb => qs_eql (gd_eq hb) rfl) ?_
  refine j_q (qs_and rfl rfl) ?_
  refine j_g rfl (fun hb => qs_mt rfl) ?_
  refine j_ga rfl ?_
  refine j_lit (vs := [.int .i64 2]) Try.underlying36 sz3 zero3 rfl (by simp [oneV]) ⟨rfl, by decide⟩ (fun g24 v24 c24 hv24 hc24 ho24 => ?_)
  rw [hv24] at ho24 ⊢
  refine j_gt rfl (qs_call ent28 rfl rfl rfl (fun w' hw' => ints_con [2] [2] _ _ w' (rsl_own ho8 2 rfl hw') (rsl_own ho24 0 rfl hw') (by decide))) ?_
  refine j_q (qs_and rfl rfl) ?_
  refine j_g rfl (fun hb => qs_mt rfl) ?_
  refine j_gt rfl (qs_call ent33 rfl rfl rfl (fun w' hw' => holds2_con 2 p3 2 [97] w' (in_own hw' 1 rfl) hok8 ⟨by decide, by decide⟩ (by decide))) ?_
  rw [hA8, k4]
  refine j_q (qs_and rfl rfl) ?_
  refine j_ret_con (vs := [_]) (fun w' hw' => ⟨rfl, trivial⟩) ?_
  rfl
end Go.Proofs.Ytlgfpoelhjlifaa
