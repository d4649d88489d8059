/- Derivations: lists read, whatever their members. -/
import Derived.Test.YtfeabbeebkkhaaaGreatTa
import Derived.Test.YtfeabbeebkkhaaaGreatDv15
namespace Go.Proofs.YtfeabbeebkkhaaaGreat
open Go Go.Sx
set_option maxRecDepth 100000
set_option maxHeartbeats 4000000
set_option linter.unusedVariables false
set_option linter.unusedSimpArgs false
attribute [local irreducible] J JQ QS Con W opW
theorem ent129 : Sx.Enters Tryz.prog 129 := ⟨_, Tryz.func129, by kernel_rfl, by kernel_rfl⟩

section
variable {α : Type} {g : α → Bs} {ok : α → Prop} {r0 r r1 r2 : Bs} {acc : List α}
theorem cms_cons (x : Bs) (l : List Bs) : cms (x :: l) = x ++ (l.map fun y => 44 :: y).flatten := by
  unfold cms
  rw [List.map_cons, List.flatten_cons, List.cons_append, List.drop_succ_cons, List.drop_zero]
def tl (g : α → Bs) (l : List α) : Bs := (l.map fun a => 44 :: g a).flatten
theorem cms_tl (a : α) (l : List α) : cms ((a :: l).map g) = g a ++ tl g l := by
  rw [List.map_cons, cms_cons, List.map_map]
  rfl
/-- what has been read of a list, whatever list it was -/
def MnK (g : α → Bs) (ok : α → Prop) (r0 r : Bs) (acc : List α) : Prop := ∀ (l : List α) (z : Bs), (∀ a ∈ l, ok a) → r0 = lst [91] (l.map g) [93] ++ z → ∃ l2, l = acc ++ l2 ∧ r = (if acc.length = 0 then cms (l2.map g) else tl g l2) ++ ([93] ++ z)
theorem mnk_start (h : r0 = [91] ++ r) : MnK g ok r0 r [] := fun l z hok hx => by
  refine ⟨l, rfl, ?_⟩
  rw [hx] at h
  unfold lst at h
  simp only [List.append_assoc, List.cons_append, List.nil_append, List.cons.injEq, true_and] at h
  show r = cms (l.map g) ++ ([93] ++ z)
  rw [← h]
  all_goals rfl
theorem mnk_end (hg : ∀ a, ∃ c t, g a = c :: t ∧ c ≠ 93) (h : MnK g ok r0 r acc) (hr : r = [93] ++ r1) : ∀ (l : List α) (z : Bs), (∀ a ∈ l, ok a) → r0 = lst [91] (l.map g) [93] ++ z → acc = l ∧ r1 = z := fun l z hok hx => by
  obtain ⟨l2, h1, h2⟩ := h l z hok hx
  rw [hr] at h2
  cases l2 with
  | nil =>
    have e : (if acc.length = 0 then cms (([] : List α).map g) else tl g []) = [] := by split <;> rfl
    rw [e] at h2
    simp only [List.cons_append, List.nil_append, List.cons.injEq, true_and] at h2
    exact ⟨by rw [h1, List.append_nil], h2⟩
  | cons a l2 =>
    exfalso
    split at h2
    · rw [cms_tl] at h2
      obtain ⟨c, t, h3, h4⟩ := hg a
      rw [h3] at h2
      simp only [List.cons_append, List.nil_append, List.cons.injEq] at h2
      exact h4 h2.1.symm
    · unfold tl at h2
      rw [List.map_cons, List.flatten_cons] at h2
      simp only [List.cons_append, List.nil_append, List.cons.injEq] at h2
      exact absurd h2.1 (by decide)
theorem mnk_more (h : MnK g ok r0 r acc) (hr : ¬ ∃ r', r = [93] ++ r') : ∀ (l : List α) (z : Bs), (∀ a ∈ l, ok a) → r0 = lst [91] (l.map g) [93] ++ z → ∃ a l2, ok a ∧ l = acc ++ a :: l2 ∧ r = (if acc.length = 0 then [] else [44]) ++ (g a ++ (tl g l2 ++ ([93] ++ z))) := fun l z hok hx => by
  obtain ⟨l2, h1, h2⟩ := h l z hok hx
  cases l2 with
  | nil =>
    exfalso
    have e : (if acc.length = 0 then cms (([] : List α).map g) else tl g []) = [] := by split <;> rfl
    rw [e] at h2
    exact hr ⟨z, h2⟩
  | cons a l2 =>
    refine ⟨a, l2, hok a (by rw [h1]; simp), h1, ?_⟩
    rw [h2]
    split
    · rw [cms_tl]
      simp
    · unfold tl
      rw [List.map_cons, List.flatten_cons]
      simp
theorem mnk_next (h : MnK g ok r0 r acc) (hr : ¬ ∃ r', r = [93] ++ r') (h1 : r = (if acc.length = 0 then [] else [44]) ++ r1) {a : α} (ha : ∀ a2 z, ok a2 → r1 = g a2 ++ z → a = a2 ∧ r2 = z) : MnK g ok r0 r2 (acc ++ [a]) := fun l z hok hx => by
  obtain ⟨a2, l2, h2, h3, h4⟩ := mnk_more h hr l z hok hx
  rw [h1] at h4
  obtain ⟨rfl, h6⟩ := ha a2 _ h2 (List.append_cancel_left h4)
  exact ⟨l2, by rw [h3]; simp, by rw [if_neg (by simp), h6]⟩
theorem mnk_comma (h : MnK g ok r0 r acc) (hr : ¬ ∃ r', r = [93] ++ r') (h0 : acc.length ≠ 0) (hb : ¬ ∃ r', r = [44] ++ r') : ∀ (l : List α) (z : Bs), (∀ a ∈ l, ok a) → r0 ≠ lst [91] (l.map g) [93] ++ z := fun l z hok hx => by
  obtain ⟨a2, l2, h2, h3, h4⟩ := mnk_more h hr l z hok hx
  rw [if_neg h0] at h4
  exact hb ⟨_, h4⟩
theorem mnk_of (h : MnK g ok r0 r acc) (hr : ¬ ∃ r', r = [93] ++ r') (h1 : r = (if acc.length = 0 then [] else [44]) ++ r1) (hb : ∀ a2 z, ok a2 → r1 ≠ g a2 ++ z) : ∀ (l : List α) (z : Bs), (∀ a ∈ l, ok a) → r0 ≠ lst [91] (l.map g) [93] ++ z := fun l z hok hx => by
  obtain ⟨a2, l2, h2, h3, h4⟩ := mnk_more h hr l z hok hx
  rw [h1] at h4
  exact hb a2 _ h2 (List.append_cancel_left h4)
theorem sum_ge {wt : α → Nat} (h : ∀ a, 10 ≤ wt a) (l : List α) : 10 * l.length ≤ (l.map wt).sum := by
  induction l with
  | nil => simp
  | cons a l ih =>
    have := h a
    simp only [List.length_cons, List.map_cons, List.sum_cons]
    omega
end
def PMine (mi : List MI) (F : SH) : Prop := ∀ m ∈ mi, ∃ c, Sx.Own 9 1 (strs m.outs) m.v c ∧ ∀ p ∈ c, p ∈ F
theorem pmine_nil : PMine [] [] := fun m hm => by cases hm
theorem pmine_snoc {mi : List MI} {F c : SH} {m : MI} (h : PMine mi F) (ho : Sx.Own 9 1 (strs m.outs) m.v c) : PMine (mi ++ [m]) (c ++ F) := fun y hy => by
  rcases List.mem_append.1 hy with hy | hy
  · obtain ⟨c', h1, h2⟩ := h y hy
    exact ⟨c', h1, fun p hp => List.mem_append_right _ (h2 p hp)⟩
  · rw [List.mem_singleton] at hy
    subst hy
    exact ⟨c, ho, fun p hp => List.mem_append_left _ hp⟩
attribute [local irreducible] es qt cms hex Tbl Half lst TxK MnK tl
/-- pantry.drv.many[pantry.api.Output] -/
theorem manyO_con (gr : Nat) (r0 : Bs) (g : PO → Bs) (ok : PO → Prop) (wt : PO → Nat) (f : Nat) (first cap : Array Value) (w : World) (hr0 : r0.length ≤ 300000) (hen : Sx.Enters Tryz.prog f) (hg : ∀ a, ∃ c t, g a = c :: t ∧ c ≠ 93) (hw10 : ∀ a, 10 ≤ wt a) (hf : ∀ (r : Bs) (w' : World) (S : List SH), r.length ≤ r0.length → Sig ⟨w, dom [RC gr r0]⟩ S w' → ConB Tryz.prog BADV f (first.toList ++ cap.toList) w' [RC gr r] (fun v S' => ∃ (a : PO) (r' : Bs), v = .agg (encO a).toArray ∧ S' = [[RC gr r']] ∧ wt a + 10 * r'.length ≤ 10 * r.length ∧ (∀ a2 z, ok a2 → r = g a2 ++ z → a = a2 ∧ r' = z)) (∀ a2 z, ok a2 → r ≠ g a2 ++ z)) : ConB Tryz.prog BADV 83 [rp gr, .func (.func f) first cap] w [RC gr r0] (fun v S' => ∃ (l : List PO) (cl : SH) (r' : Bs), S' = [cl, [RC gr r']] ∧ Sx.Own 53 35 ((l.map encO).flatten) v cl ∧ (l.map wt).sum + 10 * r'.length ≤ 10 * r0.length ∧ (∀ (l3 : List PO) (z : Bs), (∀ a ∈ l3, ok a) → r0 = lst [91] (l3.map g) [93] ++ z → l = l3 ∧ r' = z)) (∀ (l3 : List PO) (z : Bs), (∀ a ∈ l3, ok a) → r0 ≠ lst [91] (l3.map g) [93] ++ z) := by
  refine conb_of_tree mix Tryz.func83 T83_ok (by kernel_rfl) ?_
  unfold T83
  refine j_q (qs_ac) ?_
  refine j_callB 0 ent81 rfl rfl rfl rfl (fun w' hw' => sign_con gr [91] r0 w' (by simp) (by omega)) (fun hb l3 z _ hx => hb ⟨cms (l3.map g) ++ [93] ++ z, by rw [hx]; unfold lst; simp⟩) (fun u S2 hu => ?_)
  obtain ⟨rfl, r1, hr1, rfl⟩ := hu
  have hrl : r0.length = r1.length + 1 := by rw [hr1]; simp
  refine j_perm (S' := [[], [RC gr r1]]) (by simp) ?_
  refine j_q (qs_ac) ?_
  refine j_loop (fun m vs S' => ∃ (lv : Value) (cl : SH) (r : Bs) (acc : List PO), vs = [lv] ∧ S' = [cl, [RC gr r]] ∧ Sx.Own 53 35 ((acc.map encO).flatten) lv cl ∧ MnK g ok r0 r acc ∧ (acc.map wt).sum + 10 * r.length ≤ 10 * r0.length ∧ m = r.length) ⟨_, .slice none 0 0, [], r1, [], rfl, rfl, own_nil, (mnk_start hr1), (by simp only [List.map_nil, List.sum_nil]; omega), rfl⟩ ?_
  rintro m vs S' hlen ⟨lv, cl, r, acc, rfl, rfl, hol, hk, hsum, rfl⟩
  obtain ⟨nl, Al, capl, rfl, hnl⟩ := own_form hol (by decide)
  rw [flat_len encO_len] at hnl
  have hnl2 : nl = acc.length := by omega
  subst hnl2
  have hal : 10 * acc.length ≤ (acc.map wt).sum := by
    have := sum_ge hw10 acc
    skip
    exact this
  refine j_q (qs_nil rfl) ?_
  refine j_q (qs_field Tryz.underlying87 rfl sz9 (by decide) rfl) ?_
  refine j_q (qs_load (l := [.string (bs r)]) 1 Tryz.underlying9 rfl rfl rfl rfl) ?_
  refine j_q (qs_call ent129 rfl rfl rfl (fun w' hw' => hasPre_con [93] r w' (by simp) (by omega))) ?_
  refine j_q (qs_not rfl) ?_
  refine j_cond rfl (fun hc0 => ?_) (fun hc0 => ?_)
  · skip
    have hno : ¬ ∃ r', r = [93] ++ r' := fun hx => by rw [pre_iff.2 hx] at hc0; cases hc0
    refine j_q (qs_lenl Tryz.underlying26 rfl) ?_
    refine j_q (qs_gtr rfl rfl) ?_
    refine j_cond rfl (fun hc1 => ?_) (fun hc1 => ?_)
    · skip
      have hne : acc.length ≠ 0 := by simp only [Bool.and_eq_true, Bool.or_eq_true, Bool.and_eq_false_iff, Bool.or_eq_false_iff, Bool.not_eq_true', Bool.not_eq_false', decide_eq_true_eq, decide_eq_false_iff_not, beq_iff_eq, beq_eq_false_iff_ne, bne_iff_ne, bne_eq_false_iff_eq, ne_eq, Int.toNat_natCast] at *; omega
      refine j_callB 1 ent81 rfl rfl rfl rfl (fun w' hw' => sign_con gr [44] r w' (by simp) (by omega)) (fun hb => mnk_comma hk hno hne hb) (fun u S2 hu => ?_)
      obtain ⟨rfl, r1, hr1, rfl⟩ := hu
      refine j_subl (S' := [[RC gr r1], cl]) (by repeat first | exact List.Sublist.refl _ | exact List.nil_sublist _ | apply List.Sublist.cons_cons | apply List.Sublist.cons) ?_
      refine j_perm (S' := [cl, [RC gr r1]]) (by classical exact List.perm_iff_count.2 fun a => by simp only [List.set_cons_succ, List.set_cons_zero, List.flatten_cons, List.flatten_nil, List.append_nil, List.nil_append, List.cons_append, List.count_append, List.count_cons, List.count_nil] <;> omega) ?_
      have hr1l : r.length = r1.length + 1 := by rw [hr1]; simp
      refine j_callfB 1 hen rfl rfl (by simp) rfl (fun w' hw' => hf r1 w' _ (by omega) hw') (fun hb => mnk_of hk hno (by rw [if_neg hne]; exact hr1) hb) (fun u S2 hu => ?_)
      obtain ⟨a, r2, rfl, rfl, hwt, ha⟩ := hu
      have hk2 := mnk_next hk hno (by rw [if_neg hne]; exact hr1) ha
      have hnx : r2.length < r.length := by have := hw10 a; omega
      refine j_litw (vs := encO a) Tryz.underlying26 sz53 zero53 rfl rfl ⟨encO_len _, by decide, by decide⟩ (fun g12 hg12 ho12 => ?_)
      refine j_append 2 Tryz.underlying26 Tryz.underlying26 (.inr ⟨_, rfl⟩) sb53 zero53 rfl hol rfl (.inl ⟨_, _, rfl, rd_own (off := 0) (n := 35) 0 rfl rfl, (by rw [List.drop_zero, List.take_of_length_le (by rw [encO_len]; exact Nat.le_refl _), encO_len])⟩) (by intro u hu; exact encO_one a u (by rw [List.drop_zero] at hu; exact List.mem_of_mem_take hu)) ⟨(by simp only [strs_length, List.drop_zero, List.length_take, flat_len encO_len, encO_len, List.length_cons, List.length_nil]; omega), (by decide)⟩ (fun v13 c13 ho13 => ?_)
      have ho13 : Sx.Own 53 35 (((acc ++ [a]).map encO).flatten) v13 c13 := by
        have e : ((acc ++ [a]).map encO).flatten = (acc.map encO).flatten ++ encO a := by simp
        rw [e]
        have e2 : ((encO a).drop 0).take 35 = encO a := by rw [List.drop_zero, List.take_of_length_le (by rw [encO_len]; exact Nat.le_refl _)]
        rw [e2] at ho13
        exact ho13
      refine j_subl (S' := [[RC gr r2], c13]) (by repeat first | exact List.Sublist.refl _ | exact List.nil_sublist _ | apply List.Sublist.cons_cons | apply List.Sublist.cons) ?_
      refine j_perm (S' := [c13, [RC gr r2]]) (by classical exact List.perm_iff_count.2 fun a => by simp only [List.set_cons_succ, List.set_cons_zero, List.flatten_cons, List.flatten_nil, List.append_nil, List.nil_append, List.cons_append, List.count_append, List.count_cons, List.count_nil] <;> omega) ?_
      refine j_back rfl ?_
      exact ⟨r2.length, hnx, v13, c13, r2, acc ++ [a], rfl, rfl, ho13, hk2, by rw [List.map_append, List.sum_append]; simp only [List.map_cons, List.map_nil, List.sum_cons, List.sum_nil]; omega, rfl⟩
    · skip
      have hne : acc.length = 0 := by simp only [Bool.and_eq_true, Bool.or_eq_true, Bool.and_eq_false_iff, Bool.or_eq_false_iff, Bool.not_eq_true', Bool.not_eq_false', decide_eq_true_eq, decide_eq_false_iff_not, beq_iff_eq, beq_eq_false_iff_ne, bne_iff_ne, bne_eq_false_iff_eq, ne_eq, Int.toNat_natCast] at *; omega
      refine j_callfB 1 hen rfl rfl (by simp) rfl (fun w' hw' => hf r w' _ (by omega) hw') (fun hb => mnk_of hk hno (by rw [if_pos hne]; rfl) hb) (fun u S2 hu => ?_)
      obtain ⟨a, r2, rfl, rfl, hwt, ha⟩ := hu
      have hk2 := mnk_next hk hno (by rw [if_pos hne]; rfl) ha
      have hnx : r2.length < r.length := by have := hw10 a; omega
      refine j_litw (vs := encO a) Tryz.underlying26 sz53 zero53 rfl rfl ⟨encO_len _, by decide, by decide⟩ (fun g15 hg15 ho15 => ?_)
      refine j_append 2 Tryz.underlying26 Tryz.underlying26 (.inr ⟨_, rfl⟩) sb53 zero53 rfl hol rfl (.inl ⟨_, _, rfl, rd_own (off := 0) (n := 35) 0 rfl rfl, (by rw [List.drop_zero, List.take_of_length_le (by rw [encO_len]; exact Nat.le_refl _), encO_len])⟩) (by intro u hu; exact encO_one a u (by rw [List.drop_zero] at hu; exact List.mem_of_mem_take hu)) ⟨(by simp only [strs_length, List.drop_zero, List.length_take, flat_len encO_len, encO_len, List.length_cons, List.length_nil]; omega), (by decide)⟩ (fun v16 c16 ho16 => ?_)
      have ho16 : Sx.Own 53 35 (((acc ++ [a]).map encO).flatten) v16 c16 := by
        have e : ((acc ++ [a]).map encO).flatten = (acc.map encO).flatten ++ encO a := by simp
        rw [e]
        have e2 : ((encO a).drop 0).take 35 = encO a := by rw [List.drop_zero, List.take_of_length_le (by rw [encO_len]; exact Nat.le_refl _)]
        rw [e2] at ho16
        exact ho16
      refine j_subl (S' := [[RC gr r2], c16]) (by repeat first | exact List.Sublist.refl _ | exact List.nil_sublist _ | apply List.Sublist.cons_cons | apply List.Sublist.cons) ?_
      refine j_perm (S' := [c16, [RC gr r2]]) (by classical exact List.perm_iff_count.2 fun a => by simp only [List.set_cons_succ, List.set_cons_zero, List.flatten_cons, List.flatten_nil, List.append_nil, List.nil_append, List.cons_append, List.count_append, List.count_cons, List.count_nil] <;> omega) ?_
      refine j_back rfl ?_
      exact ⟨r2.length, hnx, v16, c16, r2, acc ++ [a], rfl, rfl, ho16, hk2, by rw [List.map_append, List.sum_append]; simp only [List.map_cons, List.map_nil, List.sum_cons, List.sum_nil]; omega, rfl⟩
  · skip
    have hyes : ∃ r', r = [93] ++ r' := pre_iff.1 (by simpa using hc0)
    refine j_callB 1 ent81 rfl rfl rfl rfl (fun w' hw' => sign_con gr [93] r w' (by simp) (by omega)) (fun hb => absurd hyes hb) (fun u S2 hu => ?_)
    obtain ⟨rfl, r1, hr1, rfl⟩ := hu
    refine j_subl (S' := [[RC gr r1], cl]) (by repeat first | exact List.Sublist.refl _ | exact List.nil_sublist _ | apply List.Sublist.cons_cons | apply List.Sublist.cons) ?_
    refine j_perm (S' := [cl, [RC gr r1]]) (by classical exact List.perm_iff_count.2 fun a => by simp only [List.set_cons_succ, List.set_cons_zero, List.flatten_cons, List.flatten_nil, List.append_nil, List.nil_append, List.cons_append, List.count_append, List.count_cons, List.count_nil] <;> omega) ?_
    have hr1l : r.length = r1.length + 1 := by rw [hr1]; simp
    refine j_ret_conb (vs := [_]) (fun w' hw' => ⟨rfl, trivial⟩) ?_
    exact ⟨acc, cl, r1, rfl, hol, by omega, mnk_end hg hk hr1⟩
/-- pantry.drv.many[pantry.api.Var] -/
theorem manyV_con (gr : Nat) (r0 : Bs) (g : PV → Bs) (ok : PV → Prop) (wt : PV → Nat) (f : Nat) (first cap : Array Value) (w : World) (hr0 : r0.length ≤ 300000) (hen : Sx.Enters Tryz.prog f) (hg : ∀ a, ∃ c t, g a = c :: t ∧ c ≠ 93) (hw10 : ∀ a, 10 ≤ wt a) (hf : ∀ (r : Bs) (w' : World) (S : List SH), r.length ≤ r0.length → Sig ⟨w, dom [RC gr r0]⟩ S w' → ConB Tryz.prog BADV f (first.toList ++ cap.toList) w' [RC gr r] (fun v S' => ∃ (a : PV) (r' : Bs), v = .agg (encV a).toArray ∧ S' = [[RC gr r']] ∧ wt a + 10 * r'.length ≤ 10 * r.length ∧ (∀ a2 z, ok a2 → r = g a2 ++ z → a = a2 ∧ r' = z)) (∀ a2 z, ok a2 → r ≠ g a2 ++ z)) : ConB Tryz.prog BADV 90 [rp gr, .func (.func f) first cap] w [RC gr r0] (fun v S' => ∃ (l : List PV) (cl : SH) (r' : Bs), S' = [cl, [RC gr r']] ∧ Sx.Own 48 2 ((l.map encV).flatten) v cl ∧ (l.map wt).sum + 10 * r'.length ≤ 10 * r0.length ∧ (∀ (l3 : List PV) (z : Bs), (∀ a ∈ l3, ok a) → r0 = lst [91] (l3.map g) [93] ++ z → l = l3 ∧ r' = z)) (∀ (l3 : List PV) (z : Bs), (∀ a ∈ l3, ok a) → r0 ≠ lst [91] (l3.map g) [93] ++ z) := by
  refine conb_of_tree mix Tryz.func90 T90_ok (by kernel_rfl) ?_
  unfold T90
  refine j_q (qs_ac) ?_
  refine j_callB 0 ent81 rfl rfl rfl rfl (fun w' hw' => sign_con gr [91] r0 w' (by simp) (by omega)) (fun hb l3 z _ hx => hb ⟨cms (l3.map g) ++ [93] ++ z, by rw [hx]; unfold lst; simp⟩) (fun u S2 hu => ?_)
  obtain ⟨rfl, r1, hr1, rfl⟩ := hu
  have hrl : r0.length = r1.length + 1 := by rw [hr1]; simp
  refine j_perm (S' := [[], [RC gr r1]]) (by simp) ?_
  refine j_q (qs_ac) ?_
  refine j_loop (fun m vs S' => ∃ (lv : Value) (cl : SH) (r : Bs) (acc : List PV), vs = [lv] ∧ S' = [cl, [RC gr r]] ∧ Sx.Own 48 2 ((acc.map encV).flatten) lv cl ∧ MnK g ok r0 r acc ∧ (acc.map wt).sum + 10 * r.length ≤ 10 * r0.length ∧ m = r.length) ⟨_, .slice none 0 0, [], r1, [], rfl, rfl, own_nil, (mnk_start hr1), (by simp only [List.map_nil, List.sum_nil]; omega), rfl⟩ ?_
  rintro m vs S' hlen ⟨lv, cl, r, acc, rfl, rfl, hol, hk, hsum, rfl⟩
  obtain ⟨nl, Al, capl, rfl, hnl⟩ := own_form hol (by decide)
  rw [flat_len encV_len] at hnl
  have hnl2 : nl = acc.length := by omega
  subst hnl2
  have hal : 10 * acc.length ≤ (acc.map wt).sum := by
    have := sum_ge hw10 acc
    skip
    exact this
  refine j_q (qs_nil rfl) ?_
  refine j_q (qs_field Tryz.underlying87 rfl sz9 (by decide) rfl) ?_
  refine j_q (qs_load (l := [.string (bs r)]) 1 Tryz.underlying9 rfl rfl rfl rfl) ?_
  refine j_q (qs_call ent129 rfl rfl rfl (fun w' hw' => hasPre_con [93] r w' (by simp) (by omega))) ?_
  refine j_q (qs_not rfl) ?_
  refine j_cond rfl (fun hc0 => ?_) (fun hc0 => ?_)
  · skip
    have hno : ¬ ∃ r', r = [93] ++ r' := fun hx => by rw [pre_iff.2 hx] at hc0; cases hc0
    refine j_q (qs_lenl Tryz.underlying23 rfl) ?_
    refine j_q (qs_gtr rfl rfl) ?_
    refine j_cond rfl (fun hc1 => ?_) (fun hc1 => ?_)
    · skip
      have hne : acc.length ≠ 0 := by simp only [Bool.and_eq_true, Bool.or_eq_true, Bool.and_eq_false_iff, Bool.or_eq_false_iff, Bool.not_eq_true', Bool.not_eq_false', decide_eq_true_eq, decide_eq_false_iff_not, beq_iff_eq, beq_eq_false_iff_ne, bne_iff_ne, bne_eq_false_iff_eq, ne_eq, Int.toNat_natCast] at *; omega
      refine j_callB 1 ent81 rfl rfl rfl rfl (fun w' hw' => sign_con gr [44] r w' (by simp) (by omega)) (fun hb => mnk_comma hk hno hne hb) (fun u S2 hu => ?_)
      obtain ⟨rfl, r1, hr1, rfl⟩ := hu
      refine j_subl (S' := [[RC gr r1], cl]) (by repeat first | exact List.Sublist.refl _ | exact List.nil_sublist _ | apply List.Sublist.cons_cons | apply List.Sublist.cons) ?_
      refine j_perm (S' := [cl, [RC gr r1]]) (by classical exact List.perm_iff_count.2 fun a => by simp only [List.set_cons_succ, List.set_cons_zero, List.flatten_cons, List.flatten_nil, List.append_nil, List.nil_append, List.cons_append, List.count_append, List.count_cons, List.count_nil] <;> omega) ?_
      have hr1l : r.length = r1.length + 1 := by rw [hr1]; simp
      refine j_callfB 1 hen rfl rfl (by simp) rfl (fun w' hw' => hf r1 w' _ (by omega) hw') (fun hb => mnk_of hk hno (by rw [if_neg hne]; exact hr1) hb) (fun u S2 hu => ?_)
      obtain ⟨a, r2, rfl, rfl, hwt, ha⟩ := hu
      have hk2 := mnk_next hk hno (by rw [if_neg hne]; exact hr1) ha
      have hnx : r2.length < r.length := by have := hw10 a; omega
      refine j_litw (vs := encV a) Tryz.underlying23 sz48 zero48 rfl rfl ⟨encV_len _, by decide, by decide⟩ (fun g12 hg12 ho12 => ?_)
      refine j_append 2 Tryz.underlying23 Tryz.underlying23 (.inr ⟨_, rfl⟩) sb48 zero48 rfl hol rfl (.inl ⟨_, _, rfl, rd_own (off := 0) (n := 2) 0 rfl rfl, (by rw [List.drop_zero, List.take_of_length_le (by rw [encV_len]; exact Nat.le_refl _), encV_len])⟩) (by intro u hu; exact encV_one a u (by rw [List.drop_zero] at hu; exact List.mem_of_mem_take hu)) ⟨(by simp only [strs_length, List.drop_zero, List.length_take, flat_len encV_len, encV_len, List.length_cons, List.length_nil]; omega), (by decide)⟩ (fun v13 c13 ho13 => ?_)
      have ho13 : Sx.Own 48 2 (((acc ++ [a]).map encV).flatten) v13 c13 := by
        have e : ((acc ++ [a]).map encV).flatten = (acc.map encV).flatten ++ encV a := by simp
        rw [e]
        have e2 : ((encV a).drop 0).take 2 = encV a := by rw [List.drop_zero, List.take_of_length_le (by rw [encV_len]; exact Nat.le_refl _)]
        rw [e2] at ho13
        exact ho13
      refine j_subl (S' := [[RC gr r2], c13]) (by repeat first | exact List.Sublist.refl _ | exact List.nil_sublist _ | apply List.Sublist.cons_cons | apply List.Sublist.cons) ?_
      refine j_perm (S' := [c13, [RC gr r2]]) (by classical exact List.perm_iff_count.2 fun a => by simp only [List.set_cons_succ, List.set_cons_zero, List.flatten_cons, List.flatten_nil, List.append_nil, List.nil_append, List.cons_append, List.count_append, List.count_cons, List.count_nil] <;> omega) ?_
      refine j_back rfl ?_
      exact ⟨r2.length, hnx, v13, c13, r2, acc ++ [a], rfl, rfl, ho13, hk2, by rw [List.map_append, List.sum_append]; simp only [List.map_cons, List.map_nil, List.sum_cons, List.sum_nil]; omega, rfl⟩
    · skip
      have hne : acc.length = 0 := by simp only [Bool.and_eq_true, Bool.or_eq_true, Bool.and_eq_false_iff, Bool.or_eq_false_iff, Bool.not_eq_true', Bool.not_eq_false', decide_eq_true_eq, decide_eq_false_iff_not, beq_iff_eq, beq_eq_false_iff_ne, bne_iff_ne, bne_eq_false_iff_eq, ne_eq, Int.toNat_natCast] at *; omega
      refine j_callfB 1 hen rfl rfl (by simp) rfl (fun w' hw' => hf r w' _ (by omega) hw') (fun hb => mnk_of hk hno (by rw [if_pos hne]; rfl) hb) (fun u S2 hu => ?_)
      obtain ⟨a, r2, rfl, rfl, hwt, ha⟩ := hu
      have hk2 := mnk_next hk hno (by rw [if_pos hne]; rfl) ha
      have hnx : r2.length < r.length := by have := hw10 a; omega
      refine j_litw (vs := encV a) Tryz.underlying23 sz48 zero48 rfl rfl ⟨encV_len _, by decide, by decide⟩ (fun g15 hg15 ho15 => ?_)
      refine j_append 2 Tryz.underlying23 Tryz.underlying23 (.inr ⟨_, rfl⟩) sb48 zero48 rfl hol rfl (.inl ⟨_, _, rfl, rd_own (off := 0) (n := 2) 0 rfl rfl, (by rw [List.drop_zero, List.take_of_length_le (by rw [encV_len]; exact Nat.le_refl _), encV_len])⟩) (by intro u hu; exact encV_one a u (by rw [List.drop_zero] at hu; exact List.mem_of_mem_take hu)) ⟨(by simp only [strs_length, List.drop_zero, List.length_take, flat_len encV_len, encV_len, List.length_cons, List.length_nil]; omega), (by decide)⟩ (fun v16 c16 ho16 => ?_)
      have ho16 : Sx.Own 48 2 (((acc ++ [a]).map encV).flatten) v16 c16 := by
        have e : ((acc ++ [a]).map encV).flatten = (acc.map encV).flatten ++ encV a := by simp
        rw [e]
        have e2 : ((encV a).drop 0).take 2 = encV a := by rw [List.drop_zero, List.take_of_length_le (by rw [encV_len]; exact Nat.le_refl _)]
        rw [e2] at ho16
        exact ho16
      refine j_subl (S' := [[RC gr r2], c16]) (by repeat first | exact List.Sublist.refl _ | exact List.nil_sublist _ | apply List.Sublist.cons_cons | apply List.Sublist.cons) ?_
      refine j_perm (S' := [c16, [RC gr r2]]) (by classical exact List.perm_iff_count.2 fun a => by simp only [List.set_cons_succ, List.set_cons_zero, List.flatten_cons, List.flatten_nil, List.append_nil, List.nil_append, List.cons_append, List.count_append, List.count_cons, List.count_nil] <;> omega) ?_
      refine j_back rfl ?_
      exact ⟨r2.length, hnx, v16, c16, r2, acc ++ [a], rfl, rfl, ho16, hk2, by rw [List.map_append, List.sum_append]; simp only [List.map_cons, List.map_nil, List.sum_cons, List.sum_nil]; omega, rfl⟩
  · skip
    have hyes : ∃ r', r = [93] ++ r' := pre_iff.1 (by simpa using hc0)
    refine j_callB 1 ent81 rfl rfl rfl rfl (fun w' hw' => sign_con gr [93] r w' (by simp) (by omega)) (fun hb => absurd hyes hb) (fun u S2 hu => ?_)
    obtain ⟨rfl, r1, hr1, rfl⟩ := hu
    refine j_subl (S' := [[RC gr r1], cl]) (by repeat first | exact List.Sublist.refl _ | exact List.nil_sublist _ | apply List.Sublist.cons_cons | apply List.Sublist.cons) ?_
    refine j_perm (S' := [cl, [RC gr r1]]) (by classical exact List.perm_iff_count.2 fun a => by simp only [List.set_cons_succ, List.set_cons_zero, List.flatten_cons, List.flatten_nil, List.append_nil, List.nil_append, List.cons_append, List.count_append, List.count_cons, List.count_nil] <;> omega) ?_
    have hr1l : r.length = r1.length + 1 := by rw [hr1]; simp
    refine j_ret_conb (vs := [_]) (fun w' hw' => ⟨rfl, trivial⟩) ?_
    exact ⟨acc, cl, r1, rfl, hol, by omega, mnk_end hg hk hr1⟩
/-- pantry.drv.many[string] -/
theorem manyS_con (gr : Nat) (r0 : Bs) (g : Bs → Bs) (ok : Bs → Prop) (wt : Bs → Nat) (f : Nat) (first cap : Array Value) (w : World) (hr0 : r0.length ≤ 300000) (hen : Sx.Enters Tryz.prog f) (hg : ∀ a, ∃ c t, g a = c :: t ∧ c ≠ 93) (hw10 : ∀ a, 10 ≤ wt a) (hf : ∀ (r : Bs) (w' : World) (S : List SH), r.length ≤ r0.length → Sig ⟨w, dom [RC gr r0]⟩ S w' → ConB Tryz.prog BADV f (first.toList ++ cap.toList) w' [RC gr r] (fun v S' => ∃ (a : Bs) (r' : Bs), v = .string (bs a) ∧ S' = [[RC gr r']] ∧ wt a + 10 * r'.length ≤ 10 * r.length ∧ (∀ a2 z, ok a2 → r = g a2 ++ z → a = a2 ∧ r' = z)) (∀ a2 z, ok a2 → r ≠ g a2 ++ z)) : ConB Tryz.prog BADV 89 [rp gr, .func (.func f) first cap] w [RC gr r0] (fun v S' => ∃ (l : List Bs) (cl : SH) (r' : Bs), S' = [cl, [RC gr r']] ∧ Sx.Own 9 1 (strs l) v cl ∧ (l.map wt).sum + 10 * r'.length ≤ 10 * r0.length ∧ (∀ (l3 : List Bs) (z : Bs), (∀ a ∈ l3, ok a) → r0 = lst [91] (l3.map g) [93] ++ z → l = l3 ∧ r' = z)) (∀ (l3 : List Bs) (z : Bs), (∀ a ∈ l3, ok a) → r0 ≠ lst [91] (l3.map g) [93] ++ z) := by
  refine conb_of_tree mix Tryz.func89 T89_ok (by kernel_rfl) ?_
  unfold T89
  refine j_q (qs_ac) ?_
  refine j_callB 0 ent81 rfl rfl rfl rfl (fun w' hw' => sign_con gr [91] r0 w' (by simp) (by omega)) (fun hb l3 z _ hx => hb ⟨cms (l3.map g) ++ [93] ++ z, by rw [hx]; unfold lst; simp⟩) (fun u S2 hu => ?_)
  obtain ⟨rfl, r1, hr1, rfl⟩ := hu
  have hrl : r0.length = r1.length + 1 := by rw [hr1]; simp
  refine j_perm (S' := [[], [RC gr r1]]) (by simp) ?_
  refine j_q (qs_ac) ?_
  refine j_loop (fun m vs S' => ∃ (lv : Value) (cl : SH) (r : Bs) (acc : List Bs), vs = [lv] ∧ S' = [cl, [RC gr r]] ∧ Sx.Own 9 1 (strs acc) lv cl ∧ MnK g ok r0 r acc ∧ (acc.map wt).sum + 10 * r.length ≤ 10 * r0.length ∧ m = r.length) ⟨_, .slice none 0 0, [], r1, [], rfl, rfl, own_nil, (mnk_start hr1), (by simp only [List.map_nil, List.sum_nil]; omega), rfl⟩ ?_
  rintro m vs S' hlen ⟨lv, cl, r, acc, rfl, rfl, hol, hk, hsum, rfl⟩
  obtain ⟨nl, Al, capl, rfl, hnl⟩ := own_form hol (by decide)
  rw [strs_length] at hnl
  have hnl2 : nl = acc.length := by omega
  subst hnl2
  have hal : 10 * acc.length ≤ (acc.map wt).sum := by
    have := sum_ge hw10 acc
    skip
    exact this
  refine j_q (qs_nil rfl) ?_
  refine j_q (qs_field Tryz.underlying87 rfl sz9 (by decide) rfl) ?_
  refine j_q (qs_load (l := [.string (bs r)]) 1 Tryz.underlying9 rfl rfl rfl rfl) ?_
  refine j_q (qs_call ent129 rfl rfl rfl (fun w' hw' => hasPre_con [93] r w' (by simp) (by omega))) ?_
  refine j_q (qs_not rfl) ?_
  refine j_cond rfl (fun hc0 => ?_) (fun hc0 => ?_)
  · skip
    have hno : ¬ ∃ r', r = [93] ++ r' := fun hx => by rw [pre_iff.2 hx] at hc0; cases hc0
    refine j_q (qs_lenl Tryz.underlying22 rfl) ?_
    refine j_q (qs_gtr rfl rfl) ?_
    refine j_cond rfl (fun hc1 => ?_) (fun hc1 => ?_)
    · skip
      have hne : acc.length ≠ 0 := by simp only [Bool.and_eq_true, Bool.or_eq_true, Bool.and_eq_false_iff, Bool.or_eq_false_iff, Bool.not_eq_true', Bool.not_eq_false', decide_eq_true_eq, decide_eq_false_iff_not, beq_iff_eq, beq_eq_false_iff_ne, bne_iff_ne, bne_eq_false_iff_eq, ne_eq, Int.toNat_natCast] at *; omega
      refine j_callB 1 ent81 rfl rfl rfl rfl (fun w' hw' => sign_con gr [44] r w' (by simp) (by omega)) (fun hb => mnk_comma hk hno hne hb) (fun u S2 hu => ?_)
      obtain ⟨rfl, r1, hr1, rfl⟩ := hu
      refine j_subl (S' := [[RC gr r1], cl]) (by repeat first | exact List.Sublist.refl _ | exact List.nil_sublist _ | apply List.Sublist.cons_cons | apply List.Sublist.cons) ?_
      refine j_perm (S' := [cl, [RC gr r1]]) (by classical exact List.perm_iff_count.2 fun a => by simp only [List.set_cons_succ, List.set_cons_zero, List.flatten_cons, List.flatten_nil, List.append_nil, List.nil_append, List.cons_append, List.count_append, List.count_cons, List.count_nil] <;> omega) ?_
      have hr1l : r.length = r1.length + 1 := by rw [hr1]; simp
      refine j_callfB 1 hen rfl rfl (by simp) rfl (fun w' hw' => hf r1 w' _ (by omega) hw') (fun hb => mnk_of hk hno (by rw [if_neg hne]; exact hr1) hb) (fun u S2 hu => ?_)
      obtain ⟨a, r2, rfl, rfl, hwt, ha⟩ := hu
      have hk2 := mnk_next hk hno (by rw [if_neg hne]; exact hr1) ha
      have hnx : r2.length < r.length := by have := hw10 a; omega
      refine j_lit (vs := [.string (bs a)]) Tryz.underlying22 sz9 zero9 rfl (by simp [oneV]) ⟨rfl, by decide⟩ (fun g12 v12 c12 hv12 hc12 ho12 => ?_)
      subst hv12 hc12
      refine j_append 2 Tryz.underlying22 Tryz.underlying22 (.inr ⟨_, rfl⟩) sb9 zero9 rfl hol rfl (.inl ⟨_, _, rfl, rd_own (off := 0) (n := 1) 0 rfl rfl, rfl⟩) (by simp [oneV]) ⟨(by simp only [strs_length, List.drop_zero, List.length_take, List.length_cons, List.length_nil]; omega), (by decide)⟩ (fun v13 c13 ho13 => ?_)
      have ho13 : Sx.Own 9 1 (strs (acc ++ [a])) v13 c13 := by
        rw [strs_append]
        exact ho13
      refine j_subl (S' := [[RC gr r2], c13]) (by repeat first | exact List.Sublist.refl _ | exact List.nil_sublist _ | apply List.Sublist.cons_cons | apply List.Sublist.cons) ?_
      refine j_perm (S' := [c13, [RC gr r2]]) (by classical exact List.perm_iff_count.2 fun a => by simp only [List.set_cons_succ, List.set_cons_zero, List.flatten_cons, List.flatten_nil, List.append_nil, List.nil_append, List.cons_append, List.count_append, List.count_cons, List.count_nil] <;> omega) ?_
      refine j_back rfl ?_
      exact ⟨r2.length, hnx, v13, c13, r2, acc ++ [a], rfl, rfl, ho13, hk2, by rw [List.map_append, List.sum_append]; simp only [List.map_cons, List.map_nil, List.sum_cons, List.sum_nil]; omega, rfl⟩
    · skip
      have hne : acc.length = 0 := by simp only [Bool.and_eq_true, Bool.or_eq_true, Bool.and_eq_false_iff, Bool.or_eq_false_iff, Bool.not_eq_true', Bool.not_eq_false', decide_eq_true_eq, decide_eq_false_iff_not, beq_iff_eq, beq_eq_false_iff_ne, bne_iff_ne, bne_eq_false_iff_eq, ne_eq, Int.toNat_natCast] at *; omega
      refine j_callfB 1 hen rfl rfl (by simp) rfl (fun w' hw' => hf r w' _ (by omega) hw') (fun hb => mnk_of hk hno (by rw [if_pos hne]; rfl) hb) (fun u S2 hu => ?_)
      obtain ⟨a, r2, rfl, rfl, hwt, ha⟩ := hu
      have hk2 := mnk_next hk hno (by rw [if_pos hne]; rfl) ha
      have hnx : r2.length < r.length := by have := hw10 a; omega
      refine j_lit (vs := [.string (bs a)]) Tryz.underlying22 sz9 zero9 rfl (by simp [oneV]) ⟨rfl, by decide⟩ (fun g15 v15 c15 hv15 hc15 ho15 => ?_)
      subst hv15 hc15
      refine j_append 2 Tryz.underlying22 Tryz.underlying22 (.inr ⟨_, rfl⟩) sb9 zero9 rfl hol rfl (.inl ⟨_, _, rfl, rd_own (off := 0) (n := 1) 0 rfl rfl, rfl⟩) (by simp [oneV]) ⟨(by simp only [strs_length, List.drop_zero, List.length_take, List.length_cons, List.length_nil]; omega), (by decide)⟩ (fun v16 c16 ho16 => ?_)
      have ho16 : Sx.Own 9 1 (strs (acc ++ [a])) v16 c16 := by
        rw [strs_append]
        exact ho16
      refine j_subl (S' := [[RC gr r2], c16]) (by repeat first | exact List.Sublist.refl _ | exact List.nil_sublist _ | apply List.Sublist.cons_cons | apply List.Sublist.cons) ?_
      refine j_perm (S' := [c16, [RC gr r2]]) (by classical exact List.perm_iff_count.2 fun a => by simp only [List.set_cons_succ, List.set_cons_zero, List.flatten_cons, List.flatten_nil, List.append_nil, List.nil_append, List.cons_append, List.count_append, List.count_cons, List.count_nil] <;> omega) ?_
      refine j_back rfl ?_
      exact ⟨r2.length, hnx, v16, c16, r2, acc ++ [a], rfl, rfl, ho16, hk2, by rw [List.map_append, List.sum_append]; simp only [List.map_cons, List.map_nil, List.sum_cons, List.sum_nil]; omega, rfl⟩
  · skip
    have hyes : ∃ r', r = [93] ++ r' := pre_iff.1 (by simpa using hc0)
    refine j_callB 1 ent81 rfl rfl rfl rfl (fun w' hw' => sign_con gr [93] r w' (by simp) (by omega)) (fun hb => absurd hyes hb) (fun u S2 hu => ?_)
    obtain ⟨rfl, r1, hr1, rfl⟩ := hu
    refine j_subl (S' := [[RC gr r1], cl]) (by repeat first | exact List.Sublist.refl _ | exact List.nil_sublist _ | apply List.Sublist.cons_cons | apply List.Sublist.cons) ?_
    refine j_perm (S' := [cl, [RC gr r1]]) (by classical exact List.perm_iff_count.2 fun a => by simp only [List.set_cons_succ, List.set_cons_zero, List.flatten_cons, List.flatten_nil, List.append_nil, List.nil_append, List.cons_append, List.count_append, List.count_cons, List.count_nil] <;> omega) ?_
    have hr1l : r.length = r1.length + 1 := by rw [hr1]; simp
    refine j_ret_conb (vs := [_]) (fun w' hw' => ⟨rfl, trivial⟩) ?_
    exact ⟨acc, cl, r1, rfl, hol, by omega, mnk_end hg hk hr1⟩
/-- pantry.drv.many[pantry.api.Path] -/
theorem manyP_con (gr : Nat) (r0 : Bs) (g : Bs → Bs) (ok : Bs → Prop) (wt : Bs → Nat) (f : Nat) (first cap : Array Value) (w : World) (hr0 : r0.length ≤ 300000) (hen : Sx.Enters Tryz.prog f) (hg : ∀ a, ∃ c t, g a = c :: t ∧ c ≠ 93) (hw10 : ∀ a, 10 ≤ wt a) (hf : ∀ (r : Bs) (w' : World) (S : List SH), r.length ≤ r0.length → Sig ⟨w, dom [RC gr r0]⟩ S w' → ConB Tryz.prog BADV f (first.toList ++ cap.toList) w' [RC gr r] (fun v S' => ∃ (a : Bs) (r' : Bs), v = .string (bs a) ∧ S' = [[RC gr r']] ∧ wt a + 10 * r'.length ≤ 10 * r.length ∧ (∀ a2 z, ok a2 → r = g a2 ++ z → a = a2 ∧ r' = z)) (∀ a2 z, ok a2 → r ≠ g a2 ++ z)) : ConB Tryz.prog BADV 87 [rp gr, .func (.func f) first cap] w [RC gr r0] (fun v S' => ∃ (l : List Bs) (cl : SH) (r' : Bs), S' = [cl, [RC gr r']] ∧ Sx.Own 49 1 (strs l) v cl ∧ (l.map wt).sum + 10 * r'.length ≤ 10 * r0.length ∧ (∀ (l3 : List Bs) (z : Bs), (∀ a ∈ l3, ok a) → r0 = lst [91] (l3.map g) [93] ++ z → l = l3 ∧ r' = z)) (∀ (l3 : List Bs) (z : Bs), (∀ a ∈ l3, ok a) → r0 ≠ lst [91] (l3.map g) [93] ++ z) := by
  refine conb_of_tree mix Tryz.func87 T87_ok (by kernel_rfl) ?_
  unfold T87
  refine j_q (qs_ac) ?_
  refine j_callB 0 ent81 rfl rfl rfl rfl (fun w' hw' => sign_con gr [91] r0 w' (by simp) (by omega)) (fun hb l3 z _ hx => hb ⟨cms (l3.map g) ++ [93] ++ z, by rw [hx]; unfold lst; simp⟩) (fun u S2 hu => ?_)
  obtain ⟨rfl, r1, hr1, rfl⟩ := hu
  have hrl : r0.length = r1.length + 1 := by rw [hr1]; simp
  refine j_perm (S' := [[], [RC gr r1]]) (by simp) ?_
  refine j_q (qs_ac) ?_
  refine j_loop (fun m vs S' => ∃ (lv : Value) (cl : SH) (r : Bs) (acc : List Bs), vs = [lv] ∧ S' = [cl, [RC gr r]] ∧ Sx.Own 49 1 (strs acc) lv cl ∧ MnK g ok r0 r acc ∧ (acc.map wt).sum + 10 * r.length ≤ 10 * r0.length ∧ m = r.length) ⟨_, .slice none 0 0, [], r1, [], rfl, rfl, own_nil, (mnk_start hr1), (by simp only [List.map_nil, List.sum_nil]; omega), rfl⟩ ?_
  rintro m vs S' hlen ⟨lv, cl, r, acc, rfl, rfl, hol, hk, hsum, rfl⟩
  obtain ⟨nl, Al, capl, rfl, hnl⟩ := own_form hol (by decide)
  rw [strs_length] at hnl
  have hnl2 : nl = acc.length := by omega
  subst hnl2
  have hal : 10 * acc.length ≤ (acc.map wt).sum := by
    have := sum_ge hw10 acc
    skip
    exact this
  refine j_q (qs_nil rfl) ?_
  refine j_q (qs_field Tryz.underlying87 rfl sz9 (by decide) rfl) ?_
  refine j_q (qs_load (l := [.string (bs r)]) 1 Tryz.underlying9 rfl rfl rfl rfl) ?_
  refine j_q (qs_call ent129 rfl rfl rfl (fun w' hw' => hasPre_con [93] r w' (by simp) (by omega))) ?_
  refine j_q (qs_not rfl) ?_
  refine j_cond rfl (fun hc0 => ?_) (fun hc0 => ?_)
  · skip
    have hno : ¬ ∃ r', r = [93] ++ r' := fun hx => by rw [pre_iff.2 hx] at hc0; cases hc0
    refine j_q (qs_lenl Tryz.underlying25 rfl) ?_
    refine j_q (qs_gtr rfl rfl) ?_
    refine j_cond rfl (fun hc1 => ?_) (fun hc1 => ?_)
    · skip
      have hne : acc.length ≠ 0 := by simp only [Bool.and_eq_true, Bool.or_eq_true, Bool.and_eq_false_iff, Bool.or_eq_false_iff, Bool.not_eq_true', Bool.not_eq_false', decide_eq_true_eq, decide_eq_false_iff_not, beq_iff_eq, beq_eq_false_iff_ne, bne_iff_ne, bne_eq_false_iff_eq, ne_eq, Int.toNat_natCast] at *; omega
      refine j_callB 1 ent81 rfl rfl rfl rfl (fun w' hw' => sign_con gr [44] r w' (by simp) (by omega)) (fun hb => mnk_comma hk hno hne hb) (fun u S2 hu => ?_)
      obtain ⟨rfl, r1, hr1, rfl⟩ := hu
      refine j_subl (S' := [[RC gr r1], cl]) (by repeat first | exact List.Sublist.refl _ | exact List.nil_sublist _ | apply List.Sublist.cons_cons | apply List.Sublist.cons) ?_
      refine j_perm (S' := [cl, [RC gr r1]]) (by classical exact List.perm_iff_count.2 fun a => by simp only [List.set_cons_succ, List.set_cons_zero, List.flatten_cons, List.flatten_nil, List.append_nil, List.nil_append, List.cons_append, List.count_append, List.count_cons, List.count_nil] <;> omega) ?_
      have hr1l : r.length = r1.length + 1 := by rw [hr1]; simp
      refine j_callfB 1 hen rfl rfl (by simp) rfl (fun w' hw' => hf r1 w' _ (by omega) hw') (fun hb => mnk_of hk hno (by rw [if_neg hne]; exact hr1) hb) (fun u S2 hu => ?_)
      obtain ⟨a, r2, rfl, rfl, hwt, ha⟩ := hu
      have hk2 := mnk_next hk hno (by rw [if_neg hne]; exact hr1) ha
      have hnx : r2.length < r.length := by have := hw10 a; omega
      refine j_lit (vs := [.string (bs a)]) Tryz.underlying25 sz49 zero49 rfl (by simp [oneV]) ⟨rfl, by decide⟩ (fun g12 v12 c12 hv12 hc12 ho12 => ?_)
      subst hv12 hc12
      refine j_append 2 Tryz.underlying25 Tryz.underlying25 (.inr ⟨_, rfl⟩) sb49 zero49 rfl hol rfl (.inl ⟨_, _, rfl, rd_own (off := 0) (n := 1) 0 rfl rfl, rfl⟩) (by simp [oneV]) ⟨(by simp only [strs_length, List.drop_zero, List.length_take, List.length_cons, List.length_nil]; omega), (by decide)⟩ (fun v13 c13 ho13 => ?_)
      have ho13 : Sx.Own 49 1 (strs (acc ++ [a])) v13 c13 := by
        rw [strs_append]
        exact ho13
      refine j_subl (S' := [[RC gr r2], c13]) (by repeat first | exact List.Sublist.refl _ | exact List.nil_sublist _ | apply List.Sublist.cons_cons | apply List.Sublist.cons) ?_
      refine j_perm (S' := [c13, [RC gr r2]]) (by classical exact List.perm_iff_count.2 fun a => by simp only [List.set_cons_succ, List.set_cons_zero, List.flatten_cons, List.flatten_nil, List.append_nil, List.nil_append, List.cons_append, List.count_append, List.count_cons, List.count_nil] <;> omega) ?_
      refine j_back rfl ?_
      exact ⟨r2.length, hnx, v13, c13, r2, acc ++ [a], rfl, rfl, ho13, hk2, by rw [List.map_append, List.sum_append]; simp only [List.map_cons, List.map_nil, List.sum_cons, List.sum_nil]; omega, rfl⟩
    · skip
      have hne : acc.length = 0 := by simp only [Bool.and_eq_true, Bool.or_eq_true, Bool.and_eq_false_iff, Bool.or_eq_false_iff, Bool.not_eq_true', Bool.not_eq_false', decide_eq_true_eq, decide_eq_false_iff_not, beq_iff_eq, beq_eq_false_iff_ne, bne_iff_ne, bne_eq_false_iff_eq, ne_eq, Int.toNat_natCast] at *; omega
      refine j_callfB 1 hen rfl rfl (by simp) rfl (fun w' hw' => hf r w' _ (by omega) hw') (fun hb => mnk_of hk hno (by rw [if_pos hne]; rfl) hb) (fun u S2 hu => ?_)
      obtain ⟨a, r2, rfl, rfl, hwt, ha⟩ := hu
      have hk2 := mnk_next hk hno (by rw [if_pos hne]; rfl) ha
      have hnx : r2.length < r.length := by have := hw10 a; omega
      refine j_lit (vs := [.string (bs a)]) Tryz.underlying25 sz49 zero49 rfl (by simp [oneV]) ⟨rfl, by decide⟩ (fun g15 v15 c15 hv15 hc15 ho15 => ?_)
      subst hv15 hc15
      refine j_append 2 Tryz.underlying25 Tryz.underlying25 (.inr ⟨_, rfl⟩) sb49 zero49 rfl hol rfl (.inl ⟨_, _, rfl, rd_own (off := 0) (n := 1) 0 rfl rfl, rfl⟩) (by simp [oneV]) ⟨(by simp only [strs_length, List.drop_zero, List.length_take, List.length_cons, List.length_nil]; omega), (by decide)⟩ (fun v16 c16 ho16 => ?_)
      have ho16 : Sx.Own 49 1 (strs (acc ++ [a])) v16 c16 := by
        rw [strs_append]
        exact ho16
      refine j_subl (S' := [[RC gr r2], c16]) (by repeat first | exact List.Sublist.refl _ | exact List.nil_sublist _ | apply List.Sublist.cons_cons | apply List.Sublist.cons) ?_
      refine j_perm (S' := [c16, [RC gr r2]]) (by classical exact List.perm_iff_count.2 fun a => by simp only [List.set_cons_succ, List.set_cons_zero, List.flatten_cons, List.flatten_nil, List.append_nil, List.nil_append, List.cons_append, List.count_append, List.count_cons, List.count_nil] <;> omega) ?_
      refine j_back rfl ?_
      exact ⟨r2.length, hnx, v16, c16, r2, acc ++ [a], rfl, rfl, ho16, hk2, by rw [List.map_append, List.sum_append]; simp only [List.map_cons, List.map_nil, List.sum_cons, List.sum_nil]; omega, rfl⟩
  · skip
    have hyes : ∃ r', r = [93] ++ r' := pre_iff.1 (by simpa using hc0)
    refine j_callB 1 ent81 rfl rfl rfl rfl (fun w' hw' => sign_con gr [93] r w' (by simp) (by omega)) (fun hb => absurd hyes hb) (fun u S2 hu => ?_)
    obtain ⟨rfl, r1, hr1, rfl⟩ := hu
    refine j_subl (S' := [[RC gr r1], cl]) (by repeat first | exact List.Sublist.refl _ | exact List.nil_sublist _ | apply List.Sublist.cons_cons | apply List.Sublist.cons) ?_
    refine j_perm (S' := [cl, [RC gr r1]]) (by classical exact List.perm_iff_count.2 fun a => by simp only [List.set_cons_succ, List.set_cons_zero, List.flatten_cons, List.flatten_nil, List.append_nil, List.nil_append, List.cons_append, List.count_append, List.count_cons, List.count_nil] <;> omega) ?_
    have hr1l : r.length = r1.length + 1 := by rw [hr1]; simp
    refine j_ret_conb (vs := [_]) (fun w' hw' => ⟨rfl, trivial⟩) ?_
    exact ⟨acc, cl, r1, rfl, hol, by omega, mnk_end hg hk hr1⟩
/-- pantry.drv.many[pantry.api.Input] -/
theorem manyI_con (gr : Nat) (r0 : Bs) (g : PI → Bs) (ok : PI → Prop) (wt : PI → Nat) (f : Nat) (first cap : Array Value) (w : World) (hr0 : r0.length ≤ 300000) (hen : Sx.Enters Tryz.prog f) (hg : ∀ a, ∃ c t, g a = c :: t ∧ c ≠ 93) (hw10 : ∀ a, 10 ≤ wt a) (hf : ∀ (r : Bs) (w' : World) (S : List SH), r.length ≤ r0.length → Sig ⟨w, dom [RC gr r0]⟩ S w' → ConB Tryz.prog BADV f (first.toList ++ cap.toList) w' [RC gr r] (fun v S' => ∃ (a : MI) (r' : Bs) (F : SH), v = .agg (encI a).toArray ∧ S' = [[RC gr r'], F] ∧ wt a.pi + 10 * r'.length ≤ 10 * r.length ∧ (∀ a2 z, ok a2 → r = g a2 ++ z → a.pi = a2 ∧ r' = z) ∧ Sx.Own 9 1 (strs a.outs) a.v F ∧ (∀ o ∈ a.outs, o.length ≤ 3000000)) (∀ a2 z, ok a2 → r ≠ g a2 ++ z)) : ConB Tryz.prog BADV 85 [rp gr, .func (.func f) first cap] w [RC gr r0] (fun v S' => ∃ (l : List MI) (cl : SH) (r' : Bs) (F : SH), S' = [cl, [RC gr r'], F] ∧ Sx.Own 68 2 ((l.map encI).flatten) v cl ∧ ((l.map MI.pi).map wt).sum + 10 * r'.length ≤ 10 * r0.length ∧ (∀ (l3 : List PI) (z : Bs), (∀ a ∈ l3, ok a) → r0 = lst [91] (l3.map g) [93] ++ z → (l.map MI.pi) = l3 ∧ r' = z) ∧ PMine l F ∧ (∀ m ∈ l, ∀ o ∈ m.outs, o.length ≤ 3000000)) (∀ (l3 : List PI) (z : Bs), (∀ a ∈ l3, ok a) → r0 ≠ lst [91] (l3.map g) [93] ++ z) := by
  refine conb_of_tree mix Tryz.func85 T85_ok (by kernel_rfl) ?_
  unfold T85
  refine j_q (qs_ac) ?_
  refine j_callB 0 ent81 rfl rfl rfl rfl (fun w' hw' => sign_con gr [91] r0 w' (by simp) (by omega)) (fun hb l3 z _ hx => hb ⟨cms (l3.map g) ++ [93] ++ z, by rw [hx]; unfold lst; simp⟩) (fun u S2 hu => ?_)
  obtain ⟨rfl, r1, hr1, rfl⟩ := hu
  have hrl : r0.length = r1.length + 1 := by rw [hr1]; simp
  refine j_perm (S' := [[], [RC gr r1], []]) (by simp) ?_
  refine j_q (qs_ac) ?_
  refine j_loop (fun m vs S' => ∃ (lv : Value) (cl : SH) (r : Bs) (acc : List MI) (F : SH), vs = [lv] ∧ S' = [cl, [RC gr r], F] ∧ Sx.Own 68 2 ((acc.map encI).flatten) lv cl ∧ MnK g ok r0 r (acc.map MI.pi) ∧ ((acc.map MI.pi).map wt).sum + 10 * r.length ≤ 10 * r0.length ∧ PMine acc F ∧ (∀ m ∈ acc, ∀ o ∈ m.outs, o.length ≤ 3000000) ∧ m = r.length) ⟨_, .slice none 0 0, [], r1, [], [], rfl, rfl, own_nil, (mnk_start hr1), (by simp only [List.map_nil, List.sum_nil]; omega), pmine_nil, (fun m hm => by cases hm), rfl⟩ ?_
  rintro m vs S' hlen ⟨lv, cl, r, acc, F, rfl, rfl, hol, hk, hsum, hmine, hbs, rfl⟩
  obtain ⟨nl, Al, capl, rfl, hnl⟩ := own_form hol (by decide)
  rw [flat_len encI_len] at hnl
  have hnl2 : nl = acc.length := by omega
  subst hnl2
  have hal : 10 * acc.length ≤ ((acc.map MI.pi).map wt).sum := by
    have := sum_ge hw10 (acc.map MI.pi)
    rw [List.length_map] at this
    exact this
  refine j_q (qs_nil rfl) ?_
  refine j_q (qs_field Tryz.underlying87 rfl sz9 (by decide) rfl) ?_
  refine j_q (qs_load (l := [.string (bs r)]) 1 Tryz.underlying9 rfl rfl rfl rfl) ?_
  refine j_q (qs_call ent129 rfl rfl rfl (fun w' hw' => hasPre_con [93] r w' (by simp) (by omega))) ?_
  refine j_q (qs_not rfl) ?_
  refine j_cond rfl (fun hc0 => ?_) (fun hc0 => ?_)
  · skip
    have hno : ¬ ∃ r', r = [93] ++ r' := fun hx => by rw [pre_iff.2 hx] at hc0; cases hc0
    refine j_q (qs_lenl Tryz.underlying24 rfl) ?_
    refine j_q (qs_gtr rfl rfl) ?_
    refine j_cond rfl (fun hc1 => ?_) (fun hc1 => ?_)
    · skip
      have hne : acc.length ≠ 0 := by simp only [Bool.and_eq_true, Bool.or_eq_true, Bool.and_eq_false_iff, Bool.or_eq_false_iff, Bool.not_eq_true', Bool.not_eq_false', decide_eq_true_eq, decide_eq_false_iff_not, beq_iff_eq, beq_eq_false_iff_ne, bne_iff_ne, bne_eq_false_iff_eq, ne_eq, Int.toNat_natCast] at *; omega
      refine j_callB 1 ent81 rfl rfl rfl rfl (fun w' hw' => sign_con gr [44] r w' (by simp) (by omega)) (fun hb => mnk_comma hk hno (by rw [List.length_map]; exact hne) hb) (fun u S2 hu => ?_)
      obtain ⟨rfl, r1, hr1, rfl⟩ := hu
      refine j_subl (S' := [[RC gr r1], cl, F]) (by repeat first | exact List.Sublist.refl _ | exact List.nil_sublist _ | apply List.Sublist.cons_cons | apply List.Sublist.cons) ?_
      refine j_perm (S' := [cl, [RC gr r1], F]) (by classical exact List.perm_iff_count.2 fun a => by simp only [List.set_cons_succ, List.set_cons_zero, List.flatten_cons, List.flatten_nil, List.append_nil, List.nil_append, List.cons_append, List.count_append, List.count_cons, List.count_nil] <;> omega) ?_
      have hr1l : r.length = r1.length + 1 := by rw [hr1]; simp
      refine j_callfB 1 hen rfl rfl (by simp) rfl (fun w' hw' => hf r1 w' _ (by omega) hw') (fun hb => mnk_of hk hno (by rw [if_neg (by rw [List.length_map]; exact hne)]; exact hr1) hb) (fun u S2 hu => ?_)
      obtain ⟨a, r2, F2, rfl, rfl, hwt, ha, hF2, hbo⟩ := hu
      have hk2 := mnk_next hk hno (by rw [if_neg (by rw [List.length_map]; exact hne)]; exact hr1) ha
      have hnx : r2.length < r.length := by have := hw10 a.pi; omega
      have hone : ∀ u ∈ encI a, oneV u = true := by
        obtain ⟨na, Aa, capa, ea, _⟩ := own_form hF2 (by decide)
        intro u hu
        simp only [encI, List.mem_cons, List.not_mem_nil, or_false] at hu
        rcases hu with rfl | rfl
        · rfl
        · rw [ea]; rfl
      refine j_litw (vs := encI a) Tryz.underlying24 sz68 zero68 rfl rfl ⟨encI_len _, by decide, by decide⟩ (fun g12 hg12 ho12 => ?_)
      refine j_append 3 Tryz.underlying24 Tryz.underlying24 (.inr ⟨_, rfl⟩) sb68 zero68 rfl hol rfl (.inl ⟨_, _, rfl, rd_own (off := 0) (n := 2) 0 rfl rfl, (by rw [List.drop_zero, List.take_of_length_le (by rw [encI_len]; exact Nat.le_refl _), encI_len])⟩) (by intro u hu; exact hone u (by rw [List.drop_zero] at hu; exact List.mem_of_mem_take hu)) ⟨(by simp only [strs_length, List.drop_zero, List.length_take, flat_len encI_len, encI_len, List.length_cons, List.length_nil]; omega), (by decide)⟩ (fun v13 c13 ho13 => ?_)
      have ho13 : Sx.Own 68 2 (((acc ++ [a]).map encI).flatten) v13 c13 := by
        have e : ((acc ++ [a]).map encI).flatten = (acc.map encI).flatten ++ encI a := by simp
        rw [e]
        have e2 : ((encI a).drop 0).take 2 = encI a := by rw [List.drop_zero, List.take_of_length_le (by rw [encI_len]; exact Nat.le_refl _)]
        rw [e2] at ho13
        exact ho13
      refine j_subl (S' := [[RC gr r2], F2, c13, F]) (by repeat first | exact List.Sublist.refl _ | exact List.nil_sublist _ | apply List.Sublist.cons_cons | apply List.Sublist.cons) ?_
      refine j_perm (S' := [c13, [RC gr r2], F2 ++ F]) (by classical exact List.perm_iff_count.2 fun a => by simp only [List.set_cons_succ, List.set_cons_zero, List.flatten_cons, List.flatten_nil, List.append_nil, List.nil_append, List.cons_append, List.count_append, List.count_cons, List.count_nil] <;> omega) ?_
      refine j_back rfl ?_
      exact ⟨r2.length, hnx, v13, c13, r2, acc ++ [a], F2 ++ F, rfl, rfl, ho13, (by rw [List.map_append]; exact hk2), by rw [List.map_append, List.map_append, List.sum_append]; simp only [List.map_cons, List.map_nil, List.sum_cons, List.sum_nil]; omega, pmine_snoc hmine hF2, (by intro m hm; rcases List.mem_append.1 hm with hm | hm; exact hbs m hm; rw [List.mem_singleton] at hm; rw [hm]; exact hbo), rfl⟩
    · skip
      have hne : acc.length = 0 := by simp only [Bool.and_eq_true, Bool.or_eq_true, Bool.and_eq_false_iff, Bool.or_eq_false_iff, Bool.not_eq_true', Bool.not_eq_false', decide_eq_true_eq, decide_eq_false_iff_not, beq_iff_eq, beq_eq_false_iff_ne, bne_iff_ne, bne_eq_false_iff_eq, ne_eq, Int.toNat_natCast] at *; omega
      refine j_callfB 1 hen rfl rfl (by simp) rfl (fun w' hw' => hf r w' _ (by omega) hw') (fun hb => mnk_of hk hno (by rw [if_pos (by rw [List.length_map]; exact hne)]; rfl) hb) (fun u S2 hu => ?_)
      obtain ⟨a, r2, F2, rfl, rfl, hwt, ha, hF2, hbo⟩ := hu
      have hk2 := mnk_next hk hno (by rw [if_pos (by rw [List.length_map]; exact hne)]; rfl) ha
      have hnx : r2.length < r.length := by have := hw10 a.pi; omega
      have hone : ∀ u ∈ encI a, oneV u = true := by
        obtain ⟨na, Aa, capa, ea, _⟩ := own_form hF2 (by decide)
        intro u hu
        simp only [encI, List.mem_cons, List.not_mem_nil, or_false] at hu
        rcases hu with rfl | rfl
        · rfl
        · rw [ea]; rfl
      refine j_litw (vs := encI a) Tryz.underlying24 sz68 zero68 rfl rfl ⟨encI_len _, by decide, by decide⟩ (fun g15 hg15 ho15 => ?_)
      refine j_append 3 Tryz.underlying24 Tryz.underlying24 (.inr ⟨_, rfl⟩) sb68 zero68 rfl hol rfl (.inl ⟨_, _, rfl, rd_own (off := 0) (n := 2) 0 rfl rfl, (by rw [List.drop_zero, List.take_of_length_le (by rw [encI_len]; exact Nat.le_refl _), encI_len])⟩) (by intro u hu; exact hone u (by rw [List.drop_zero] at hu; exact List.mem_of_mem_take hu)) ⟨(by simp only [strs_length, List.drop_zero, List.length_take, flat_len encI_len, encI_len, List.length_cons, List.length_nil]; omega), (by decide)⟩ (fun v16 c16 ho16 => ?_)
      have ho16 : Sx.Own 68 2 (((acc ++ [a]).map encI).flatten) v16 c16 := by
        have e : ((acc ++ [a]).map encI).flatten = (acc.map encI).flatten ++ encI a := by simp
        rw [e]
        have e2 : ((encI a).drop 0).take 2 = encI a := by rw [List.drop_zero, List.take_of_length_le (by rw [encI_len]; exact Nat.le_refl _)]
        rw [e2] at ho16
        exact ho16
      refine j_subl (S' := [[RC gr r2], F2, c16, F]) (by repeat first | exact List.Sublist.refl _ | exact List.nil_sublist _ | apply List.Sublist.cons_cons | apply List.Sublist.cons) ?_
      refine j_perm (S' := [c16, [RC gr r2], F2 ++ F]) (by classical exact List.perm_iff_count.2 fun a => by simp only [List.set_cons_succ, List.set_cons_zero, List.flatten_cons, List.flatten_nil, List.append_nil, List.nil_append, List.cons_append, List.count_append, List.count_cons, List.count_nil] <;> omega) ?_
      refine j_back rfl ?_
      exact ⟨r2.length, hnx, v16, c16, r2, acc ++ [a], F2 ++ F, rfl, rfl, ho16, (by rw [List.map_append]; exact hk2), by rw [List.map_append, List.map_append, List.sum_append]; simp only [List.map_cons, List.map_nil, List.sum_cons, List.sum_nil]; omega, pmine_snoc hmine hF2, (by intro m hm; rcases List.mem_append.1 hm with hm | hm; exact hbs m hm; rw [List.mem_singleton] at hm; rw [hm]; exact hbo), rfl⟩
  · skip
    have hyes : ∃ r', r = [93] ++ r' := pre_iff.1 (by simpa using hc0)
    refine j_callB 1 ent81 rfl rfl rfl rfl (fun w' hw' => sign_con gr [93] r w' (by simp) (by omega)) (fun hb => absurd hyes hb) (fun u S2 hu => ?_)
    obtain ⟨rfl, r1, hr1, rfl⟩ := hu
    refine j_subl (S' := [[RC gr r1], cl, F]) (by repeat first | exact List.Sublist.refl _ | exact List.nil_sublist _ | apply List.Sublist.cons_cons | apply List.Sublist.cons) ?_
    refine j_perm (S' := [cl, [RC gr r1], F]) (by classical exact List.perm_iff_count.2 fun a => by simp only [List.set_cons_succ, List.set_cons_zero, List.flatten_cons, List.flatten_nil, List.append_nil, List.nil_append, List.cons_append, List.count_append, List.count_cons, List.count_nil] <;> omega) ?_
    have hr1l : r.length = r1.length + 1 := by rw [hr1]; simp
    refine j_ret_conb (vs := [_]) (fun w' hw' => ⟨rfl, trivial⟩) ?_
    exact ⟨acc, cl, r1, F, rfl, hol, by omega, mnk_end hg hk hr1, hmine, hbs⟩
end Go.Proofs.YtfeabbeebkkhaaaGreat
