/- Part 8. -/
import Derived.Test.YtfeabbeebkkhaaaGreatPD2
import Derived.Test.YtfeabbeebkkhaaaGreatPD7
import Derived.Tactics
import Derived.Defers
import Derived.Recover
/-! Dv16 -/
namespace Go.Proofs.YtfeabbeebkkhaaaGreat
open Go Go.Sx
set_option maxRecDepth 100000
set_option maxHeartbeats 4000000
set_option linter.unusedVariables false
set_option linter.unusedSimpArgs false
attribute [local irreducible] J JQ QS Con W opW
theorem ent129 : Sx.Enters Tryz.prog 129 := ⟨_, Tryz.func129, by kernel_rfl, by kernel_rfl⟩
section
variable {α : Type} {g : α → Bs} {ok : α → Prop} {r0 r r1 r2 : Bs} {acc : List α}
theorem cms_cons (x : Bs) (l : List Bs) : cms (x :: l) = x ++ (l.map fun y => 44 :: y).flatten := by
  unfold cms
  rw [List.map_cons, List.flatten_cons, List.cons_append, List.drop_succ_cons, List.drop_zero]
def tl (g : α → Bs) (l : List α) : Bs := (l.map fun a => 44 :: g a).flatten
theorem cms_tl (a : α) (l : List α) : cms ((a :: l).map g) = g a ++ tl g l := by
  rw [List.map_cons, cms_cons, List.map_map]
  rfl
def MnK (g : α → Bs) (ok : α → Prop) (r0 r : Bs) (acc : List α) : Prop := ∀ (l : List α) (z : Bs), (∀ a ∈ l, ok a) → r0 = lst [91] (l.map g) [93] ++ z → ∃ l2, l = acc ++ l2 ∧ r = (if acc.length = 0 then cms (l2.map g) else tl g l2) ++ ([93] ++ z)
theorem mnk_start (h : r0 = [91] ++ r) : MnK g ok r0 r [] := fun l z hok hx => by
  refine ⟨l, rfl, ?_⟩
  rw [hx] at h
  unfold lst at h
  simp only [List.append_assoc, List.cons_append, List.nil_append, List.cons.injEq, true_and] at h
  show r = cms (l.map g) ++ ([93] ++ z)
  rw [← h]
  all_goals rfl
theorem mnk_end (hg : ∀ a, ∃ c t, g a = c :: t ∧ c ≠ 93) (h : MnK g ok r0 r acc) (hr : r = [93] ++ r1) : ∀ (l : List α) (z : Bs), (∀ a ∈ l, ok a) → r0 = lst [91] (l.map g) [93] ++ z → acc = l ∧ r1 = z := fun l z hok hx => by
  obtain ⟨l2, h1, h2⟩ := h l z hok hx
  rw [hr] at h2
  cases l2 with
  | nil =>
    have e : (if acc.length = 0 then cms (([] : List α).map g) else tl g []) = [] := by split <;> rfl
    rw [e] at h2
    simp only [List.cons_append, List.nil_append, List.cons.injEq, true_and] at h2
    exact ⟨by rw [h1, List.append_nil], h2⟩
  | cons a l2 =>
    exfalso
    split at h2
    · rw [cms_tl] at h2
      obtain ⟨c, t, h3, h4⟩ := hg a
      rw [h3] at h2
      simp only [List.cons_append, List.nil_append, List.cons.injEq] at h2
      exact h4 h2.1.symm
    · unfold tl at h2
      rw [List.map_cons, List.flatten_cons] at h2
      simp only [List.cons_append, List.nil_append, List.cons.injEq] at h2
      exact absurd h2.1 (by decide)
theorem mnk_more (h : MnK g ok r0 r acc) (hr : ¬ ∃ r', r = [93] ++ r') : ∀ (l : List α) (z : Bs), (∀ a ∈ l, ok a) → r0 = lst [91] (l.map g) [93] ++ z → ∃ a l2, ok a ∧ l = acc ++ a :: l2 ∧ r = (if acc.length = 0 then [] else [44]) ++ (g a ++ (tl g l2 ++ ([93] ++ z))) := fun l z hok hx => by
  obtain ⟨l2, h1, h2⟩ := h l z hok hx
  cases l2 with
  | nil =>
    exfalso
    have e : (if acc.length = 0 then cms (([] : List α).map g) else tl g []) = [] := by split <;> rfl
    rw [e] at h2
    exact hr ⟨z, h2⟩
  | cons a l2 =>
    refine ⟨a, l2, hok a (by rw [h1]; simp), h1, ?_⟩
    rw [h2]
    split
    · rw [cms_tl]
      simp
    · unfold tl
      rw [List.map_cons, List.flatten_cons]
      simp
theorem mnk_next (h : MnK g ok r0 r acc) (hr : ¬ ∃ r', r = [93] ++ r') (h1 : r = (if acc.length = 0 then [] else [44]) ++ r1) {a : α} (ha : ∀ a2 z, ok a2 → r1 = g a2 ++ z → a = a2 ∧ r2 = z) : MnK g ok r0 r2 (acc ++ [a]) := fun l z hok hx => by
  obtain ⟨a2, l2, h2, h3, h4⟩ := mnk_more h hr l z hok hx
  rw [h1] at h4
  obtain ⟨rfl, h6⟩ := ha a2 _ h2 (List.append_cancel_left h4)
  exact ⟨l2, by rw [h3]; simp, by rw [if_neg (by simp), h6]⟩
theorem mnk_comma (h : MnK g ok r0 r acc) (hr : ¬ ∃ r', r = [93] ++ r') (h0 : acc.length ≠ 0) (hb : ¬ ∃ r', r = [44] ++ r') : ∀ (l : List α) (z : Bs), (∀ a ∈ l, ok a) → r0 ≠ lst [91] (l.map g) [93] ++ z := fun l z hok hx => by
  obtain ⟨a2, l2, h2, h3, h4⟩ := mnk_more h hr l z hok hx
  rw [if_neg h0] at h4
  exact hb ⟨_, h4⟩
theorem mnk_of (h : MnK g ok r0 r acc) (hr : ¬ ∃ r', r = [93] ++ r') (h1 : r = (if acc.length = 0 then [] else [44]) ++ r1) (hb : ∀ a2 z, ok a2 → r1 ≠ g a2 ++ z) : ∀ (l : List α) (z : Bs), (∀ a ∈ l, ok a) → r0 ≠ lst [91] (l.map g) [93] ++ z := fun l z hok hx => by
  obtain ⟨a2, l2, h2, h3, h4⟩ := mnk_more h hr l z hok hx
  rw [h1] at h4
  exact hb a2 _ h2 (List.append_cancel_left h4)
theorem sum_ge {wt : α → Nat} (h : ∀ a, 10 ≤ wt a) (l : List α) : 10 * l.length ≤ (l.map wt).sum := by
  induction l with
  | nil => simp
  | cons a l ih =>
    have := h a
    simp only [List.length_cons, List.map_cons, List.sum_cons]
    omega
end
def PMine (mi : List MI) (F : SH) : Prop := ∀ m ∈ mi, ∃ c, Sx.Own 9 1 (strs m.outs) m.v c ∧ ∀ p ∈ c, p ∈ F
theorem pmine_nil : PMine [] [] := fun m hm => by cases hm
theorem pmine_snoc {mi : List MI} {F c : SH} {m : MI} (h : PMine mi F) (ho : Sx.Own 9 1 (strs m.outs) m.v c) : PMine (mi ++ [m]) (c ++ F) := fun y hy => by
  rcases List.mem_append.1 hy with hy | hy
  · obtain ⟨c', h1, h2⟩ := h y hy
    exact ⟨c', h1, fun p hp => List.mem_append_right _ (h2 p hp)⟩
  · rw [List.mem_singleton] at hy
    subst hy
    exact ⟨c, ho, fun p hp => List.mem_append_left _ hp⟩
attribute [local irreducible] es qt cms hex Tbl Half lst TxK MnK tl
theorem manyO_con (gr : Nat) (r0 : Bs) (g : PO → Bs) (ok : PO → Prop) (wt : PO → Nat) (f : Nat) (first cap : Array Value) (w : World) (hr0 : r0.length ≤ 300000) (hen : Sx.Enters Tryz.prog f) (hg : ∀ a, ∃ c t, g a = c :: t ∧ c ≠ 93) (hw10 : ∀ a, 10 ≤ wt a) (hf : ∀ (r : Bs) (w' : World) (S : List SH), r.length ≤ r0.length → Sig ⟨w, dom [RC gr r0]⟩ S w' → ConB Tryz.prog BADV f (first.toList ++ cap.toList) w' [RC gr r] (fun v S' => ∃ (a : PO) (r' : Bs), v = .agg (encO a).toArray ∧ S' = [[RC gr r']] ∧ wt a + 10 * r'.length ≤ 10 * r.length ∧ (∀ a2 z, ok a2 → r = g a2 ++ z → a = a2 ∧ r' = z)) (∀ a2 z, ok a2 → r ≠ g a2 ++ z)) : ConB Tryz.prog BADV 83 [rp gr, .func (.func f) first cap] w [RC gr r0] (fun v S' => ∃ (l : List PO) (cl : SH) (r' : Bs), S' = [cl, [RC gr r']] ∧ Sx.Own 53 35 ((l.map encO).flatten) v cl ∧ (l.map wt).sum + 10 * r'.length ≤ 10 * r0.length ∧ (∀ (l3 : List PO) (z : Bs), (∀ a ∈ l3, ok a) → r0 = lst [91] (l3.map g) [93] ++ z → l = l3 ∧ r' = z)) (∀ (l3 : List PO) (z : Bs), (∀ a ∈ l3, ok a) → r0 ≠ lst [91] (l3.map g) [93] ++ z) := by
  refine conb_of_tree mix Tryz.func83 T83_ok (by kernel_rfl) ?_
  unfold T83
  refine j_q (qs_ac) ?_
  refine j_callB 0 ent81 rfl rfl rfl rfl (fun w' hw' => sign_con gr [91] r0 w' (by simp) (by omega)) (fun hb l3 z _ hx => hb ⟨cms (l3.map g) ++ [93] ++ z, by rw [hx]; unfold lst; simp⟩) (fun u S2 hu => ?_)
  obtain ⟨rfl, r1, hr1, rfl⟩ := hu
  have hrl : r0.length = r1.length + 1 := by rw [hr1]; simp
  refine j_perm (S' := [[], [RC gr r1]]) (by simp) ?_
  refine j_q (qs_ac) ?_
  refine j_loop (fun m vs S' => ∃ (lv : Value) (cl : SH) (r : Bs) (acc : List PO), vs = [lv] ∧ S' = [cl, [RC gr r]] ∧ Sx.Own 53 35 ((acc.map encO).flatten) lv cl ∧ MnK g ok r0 r acc ∧ (acc.map wt).sum + 10 * r.length ≤ 10 * r0.length ∧ m = r.length) ⟨_, .slice none 0 0, [], r1, [], rfl, rfl, own_nil, (mnk_start hr1), (by simp only [List.map_nil, List.sum_nil]; omega), rfl⟩ ?_
  rintro m vs S' hlen ⟨lv, cl, r, acc, rfl, rfl, hol, hk, hsum, rfl⟩
  obtain ⟨nl, Al, capl, rfl, hnl⟩ := own_form hol (by decide)
  rw [flat_len encO_len] at hnl
  have hnl2 : nl = acc.length := by omega
  subst hnl2
  have hal : 10 * acc.length ≤ (acc.map wt).sum := by
    have := sum_ge hw10 acc
    skip
    exact this
  refine j_q (qs_nil rfl) ?_
  refine j_q (qs_field Tryz.underlying87 rfl sz9 (by decide) rfl) ?_
  refine j_q (qs_load (l := [.string (bs r)]) 1 Tryz.underlying9 rfl rfl rfl rfl) ?_
  refine j_q (qs_call ent129 rfl rfl rfl (fun w' hw' => hasPre_con [93] r w' (by simp) (by omega))) ?_
  refine j_q (qs_not rfl) ?_
  refine j_cond rfl (fun hc0 => ?_) (fun hc0 => ?_)
  · skip
    have hno : ¬ ∃ r', r = [93] ++ r' := fun hx => by rw [pre_iff.2 hx] at hc0; cases hc0
    refine j_q (qs_lenl Tryz.underlying26 rfl) ?_
    refine j_q (qs_gtr rfl rfl) ?_
    refine j_cond rfl (fun hc1 => ?_) (fun hc1 => ?_)
    · skip
      have hne : acc.length ≠ 0 := by simp only [bnA] at *; omega
      refine j_callB 1 ent81 rfl rfl rfl rfl (fun w' hw' => sign_con gr [44] r w' (by simp) (by omega)) (fun hb => mnk_comma hk hno hne hb) (fun u S2 hu => ?_)
      obtain ⟨rfl, r1, hr1, rfl⟩ := hu
      refine j_subl (S' := [[RC gr r1], cl]) (by repeat first | exact slR _ | exact slN _ | apply slC | apply slD) ?_
      refine j_perm (S' := [cl, [RC gr r1]]) (by classical exact List.perm_iff_count.2 fun a => by simp only [List.set_cons_succ, List.set_cons_zero, List.flatten_cons, List.flatten_nil, List.append_nil, List.nil_append, List.cons_append, List.count_append, List.count_cons, List.count_nil] <;> omega) ?_
      have hr1l : r.length = r1.length + 1 := by rw [hr1]; simp
      refine j_callfB 1 hen rfl rfl (by simp) rfl (fun w' hw' => hf r1 w' _ (by omega) hw') (fun hb => mnk_of hk hno (by rw [if_neg hne]; exact hr1) hb) (fun u S2 hu => ?_)
      obtain ⟨a, r2, rfl, rfl, hwt, ha⟩ := hu
      have hk2 := mnk_next hk hno (by rw [if_neg hne]; exact hr1) ha
      have hnx : r2.length < r.length := by have := hw10 a; omega
      refine j_litw (vs := encO a) Tryz.underlying26 sz53 zero53 rfl rfl ⟨encO_len _, by decide, by decide⟩ (fun g12 hg12 ho12 => ?_)
      refine j_append 2 Tryz.underlying26 Tryz.underlying26 (.inr ⟨_, rfl⟩) sb53 zero53 rfl hol rfl (.inl ⟨_, _, rfl, rd_own (off := 0) (n := 35) 0 rfl rfl, (by rw [List.drop_zero, List.take_of_length_le (by rw [encO_len]; exact Nat.le_refl _), encO_len])⟩) (by intro u hu; exact encO_one a u (by rw [List.drop_zero] at hu; exact List.mem_of_mem_take hu)) ⟨(by simp only [strs_length, List.drop_zero, List.length_take, flat_len encO_len, encO_len, List.length_cons, List.length_nil]; omega), (by decide)⟩ (fun v13 c13 ho13 => ?_)
      have ho13 : Sx.Own 53 35 (((acc ++ [a]).map encO).flatten) v13 c13 := by
        have e : ((acc ++ [a]).map encO).flatten = (acc.map encO).flatten ++ encO a := by simp
        rw [e]
        have e2 : ((encO a).drop 0).take 35 = encO a := by rw [List.drop_zero, List.take_of_length_le (by rw [encO_len]; exact Nat.le_refl _)]
        rw [e2] at ho13
        exact ho13
      refine j_subl (S' := [[RC gr r2], c13]) (by repeat first | exact slR _ | exact slN _ | apply slC | apply slD) ?_
      refine j_perm (S' := [c13, [RC gr r2]]) (by classical exact List.perm_iff_count.2 fun a => by simp only [List.set_cons_succ, List.set_cons_zero, List.flatten_cons, List.flatten_nil, List.append_nil, List.nil_append, List.cons_append, List.count_append, List.count_cons, List.count_nil] <;> omega) ?_
      refine j_back rfl ?_
      exact ⟨r2.length, hnx, v13, c13, r2, acc ++ [a], rfl, rfl, ho13, hk2, by rw [List.map_append, List.sum_append]; simp only [List.map_cons, List.map_nil, List.sum_cons, List.sum_nil]; omega, rfl⟩
    · skip
      have hne : acc.length = 0 := by simp only [bnA] at *; omega
      refine j_callfB 1 hen rfl rfl (by simp) rfl (fun w' hw' => hf r w' _ (by omega) hw') (fun hb => mnk_of hk hno (by rw [if_pos hne]; rfl) hb) (fun u S2 hu => ?_)
      obtain ⟨a, r2, rfl, rfl, hwt, ha⟩ := hu
      have hk2 := mnk_next hk hno (by rw [if_pos hne]; rfl) ha
      have hnx : r2.length < r.length := by have := hw10 a; omega
      refine j_litw (vs := encO a) Tryz.underlying26 sz53 zero53 rfl rfl ⟨encO_len _, by decide, by decide⟩ (fun g15 hg15 ho15 => ?_)
      refine j_append 2 Tryz.underlying26 Tryz.underlying26 (.inr ⟨_, rfl⟩) sb53 zero53 rfl hol rfl (.inl ⟨_, _, rfl, rd_own (off := 0) (n := 35) 0 rfl rfl, (by rw [List.drop_zero, List.take_of_length_le (by rw [encO_len]; exact Nat.le_refl _), encO_len])⟩) (by intro u hu; exact encO_one a u (by rw [List.drop_zero] at hu; exact List.mem_of_mem_take hu)) ⟨(by simp only [strs_length, List.drop_zero, List.length_take, flat_len encO_len, encO_len, List.length_cons, List.length_nil]; omega), (by decide)⟩ (fun v16 c16 ho16 => ?_)
      have ho16 : Sx.Own 53 35 (((acc ++ [a]).map encO).flatten) v16 c16 := by
        have e : ((acc ++ [a]).map encO).flatten = (acc.map encO).flatten ++ encO a := by simp
        rw [e]
        have e2 : ((encO a).drop 0).take 35 = encO a := by rw [List.drop_zero, List.take_of_length_le (by rw [encO_len]; exact Nat.le_refl _)]
        rw [e2] at ho16
        exact ho16
      refine j_subl (S' := [[RC gr r2], c16]) (by repeat first | exact slR _ | exact slN _ | apply slC | apply slD) ?_
      refine j_perm (S' := [c16, [RC gr r2]]) (by classical exact List.perm_iff_count.2 fun a => by simp only [List.set_cons_succ, List.set_cons_zero, List.flatten_cons, List.flatten_nil, List.append_nil, List.nil_append, List.cons_append, List.count_append, List.count_cons, List.count_nil] <;> omega) ?_
      refine j_back rfl ?_
      exact ⟨r2.length, hnx, v16, c16, r2, acc ++ [a], rfl, rfl, ho16, hk2, by rw [List.map_append, List.sum_append]; simp only [List.map_cons, List.map_nil, List.sum_cons, List.sum_nil]; omega, rfl⟩
  · skip
    have hyes : ∃ r', r = [93] ++ r' := pre_iff.1 (by simpa using hc0)
    refine j_callB 1 ent81 rfl rfl rfl rfl (fun w' hw' => sign_con gr [93] r w' (by simp) (by omega)) (fun hb => absurd hyes hb) (fun u S2 hu => ?_)
    obtain ⟨rfl, r1, hr1, rfl⟩ := hu
    refine j_subl (S' := [[RC gr r1], cl]) (by repeat first | exact slR _ | exact slN _ | apply slC | apply slD) ?_
    refine j_perm (S' := [cl, [RC gr r1]]) (by classical exact List.perm_iff_count.2 fun a => by simp only [List.set_cons_succ, List.set_cons_zero, List.flatten_cons, List.flatten_nil, List.append_nil, List.nil_append, List.cons_append, List.count_append, List.count_cons, List.count_nil] <;> omega) ?_
    have hr1l : r.length = r1.length + 1 := by rw [hr1]; simp
    refine j_ret_conb (vs := [_]) (fun w' hw' => ⟨rfl, trivial⟩) ?_
    exact ⟨acc, cl, r1, rfl, hol, by omega, mnk_end hg hk hr1⟩
theorem manyV_con (gr : Nat) (r0 : Bs) (g : PV → Bs) (ok : PV → Prop) (wt : PV → Nat) (f : Nat) (first cap : Array Value) (w : World) (hr0 : r0.length ≤ 300000) (hen : Sx.Enters Tryz.prog f) (hg : ∀ a, ∃ c t, g a = c :: t ∧ c ≠ 93) (hw10 : ∀ a, 10 ≤ wt a) (hf : ∀ (r : Bs) (w' : World) (S : List SH), r.length ≤ r0.length → Sig ⟨w, dom [RC gr r0]⟩ S w' → ConB Tryz.prog BADV f (first.toList ++ cap.toList) w' [RC gr r] (fun v S' => ∃ (a : PV) (r' : Bs), v = .agg (encV a).toArray ∧ S' = [[RC gr r']] ∧ wt a + 10 * r'.length ≤ 10 * r.length ∧ (∀ a2 z, ok a2 → r = g a2 ++ z → a = a2 ∧ r' = z)) (∀ a2 z, ok a2 → r ≠ g a2 ++ z)) : ConB Tryz.prog BADV 90 [rp gr, .func (.func f) first cap] w [RC gr r0] (fun v S' => ∃ (l : List PV) (cl : SH) (r' : Bs), S' = [cl, [RC gr r']] ∧ Sx.Own 48 2 ((l.map encV).flatten) v cl ∧ (l.map wt).sum + 10 * r'.length ≤ 10 * r0.length ∧ (∀ (l3 : List PV) (z : Bs), (∀ a ∈ l3, ok a) → r0 = lst [91] (l3.map g) [93] ++ z → l = l3 ∧ r' = z)) (∀ (l3 : List PV) (z : Bs), (∀ a ∈ l3, ok a) → r0 ≠ lst [91] (l3.map g) [93] ++ z) := by
  refine conb_of_tree mix Tryz.func90 T90_ok (by kernel_rfl) ?_
  unfold T90
  refine j_q (qs_ac) ?_
  refine j_callB 0 ent81 rfl rfl rfl rfl (fun w' hw' => sign_con gr [91] r0 w' (by simp) (by omega)) (fun hb l3 z _ hx => hb ⟨cms (l3.map g) ++ [93] ++ z, by rw [hx]; unfold lst; simp⟩) (fun u S2 hu => ?_)
  obtain ⟨rfl, r1, hr1, rfl⟩ := hu
  have hrl : r0.length = r1.length + 1 := by rw [hr1]; simp
  refine j_perm (S' := [[], [RC gr r1]]) (by simp) ?_
  refine j_q (qs_ac) ?_
  refine j_loop (fun m vs S' => ∃ (lv : Value) (cl : SH) (r : Bs) (acc : List PV), vs = [lv] ∧ S' = [cl, [RC gr r]] ∧ Sx.Own 48 2 ((acc.map encV).flatten) lv cl ∧ MnK g ok r0 r acc ∧ (acc.map wt).sum + 10 * r.length ≤ 10 * r0.length ∧ m = r.length) ⟨_, .slice none 0 0, [], r1, [], rfl, rfl, own_nil, (mnk_start hr1), (by simp only [List.map_nil, List.sum_nil]; omega), rfl⟩ ?_
  rintro m vs S' hlen ⟨lv, cl, r, acc, rfl, rfl, hol, hk, hsum, rfl⟩
  obtain ⟨nl, Al, capl, rfl, hnl⟩ := own_form hol (by decide)
  rw [flat_len encV_len] at hnl
  have hnl2 : nl = acc.length := by omega
  subst hnl2
  have hal : 10 * acc.length ≤ (acc.map wt).sum := by
    have := sum_ge hw10 acc
    skip
    exact this
  refine j_q (qs_nil rfl) ?_
  refine j_q (qs_field Tryz.underlying87 rfl sz9 (by decide) rfl) ?_
  refine j_q (qs_load (l := [.string (bs r)]) 1 Tryz.underlying9 rfl rfl rfl rfl) ?_
  refine j_q (qs_call ent129 rfl rfl rfl (fun w' hw' => hasPre_con [93] r w' (by simp) (by omega))) ?_
  refine j_q (qs_not rfl) ?_
  refine j_cond rfl (fun hc0 => ?_) (fun hc0 => ?_)
  · skip
    have hno : ¬ ∃ r', r = [93] ++ r' := fun hx => by rw [pre_iff.2 hx] at hc0; cases hc0
    refine j_q (qs_lenl Tryz.underlying23 rfl) ?_
    refine j_q (qs_gtr rfl rfl) ?_
    refine j_cond rfl (fun hc1 => ?_) (fun hc1 => ?_)
    · skip
      have hne : acc.length ≠ 0 := by simp only [bnA] at *; omega
      refine j_callB 1 ent81 rfl rfl rfl rfl (fun w' hw' => sign_con gr [44] r w' (by simp) (by omega)) (fun hb => mnk_comma hk hno hne hb) (fun u S2 hu => ?_)
      obtain ⟨rfl, r1, hr1, rfl⟩ := hu
      refine j_subl (S' := [[RC gr r1], cl]) (by repeat first | exact slR _ | exact slN _ | apply slC | apply slD) ?_
      refine j_perm (S' := [cl, [RC gr r1]]) (by classical exact List.perm_iff_count.2 fun a => by simp only [List.set_cons_succ, List.set_cons_zero, List.flatten_cons, List.flatten_nil, List.append_nil, List.nil_append, List.cons_append, List.count_append, List.count_cons, List.count_nil] <;> omega) ?_
      have hr1l : r.length = r1.length + 1 := by rw [hr1]; simp
      refine j_callfB 1 hen rfl rfl (by simp) rfl (fun w' hw' => hf r1 w' _ (by omega) hw') (fun hb => mnk_of hk hno (by rw [if_neg hne]; exact hr1) hb) (fun u S2 hu => ?_)
      obtain ⟨a, r2, rfl, rfl, hwt, ha⟩ := hu
      have hk2 := mnk_next hk hno (by rw [if_neg hne]; exact hr1) ha
      have hnx : r2.length < r.length := by have := hw10 a; omega
      refine j_litw (vs := encV a) Tryz.underlying23 sz48 zero48 rfl rfl ⟨encV_len _, by decide, by decide⟩ (fun g12 hg12 ho12 => ?_)
      refine j_append 2 Tryz.underlying23 Tryz.underlying23 (.inr ⟨_, rfl⟩) sb48 zero48 rfl hol rfl (.inl ⟨_, _, rfl, rd_own (off := 0) (n := 2) 0 rfl rfl, (by rw [List.drop_zero, List.take_of_length_le (by rw [encV_len]; exact Nat.le_refl _), encV_len])⟩) (by intro u hu; exact encV_one a u (by rw [List.drop_zero] at hu; exact List.mem_of_mem_take hu)) ⟨(by simp only [strs_length, List.drop_zero, List.length_take, flat_len encV_len, encV_len, List.length_cons, List.length_nil]; omega), (by decide)⟩ (fun v13 c13 ho13 => ?_)
      have ho13 : Sx.Own 48 2 (((acc ++ [a]).map encV).flatten) v13 c13 := by
        have e : ((acc ++ [a]).map encV).flatten = (acc.map encV).flatten ++ encV a := by simp
        rw [e]
        have e2 : ((encV a).drop 0).take 2 = encV a := by rw [List.drop_zero, List.take_of_length_le (by rw [encV_len]; exact Nat.le_refl _)]
        rw [e2] at ho13
        exact ho13
      refine j_subl (S' := [[RC gr r2], c13]) (by repeat first | exact slR _ | exact slN _ | apply slC | apply slD) ?_
      refine j_perm (S' := [c13, [RC gr r2]]) (by classical exact List.perm_iff_count.2 fun a => by simp only [List.set_cons_succ, List.set_cons_zero, List.flatten_cons, List.flatten_nil, List.append_nil, List.nil_append, List.cons_append, List.count_append, List.count_cons, List.count_nil] <;> omega) ?_
      refine j_back rfl ?_
      exact ⟨r2.length, hnx, v13, c13, r2, acc ++ [a], rfl, rfl, ho13, hk2, by rw [List.map_append, List.sum_append]; simp only [List.map_cons, List.map_nil, List.sum_cons, List.sum_nil]; omega, rfl⟩
    · skip
      have hne : acc.length = 0 := by simp only [bnA] at *; omega
      refine j_callfB 1 hen rfl rfl (by simp) rfl (fun w' hw' => hf r w' _ (by omega) hw') (fun hb => mnk_of hk hno (by rw [if_pos hne]; rfl) hb) (fun u S2 hu => ?_)
      obtain ⟨a, r2, rfl, rfl, hwt, ha⟩ := hu
      have hk2 := mnk_next hk hno (by rw [if_pos hne]; rfl) ha
      have hnx : r2.length < r.length := by have := hw10 a; omega
      refine j_litw (vs := encV a) Tryz.underlying23 sz48 zero48 rfl rfl ⟨encV_len _, by decide, by decide⟩ (fun g15 hg15 ho15 => ?_)
      refine j_append 2 Tryz.underlying23 Tryz.underlying23 (.inr ⟨_, rfl⟩) sb48 zero48 rfl hol rfl (.inl ⟨_, _, rfl, rd_own (off := 0) (n := 2) 0 rfl rfl, (by rw [List.drop_zero, List.take_of_length_le (by rw [encV_len]; exact Nat.le_refl _), encV_len])⟩) (by intro u hu; exact encV_one a u (by rw [List.drop_zero] at hu; exact List.mem_of_mem_take hu)) ⟨(by simp only [strs_length, List.drop_zero, List.length_take, flat_len encV_len, encV_len, List.length_cons, List.length_nil]; omega), (by decide)⟩ (fun v16 c16 ho16 => ?_)
      have ho16 : Sx.Own 48 2 (((acc ++ [a]).map encV).flatten) v16 c16 := by
        have e : ((acc ++ [a]).map encV).flatten = (acc.map encV).flatten ++ encV a := by simp
        rw [e]
        have e2 : ((encV a).drop 0).take 2 = encV a := by rw [List.drop_zero, List.take_of_length_le (by rw [encV_len]; exact Nat.le_refl _)]
        rw [e2] at ho16
        exact ho16
      refine j_subl (S' := [[RC gr r2], c16]) (by repeat first | exact slR _ | exact slN _ | apply slC | apply slD) ?_
      refine j_perm (S' := [c16, [RC gr r2]]) (by classical exact List.perm_iff_count.2 fun a => by simp only [List.set_cons_succ, List.set_cons_zero, List.flatten_cons, List.flatten_nil, List.append_nil, List.nil_append, List.cons_append, List.count_append, List.count_cons, List.count_nil] <;> omega) ?_
      refine j_back rfl ?_
      exact ⟨r2.length, hnx, v16, c16, r2, acc ++ [a], rfl, rfl, ho16, hk2, by rw [List.map_append, List.sum_append]; simp only [List.map_cons, List.map_nil, List.sum_cons, List.sum_nil]; omega, rfl⟩
  · skip
    have hyes : ∃ r', r = [93] ++ r' := pre_iff.1 (by simpa using hc0)
    refine j_callB 1 ent81 rfl rfl rfl rfl (fun w' hw' => sign_con gr [93] r w' (by simp) (by omega)) (fun hb => absurd hyes hb) (fun u S2 hu => ?_)
    obtain ⟨rfl, r1, hr1, rfl⟩ := hu
    refine j_subl (S' := [[RC gr r1], cl]) (by repeat first | exact slR _ | exact slN _ | apply slC | apply slD) ?_
    refine j_perm (S' := [cl, [RC gr r1]]) (by classical exact List.perm_iff_count.2 fun a => by simp only [List.set_cons_succ, List.set_cons_zero, List.flatten_cons, List.flatten_nil, List.append_nil, List.nil_append, List.cons_append, List.count_append, List.count_cons, List.count_nil] <;> omega) ?_
    have hr1l : r.length = r1.length + 1 := by rw [hr1]; simp
    refine j_ret_conb (vs := [_]) (fun w' hw' => ⟨rfl, trivial⟩) ?_
    exact ⟨acc, cl, r1, rfl, hol, by omega, mnk_end hg hk hr1⟩
theorem manyS_con (gr : Nat) (r0 : Bs) (g : Bs → Bs) (ok : Bs → Prop) (wt : Bs → Nat) (f : Nat) (first cap : Array Value) (w : World) (hr0 : r0.length ≤ 300000) (hen : Sx.Enters Tryz.prog f) (hg : ∀ a, ∃ c t, g a = c :: t ∧ c ≠ 93) (hw10 : ∀ a, 10 ≤ wt a) (hf : ∀ (r : Bs) (w' : World) (S : List SH), r.length ≤ r0.length → Sig ⟨w, dom [RC gr r0]⟩ S w' → ConB Tryz.prog BADV f (first.toList ++ cap.toList) w' [RC gr r] (fun v S' => ∃ (a : Bs) (r' : Bs), v = .string (bs a) ∧ S' = [[RC gr r']] ∧ wt a + 10 * r'.length ≤ 10 * r.length ∧ (∀ a2 z, ok a2 → r = g a2 ++ z → a = a2 ∧ r' = z)) (∀ a2 z, ok a2 → r ≠ g a2 ++ z)) : ConB Tryz.prog BADV 89 [rp gr, .func (.func f) first cap] w [RC gr r0] (fun v S' => ∃ (l : List Bs) (cl : SH) (r' : Bs), S' = [cl, [RC gr r']] ∧ Sx.Own 9 1 (strs l) v cl ∧ (l.map wt).sum + 10 * r'.length ≤ 10 * r0.length ∧ (∀ (l3 : List Bs) (z : Bs), (∀ a ∈ l3, ok a) → r0 = lst [91] (l3.map g) [93] ++ z → l = l3 ∧ r' = z)) (∀ (l3 : List Bs) (z : Bs), (∀ a ∈ l3, ok a) → r0 ≠ lst [91] (l3.map g) [93] ++ z) := by
  refine conb_of_tree mix Tryz.func89 T89_ok (by kernel_rfl) ?_
  unfold T89
  refine j_q (qs_ac) ?_
  refine j_callB 0 ent81 rfl rfl rfl rfl (fun w' hw' => sign_con gr [91] r0 w' (by simp) (by omega)) (fun hb l3 z _ hx => hb ⟨cms (l3.map g) ++ [93] ++ z, by rw [hx]; unfold lst; simp⟩) (fun u S2 hu => ?_)
  obtain ⟨rfl, r1, hr1, rfl⟩ := hu
  have hrl : r0.length = r1.length + 1 := by rw [hr1]; simp
  refine j_perm (S' := [[], [RC gr r1]]) (by simp) ?_
  refine j_q (qs_ac) ?_
  refine j_loop (fun m vs S' => ∃ (lv : Value) (cl : SH) (r : Bs) (acc : List Bs), vs = [lv] ∧ S' = [cl, [RC gr r]] ∧ Sx.Own 9 1 (strs acc) lv cl ∧ MnK g ok r0 r acc ∧ (acc.map wt).sum + 10 * r.length ≤ 10 * r0.length ∧ m = r.length) ⟨_, .slice none 0 0, [], r1, [], rfl, rfl, own_nil, (mnk_start hr1), (by simp only [List.map_nil, List.sum_nil]; omega), rfl⟩ ?_
  rintro m vs S' hlen ⟨lv, cl, r, acc, rfl, rfl, hol, hk, hsum, rfl⟩
  obtain ⟨nl, Al, capl, rfl, hnl⟩ := own_form hol (by decide)
  rw [strs_length] at hnl
  have hnl2 : nl = acc.length := by omega
  subst hnl2
  have hal : 10 * acc.length ≤ (acc.map wt).sum := by
    have := sum_ge hw10 acc
    skip
    exact this
  refine j_q (qs_nil rfl) ?_
  refine j_q (qs_field Tryz.underlying87 rfl sz9 (by decide) rfl) ?_
  refine j_q (qs_load (l := [.string (bs r)]) 1 Tryz.underlying9 rfl rfl rfl rfl) ?_
  refine j_q (qs_call ent129 rfl rfl rfl (fun w' hw' => hasPre_con [93] r w' (by simp) (by omega))) ?_
  refine j_q (qs_not rfl) ?_
  refine j_cond rfl (fun hc0 => ?_) (fun hc0 => ?_)
  · skip
    have hno : ¬ ∃ r', r = [93] ++ r' := fun hx => by rw [pre_iff.2 hx] at hc0; cases hc0
    refine j_q (qs_lenl Tryz.underlying22 rfl) ?_
    refine j_q (qs_gtr rfl rfl) ?_
    refine j_cond rfl (fun hc1 => ?_) (fun hc1 => ?_)
    · skip
      have hne : acc.length ≠ 0 := by simp only [bnA] at *; omega
      refine j_callB 1 ent81 rfl rfl rfl rfl (fun w' hw' => sign_con gr [44] r w' (by simp) (by omega)) (fun hb => mnk_comma hk hno hne hb) (fun u S2 hu => ?_)
      obtain ⟨rfl, r1, hr1, rfl⟩ := hu
      refine j_subl (S' := [[RC gr r1], cl]) (by repeat first | exact slR _ | exact slN _ | apply slC | apply slD) ?_
      refine j_perm (S' := [cl, [RC gr r1]]) (by classical exact List.perm_iff_count.2 fun a => by simp only [List.set_cons_succ, List.set_cons_zero, List.flatten_cons, List.flatten_nil, List.append_nil, List.nil_append, List.cons_append, List.count_append, List.count_cons, List.count_nil] <;> omega) ?_
      have hr1l : r.length = r1.length + 1 := by rw [hr1]; simp
      refine j_callfB 1 hen rfl rfl (by simp) rfl (fun w' hw' => hf r1 w' _ (by omega) hw') (fun hb => mnk_of hk hno (by rw [if_neg hne]; exact hr1) hb) (fun u S2 hu => ?_)
      obtain ⟨a, r2, rfl, rfl, hwt, ha⟩ := hu
      have hk2 := mnk_next hk hno (by rw [if_neg hne]; exact hr1) ha
      have hnx : r2.length < r.length := by have := hw10 a; omega
      refine j_lit (vs := [.string (bs a)]) Tryz.underlying22 sz9 zero9 rfl (by simp [oneV]) ⟨rfl, by decide⟩ (fun g12 v12 c12 hv12 hc12 ho12 => ?_)
      subst hv12 hc12
      refine j_append 2 Tryz.underlying22 Tryz.underlying22 (.inr ⟨_, rfl⟩) sb9 zero9 rfl hol rfl (.inl ⟨_, _, rfl, rd_own (off := 0) (n := 1) 0 rfl rfl, rfl⟩) (by simp [oneV]) ⟨(by simp only [strs_length, List.drop_zero, List.length_take, List.length_cons, List.length_nil]; omega), (by decide)⟩ (fun v13 c13 ho13 => ?_)
      have ho13 : Sx.Own 9 1 (strs (acc ++ [a])) v13 c13 := by
        rw [strs_append]
        exact ho13
      refine j_subl (S' := [[RC gr r2], c13]) (by repeat first | exact slR _ | exact slN _ | apply slC | apply slD) ?_
      refine j_perm (S' := [c13, [RC gr r2]]) (by classical exact List.perm_iff_count.2 fun a => by simp only [List.set_cons_succ, List.set_cons_zero, List.flatten_cons, List.flatten_nil, List.append_nil, List.nil_append, List.cons_append, List.count_append, List.count_cons, List.count_nil] <;> omega) ?_
      refine j_back rfl ?_
      exact ⟨r2.length, hnx, v13, c13, r2, acc ++ [a], rfl, rfl, ho13, hk2, by rw [List.map_append, List.sum_append]; simp only [List.map_cons, List.map_nil, List.sum_cons, List.sum_nil]; omega, rfl⟩
    · skip
      have hne : acc.length = 0 := by simp only [bnA] at *; omega
      refine j_callfB 1 hen rfl rfl (by simp) rfl (fun w' hw' => hf r w' _ (by omega) hw') (fun hb => mnk_of hk hno (by rw [if_pos hne]; rfl) hb) (fun u S2 hu => ?_)
      obtain ⟨a, r2, rfl, rfl, hwt, ha⟩ := hu
      have hk2 := mnk_next hk hno (by rw [if_pos hne]; rfl) ha
      have hnx : r2.length < r.length := by have := hw10 a; omega
      refine j_lit (vs := [.string (bs a)]) Tryz.underlying22 sz9 zero9 rfl (by simp [oneV]) ⟨rfl, by decide⟩ (fun g15 v15 c15 hv15 hc15 ho15 => ?_)
      subst hv15 hc15
      refine j_append 2 Tryz.underlying22 Tryz.underlying22 (.inr ⟨_, rfl⟩) sb9 zero9 rfl hol rfl (.inl ⟨_, _, rfl, rd_own (off := 0) (n := 1) 0 rfl rfl, rfl⟩) (by simp [oneV]) ⟨(by simp only [strs_length, List.drop_zero, List.length_take, List.length_cons, List.length_nil]; omega), (by decide)⟩ (fun v16 c16 ho16 => ?_)
      have ho16 : Sx.Own 9 1 (strs (acc ++ [a])) v16 c16 := by
        rw [strs_append]
        exact ho16
      refine j_subl (S' := [[RC gr r2], c16]) (by repeat first | exact slR _ | exact slN _ | apply slC | apply slD) ?_
      refine j_perm (S' := [c16, [RC gr r2]]) (by classical exact List.perm_iff_count.2 fun a => by simp only [List.set_cons_succ, List.set_cons_zero, List.flatten_cons, List.flatten_nil, List.append_nil, List.nil_append, List.cons_append, List.count_append, List.count_cons, List.count_nil] <;> omega) ?_
      refine j_back rfl ?_
      exact ⟨r2.length, hnx, v16, c16, r2, acc ++ [a], rfl, rfl, ho16, hk2, by rw [List.map_append, List.sum_append]; simp only [List.map_cons, List.map_nil, List.sum_cons, List.sum_nil]; omega, rfl⟩
  · skip
    have hyes : ∃ r', r = [93] ++ r' := pre_iff.1 (by simpa using hc0)
    refine j_callB 1 ent81 rfl rfl rfl rfl (fun w' hw' => sign_con gr [93] r w' (by simp) (by omega)) (fun hb => absurd hyes hb) (fun u S2 hu => ?_)
    obtain ⟨rfl, r1, hr1, rfl⟩ := hu
    refine j_subl (S' := [[RC gr r1], cl]) (by repeat first | exact slR _ | exact slN _ | apply slC | apply slD) ?_
    refine j_perm (S' := [cl, [RC gr r1]]) (by classical exact List.perm_iff_count.2 fun a => by simp only [List.set_cons_succ, List.set_cons_zero, List.flatten_cons, List.flatten_nil, List.append_nil, List.nil_append, List.cons_append, List.count_append, List.count_cons, List.count_nil] <;> omega) ?_
    have hr1l : r.length = r1.length + 1 := by rw [hr1]; simp
    refine j_ret_conb (vs := [_]) (fun w' hw' => ⟨rfl, trivial⟩) ?_
    exact ⟨acc, cl, r1, rfl, hol, by omega, mnk_end hg hk hr1⟩
theorem manyP_con (gr : Nat) (r0 : Bs) (g : Bs → Bs) (ok : Bs → Prop) (wt : Bs → Nat) (f : Nat) (first cap : Array Value) (w : World) (hr0 : r0.length ≤ 300000) (hen : Sx.Enters Tryz.prog f) (hg : ∀ a, ∃ c t, g a = c :: t ∧ c ≠ 93) (hw10 : ∀ a, 10 ≤ wt a) (hf : ∀ (r : Bs) (w' : World) (S : List SH), r.length ≤ r0.length → Sig ⟨w, dom [RC gr r0]⟩ S w' → ConB Tryz.prog BADV f (first.toList ++ cap.toList) w' [RC gr r] (fun v S' => ∃ (a : Bs) (r' : Bs), v = .string (bs a) ∧ S' = [[RC gr r']] ∧ wt a + 10 * r'.length ≤ 10 * r.length ∧ (∀ a2 z, ok a2 → r = g a2 ++ z → a = a2 ∧ r' = z)) (∀ a2 z, ok a2 → r ≠ g a2 ++ z)) : ConB Tryz.prog BADV 87 [rp gr, .func (.func f) first cap] w [RC gr r0] (fun v S' => ∃ (l : List Bs) (cl : SH) (r' : Bs), S' = [cl, [RC gr r']] ∧ Sx.Own 49 1 (strs l) v cl ∧ (l.map wt).sum + 10 * r'.length ≤ 10 * r0.length ∧ (∀ (l3 : List Bs) (z : Bs), (∀ a ∈ l3, ok a) → r0 = lst [91] (l3.map g) [93] ++ z → l = l3 ∧ r' = z)) (∀ (l3 : List Bs) (z : Bs), (∀ a ∈ l3, ok a) → r0 ≠ lst [91] (l3.map g) [93] ++ z) := by
  refine conb_of_tree mix Tryz.func87 T87_ok (by kernel_rfl) ?_
  unfold T87
  refine j_q (qs_ac) ?_
  refine j_callB 0 ent81 rfl rfl rfl rfl (fun w' hw' => sign_con gr [91] r0 w' (by simp) (by omega)) (fun hb l3 z _ hx => hb ⟨cms (l3.map g) ++ [93] ++ z, by rw [hx]; unfold lst; simp⟩) (fun u S2 hu => ?_)
  obtain ⟨rfl, r1, hr1, rfl⟩ := hu
  have hrl : r0.length = r1.length + 1 := by rw [hr1]; simp
  refine j_perm (S' := [[], [RC gr r1]]) (by simp) ?_
  refine j_q (qs_ac) ?_
  refine j_loop (fun m vs S' => ∃ (lv : Value) (cl : SH) (r : Bs) (acc : List Bs), vs = [lv] ∧ S' = [cl, [RC gr r]] ∧ Sx.Own 49 1 (strs acc) lv cl ∧ MnK g ok r0 r acc ∧ (acc.map wt).sum + 10 * r.length ≤ 10 * r0.length ∧ m = r.length) ⟨_, .slice none 0 0, [], r1, [], rfl, rfl, own_nil, (mnk_start hr1), (by simp only [List.map_nil, List.sum_nil]; omega), rfl⟩ ?_
  rintro m vs S' hlen ⟨lv, cl, r, acc, rfl, rfl, hol, hk, hsum, rfl⟩
  obtain ⟨nl, Al, capl, rfl, hnl⟩ := own_form hol (by decide)
  rw [strs_length] at hnl
  have hnl2 : nl = acc.length := by omega
  subst hnl2
  have hal : 10 * acc.length ≤ (acc.map wt).sum := by
    have := sum_ge hw10 acc
    skip
    exact this
  refine j_q (qs_nil rfl) ?_
  refine j_q (qs_field Tryz.underlying87 rfl sz9 (by decide) rfl) ?_
  refine j_q (qs_load (l := [.string (bs r)]) 1 Tryz.underlying9 rfl rfl rfl rfl) ?_
  refine j_q (qs_call ent129 rfl rfl rfl (fun w' hw' => hasPre_con [93] r w' (by simp) (by omega))) ?_
  refine j_q (qs_not rfl) ?_
  refine j_cond rfl (fun hc0 => ?_) (fun hc0 => ?_)
  · skip
    have hno : ¬ ∃ r', r = [93] ++ r' := fun hx => by rw [pre_iff.2 hx] at hc0; cases hc0
    refine j_q (qs_lenl Tryz.underlying25 rfl) ?_
    refine j_q (qs_gtr rfl rfl) ?_
    refine j_cond rfl (fun hc1 => ?_) (fun hc1 => ?_)
    · skip
      have hne : acc.length ≠ 0 := by simp only [bnA] at *; omega
      refine j_callB 1 ent81 rfl rfl rfl rfl (fun w' hw' => sign_con gr [44] r w' (by simp) (by omega)) (fun hb => mnk_comma hk hno hne hb) (fun u S2 hu => ?_)
      obtain ⟨rfl, r1, hr1, rfl⟩ := hu
      refine j_subl (S' := [[RC gr r1], cl]) (by repeat first | exact slR _ | exact slN _ | apply slC | apply slD) ?_
      refine j_perm (S' := [cl, [RC gr r1]]) (by classical exact List.perm_iff_count.2 fun a => by simp only [List.set_cons_succ, List.set_cons_zero, List.flatten_cons, List.flatten_nil, List.append_nil, List.nil_append, List.cons_append, List.count_append, List.count_cons, List.count_nil] <;> omega) ?_
      have hr1l : r.length = r1.length + 1 := by rw [hr1]; simp
      refine j_callfB 1 hen rfl rfl (by simp) rfl (fun w' hw' => hf r1 w' _ (by omega) hw') (fun hb => mnk_of hk hno (by rw [if_neg hne]; exact hr1) hb) (fun u S2 hu => ?_)
      obtain ⟨a, r2, rfl, rfl, hwt, ha⟩ := hu
      have hk2 := mnk_next hk hno (by rw [if_neg hne]; exact hr1) ha
      have hnx : r2.length < r.length := by have := hw10 a; omega
      refine j_lit (vs := [.string (bs a)]) Tryz.underlying25 sz49 zero49 rfl (by simp [oneV]) ⟨rfl, by decide⟩ (fun g12 v12 c12 hv12 hc12 ho12 => ?_)
      subst hv12 hc12
      refine j_append 2 Tryz.underlying25 Tryz.underlying25 (.inr ⟨_, rfl⟩) sb49 zero49 rfl hol rfl (.inl ⟨_, _, rfl, rd_own (off := 0) (n := 1) 0 rfl rfl, rfl⟩) (by simp [oneV]) ⟨(by simp only [strs_length, List.drop_zero, List.length_take, List.length_cons, List.length_nil]; omega), (by decide)⟩ (fun v13 c13 ho13 => ?_)
      have ho13 : Sx.Own 49 1 (strs (acc ++ [a])) v13 c13 := by
        rw [strs_append]
        exact ho13
      refine j_subl (S' := [[RC gr r2], c13]) (by repeat first | exact slR _ | exact slN _ | apply slC | apply slD) ?_
      refine j_perm (S' := [c13, [RC gr r2]]) (by classical exact List.perm_iff_count.2 fun a => by simp only [List.set_cons_succ, List.set_cons_zero, List.flatten_cons, List.flatten_nil, List.append_nil, List.nil_append, List.cons_append, List.count_append, List.count_cons, List.count_nil] <;> omega) ?_
      refine j_back rfl ?_
      exact ⟨r2.length, hnx, v13, c13, r2, acc ++ [a], rfl, rfl, ho13, hk2, by rw [List.map_append, List.sum_append]; simp only [List.map_cons, List.map_nil, List.sum_cons, List.sum_nil]; omega, rfl⟩
    · skip
      have hne : acc.length = 0 := by simp only [bnA] at *; omega
      refine j_callfB 1 hen rfl rfl (by simp) rfl (fun w' hw' => hf r w' _ (by omega) hw') (fun hb => mnk_of hk hno (by rw [if_pos hne]; rfl) hb) (fun u S2 hu => ?_)
      obtain ⟨a, r2, rfl, rfl, hwt, ha⟩ := hu
      have hk2 := mnk_next hk hno (by rw [if_pos hne]; rfl) ha
      have hnx : r2.length < r.length := by have := hw10 a; omega
      refine j_lit (vs := [.string (bs a)]) Tryz.underlying25 sz49 zero49 rfl (by simp [oneV]) ⟨rfl, by decide⟩ (fun g15 v15 c15 hv15 hc15 ho15 => ?_)
      subst hv15 hc15
      refine j_append 2 Tryz.underlying25 Tryz.underlying25 (.inr ⟨_, rfl⟩) sb49 zero49 rfl hol rfl (.inl ⟨_, _, rfl, rd_own (off := 0) (n := 1) 0 rfl rfl, rfl⟩) (by simp [oneV]) ⟨(by simp only [strs_length, List.drop_zero, List.length_take, List.length_cons, List.length_nil]; omega), (by decide)⟩ (fun v16 c16 ho16 => ?_)
      have ho16 : Sx.Own 49 1 (strs (acc ++ [a])) v16 c16 := by
        rw [strs_append]
        exact ho16
      refine j_subl (S' := [[RC gr r2], c16]) (by repeat first | exact slR _ | exact slN _ | apply slC | apply slD) ?_
      refine j_perm (S' := [c16, [RC gr r2]]) (by classical exact List.perm_iff_count.2 fun a => by simp only [List.set_cons_succ, List.set_cons_zero, List.flatten_cons, List.flatten_nil, List.append_nil, List.nil_append, List.cons_append, List.count_append, List.count_cons, List.count_nil] <;> omega) ?_
      refine j_back rfl ?_
      exact ⟨r2.length, hnx, v16, c16, r2, acc ++ [a], rfl, rfl, ho16, hk2, by rw [List.map_append, List.sum_append]; simp only [List.map_cons, List.map_nil, List.sum_cons, List.sum_nil]; omega, rfl⟩
  · skip
    have hyes : ∃ r', r = [93] ++ r' := pre_iff.1 (by simpa using hc0)
    refine j_callB 1 ent81 rfl rfl rfl rfl (fun w' hw' => sign_con gr [93] r w' (by simp) (by omega)) (fun hb => absurd hyes hb) (fun u S2 hu => ?_)
    obtain ⟨rfl, r1, hr1, rfl⟩ := hu
    refine j_subl (S' := [[RC gr r1], cl]) (by repeat first | exact slR _ | exact slN _ | apply slC | apply slD) ?_
    refine j_perm (S' := [cl, [RC gr r1]]) (by classical exact List.perm_iff_count.2 fun a => by simp only [List.set_cons_succ, List.set_cons_zero, List.flatten_cons, List.flatten_nil, List.append_nil, List.nil_append, List.cons_append, List.count_append, List.count_cons, List.count_nil] <;> omega) ?_
    have hr1l : r.length = r1.length + 1 := by rw [hr1]; simp
    refine j_ret_conb (vs := [_]) (fun w' hw' => ⟨rfl, trivial⟩) ?_
    exact ⟨acc, cl, r1, rfl, hol, by omega, mnk_end hg hk hr1⟩
theorem manyI_con (gr : Nat) (r0 : Bs) (g : PI → Bs) (ok : PI → Prop) (wt : PI → Nat) (f : Nat) (first cap : Array Value) (w : World) (hr0 : r0.length ≤ 300000) (hen : Sx.Enters Tryz.prog f) (hg : ∀ a, ∃ c t, g a = c :: t ∧ c ≠ 93) (hw10 : ∀ a, 10 ≤ wt a) (hf : ∀ (r : Bs) (w' : World) (S : List SH), r.length ≤ r0.length → Sig ⟨w, dom [RC gr r0]⟩ S w' → ConB Tryz.prog BADV f (first.toList ++ cap.toList) w' [RC gr r] (fun v S' => ∃ (a : MI) (r' : Bs) (F : SH), v = .agg (encI a).toArray ∧ S' = [[RC gr r'], F] ∧ wt a.pi + 10 * r'.length ≤ 10 * r.length ∧ (∀ a2 z, ok a2 → r = g a2 ++ z → a.pi = a2 ∧ r' = z) ∧ Sx.Own 9 1 (strs a.outs) a.v F ∧ (∀ o ∈ a.outs, o.length ≤ 3000000)) (∀ a2 z, ok a2 → r ≠ g a2 ++ z)) : ConB Tryz.prog BADV 85 [rp gr, .func (.func f) first cap] w [RC gr r0] (fun v S' => ∃ (l : List MI) (cl : SH) (r' : Bs) (F : SH), S' = [cl, [RC gr r'], F] ∧ Sx.Own 68 2 ((l.map encI).flatten) v cl ∧ ((l.map MI.pi).map wt).sum + 10 * r'.length ≤ 10 * r0.length ∧ (∀ (l3 : List PI) (z : Bs), (∀ a ∈ l3, ok a) → r0 = lst [91] (l3.map g) [93] ++ z → (l.map MI.pi) = l3 ∧ r' = z) ∧ PMine l F ∧ (∀ m ∈ l, ∀ o ∈ m.outs, o.length ≤ 3000000)) (∀ (l3 : List PI) (z : Bs), (∀ a ∈ l3, ok a) → r0 ≠ lst [91] (l3.map g) [93] ++ z) := by
  refine conb_of_tree mix Tryz.func85 T85_ok (by kernel_rfl) ?_
  unfold T85
  refine j_q (qs_ac) ?_
  refine j_callB 0 ent81 rfl rfl rfl rfl (fun w' hw' => sign_con gr [91] r0 w' (by simp) (by omega)) (fun hb l3 z _ hx => hb ⟨cms (l3.map g) ++ [93] ++ z, by rw [hx]; unfold lst; simp⟩) (fun u S2 hu => ?_)
  obtain ⟨rfl, r1, hr1, rfl⟩ := hu
  have hrl : r0.length = r1.length + 1 := by rw [hr1]; simp
  refine j_perm (S' := [[], [RC gr r1], []]) (by simp) ?_
  refine j_q (qs_ac) ?_
  refine j_loop (fun m vs S' => ∃ (lv : Value) (cl : SH) (r : Bs) (acc : List MI) (F : SH), vs = [lv] ∧ S' = [cl, [RC gr r], F] ∧ Sx.Own 68 2 ((acc.map encI).flatten) lv cl ∧ MnK g ok r0 r (acc.map MI.pi) ∧ ((acc.map MI.pi).map wt).sum + 10 * r.length ≤ 10 * r0.length ∧ PMine acc F ∧ (∀ m ∈ acc, ∀ o ∈ m.outs, o.length ≤ 3000000) ∧ m = r.length) ⟨_, .slice none 0 0, [], r1, [], [], rfl, rfl, own_nil, (mnk_start hr1), (by simp only [List.map_nil, List.sum_nil]; omega), pmine_nil, (fun m hm => by cases hm), rfl⟩ ?_
  rintro m vs S' hlen ⟨lv, cl, r, acc, F, rfl, rfl, hol, hk, hsum, hmine, hbs, rfl⟩
  obtain ⟨nl, Al, capl, rfl, hnl⟩ := own_form hol (by decide)
  rw [flat_len encI_len] at hnl
  have hnl2 : nl = acc.length := by omega
  subst hnl2
  have hal : 10 * acc.length ≤ ((acc.map MI.pi).map wt).sum := by
    have := sum_ge hw10 (acc.map MI.pi)
    rw [List.length_map] at this
    exact this
  refine j_q (qs_nil rfl) ?_
  refine j_q (qs_field Tryz.underlying87 rfl sz9 (by decide) rfl) ?_
  refine j_q (qs_load (l := [.string (bs r)]) 1 Tryz.underlying9 rfl rfl rfl rfl) ?_
  refine j_q (qs_call ent129 rfl rfl rfl (fun w' hw' => hasPre_con [93] r w' (by simp) (by omega))) ?_
  refine j_q (qs_not rfl) ?_
  refine j_cond rfl (fun hc0 => ?_) (fun hc0 => ?_)
  · skip
    have hno : ¬ ∃ r', r = [93] ++ r' := fun hx => by rw [pre_iff.2 hx] at hc0; cases hc0
    refine j_q (qs_lenl Tryz.underlying24 rfl) ?_
    refine j_q (qs_gtr rfl rfl) ?_
    refine j_cond rfl (fun hc1 => ?_) (fun hc1 => ?_)
    · skip
      have hne : acc.length ≠ 0 := by simp only [bnA] at *; omega
      refine j_callB 1 ent81 rfl rfl rfl rfl (fun w' hw' => sign_con gr [44] r w' (by simp) (by omega)) (fun hb => mnk_comma hk hno (by rw [List.length_map]; exact hne) hb) (fun u S2 hu => ?_)
      obtain ⟨rfl, r1, hr1, rfl⟩ := hu
      refine j_subl (S' := [[RC gr r1], cl, F]) (by repeat first | exact slR _ | exact slN _ | apply slC | apply slD) ?_
      refine j_perm (S' := [cl, [RC gr r1], F]) (by classical exact List.perm_iff_count.2 fun a => by simp only [List.set_cons_succ, List.set_cons_zero, List.flatten_cons, List.flatten_nil, List.append_nil, List.nil_append, List.cons_append, List.count_append, List.count_cons, List.count_nil] <;> omega) ?_
      have hr1l : r.length = r1.length + 1 := by rw [hr1]; simp
      refine j_callfB 1 hen rfl rfl (by simp) rfl (fun w' hw' => hf r1 w' _ (by omega) hw') (fun hb => mnk_of hk hno (by rw [if_neg (by rw [List.length_map]; exact hne)]; exact hr1) hb) (fun u S2 hu => ?_)
      obtain ⟨a, r2, F2, rfl, rfl, hwt, ha, hF2, hbo⟩ := hu
      have hk2 := mnk_next hk hno (by rw [if_neg (by rw [List.length_map]; exact hne)]; exact hr1) ha
      have hnx : r2.length < r.length := by have := hw10 a.pi; omega
      have hone : ∀ u ∈ encI a, oneV u = true := by
        obtain ⟨na, Aa, capa, ea, _⟩ := own_form hF2 (by decide)
        intro u hu
        simp only [encI, List.mem_cons, List.not_mem_nil, or_false] at hu
        rcases hu with rfl | rfl
        · rfl
        · rw [ea]; rfl
      refine j_litw (vs := encI a) Tryz.underlying24 sz68 zero68 rfl rfl ⟨encI_len _, by decide, by decide⟩ (fun g12 hg12 ho12 => ?_)
      refine j_append 3 Tryz.underlying24 Tryz.underlying24 (.inr ⟨_, rfl⟩) sb68 zero68 rfl hol rfl (.inl ⟨_, _, rfl, rd_own (off := 0) (n := 2) 0 rfl rfl, (by rw [List.drop_zero, List.take_of_length_le (by rw [encI_len]; exact Nat.le_refl _), encI_len])⟩) (by intro u hu; exact hone u (by rw [List.drop_zero] at hu; exact List.mem_of_mem_take hu)) ⟨(by simp only [strs_length, List.drop_zero, List.length_take, flat_len encI_len, encI_len, List.length_cons, List.length_nil]; omega), (by decide)⟩ (fun v13 c13 ho13 => ?_)
      have ho13 : Sx.Own 68 2 (((acc ++ [a]).map encI).flatten) v13 c13 := by
        have e : ((acc ++ [a]).map encI).flatten = (acc.map encI).flatten ++ encI a := by simp
        rw [e]
        have e2 : ((encI a).drop 0).take 2 = encI a := by rw [List.drop_zero, List.take_of_length_le (by rw [encI_len]; exact Nat.le_refl _)]
        rw [e2] at ho13
        exact ho13
      refine j_subl (S' := [[RC gr r2], F2, c13, F]) (by repeat first | exact slR _ | exact slN _ | apply slC | apply slD) ?_
      refine j_perm (S' := [c13, [RC gr r2], F2 ++ F]) (by classical exact List.perm_iff_count.2 fun a => by simp only [List.set_cons_succ, List.set_cons_zero, List.flatten_cons, List.flatten_nil, List.append_nil, List.nil_append, List.cons_append, List.count_append, List.count_cons, List.count_nil] <;> omega) ?_
      refine j_back rfl ?_
      exact ⟨r2.length, hnx, v13, c13, r2, acc ++ [a], F2 ++ F, rfl, rfl, ho13, (by rw [List.map_append]; exact hk2), by rw [List.map_append, List.map_append, List.sum_append]; simp only [List.map_cons, List.map_nil, List.sum_cons, List.sum_nil]; omega, pmine_snoc hmine hF2, (by intro m hm; rcases List.mem_append.1 hm with hm | hm; exact hbs m hm; rw [List.mem_singleton] at hm; rw [hm]; exact hbo), rfl⟩
    · skip
      have hne : acc.length = 0 := by simp only [bnA] at *; omega
      refine j_callfB 1 hen rfl rfl (by simp) rfl (fun w' hw' => hf r w' _ (by omega) hw') (fun hb => mnk_of hk hno (by rw [if_pos (by rw [List.length_map]; exact hne)]; rfl) hb) (fun u S2 hu => ?_)
      obtain ⟨a, r2, F2, rfl, rfl, hwt, ha, hF2, hbo⟩ := hu
      have hk2 := mnk_next hk hno (by rw [if_pos (by rw [List.length_map]; exact hne)]; rfl) ha
      have hnx : r2.length < r.length := by have := hw10 a.pi; omega
      have hone : ∀ u ∈ encI a, oneV u = true := by
        obtain ⟨na, Aa, capa, ea, _⟩ := own_form hF2 (by decide)
        intro u hu
        simp only [encI, List.mem_cons, List.not_mem_nil, or_false] at hu
        rcases hu with rfl | rfl
        · rfl
        · rw [ea]; rfl
      refine j_litw (vs := encI a) Tryz.underlying24 sz68 zero68 rfl rfl ⟨encI_len _, by decide, by decide⟩ (fun g15 hg15 ho15 => ?_)
      refine j_append 3 Tryz.underlying24 Tryz.underlying24 (.inr ⟨_, rfl⟩) sb68 zero68 rfl hol rfl (.inl ⟨_, _, rfl, rd_own (off := 0) (n := 2) 0 rfl rfl, (by rw [List.drop_zero, List.take_of_length_le (by rw [encI_len]; exact Nat.le_refl _), encI_len])⟩) (by intro u hu; exact hone u (by rw [List.drop_zero] at hu; exact List.mem_of_mem_take hu)) ⟨(by simp only [strs_length, List.drop_zero, List.length_take, flat_len encI_len, encI_len, List.length_cons, List.length_nil]; omega), (by decide)⟩ (fun v16 c16 ho16 => ?_)
      have ho16 : Sx.Own 68 2 (((acc ++ [a]).map encI).flatten) v16 c16 := by
        have e : ((acc ++ [a]).map encI).flatten = (acc.map encI).flatten ++ encI a := by simp
        rw [e]
        have e2 : ((encI a).drop 0).take 2 = encI a := by rw [List.drop_zero, List.take_of_length_le (by rw [encI_len]; exact Nat.le_refl _)]
        rw [e2] at ho16
        exact ho16
      refine j_subl (S' := [[RC gr r2], F2, c16, F]) (by repeat first | exact slR _ | exact slN _ | apply slC | apply slD) ?_
      refine j_perm (S' := [c16, [RC gr r2], F2 ++ F]) (by classical exact List.perm_iff_count.2 fun a => by simp only [List.set_cons_succ, List.set_cons_zero, List.flatten_cons, List.flatten_nil, List.append_nil, List.nil_append, List.cons_append, List.count_append, List.count_cons, List.count_nil] <;> omega) ?_
      refine j_back rfl ?_
      exact ⟨r2.length, hnx, v16, c16, r2, acc ++ [a], F2 ++ F, rfl, rfl, ho16, (by rw [List.map_append]; exact hk2), by rw [List.map_append, List.map_append, List.sum_append]; simp only [List.map_cons, List.map_nil, List.sum_cons, List.sum_nil]; omega, pmine_snoc hmine hF2, (by intro m hm; rcases List.mem_append.1 hm with hm | hm; exact hbs m hm; rw [List.mem_singleton] at hm; rw [hm]; exact hbo), rfl⟩
  · skip
    have hyes : ∃ r', r = [93] ++ r' := pre_iff.1 (by simpa using hc0)
    refine j_callB 1 ent81 rfl rfl rfl rfl (fun w' hw' => sign_con gr [93] r w' (by simp) (by omega)) (fun hb => absurd hyes hb) (fun u S2 hu => ?_)
    obtain ⟨rfl, r1, hr1, rfl⟩ := hu
    refine j_subl (S' := [[RC gr r1], cl, F]) (by repeat first | exact slR _ | exact slN _ | apply slC | apply slD) ?_
    refine j_perm (S' := [cl, [RC gr r1], F]) (by classical exact List.perm_iff_count.2 fun a => by simp only [List.set_cons_succ, List.set_cons_zero, List.flatten_cons, List.flatten_nil, List.append_nil, List.nil_append, List.cons_append, List.count_append, List.count_cons, List.count_nil] <;> omega) ?_
    have hr1l : r.length = r1.length + 1 := by rw [hr1]; simp
    refine j_ret_conb (vs := [_]) (fun w' hw' => ⟨rfl, trivial⟩) ?_
    exact ⟨acc, cl, r1, F, rfl, hol, by omega, mnk_end hg hk hr1, hmine, hbs⟩
end Go.Proofs.YtfeabbeebkkhaaaGreat
/-! Dv17 -/
namespace Go.Proofs.YtfeabbeebkkhaaaGreat
open Go Go.Sx
set_option maxRecDepth 100000
set_option maxHeartbeats 4000000
set_option linter.unusedVariables false
set_option linter.unusedSimpArgs false
attribute [local irreducible] J JQ QS Con W opW
theorem ent82 : Sx.Enters Tryz.prog 82 := ⟨_, Tryz.func82, by kernel_rfl, by kernel_rfl⟩
theorem ent89 : Sx.Enters Tryz.prog 89 := ⟨_, Tryz.func89, by kernel_rfl, by kernel_rfl⟩
theorem ent130 : Sx.Enters Tryz.prog 130 := ⟨_, Tryz.func130, by kernel_rfl, by kernel_rfl⟩
theorem conb_mono {P : Program} {pv : Value} {f : FuncId} {args : List Value} {w : World} {Fp : SH} {post post' : Value → List SH → Prop} {bad bad' : Prop} (h : ConB P pv f args w Fp post bad) (h1 : ∀ v S, post v S → post' v S) (h2 : bad → bad') : ConB P pv f args w Fp post' bad' := fun ho hd => (h ho hd).mono fun e w' hw => by
  rcases hw with ⟨v, S', he, hp, hs⟩ | ⟨he, hb, hs⟩
  · exact .inl ⟨v, S', he, h1 _ _ hp, hs⟩
  · exact .inr ⟨he, h2 hb, hs⟩
theorem tV_split (a : PV) (z : Bs) : tV a ++ z = [40] ++ (qt a.name ++ ([44] ++ (qt a.val ++ ([41] ++ z)))) := by
  unfold tV tup lst cms
  simp
theorem tI_split (a : PI) (z : Bs) : tI a ++ z = [40] ++ (qt a.drv ++ ([44] ++ (lst [91] (a.outs.map qt) [93] ++ ([41] ++ z)))) := by
  have e : tTs a.outs = lst [91] (a.outs.map qt) [93] := rfl
  rw [← e]
  unfold tI tup
  rw [show lst [40] [qt a.drv, tTs a.outs] [41] = [40] ++ qt a.drv ++ [44] ++ tTs a.outs ++ [41] by unfold lst cms; simp]
  simp only [List.append_assoc]
def tK (a : PO) : Bs := if a.fixed then sSha else []
def tH (a : PO) : Bs := if a.fixed then hex a.hash.1 else []
theorem tO_split (a : PO) (z : Bs) : tO a ++ z = [40] ++ (qt a.name ++ ([44] ++ (qt a.path ++ ([44] ++ (qt (tK a) ++ ([44] ++ (qt (tH a) ++ ([41] ++ z)))))))) := by
  have e : tO a = tup [qt a.name, qt a.path, qt (tK a), qt (tH a)] := rfl
  rw [e]
  unfold tup lst cms
  simp
def okOut (a : PO) : Prop := a.fixed = true ∨ a.hash = zHash
theorem pv_eq {n v : Bs} {a : PV} (h1 : n = a.name) (h2 : v = a.val) : (⟨n, v⟩ : PV) = a := by subst h1 h2; rfl
theorem pi_eq {n : Bs} {v : List Bs} {a : PI} (h1 : n = a.drv) (h2 : v = a.outs) : (⟨n, v⟩ : PI) = a := by subst h1 h2; rfl
theorem po_eqT {n p k t : Bs} {h : Hsh} {e : Int} {a : PO} (hc : (k == sSha) = true) (hh : ∀ y : Bs, y.length = 32 → t = hex y → h.1 = y ∧ e = 0) (h1 : n = a.name) (h2 : p = a.path) (h3 : k = tK a) (h4 : t = tH a) : (⟨n, p, true, h⟩ : PO) = a := by
  obtain ⟨an, ap, af, ah⟩ := a
  have hk : k = sSha := by simpa using hc
  have hf : af = true := by
    cases af with
    | true => rfl
    | false =>
      rw [hk] at h3
      exact absurd h3 (by unfold tK; simp)
  subst hf
  subst h1 h2
  have h5 := (hh ah.1 ah.2 (by rw [h4]; rfl)).1
  rw [show h = ah from Subtype.ext h5]
theorem po_eqF {n p k : Bs} {a : PO} (hc : (k == sSha) = false) (hok : okOut a) (h1 : n = a.name) (h2 : p = a.path) (h3 : k = tK a) : (⟨n, p, false, zHash⟩ : PO) = a := by
  obtain ⟨an, ap, af, ah⟩ := a
  cases af with
  | true =>
    rw [h3] at hc
    exact absurd hc (by unfold tK; simp)
  | false =>
    rcases hok with h | h
    · cases h
    · have : ah = zHash := h
      rw [this]
      subst h1 h2
      rfl
theorem qt_head (a : Bs) : ∃ c t, qt a = c :: t ∧ c ≠ 93 := ⟨34, _, rfl, by decide⟩
theorem tV_head (a : PV) : ∃ c t, tV a = c :: t ∧ c ≠ 93 := ⟨40, _, rfl, by decide⟩
theorem tI_head (a : PI) : ∃ c t, tI a = c :: t ∧ c ≠ 93 := ⟨40, _, rfl, by decide⟩
theorem tO_head (a : PO) : ∃ c t, tO a = c :: t ∧ c ≠ 93 := ⟨40, _, rfl, by decide⟩
theorem zero53e : zeroL Tryz.prog 53 = some (encO ⟨[], [], false, zHash⟩) := by kernel_rfl
theorem storeH {n p : Bs} {h : Bs} {f : Bool} {z : Hsh} (hl : h.length = 32) : List.take 3 (encO ⟨n, p, f, z⟩) ++ ints h ++ List.drop (3 + 32) (encO ⟨n, p, f, z⟩) = encO ⟨n, p, f, ⟨h, hl⟩⟩ := by
  rw [List.drop_of_length_le (by rw [encO_len]; omega), List.append_nil]
  rfl
abbrev wS (s : Bs) : Nat := s.length + 10
abbrev wV (a : PV) : Nat := a.name.length + a.val.length + 10
abbrev wO (a : PO) : Nat := a.name.length + a.path.length + 10
abbrev wI (a : PI) : Nat := a.drv.length + 10 * a.outs.length + 10
theorem sumS (l : List Bs) : (l.map wS).sum = sl l + 10 * l.length := by
  unfold sl
  induction l with
  | nil => rfl
  | cons a l ih =>
    have : wS a = a.length + 10 := rfl
    simp only [List.map_cons, List.sum_cons, List.length_cons] at ih ⊢
    omega
theorem sumS_mem {l : List Bs} {n : Nat} (h : (l.map wS).sum ≤ 10 * n) (hn : n ≤ 300000) : ∀ o ∈ l, o.length ≤ 3000000 := fun o ho => by
  induction l with
  | nil => cases ho
  | cons a l ih =>
    simp only [List.map_cons, List.sum_cons] at h
    rcases List.mem_cons.1 ho with rfl | ho
    · have : wS o ≤ 10 * n := by omega
      unfold wS at this
      omega
    · exact ih (by omega) ho
theorem textS_con (gr : Nat) (r : Bs) (w : World) (hr : r.length ≤ 1099511627776) : ConB Tryz.prog BADV 82 [rp gr] w [RC gr r] (fun v S' => ∃ (a : Bs) (r' : Bs), v = .string (bs a) ∧ S' = [[RC gr r']] ∧ wS a + 10 * r'.length ≤ 10 * r.length ∧ (∀ a2 z, True → r = qt a2 ++ z → a = a2 ∧ r' = z)) (∀ a2 z, True → r ≠ qt a2 ++ z) :=
  conb_mono (ptext_con gr r w hr) (fun v S ⟨t, r', h1, h2, h3, h4⟩ => ⟨t, r', h1, h2, by unfold wS; omega, fun a2 z _ hx => h4 a2 z hx⟩) (fun hb a2 z _ hx => hb a2 z hx)
attribute [local irreducible] es qt cms hex Tbl Half lst TxK MnK tl tV tI tO tK tH
theorem pvar_con (gr : Nat) (r : Bs) (w : World) (hr : r.length ≤ 300000) : ConB Tryz.prog BADV 91 [rp gr] w [RC gr r] (fun v S' => ∃ (a : PV) (r' : Bs), v = .agg (encV a).toArray ∧ S' = [[RC gr r']] ∧ wV a + 10 * r'.length ≤ 10 * r.length ∧ (∀ a2 z, (fun _ => True) a2 → r = tV a2 ++ z → a = a2 ∧ r' = z)) (∀ a2 z, (fun _ => True) a2 → r ≠ tV a2 ++ z) := by
  refine conb_of_tree mix Tryz.func91 T91_ok (by kernel_rfl) ?_
  unfold T91
  refine j_alloc zero48 (fun g0 hg0 hs0 => ?_)
  have K0 := fun (a2 : PV) (z : Bs) (hok : True) (hx : r = tV a2 ++ z) => hx.trans (tV_split a2 z)
  refine j_callB 1 ent81 rfl rfl rfl rfl (fun w' hw' => sign_con gr [40] r w' (by simp) (by omega)) (fun hb a2 z hok hx => hb ⟨_, K0 a2 z hok hx⟩) (fun u S2 hu => ?_)
  obtain ⟨rfl, r1, hr1, rfl⟩ := hu
  have K1 := fun (a2 : PV) (z : Bs) (hok : True) (hx : r = tV a2 ++ z) => List.append_cancel_left (hr1.symm.trans (K0 a2 z hok hx))
  have lr1 : r.length = r1.length + 1 := by rw [hr1]; simp; try omega
  refine j_subl (S' := [[RC gr r1], [(g0, .cells [.string (bs []), .string (bs [])].toArray 48 (0, 0))]]) (by repeat first | exact slR _ | exact slN _ | apply slC | apply slD) ?_
  refine j_callB 0 ent82 rfl rfl rfl rfl (fun w' hw' => ptext_con gr r1 w' (by omega)) (fun hb a2 z hok hx => hb _ _ (K1 a2 z hok hx)) (fun u S2 hu => ?_)
  obtain ⟨t2, r2, rfl, rfl, lr2, hr2⟩ := hu
  have Et2 := fun (a2 : PV) (z : Bs) (hok : True) (hx : r = tV a2 ++ z) => (hr2 _ _ (K1 a2 z hok hx)).1
  have K2 := fun (a2 : PV) (z : Bs) (hok : True) (hx : r = tV a2 ++ z) => (hr2 _ _ (K1 a2 z hok hx)).2
  refine j_subl (S' := [[RC gr r2], [(g0, .cells [.string (bs []), .string (bs [])].toArray 48 (0, 0))]]) (by repeat first | exact slR _ | exact slN _ | apply slC | apply slD) ?_
  refine j_q (qs_field Tryz.underlying48 rfl sz9 (by decide) rfl) ?_
  refine j_store (l := [.string (bs []), .string (bs [])]) (v := .string (bs t2)) 1 sz9 rfl rfl rfl rfl (by simp) (by simp) ?_
  refine j_callB 0 ent81 rfl rfl rfl rfl (fun w' hw' => sign_con gr [44] r2 w' (by simp) (by omega)) (fun hb a2 z hok hx => hb ⟨_, K2 a2 z hok hx⟩) (fun u S2 hu => ?_)
  obtain ⟨rfl, r3, hr3, rfl⟩ := hu
  have K3 := fun (a2 : PV) (z : Bs) (hok : True) (hx : r = tV a2 ++ z) => List.append_cancel_left (hr3.symm.trans (K2 a2 z hok hx))
  have lr3 : r2.length = r3.length + 1 := by rw [hr3]; simp; try omega
  refine j_subl (S' := [[RC gr r3], [(g0, .cells [.string (bs t2), .string (bs [])].toArray 48 (0, 0))]]) (by repeat first | exact slR _ | exact slN _ | apply slC | apply slD) ?_
  refine j_callB 0 ent82 rfl rfl rfl rfl (fun w' hw' => ptext_con gr r3 w' (by omega)) (fun hb a2 z hok hx => hb _ _ (K3 a2 z hok hx)) (fun u S2 hu => ?_)
  obtain ⟨t6, r4, rfl, rfl, lr4, hr4⟩ := hu
  have Et6 := fun (a2 : PV) (z : Bs) (hok : True) (hx : r = tV a2 ++ z) => (hr4 _ _ (K3 a2 z hok hx)).1
  have K4 := fun (a2 : PV) (z : Bs) (hok : True) (hx : r = tV a2 ++ z) => (hr4 _ _ (K3 a2 z hok hx)).2
  refine j_subl (S' := [[RC gr r4], [(g0, .cells [.string (bs t2), .string (bs [])].toArray 48 (0, 0))]]) (by repeat first | exact slR _ | exact slN _ | apply slC | apply slD) ?_
  refine j_q (qs_field Tryz.underlying48 rfl sz9 (by decide) rfl) ?_
  refine j_store (l := [.string (bs t2), .string (bs [])]) (v := .string (bs t6)) 1 sz9 rfl rfl rfl rfl (by simp) (by simp) ?_
  refine j_callB 0 ent81 rfl rfl rfl rfl (fun w' hw' => sign_con gr [41] r4 w' (by simp) (by omega)) (fun hb a2 z hok hx => hb ⟨_, K4 a2 z hok hx⟩) (fun u S2 hu => ?_)
  obtain ⟨rfl, r5, hr5, rfl⟩ := hu
  have K5 := fun (a2 : PV) (z : Bs) (hok : True) (hx : r = tV a2 ++ z) => List.append_cancel_left (hr5.symm.trans (K4 a2 z hok hx))
  have lr5 : r4.length = r5.length + 1 := by rw [hr5]; simp; try omega
  refine j_subl (S' := [[RC gr r5], [(g0, .cells [.string (bs t2), .string (bs t6)].toArray 48 (0, 0))]]) (by repeat first | exact slR _ | exact slN _ | apply slC | apply slD) ?_
  refine j_q (qs_loadw (l := encV ⟨t2, t6⟩) 1 Tryz.underlying48 rfl sz48 rfl rfl rfl) ?_
  refine j_storew (l := encV ⟨t2, t6⟩) (vs := encV ⟨t2, t6⟩) 1 sz48 rfl rfl rfl (encV_one _) rfl rfl ?_
  -- no @RET
  refine j_ret_conbs [[RC gr r5]] (by repeat first | exact slR _ | exact slN _ | apply slC | apply slD) (vs := [_]) (fun w' hw' => ⟨rv_agg (l := encV ⟨t2, t6⟩) 1 Tryz.underlying48 rfl sz48 rfl rfl rfl hw', trivial⟩) ?_
  exact ⟨⟨t2, t6⟩, r5, rfl, rfl, by unfold wV; simp only []; omega, fun a2 z hok hx => ⟨pv_eq (Et2 a2 z hok hx) (Et6 a2 z hok hx), K5 a2 z hok hx⟩⟩
theorem pout_con (gr : Nat) (r : Bs) (w : World) (hr : r.length ≤ 300000) : ConB Tryz.prog BADV 84 [rp gr] w [RC gr r] (fun v S' => ∃ (a : PO) (r' : Bs), v = .agg (encO a).toArray ∧ S' = [[RC gr r']] ∧ wO a + 10 * r'.length ≤ 10 * r.length ∧ (∀ a2 z, okOut a2 → r = tO a2 ++ z → a = a2 ∧ r' = z)) (∀ a2 z, okOut a2 → r ≠ tO a2 ++ z) := by
  refine conb_of_tree mix Tryz.func84 T84_ok (by kernel_rfl) ?_
  unfold T84
  refine j_alloc zero53e (fun g0 hg0 hs0 => ?_)
  have K0 := fun (a2 : PO) (z : Bs) (hok : okOut a2) (hx : r = tO a2 ++ z) => hx.trans (tO_split a2 z)
  refine j_callB 1 ent81 rfl rfl rfl rfl (fun w' hw' => sign_con gr [40] r w' (by simp) (by omega)) (fun hb a2 z hok hx => hb ⟨_, K0 a2 z hok hx⟩) (fun u S2 hu => ?_)
  obtain ⟨rfl, r1, hr1, rfl⟩ := hu
  have K1 := fun (a2 : PO) (z : Bs) (hok : okOut a2) (hx : r = tO a2 ++ z) => List.append_cancel_left (hr1.symm.trans (K0 a2 z hok hx))
  have lr1 : r.length = r1.length + 1 := by rw [hr1]; simp; try omega
  refine j_subl (S' := [[RC gr r1], [(g0, .cells (encO ⟨[], [], false, zHash⟩).toArray 53 (0, 0))]]) (by repeat first | exact slR _ | exact slN _ | apply slC | apply slD) ?_
  refine j_callB 0 ent82 rfl rfl rfl rfl (fun w' hw' => ptext_con gr r1 w' (by omega)) (fun hb a2 z hok hx => hb _ _ (K1 a2 z hok hx)) (fun u S2 hu => ?_)
  obtain ⟨t2, r2, rfl, rfl, lr2, hr2⟩ := hu
  have Et2 := fun (a2 : PO) (z : Bs) (hok : okOut a2) (hx : r = tO a2 ++ z) => (hr2 _ _ (K1 a2 z hok hx)).1
  have K2 := fun (a2 : PO) (z : Bs) (hok : okOut a2) (hx : r = tO a2 ++ z) => (hr2 _ _ (K1 a2 z hok hx)).2
  refine j_subl (S' := [[RC gr r2], [(g0, .cells (encO ⟨[], [], false, zHash⟩).toArray 53 (0, 0))]]) (by repeat first | exact slR _ | exact slN _ | apply slC | apply slD) ?_
  refine j_q (qs_field Tryz.underlying53 rfl sz9 (by decide) rfl) ?_
  refine j_store (i := 0) (l := encO ⟨[], [], false, zHash⟩) (v := .string (bs t2)) 1 sz9 rfl rfl rfl rfl (by rw [encO_len]; omega) (by simp) ?_
  refine j_callB 0 ent81 rfl rfl rfl rfl (fun w' hw' => sign_con gr [44] r2 w' (by simp) (by omega)) (fun hb a2 z hok hx => hb ⟨_, K2 a2 z hok hx⟩) (fun u S2 hu => ?_)
  obtain ⟨rfl, r3, hr3, rfl⟩ := hu
  have K3 := fun (a2 : PO) (z : Bs) (hok : okOut a2) (hx : r = tO a2 ++ z) => List.append_cancel_left (hr3.symm.trans (K2 a2 z hok hx))
  have lr3 : r2.length = r3.length + 1 := by rw [hr3]; simp; try omega
  refine j_subl (S' := [[RC gr r3], [(g0, .cells (encO ⟨t2, [], false, zHash⟩).toArray 53 (0, 0))]]) (by repeat first | exact slR _ | exact slN _ | apply slC | apply slD) ?_
  refine j_callB 0 ent82 rfl rfl rfl rfl (fun w' hw' => ptext_con gr r3 w' (by omega)) (fun hb a2 z hok hx => hb _ _ (K3 a2 z hok hx)) (fun u S2 hu => ?_)
  obtain ⟨t6, r4, rfl, rfl, lr4, hr4⟩ := hu
  have Et6 := fun (a2 : PO) (z : Bs) (hok : okOut a2) (hx : r = tO a2 ++ z) => (hr4 _ _ (K3 a2 z hok hx)).1
  have K4 := fun (a2 : PO) (z : Bs) (hok : okOut a2) (hx : r = tO a2 ++ z) => (hr4 _ _ (K3 a2 z hok hx)).2
  refine j_subl (S' := [[RC gr r4], [(g0, .cells (encO ⟨t2, [], false, zHash⟩).toArray 53 (0, 0))]]) (by repeat first | exact slR _ | exact slN _ | apply slC | apply slD) ?_
  refine j_q (qs_field Tryz.underlying53 rfl sz49 (by decide) rfl) ?_
  refine j_store (i := 1) (l := encO ⟨t2, [], false, zHash⟩) (v := .string (bs t6)) 1 sz49 rfl rfl rfl rfl (by rw [encO_len]; omega) (by simp) ?_
  refine j_callB 0 ent81 rfl rfl rfl rfl (fun w' hw' => sign_con gr [44] r4 w' (by simp) (by omega)) (fun hb a2 z hok hx => hb ⟨_, K4 a2 z hok hx⟩) (fun u S2 hu => ?_)
  obtain ⟨rfl, r5, hr5, rfl⟩ := hu
  have K5 := fun (a2 : PO) (z : Bs) (hok : okOut a2) (hx : r = tO a2 ++ z) => List.append_cancel_left (hr5.symm.trans (K4 a2 z hok hx))
  have lr5 : r4.length = r5.length + 1 := by rw [hr5]; simp; try omega
  refine j_subl (S' := [[RC gr r5], [(g0, .cells (encO ⟨t2, t6, false, zHash⟩).toArray 53 (0, 0))]]) (by repeat first | exact slR _ | exact slN _ | apply slC | apply slD) ?_
  refine j_callB 0 ent82 rfl rfl rfl rfl (fun w' hw' => ptext_con gr r5 w' (by omega)) (fun hb a2 z hok hx => hb _ _ (K5 a2 z hok hx)) (fun u S2 hu => ?_)
  obtain ⟨t10, r6, rfl, rfl, lr6, hr6⟩ := hu
  have Et10 := fun (a2 : PO) (z : Bs) (hok : okOut a2) (hx : r = tO a2 ++ z) => (hr6 _ _ (K5 a2 z hok hx)).1
  have K6 := fun (a2 : PO) (z : Bs) (hok : okOut a2) (hx : r = tO a2 ++ z) => (hr6 _ _ (K5 a2 z hok hx)).2
  refine j_subl (S' := [[RC gr r6], [(g0, .cells (encO ⟨t2, t6, false, zHash⟩).toArray 53 (0, 0))]]) (by repeat first | exact slR _ | exact slN _ | apply slC | apply slD) ?_
  refine j_q (qs_seql rfl rfl) ?_
  refine j_q (qs_field Tryz.underlying53 rfl sz4 (by decide) rfl) ?_
  refine j_store (i := 2) (l := encO ⟨t2, t6, false, zHash⟩) (v := .bool (t10 == sSha)) 1 sz4 rfl rfl rfl rfl (by rw [encO_len]; omega) (by simp) ?_
  refine j_callB 0 ent81 rfl rfl rfl rfl (fun w' hw' => sign_con gr [44] r6 w' (by simp) (by omega)) (fun hb a2 z hok hx => hb ⟨_, K6 a2 z hok hx⟩) (fun u S2 hu => ?_)
  obtain ⟨rfl, r7, hr7, rfl⟩ := hu
  have K7 := fun (a2 : PO) (z : Bs) (hok : okOut a2) (hx : r = tO a2 ++ z) => List.append_cancel_left (hr7.symm.trans (K6 a2 z hok hx))
  have lr7 : r6.length = r7.length + 1 := by rw [hr7]; simp; try omega
  refine j_subl (S' := [[RC gr r7], [(g0, .cells (encO ⟨t2, t6, (t10 == sSha), zHash⟩).toArray 53 (0, 0))]]) (by repeat first | exact slR _ | exact slN _ | apply slC | apply slD) ?_
  refine j_callB 0 ent82 rfl rfl rfl rfl (fun w' hw' => ptext_con gr r7 w' (by omega)) (fun hb a2 z hok hx => hb _ _ (K7 a2 z hok hx)) (fun u S2 hu => ?_)
  obtain ⟨t15, r8, rfl, rfl, lr8, hr8⟩ := hu
  have Et15 := fun (a2 : PO) (z : Bs) (hok : okOut a2) (hx : r = tO a2 ++ z) => (hr8 _ _ (K7 a2 z hok hx)).1
  have K8 := fun (a2 : PO) (z : Bs) (hok : okOut a2) (hx : r = tO a2 ++ z) => (hr8 _ _ (K7 a2 z hok hx)).2
  refine j_subl (S' := [[RC gr r8], [(g0, .cells (encO ⟨t2, t6, (t10 == sSha), zHash⟩).toArray 53 (0, 0))]]) (by repeat first | exact slR _ | exact slN _ | apply slC | apply slD) ?_
  refine j_q (qs_field Tryz.underlying53 rfl sz4 (by decide) rfl) ?_
  refine j_q (qs_load (l := encO ⟨t2, t6, (t10 == sSha), zHash⟩) 1 Tryz.underlying4 rfl rfl rfl rfl) ?_
  refine j_cond rfl (fun hc0 => ?_) (fun hc0 => ?_)
  · skip
    have hc : (t10 == sSha) = true := hc0
    rw [hc]
    refine j_call0 ent130 rfl rfl rfl (fun w' hw' => fromHex_con t15 w' (by omega)) (fun u S2 hu => ?_)
    obtain ⟨hl, he, rfl, h32, hh⟩ := hu
    refine j_subl (S' := [[RC gr r8], [(g0, .cells (encO ⟨t2, t6, true, zHash⟩).toArray 53 (0, 0))]]) (List.sublist_append_right _ _) ?_
    refine j_q (qs_ext (vs := [.agg (ints hl).toArray, .int .i64 he]) rfl rfl) ?_
    refine j_q (qs_ext (vs := [.agg (ints hl).toArray, .int .i64 he]) rfl rfl) ?_
    refine j_q (qs_field Tryz.underlying53 rfl sz51 (by decide) rfl) ?_
    refine j_storea (l := encO ⟨t2, t6, true, zHash⟩) (vs := ints hl) (i := 3) 1 sz51 rfl rfl (by rw [ints_length]; exact h32) ints_one rfl (by rw [encO_len]; decide) (fun j _ _ h => by omega) ?_
    rw [storeH h32]
    refine j_subl (S' := [[RC gr r8], [(g0, .cells (encO ⟨t2, t6, true, ⟨hl, h32⟩⟩).toArray 53 (0, 0))]]) (by repeat first | exact slR _ | exact slN _ | apply slC | apply slD) ?_
    refine j_callB 0 ent81 rfl rfl rfl rfl (fun w' hw' => sign_con gr [41] r8 w' (by simp) (by omega)) (fun hb a2 z hok hx => hb ⟨_, K8 a2 z hok hx⟩) (fun u S2 hu => ?_)
    obtain ⟨rfl, r9, hr9, rfl⟩ := hu
    have K9 := fun (a2 : PO) (z : Bs) (hok : okOut a2) (hx : r = tO a2 ++ z) => List.append_cancel_left (hr9.symm.trans (K8 a2 z hok hx))
    have lr9 : r8.length = r9.length + 1 := by rw [hr9]; simp; try omega
    refine j_subl (S' := [[RC gr r9], [(g0, .cells (encO ⟨t2, t6, true, ⟨hl, h32⟩⟩).toArray 53 (0, 0))]]) (by repeat first | exact slR _ | exact slN _ | apply slC | apply slD) ?_
    refine j_q (qs_loadw (l := encO ⟨t2, t6, true, ⟨hl, h32⟩⟩) 1 Tryz.underlying53 rfl sz53 rfl rfl (encO_len _)) ?_
    refine j_storew (l := encO ⟨t2, t6, true, ⟨hl, h32⟩⟩) (vs := encO ⟨t2, t6, true, ⟨hl, h32⟩⟩) 1 sz53 rfl rfl (encO_len _) (encO_one _) rfl (encO_len _) ?_
    -- no @RET
    refine j_ret_conbs [[RC gr r9]] (by repeat first | exact slR _ | exact slN _ | apply slC | apply slD) (vs := [_]) (fun w' hw' => ⟨rv_agg (l := encO ⟨t2, t6, true, ⟨hl, h32⟩⟩) 1 Tryz.underlying53 rfl sz53 rfl rfl (encO_len _) hw', trivial⟩) ?_
    exact ⟨⟨t2, t6, true, ⟨hl, h32⟩⟩, r9, rfl, rfl, by unfold wO; simp only []; omega, fun a2 z hok hx => ⟨po_eqT hc hh (Et2 a2 z hok hx) (Et6 a2 z hok hx) (Et10 a2 z hok hx) (Et15 a2 z hok hx), K9 a2 z hok hx⟩⟩
  · skip
    have hc : (t10 == sSha) = false := hc0
    rw [hc]
    refine j_callB 0 ent81 rfl rfl rfl rfl (fun w' hw' => sign_con gr [41] r8 w' (by simp) (by omega)) (fun hb a2 z hok hx => hb ⟨_, K8 a2 z hok hx⟩) (fun u S2 hu => ?_)
    obtain ⟨rfl, r9, hr9, rfl⟩ := hu
    have K9 := fun (a2 : PO) (z : Bs) (hok : okOut a2) (hx : r = tO a2 ++ z) => List.append_cancel_left (hr9.symm.trans (K8 a2 z hok hx))
    have lr9 : r8.length = r9.length + 1 := by rw [hr9]; simp; try omega
    refine j_subl (S' := [[RC gr r9], [(g0, .cells (encO ⟨t2, t6, false, zHash⟩).toArray 53 (0, 0))]]) (by repeat first | exact slR _ | exact slN _ | apply slC | apply slD) ?_
    refine j_q (qs_loadw (l := encO ⟨t2, t6, false, zHash⟩) 1 Tryz.underlying53 rfl sz53 rfl rfl (encO_len _)) ?_
    refine j_storew (l := encO ⟨t2, t6, false, zHash⟩) (vs := encO ⟨t2, t6, false, zHash⟩) 1 sz53 rfl rfl (encO_len _) (encO_one _) rfl (encO_len _) ?_
    -- no @RET
    refine j_ret_conbs [[RC gr r9]] (by repeat first | exact slR _ | exact slN _ | apply slC | apply slD) (vs := [_]) (fun w' hw' => ⟨rv_agg (l := encO ⟨t2, t6, false, zHash⟩) 1 Tryz.underlying53 rfl sz53 rfl rfl (encO_len _) hw', trivial⟩) ?_
    exact ⟨⟨t2, t6, false, zHash⟩, r9, rfl, rfl, by unfold wO; simp only []; omega, fun a2 z hok hx => ⟨po_eqF hc hok (Et2 a2 z hok hx) (Et6 a2 z hok hx) (Et10 a2 z hok hx), K9 a2 z hok hx⟩⟩
theorem pin_con (gr : Nat) (r : Bs) (w : World) (hr : r.length ≤ 300000) : ConB Tryz.prog BADV 86 [rp gr] w [RC gr r] (fun v S' => ∃ (a : MI) (r' : Bs) (F : SH), v = .agg (encI a).toArray ∧ S' = [[RC gr r'], F] ∧ wI a.pi + 10 * r'.length ≤ 10 * r.length ∧ (∀ a2 z, True → r = tI a2 ++ z → a.pi = a2 ∧ r' = z) ∧ Sx.Own 9 1 (strs a.outs) a.v F ∧ (∀ o ∈ a.outs, o.length ≤ 3000000)) (∀ a2 z, True → r ≠ tI a2 ++ z) := by
  refine conb_of_tree mix Tryz.func86 T86_ok (by kernel_rfl) ?_
  unfold T86
  refine j_alloc zero68 (fun g0 hg0 hs0 => ?_)
  have K0 := fun (a2 : PI) (z : Bs) (hok : True) (hx : r = tI a2 ++ z) => hx.trans (tI_split a2 z)
  refine j_callB 1 ent81 rfl rfl rfl rfl (fun w' hw' => sign_con gr [40] r w' (by simp) (by omega)) (fun hb a2 z hok hx => hb ⟨_, K0 a2 z hok hx⟩) (fun u S2 hu => ?_)
  obtain ⟨rfl, r1, hr1, rfl⟩ := hu
  have K1 := fun (a2 : PI) (z : Bs) (hok : True) (hx : r = tI a2 ++ z) => List.append_cancel_left (hr1.symm.trans (K0 a2 z hok hx))
  have lr1 : r.length = r1.length + 1 := by rw [hr1]; simp; try omega
  refine j_subl (S' := [[RC gr r1], [(g0, .cells [.string (bs []), .slice none 0 0].toArray 68 (0, 0))]]) (by repeat first | exact slR _ | exact slN _ | apply slC | apply slD) ?_
  refine j_callB 0 ent82 rfl rfl rfl rfl (fun w' hw' => ptext_con gr r1 w' (by omega)) (fun hb a2 z hok hx => hb _ _ (K1 a2 z hok hx)) (fun u S2 hu => ?_)
  obtain ⟨t2, r2, rfl, rfl, lr2, hr2⟩ := hu
  have Et2 := fun (a2 : PI) (z : Bs) (hok : True) (hx : r = tI a2 ++ z) => (hr2 _ _ (K1 a2 z hok hx)).1
  have K2 := fun (a2 : PI) (z : Bs) (hok : True) (hx : r = tI a2 ++ z) => (hr2 _ _ (K1 a2 z hok hx)).2
  refine j_subl (S' := [[RC gr r2], [(g0, .cells [.string (bs []), .slice none 0 0].toArray 68 (0, 0))]]) (by repeat first | exact slR _ | exact slN _ | apply slC | apply slD) ?_
  refine j_q (qs_field Tryz.underlying68 rfl sz49 (by decide) rfl) ?_
  refine j_store (l := [.string (bs []), .slice none 0 0]) (v := .string (bs t2)) 1 sz49 rfl rfl rfl rfl (by simp) (by simp) ?_
  refine j_callB 0 ent81 rfl rfl rfl rfl (fun w' hw' => sign_con gr [44] r2 w' (by simp) (by omega)) (fun hb a2 z hok hx => hb ⟨_, K2 a2 z hok hx⟩) (fun u S2 hu => ?_)
  obtain ⟨rfl, r3, hr3, rfl⟩ := hu
  have K3 := fun (a2 : PI) (z : Bs) (hok : True) (hx : r = tI a2 ++ z) => List.append_cancel_left (hr3.symm.trans (K2 a2 z hok hx))
  have lr3 : r2.length = r3.length + 1 := by rw [hr3]; simp; try omega
  refine j_subl (S' := [[RC gr r3], [(g0, .cells [.string (bs t2), .slice none 0 0].toArray 68 (0, 0))]]) (by repeat first | exact slR _ | exact slN _ | apply slC | apply slD) ?_
  refine j_q (qs_mkfuncF rfl) ?_
  refine j_callB 0 ent89 rfl rfl rfl rfl (fun w' hw' => manyS_con gr r3 qt (fun _ => True) wS 82 #[rp gr] #[] w' (by omega) ent82 qt_head (fun _ => Nat.le_add_left ..) (fun r' w2 S3 hl _ => textS_con gr r' w2 (by omega))) (fun hb a2 z hok hx => hb _ _ (fun _ _ => trivial) (K3 a2 z hok hx)) (fun u S2 hu => ?_)
  obtain ⟨l7, c7, r4, rfl, hO7, hs7, h7⟩ := hu
  have E7 := fun (a2 : PI) (z : Bs) (hok : True) (hx : r = tI a2 ++ z) => (h7 _ _ (fun _ _ => trivial) (K3 a2 z hok hx)).1
  have K4 := fun (a2 : PI) (z : Bs) (hok : True) (hx : r = tI a2 ++ z) => (h7 _ _ (fun _ _ => trivial) (K3 a2 z hok hx)).2
  obtain ⟨n7, A7, cap7, rfl, hn7⟩ := own_form hO7 (by decide)
  have hm7 := sumS_mem (l := l7) (n := r3.length) (by omega) (by omega)
  rw [sumS] at hs7
  refine j_subl (S' := [c7, [RC gr r4], [(g0, .cells [.string (bs t2), .slice none 0 0].toArray 68 (0, 0))]]) (by repeat first | exact slR _ | exact slN _ | apply slC | apply slD) ?_
  refine j_q (qs_field Tryz.underlying68 rfl sz22 (by decide) rfl) ?_
  refine j_store (l := [.string (bs t2), .slice none 0 0]) (v := .slice A7 n7 cap7) 2 sz22 rfl rfl rfl rfl (by simp) (by simp) ?_
  refine j_callB 1 ent81 rfl rfl rfl rfl (fun w' hw' => sign_con gr [41] r4 w' (by simp) (by omega)) (fun hb a2 z hok hx => hb ⟨_, K4 a2 z hok hx⟩) (fun u S2 hu => ?_)
  obtain ⟨rfl, r5, hr5, rfl⟩ := hu
  have K5 := fun (a2 : PI) (z : Bs) (hok : True) (hx : r = tI a2 ++ z) => List.append_cancel_left (hr5.symm.trans (K4 a2 z hok hx))
  have lr5 : r4.length = r5.length + 1 := by rw [hr5]; simp; try omega
  refine j_subl (S' := [[RC gr r5], c7, [(g0, .cells [.string (bs t2), .slice A7 n7 cap7].toArray 68 (0, 0))]]) (by repeat first | exact slR _ | exact slN _ | apply slC | apply slD) ?_
  refine j_q (qs_loadw (l := encI (⟨t2, l7, .slice A7 n7 cap7⟩ : MI)) 2 Tryz.underlying68 rfl sz68 rfl rfl rfl) ?_
  refine j_storew (l := encI (⟨t2, l7, .slice A7 n7 cap7⟩ : MI)) (vs := encI (⟨t2, l7, .slice A7 n7 cap7⟩ : MI)) 2 sz68 rfl rfl rfl (fun u hu => by simp only [encI, List.mem_cons, List.not_mem_nil, or_false] at hu; rcases hu with rfl | rfl <;> rfl) rfl rfl ?_
  -- no @RET
  refine j_ret_conbs [[RC gr r5], c7] (by repeat first | exact slR _ | exact slN _ | apply slC | apply slD) (vs := [_]) (fun w' hw' => ⟨rv_agg (l := encI (⟨t2, l7, .slice A7 n7 cap7⟩ : MI)) 2 Tryz.underlying68 rfl sz68 rfl rfl rfl hw', trivial⟩) ?_
  exact ⟨(⟨t2, l7, .slice A7 n7 cap7⟩ : MI), r5, c7, rfl, rfl, by unfold wI MI.pi; simp only []; omega, fun a2 z hok hx => ⟨pi_eq (Et2 a2 z hok hx) (E7 a2 z hok hx), K5 a2 z hok hx⟩, hO7, hm7⟩
end Go.Proofs.YtfeabbeebkkhaaaGreat
/-! Dv18 -/
namespace Go.Proofs.YtfeabbeebkkhaaaGreat
open Go Go.Sx
set_option maxRecDepth 100000
set_option maxHeartbeats 4000000
set_option linter.unusedVariables false
set_option linter.unusedSimpArgs false
attribute [local irreducible] J JQ QS Con W opW
theorem ent83 : Sx.Enters Tryz.prog 83 := ⟨_, Tryz.func83, by kernel_rfl, by kernel_rfl⟩
theorem ent84 : Sx.Enters Tryz.prog 84 := ⟨_, Tryz.func84, by kernel_rfl, by kernel_rfl⟩
theorem ent85 : Sx.Enters Tryz.prog 85 := ⟨_, Tryz.func85, by kernel_rfl, by kernel_rfl⟩
theorem ent86 : Sx.Enters Tryz.prog 86 := ⟨_, Tryz.func86, by kernel_rfl, by kernel_rfl⟩
theorem ent87 : Sx.Enters Tryz.prog 87 := ⟨_, Tryz.func87, by kernel_rfl, by kernel_rfl⟩
theorem ent88 : Sx.Enters Tryz.prog 88 := ⟨_, Tryz.func88, by kernel_rfl, by kernel_rfl⟩
theorem ent90 : Sx.Enters Tryz.prog 90 := ⟨_, Tryz.func90, by kernel_rfl, by kernel_rfl⟩
theorem ent91 : Sx.Enters Tryz.prog 91 := ⟨_, Tryz.func91, by kernel_rfl, by kernel_rfl⟩
theorem tup8 (a b c d e f g h z : Bs) : tup [a, b, c, d, e, f, g, h] ++ z = [40] ++ (a ++ ([44] ++ (b ++ ([44] ++ (c ++ ([44] ++ (d ++ ([44] ++ (e ++ ([44] ++ (f ++ ([44] ++ (g ++ ([44] ++ (h ++ ([41] ++ z)))))))))))))))) := by
  unfold tup lst cms
  simp
theorem dtext_split (a : PD) (z : Bs) : dtext a ++ z = [68, 101, 114, 105, 118, 101, 40] ++ (qt a.name ++ ([44] ++ (lst [91] (a.outs.map tO) [93] ++ ([44] ++ (lst [91] (a.ins.map tI) [93] ++ ([44] ++ (lst [91] (a.srcs.map qt) [93] ++ ([44] ++ (qt a.sys ++ ([44] ++ (qt a.bld ++ ([44] ++ (lst [91] (a.args.map qt) [93] ++ ([44] ++ (lst [91] (a.env.map tV) [93] ++ ([41] ++ z)))))))))))))))) := by
  unfold dtext
  rw [List.append_assoc, tup8]
  rfl
def okD (a : PD) : Prop := ∀ o ∈ a.outs, okOut o
theorem pd_eq {n s b : Bs} {av : List Bs} {es : List PV} {is : List PI} {ss : List Bs} {os : List PO} {a : PD} (h1 : n = a.name) (h2 : s = a.sys) (h3 : b = a.bld) (h4 : av = a.args) (h5 : es = a.env) (h6 : is = a.ins) (h7 : ss = a.srcs) (h8 : os = a.outs) : (⟨n, s, b, av, es, is, ss, os⟩ : PD) = a := by
  subst h1 h2 h3 h4 h5 h6 h7 h8
  rfl
theorem sumW {α : Type} (f : α → Nat) (l : List α) : (l.map fun a => f a + 10).sum = (l.map f).sum + 10 * l.length := by
  induction l with
  | nil => rfl
  | cons a l ih =>
    simp only [List.map_cons, List.sum_cons, List.length_cons] at ih ⊢
    omega
theorem big2_w (d : PD) : big2 d = d.name.length + d.sys.length + d.bld.length + (d.outs.map wO).sum + (d.ins.map wI).sum + (d.srcs.map wS).sum + (d.args.map wS).sum + (d.env.map wV).sum := by
  have h1 : (d.outs.map wO).sum = _ := sumW (fun o : PO => o.name.length + o.path.length) d.outs
  have h2 : (d.ins.map wI).sum = _ := sumW (fun x : PI => x.drv.length + 10 * x.outs.length) d.ins
  have h3 : (d.env.map wV).sum = _ := sumW (fun v : PV => v.name.length + v.val.length) d.env
  have h4 := sumS d.srcs
  have h5 := sumS d.args
  unfold big2 big1
  omega
structure DOwn (d : PD) (x : DV) (cO cI FI cS cA cV : SH) : Prop where
  o : Sx.Own 53 35 ((d.outs.map encO).flatten) x.vo cO
  i : Sx.Own 68 2 ((x.mi.map encI).flatten) x.vi cI
  io : PMine x.mi FI
  im : d.ins = x.mi.map MI.pi
  ob : ∀ m ∈ x.mi, ∀ o ∈ m.outs, o.length ≤ 3000000
  s : Sx.Own 49 1 (strs d.srcs) x.vs cS
  a : Sx.Own 9 1 (strs d.args) x.va cA
  e : Sx.Own 48 2 ((d.env.map encV).flatten) x.ve cV
theorem DOwn.outs {d : PD} {x : DV} {cO cI FI cS cA cV : SH} (h : DOwn d x cO cI FI cS cA cV) : ∀ y ∈ d.ins, ∀ o ∈ y.outs, o.length ≤ 3000000 := fun y hy o ho => by
  rw [h.im] at hy
  obtain ⟨m, hm, rfl⟩ := List.mem_map.1 hy
  exact h.ob m hm o ho
theorem flat_len' {α : Type} {n : Nat} (g : α → List Value) (h : ∀ a, (g a).length = n) (l : List α) : (l.map g).flatten.length = l.length * n := flat_len h l
theorem DOwn.dr {d : PD} {x : DV} {cO cI FI cS cA cV : SH} {w : World} (h : DOwn d x cO cI FI cS cA cV) (hw : ∀ p ∈ cO ++ cI ++ FI ++ cS ++ cA ++ cV, w.heap[p.1]? = some p.2) : DR w d x where
  o := rsln_ownw (len := d.outs.length) h.o (by decide) (flat_len' _ encO_len _) (fun p hp => hw p (by simp [hp]))
  i := rsln_ownw (len := x.mi.length) h.i (by decide) (flat_len' _ encI_len _) (fun p hp => hw p (by simp [hp]))
  e := rsln_ownw (len := d.env.length) h.e (by decide) (flat_len' _ encV_len _) (fun p hp => hw p (by simp [hp]))
  s := strz_ownw h.s (fun p hp => hw p (by simp [hp]))
  a := strz_ownw h.a (fun p hp => hw p (by simp [hp]))
  im := h.im
  io := fun m hm => by
    obtain ⟨c, h1, h2⟩ := h.io m hm
    exact strz_ownw h1 (fun p hp => hw p (by simp [h2 p hp]))
attribute [local irreducible] es qt cms hex Tbl Half lst TxK MnK tl tV tI tO tK tH tup dtext
theorem pdrv1_con (gr gb : Nat) (r : Bs) (w : World) (hr : r.length ≤ 1099511627776) (hb : w.heap[gb]? = some (.cells [rp gr].toArray 85 (0, 0))) (hne : gb ∉ dom [RC gr r]) : ConB Tryz.prog BADV 88 [.pointer (some ⟨gb, 0, none⟩)] w [RC gr r] (fun v S' => ∃ (a : Bs) (r' : Bs), v = .string (bs a) ∧ S' = [[RC gr r']] ∧ wS a + 10 * r'.length ≤ 10 * r.length ∧ (∀ a2 z, True → r = qt a2 ++ z → a = a2 ∧ r' = z)) (∀ a2 z, True → r ≠ qt a2 ++ z) := by
  refine conb_of_tree mix Tryz.func88 T88_ok (by kernel_rfl) ?_
  unfold T88
  refine j_q (qs_ac) ?_
  refine j_q (qs_loadO (l := [rp gr]) (rdo_base hb hne) Tryz.underlying85 rfl rfl rfl) ?_
  refine j_callB 0 ent82 rfl rfl rfl rfl (fun w' hw' => textS_con gr r w' hr) id (fun u S2 hu => ?_)
  obtain ⟨a, r', rfl, rfl, hwt, hrel⟩ := hu
  refine j_subl (S' := [[RC gr r']]) (by repeat first | exact slR _ | exact slN _ | apply slC | apply slD) ?_
  refine j_ret_conb (vs := [_]) (fun w' hw' => ⟨rfl, trivial⟩) ?_
  exact ⟨a, r', rfl, rfl, hwt, hrel⟩
theorem pdrv_con (gr : Nat) (r : Bs) (w : World) (hr : r.length ≤ 300000) : ConB Tryz.prog BADV 44 [rp gr] w [RC gr r] (fun v S' => ∃ (d : PD) (x : DV) (r' : Bs) (cO cI FI cS cA cV : SH), v = dval d x ∧ S' = [[RC gr r'], cV, cA, cS, cI, FI, cO] ∧ DOwn d x cO cI FI cS cA cV ∧ big2 d + 10 * r'.length ≤ 10 * r.length ∧ (∀ a2 z, okD a2 → r = dtext a2 ++ z → d = a2 ∧ r' = z)) (∀ a2 z, okD a2 → r ≠ dtext a2 ++ z) := by
  refine conb_of_tree mix Tryz.func44 T44_ok (by kernel_rfl) ?_
  unfold T44
  refine j_box rfl (fun g0 hg0 hs0 => ?_)
  refine j_alloc zero28 (fun g1 hg1 hs1 => ?_)
  refine j_q (qs_load (l := [rp gr]) 1 Tryz.underlying85 rfl rfl rfl rfl) ?_
  have hne : g0 ≠ gr := by
    intro e
    apply hs0
    rw [e]
    simp [dom]
  have K0 := fun (a2 : PD) (z : Bs) (hok : okD a2) (hx : r = dtext a2 ++ z) => hx.trans (dtext_split a2 z)
  refine j_callB 2 ent81 rfl rfl rfl rfl (fun w' hw' => sign_con gr [68, 101, 114, 105, 118, 101, 40] r w' (by simp) (by omega)) (fun hb a2 z hok hx => hb ⟨_, K0 a2 z hok hx⟩) (fun u S2 hu => ?_)
  obtain ⟨rfl, r1, hr1, rfl⟩ := hu
  have K1 := fun (a2 : PD) (z : Bs) (hok : okD a2) (hx : r = dtext a2 ++ z) => List.append_cancel_left (hr1.symm.trans (K0 a2 z hok hx))
  have lr1 : r.length = r1.length + 7 := by rw [hr1]; simp; try omega
  refine j_subl (S' := [[RC gr r1], [(g1, .cells [.string (bs []), .string (bs []), .string (bs []), .slice none 0 0, .slice none 0 0, .slice none 0 0, .slice none 0 0, .slice none 0 0].toArray 28 (0, 0))], [(g0, .cells [rp gr].toArray 85 (0, 0))]]) (by repeat first | exact slR _ | exact slN _ | apply slC | apply slD) ?_
  refine j_q (qs_load (l := [rp gr]) 2 Tryz.underlying85 rfl rfl rfl rfl) ?_
  refine j_callB 0 ent82 rfl rfl rfl rfl (fun w' hw' => ptext_con gr r1 w' (by omega)) (fun hb a2 z hok hx => hb _ _ (K1 a2 z hok hx)) (fun u S2 hu => ?_)
  obtain ⟨t5, r2, rfl, rfl, lr2, hr2⟩ := hu
  have Et5 := fun (a2 : PD) (z : Bs) (hok : okD a2) (hx : r = dtext a2 ++ z) => (hr2 _ _ (K1 a2 z hok hx)).1
  have K2 := fun (a2 : PD) (z : Bs) (hok : okD a2) (hx : r = dtext a2 ++ z) => (hr2 _ _ (K1 a2 z hok hx)).2
  refine j_subl (S' := [[RC gr r2], [(g1, .cells [.string (bs []), .string (bs []), .string (bs []), .slice none 0 0, .slice none 0 0, .slice none 0 0, .slice none 0 0, .slice none 0 0].toArray 28 (0, 0))], [(g0, .cells [rp gr].toArray 85 (0, 0))]]) (by repeat first | exact slR _ | exact slN _ | apply slC | apply slD) ?_
  refine j_q (qs_field Tryz.underlying28 rfl sz9 (by decide) rfl) ?_
  refine j_store (l := [.string (bs []), .string (bs []), .string (bs []), .slice none 0 0, .slice none 0 0, .slice none 0 0, .slice none 0 0, .slice none 0 0]) (v := .string (bs t5)) 1 sz9 rfl rfl rfl rfl (by simp) (by simp) ?_
  refine j_q (qs_load (l := [rp gr]) 2 Tryz.underlying85 rfl rfl rfl rfl) ?_
  refine j_callB 0 ent81 rfl rfl rfl rfl (fun w' hw' => sign_con gr [44] r2 w' (by simp) (by omega)) (fun hb a2 z hok hx => hb ⟨_, K2 a2 z hok hx⟩) (fun u S2 hu => ?_)
  obtain ⟨rfl, r3, hr3, rfl⟩ := hu
  have K3 := fun (a2 : PD) (z : Bs) (hok : okD a2) (hx : r = dtext a2 ++ z) => List.append_cancel_left (hr3.symm.trans (K2 a2 z hok hx))
  have lr3 : r2.length = r3.length + 1 := by rw [hr3]; simp; try omega
  refine j_subl (S' := [[RC gr r3], [(g1, .cells [.string (bs t5), .string (bs []), .string (bs []), .slice none 0 0, .slice none 0 0, .slice none 0 0, .slice none 0 0, .slice none 0 0].toArray 28 (0, 0))], [(g0, .cells [rp gr].toArray 85 (0, 0))]]) (by repeat first | exact slR _ | exact slN _ | apply slC | apply slD) ?_
  refine j_q (qs_load (l := [rp gr]) 2 Tryz.underlying85 rfl rfl rfl rfl) ?_
  refine j_q (qs_load (l := [rp gr]) 2 Tryz.underlying85 rfl rfl rfl rfl) ?_
  refine j_q (qs_mkfuncF rfl) ?_
  refine j_callB 0 ent83 rfl rfl rfl rfl (fun w' hw' => manyO_con gr r3 tO okOut wO 84 #[rp gr] #[] w' (by omega) ent84 tO_head (fun _ => Nat.le_add_left ..) (fun r' w2 S3 hl hs2 => pout_con gr r' w2 (by omega))) (fun hb a2 z hok hx => hb _ _ hok (K3 a2 z hok hx)) (fun u S2 hu => ?_)
  obtain ⟨l13, c13, r4, rfl, hO13, hs13, hr13⟩ := hu
  have E13 := fun (a2 : PD) (z : Bs) (hok : okD a2) (hx : r = dtext a2 ++ z) => (hr13 _ _ hok (K3 a2 z hok hx)).1
  have K4 := fun (a2 : PD) (z : Bs) (hok : okD a2) (hx : r = dtext a2 ++ z) => (hr13 _ _ hok (K3 a2 z hok hx)).2
  obtain ⟨n13, A13, cap13, rfl, hn13⟩ := own_form hO13 (by decide)
  refine j_subl (S' := [c13, [RC gr r4], [(g1, .cells [.string (bs t5), .string (bs []), .string (bs []), .slice none 0 0, .slice none 0 0, .slice none 0 0, .slice none 0 0, .slice none 0 0].toArray 28 (0, 0))], [(g0, .cells [rp gr].toArray 85 (0, 0))]]) (by repeat first | exact slR _ | exact slN _ | apply slC | apply slD) ?_
  refine j_q (qs_field Tryz.underlying28 rfl sz26 (by decide) rfl) ?_
  refine j_store (l := [.string (bs t5), .string (bs []), .string (bs []), .slice none 0 0, .slice none 0 0, .slice none 0 0, .slice none 0 0, .slice none 0 0]) (v := .slice A13 n13 cap13) 2 sz26 rfl rfl rfl rfl (by simp) (by simp) ?_
  refine j_q (qs_load (l := [rp gr]) 3 Tryz.underlying85 rfl rfl rfl rfl) ?_
  refine j_callB 1 ent81 rfl rfl rfl rfl (fun w' hw' => sign_con gr [44] r4 w' (by simp) (by omega)) (fun hb a2 z hok hx => hb ⟨_, K4 a2 z hok hx⟩) (fun u S2 hu => ?_)
  obtain ⟨rfl, r5, hr5, rfl⟩ := hu
  have K5 := fun (a2 : PD) (z : Bs) (hok : okD a2) (hx : r = dtext a2 ++ z) => List.append_cancel_left (hr5.symm.trans (K4 a2 z hok hx))
  have lr5 : r4.length = r5.length + 1 := by rw [hr5]; simp; try omega
  refine j_subl (S' := [[RC gr r5], c13, [(g1, .cells [.string (bs t5), .string (bs []), .string (bs []), .slice none 0 0, .slice none 0 0, .slice none 0 0, .slice none 0 0, .slice A13 n13 cap13].toArray 28 (0, 0))], [(g0, .cells [rp gr].toArray 85 (0, 0))]]) (by repeat first | exact slR _ | exact slN _ | apply slC | apply slD) ?_
  refine j_q (qs_load (l := [rp gr]) 3 Tryz.underlying85 rfl rfl rfl rfl) ?_
  refine j_q (qs_load (l := [rp gr]) 3 Tryz.underlying85 rfl rfl rfl rfl) ?_
  refine j_q (qs_mkfuncF rfl) ?_
  refine j_callB 0 ent85 rfl rfl rfl rfl (fun w' hw' => manyI_con gr r5 tI (fun _ => True) wI 86 #[rp gr] #[] w' (by omega) ent86 tI_head (fun _ => Nat.le_add_left ..) (fun r' w2 S3 hl hs2 => pin_con gr r' w2 (by omega))) (fun hb a2 z hok hx => hb _ _ (fun _ _ => trivial) (K5 a2 z hok hx)) (fun u S2 hu => ?_)
  obtain ⟨l21, c21, r6, F21, rfl, hO21, hs21, hr21, hm21, hb21⟩ := hu
  have E21 := fun (a2 : PD) (z : Bs) (hok : okD a2) (hx : r = dtext a2 ++ z) => (hr21 _ _ (fun _ _ => trivial) (K5 a2 z hok hx)).1
  have K6 := fun (a2 : PD) (z : Bs) (hok : okD a2) (hx : r = dtext a2 ++ z) => (hr21 _ _ (fun _ _ => trivial) (K5 a2 z hok hx)).2
  obtain ⟨n21, A21, cap21, rfl, hn21⟩ := own_form hO21 (by decide)
  refine j_subl (S' := [c21, [RC gr r6], F21, c13, [(g1, .cells [.string (bs t5), .string (bs []), .string (bs []), .slice none 0 0, .slice none 0 0, .slice none 0 0, .slice none 0 0, .slice A13 n13 cap13].toArray 28 (0, 0))], [(g0, .cells [rp gr].toArray 85 (0, 0))]]) (by repeat first | exact slR _ | exact slN _ | apply slC | apply slD) ?_
  refine j_q (qs_field Tryz.underlying28 rfl sz24 (by decide) rfl) ?_
  refine j_store (l := [.string (bs t5), .string (bs []), .string (bs []), .slice none 0 0, .slice none 0 0, .slice none 0 0, .slice none 0 0, .slice A13 n13 cap13]) (v := .slice A21 n21 cap21) 4 sz24 rfl rfl rfl rfl (by simp) (by simp) ?_
  refine j_q (qs_load (l := [rp gr]) 5 Tryz.underlying85 rfl rfl rfl rfl) ?_
  refine j_callB 1 ent81 rfl rfl rfl rfl (fun w' hw' => sign_con gr [44] r6 w' (by simp) (by omega)) (fun hb a2 z hok hx => hb ⟨_, K6 a2 z hok hx⟩) (fun u S2 hu => ?_)
  obtain ⟨rfl, r7, hr7, rfl⟩ := hu
  have K7 := fun (a2 : PD) (z : Bs) (hok : okD a2) (hx : r = dtext a2 ++ z) => List.append_cancel_left (hr7.symm.trans (K6 a2 z hok hx))
  have lr7 : r6.length = r7.length + 1 := by rw [hr7]; simp; try omega
  refine j_subl (S' := [[RC gr r7], c21, F21, c13, [(g1, .cells [.string (bs t5), .string (bs []), .string (bs []), .slice none 0 0, .slice none 0 0, .slice A21 n21 cap21, .slice none 0 0, .slice A13 n13 cap13].toArray 28 (0, 0))], [(g0, .cells [rp gr].toArray 85 (0, 0))]]) (by repeat first | exact slR _ | exact slN _ | apply slC | apply slD) ?_
  refine j_q (qs_load (l := [rp gr]) 5 Tryz.underlying85 rfl rfl rfl rfl) ?_
  refine j_q (qs_mkfunc1 rfl) ?_
  refine j_callB 0 ent87 rfl rfl rfl rfl (fun w' hw' => manyP_con gr r7 qt (fun _ => True) wS 88 #[] #[.pointer (some ⟨g0, 0, none⟩)] w' (by omega) ent88 qt_head (fun _ => Nat.le_add_left ..) (fun r' w2 S3 hl hs2 => pdrv1_con gr g0 r' w2 (by omega) (by have h0 := hw'.at_ (k := 5) (g := g0) rfl; rw [hs2.frame g0 (lt_of_get h0) (by simp [dom, hne])]; exact h0) (by simp [dom, hne]))) (fun hb a2 z hok hx => hb _ _ (fun _ _ => trivial) (K7 a2 z hok hx)) (fun u S2 hu => ?_)
  obtain ⟨l28, c28, r8, rfl, hO28, hs28, hr28⟩ := hu
  have E28 := fun (a2 : PD) (z : Bs) (hok : okD a2) (hx : r = dtext a2 ++ z) => (hr28 _ _ (fun _ _ => trivial) (K7 a2 z hok hx)).1
  have K8 := fun (a2 : PD) (z : Bs) (hok : okD a2) (hx : r = dtext a2 ++ z) => (hr28 _ _ (fun _ _ => trivial) (K7 a2 z hok hx)).2
  obtain ⟨n28, A28, cap28, rfl, hn28⟩ := own_form hO28 (by decide)
  refine j_subl (S' := [c28, [RC gr r8], c21, F21, c13, [(g1, .cells [.string (bs t5), .string (bs []), .string (bs []), .slice none 0 0, .slice none 0 0, .slice A21 n21 cap21, .slice none 0 0, .slice A13 n13 cap13].toArray 28 (0, 0))], [(g0, .cells [rp gr].toArray 85 (0, 0))]]) (by repeat first | exact slR _ | exact slN _ | apply slC | apply slD) ?_
  refine j_q (qs_field Tryz.underlying28 rfl sz25 (by decide) rfl) ?_
  refine j_store (l := [.string (bs t5), .string (bs []), .string (bs []), .slice none 0 0, .slice none 0 0, .slice A21 n21 cap21, .slice none 0 0, .slice A13 n13 cap13]) (v := .slice A28 n28 cap28) 5 sz25 rfl rfl rfl rfl (by simp) (by simp) ?_
  refine j_q (qs_load (l := [rp gr]) 6 Tryz.underlying85 rfl rfl rfl rfl) ?_
  refine j_callB 1 ent81 rfl rfl rfl rfl (fun w' hw' => sign_con gr [44] r8 w' (by simp) (by omega)) (fun hb a2 z hok hx => hb ⟨_, K8 a2 z hok hx⟩) (fun u S2 hu => ?_)
  obtain ⟨rfl, r9, hr9, rfl⟩ := hu
  have K9 := fun (a2 : PD) (z : Bs) (hok : okD a2) (hx : r = dtext a2 ++ z) => List.append_cancel_left (hr9.symm.trans (K8 a2 z hok hx))
  have lr9 : r8.length = r9.length + 1 := by rw [hr9]; simp; try omega
  refine j_subl (S' := [[RC gr r9], c28, c21, F21, c13, [(g1, .cells [.string (bs t5), .string (bs []), .string (bs []), .slice none 0 0, .slice none 0 0, .slice A21 n21 cap21, .slice A28 n28 cap28, .slice A13 n13 cap13].toArray 28 (0, 0))], [(g0, .cells [rp gr].toArray 85 (0, 0))]]) (by repeat first | exact slR _ | exact slN _ | apply slC | apply slD) ?_
  refine j_q (qs_load (l := [rp gr]) 6 Tryz.underlying85 rfl rfl rfl rfl) ?_
  refine j_callB 0 ent82 rfl rfl rfl rfl (fun w' hw' => ptext_con gr r9 w' (by omega)) (fun hb a2 z hok hx => hb _ _ (K9 a2 z hok hx)) (fun u S2 hu => ?_)
  obtain ⟨t34, r10, rfl, rfl, lr10, hr10⟩ := hu
  have Et34 := fun (a2 : PD) (z : Bs) (hok : okD a2) (hx : r = dtext a2 ++ z) => (hr10 _ _ (K9 a2 z hok hx)).1
  have K10 := fun (a2 : PD) (z : Bs) (hok : okD a2) (hx : r = dtext a2 ++ z) => (hr10 _ _ (K9 a2 z hok hx)).2
  refine j_subl (S' := [[RC gr r10], c28, c21, F21, c13, [(g1, .cells [.string (bs t5), .string (bs []), .string (bs []), .slice none 0 0, .slice none 0 0, .slice A21 n21 cap21, .slice A28 n28 cap28, .slice A13 n13 cap13].toArray 28 (0, 0))], [(g0, .cells [rp gr].toArray 85 (0, 0))]]) (by repeat first | exact slR _ | exact slN _ | apply slC | apply slD) ?_
  refine j_q (qs_field Tryz.underlying28 rfl sz9 (by decide) rfl) ?_
  refine j_store (l := [.string (bs t5), .string (bs []), .string (bs []), .slice none 0 0, .slice none 0 0, .slice A21 n21 cap21, .slice A28 n28 cap28, .slice A13 n13 cap13]) (v := .string (bs t34)) 5 sz9 rfl rfl rfl rfl (by simp) (by simp) ?_
  refine j_q (qs_load (l := [rp gr]) 6 Tryz.underlying85 rfl rfl rfl rfl) ?_
  refine j_callB 0 ent81 rfl rfl rfl rfl (fun w' hw' => sign_con gr [44] r10 w' (by simp) (by omega)) (fun hb a2 z hok hx => hb ⟨_, K10 a2 z hok hx⟩) (fun u S2 hu => ?_)
  obtain ⟨rfl, r11, hr11, rfl⟩ := hu
  have K11 := fun (a2 : PD) (z : Bs) (hok : okD a2) (hx : r = dtext a2 ++ z) => List.append_cancel_left (hr11.symm.trans (K10 a2 z hok hx))
  have lr11 : r10.length = r11.length + 1 := by rw [hr11]; simp; try omega
  refine j_subl (S' := [[RC gr r11], c28, c21, F21, c13, [(g1, .cells [.string (bs t5), .string (bs t34), .string (bs []), .slice none 0 0, .slice none 0 0, .slice A21 n21 cap21, .slice A28 n28 cap28, .slice A13 n13 cap13].toArray 28 (0, 0))], [(g0, .cells [rp gr].toArray 85 (0, 0))]]) (by repeat first | exact slR _ | exact slN _ | apply slC | apply slD) ?_
  refine j_q (qs_load (l := [rp gr]) 6 Tryz.underlying85 rfl rfl rfl rfl) ?_
  refine j_callB 0 ent82 rfl rfl rfl rfl (fun w' hw' => ptext_con gr r11 w' (by omega)) (fun hb a2 z hok hx => hb _ _ (K11 a2 z hok hx)) (fun u S2 hu => ?_)
  obtain ⟨t40, r12, rfl, rfl, lr12, hr12⟩ := hu
  have Et40 := fun (a2 : PD) (z : Bs) (hok : okD a2) (hx : r = dtext a2 ++ z) => (hr12 _ _ (K11 a2 z hok hx)).1
  have K12 := fun (a2 : PD) (z : Bs) (hok : okD a2) (hx : r = dtext a2 ++ z) => (hr12 _ _ (K11 a2 z hok hx)).2
  refine j_subl (S' := [[RC gr r12], c28, c21, F21, c13, [(g1, .cells [.string (bs t5), .string (bs t34), .string (bs []), .slice none 0 0, .slice none 0 0, .slice A21 n21 cap21, .slice A28 n28 cap28, .slice A13 n13 cap13].toArray 28 (0, 0))], [(g0, .cells [rp gr].toArray 85 (0, 0))]]) (by repeat first | exact slR _ | exact slN _ | apply slC | apply slD) ?_
  refine j_q (qs_field Tryz.underlying28 rfl sz9 (by decide) rfl) ?_
  refine j_store (l := [.string (bs t5), .string (bs t34), .string (bs []), .slice none 0 0, .slice none 0 0, .slice A21 n21 cap21, .slice A28 n28 cap28, .slice A13 n13 cap13]) (v := .string (bs t40)) 5 sz9 rfl rfl rfl rfl (by simp) (by simp) ?_
  refine j_q (qs_load (l := [rp gr]) 6 Tryz.underlying85 rfl rfl rfl rfl) ?_
  refine j_callB 0 ent81 rfl rfl rfl rfl (fun w' hw' => sign_con gr [44] r12 w' (by simp) (by omega)) (fun hb a2 z hok hx => hb ⟨_, K12 a2 z hok hx⟩) (fun u S2 hu => ?_)
  obtain ⟨rfl, r13, hr13, rfl⟩ := hu
  have K13 := fun (a2 : PD) (z : Bs) (hok : okD a2) (hx : r = dtext a2 ++ z) => List.append_cancel_left (hr13.symm.trans (K12 a2 z hok hx))
  have lr13 : r12.length = r13.length + 1 := by rw [hr13]; simp; try omega
  refine j_subl (S' := [[RC gr r13], c28, c21, F21, c13, [(g1, .cells [.string (bs t5), .string (bs t34), .string (bs t40), .slice none 0 0, .slice none 0 0, .slice A21 n21 cap21, .slice A28 n28 cap28, .slice A13 n13 cap13].toArray 28 (0, 0))], [(g0, .cells [rp gr].toArray 85 (0, 0))]]) (by repeat first | exact slR _ | exact slN _ | apply slC | apply slD) ?_
  refine j_q (qs_load (l := [rp gr]) 6 Tryz.underlying85 rfl rfl rfl rfl) ?_
  refine j_q (qs_load (l := [rp gr]) 6 Tryz.underlying85 rfl rfl rfl rfl) ?_
  refine j_q (qs_mkfuncF rfl) ?_
  refine j_callB 0 ent89 rfl rfl rfl rfl (fun w' hw' => manyS_con gr r13 qt (fun _ => True) wS 82 #[rp gr] #[] w' (by omega) ent82 qt_head (fun _ => Nat.le_add_left ..) (fun r' w2 S3 hl hs2 => textS_con gr r' w2 (by omega))) (fun hb a2 z hok hx => hb _ _ (fun _ _ => trivial) (K13 a2 z hok hx)) (fun u S2 hu => ?_)
  obtain ⟨l48, c48, r14, rfl, hO48, hs48, hr48⟩ := hu
  have E48 := fun (a2 : PD) (z : Bs) (hok : okD a2) (hx : r = dtext a2 ++ z) => (hr48 _ _ (fun _ _ => trivial) (K13 a2 z hok hx)).1
  have K14 := fun (a2 : PD) (z : Bs) (hok : okD a2) (hx : r = dtext a2 ++ z) => (hr48 _ _ (fun _ _ => trivial) (K13 a2 z hok hx)).2
  obtain ⟨n48, A48, cap48, rfl, hn48⟩ := own_form hO48 (by decide)
  refine j_subl (S' := [c48, [RC gr r14], c28, c21, F21, c13, [(g1, .cells [.string (bs t5), .string (bs t34), .string (bs t40), .slice none 0 0, .slice none 0 0, .slice A21 n21 cap21, .slice A28 n28 cap28, .slice A13 n13 cap13].toArray 28 (0, 0))], [(g0, .cells [rp gr].toArray 85 (0, 0))]]) (by repeat first | exact slR _ | exact slN _ | apply slC | apply slD) ?_
  refine j_q (qs_field Tryz.underlying28 rfl sz22 (by decide) rfl) ?_
  refine j_store (l := [.string (bs t5), .string (bs t34), .string (bs t40), .slice none 0 0, .slice none 0 0, .slice A21 n21 cap21, .slice A28 n28 cap28, .slice A13 n13 cap13]) (v := .slice A48 n48 cap48) 6 sz22 rfl rfl rfl rfl (by simp) (by simp) ?_
  refine j_q (qs_load (l := [rp gr]) 7 Tryz.underlying85 rfl rfl rfl rfl) ?_
  refine j_callB 1 ent81 rfl rfl rfl rfl (fun w' hw' => sign_con gr [44] r14 w' (by simp) (by omega)) (fun hb a2 z hok hx => hb ⟨_, K14 a2 z hok hx⟩) (fun u S2 hu => ?_)
  obtain ⟨rfl, r15, hr15, rfl⟩ := hu
  have K15 := fun (a2 : PD) (z : Bs) (hok : okD a2) (hx : r = dtext a2 ++ z) => List.append_cancel_left (hr15.symm.trans (K14 a2 z hok hx))
  have lr15 : r14.length = r15.length + 1 := by rw [hr15]; simp; try omega
  refine j_subl (S' := [[RC gr r15], c48, c28, c21, F21, c13, [(g1, .cells [.string (bs t5), .string (bs t34), .string (bs t40), .slice A48 n48 cap48, .slice none 0 0, .slice A21 n21 cap21, .slice A28 n28 cap28, .slice A13 n13 cap13].toArray 28 (0, 0))], [(g0, .cells [rp gr].toArray 85 (0, 0))]]) (by repeat first | exact slR _ | exact slN _ | apply slC | apply slD) ?_
  refine j_q (qs_load (l := [rp gr]) 7 Tryz.underlying85 rfl rfl rfl rfl) ?_
  refine j_q (qs_load (l := [rp gr]) 7 Tryz.underlying85 rfl rfl rfl rfl) ?_
  refine j_q (qs_mkfuncF rfl) ?_
  refine j_callB 0 ent90 rfl rfl rfl rfl (fun w' hw' => manyV_con gr r15 tV (fun _ => True) wV 91 #[rp gr] #[] w' (by omega) ent91 tV_head (fun _ => Nat.le_add_left ..) (fun r' w2 S3 hl hs2 => pvar_con gr r' w2 (by omega))) (fun hb a2 z hok hx => hb _ _ (fun _ _ => trivial) (K15 a2 z hok hx)) (fun u S2 hu => ?_)
  obtain ⟨l56, c56, r16, rfl, hO56, hs56, hr56⟩ := hu
  have E56 := fun (a2 : PD) (z : Bs) (hok : okD a2) (hx : r = dtext a2 ++ z) => (hr56 _ _ (fun _ _ => trivial) (K15 a2 z hok hx)).1
  have K16 := fun (a2 : PD) (z : Bs) (hok : okD a2) (hx : r = dtext a2 ++ z) => (hr56 _ _ (fun _ _ => trivial) (K15 a2 z hok hx)).2
  obtain ⟨n56, A56, cap56, rfl, hn56⟩ := own_form hO56 (by decide)
  refine j_subl (S' := [c56, [RC gr r16], c48, c28, c21, F21, c13, [(g1, .cells [.string (bs t5), .string (bs t34), .string (bs t40), .slice A48 n48 cap48, .slice none 0 0, .slice A21 n21 cap21, .slice A28 n28 cap28, .slice A13 n13 cap13].toArray 28 (0, 0))], [(g0, .cells [rp gr].toArray 85 (0, 0))]]) (by repeat first | exact slR _ | exact slN _ | apply slC | apply slD) ?_
  refine j_q (qs_field Tryz.underlying28 rfl sz23 (by decide) rfl) ?_
  refine j_store (l := [.string (bs t5), .string (bs t34), .string (bs t40), .slice A48 n48 cap48, .slice none 0 0, .slice A21 n21 cap21, .slice A28 n28 cap28, .slice A13 n13 cap13]) (v := .slice A56 n56 cap56) 7 sz23 rfl rfl rfl rfl (by simp) (by simp) ?_
  refine j_q (qs_load (l := [rp gr]) 8 Tryz.underlying85 rfl rfl rfl rfl) ?_
  refine j_callB 1 ent81 rfl rfl rfl rfl (fun w' hw' => sign_con gr [41] r16 w' (by simp) (by omega)) (fun hb a2 z hok hx => hb ⟨_, K16 a2 z hok hx⟩) (fun u S2 hu => ?_)
  obtain ⟨rfl, r17, hr17, rfl⟩ := hu
  have K17 := fun (a2 : PD) (z : Bs) (hok : okD a2) (hx : r = dtext a2 ++ z) => List.append_cancel_left (hr17.symm.trans (K16 a2 z hok hx))
  have lr17 : r16.length = r17.length + 1 := by rw [hr17]; simp; try omega
  refine j_subl (S' := [[RC gr r17], c56, c48, c28, c21, F21, c13, [(g1, .cells [.string (bs t5), .string (bs t34), .string (bs t40), .slice A48 n48 cap48, .slice A56 n56 cap56, .slice A21 n21 cap21, .slice A28 n28 cap28, .slice A13 n13 cap13].toArray 28 (0, 0))], [(g0, .cells [rp gr].toArray 85 (0, 0))]]) (by repeat first | exact slR _ | exact slN _ | apply slC | apply slD) ?_
  refine j_q (qs_loadw (l := dcells (⟨t5, t34, t40, l48, l56, l21.map MI.pi, l28, l13⟩ : PD) (⟨.slice A48 n48 cap48, .slice A56 n56 cap56, .slice A21 n21 cap21, .slice A28 n28 cap28, .slice A13 n13 cap13, l21⟩ : DV)) 7 Tryz.underlying28 rfl sz28 rfl rfl rfl) ?_
  refine j_storew (l := dcells (⟨t5, t34, t40, l48, l56, l21.map MI.pi, l28, l13⟩ : PD) (⟨.slice A48 n48 cap48, .slice A56 n56 cap56, .slice A21 n21 cap21, .slice A28 n28 cap28, .slice A13 n13 cap13, l21⟩ : DV)) (vs := dcells (⟨t5, t34, t40, l48, l56, l21.map MI.pi, l28, l13⟩ : PD) (⟨.slice A48 n48 cap48, .slice A56 n56 cap56, .slice A21 n21 cap21, .slice A28 n28 cap28, .slice A13 n13 cap13, l21⟩ : DV)) 7 sz28 rfl rfl rfl (fun u hu => by simp only [dcells, List.mem_cons, List.not_mem_nil, or_false] at hu; rcases hu with rfl | rfl | rfl | rfl | rfl | rfl | rfl | rfl <;> rfl) rfl rfl ?_
  -- no @RET
  refine j_ret_conbs [[RC gr r17], c56, c48, c28, c21, F21, c13] (by repeat first | exact slR _ | exact slN _ | apply slC | apply slD) (vs := [_]) (fun w' hw' => ⟨rv_agg (l := dcells (⟨t5, t34, t40, l48, l56, l21.map MI.pi, l28, l13⟩ : PD) (⟨.slice A48 n48 cap48, .slice A56 n56 cap56, .slice A21 n21 cap21, .slice A28 n28 cap28, .slice A13 n13 cap13, l21⟩ : DV)) 7 Tryz.underlying28 rfl sz28 rfl rfl rfl hw', trivial⟩) ?_
  exact ⟨(⟨t5, t34, t40, l48, l56, l21.map MI.pi, l28, l13⟩ : PD), (⟨.slice A48 n48 cap48, .slice A56 n56 cap56, .slice A21 n21 cap21, .slice A28 n28 cap28, .slice A13 n13 cap13, l21⟩ : DV), r17, c13, c21, F21, c28, c48, c56, rfl, rfl, ⟨hO13, hO21, hm21, rfl, hb21, hO28, hO48, hO56⟩, by rw [big2_w]; simp only []; omega, fun a2 z hok hx => ⟨pd_eq (Et5 a2 z hok hx) (Et34 a2 z hok hx) (Et40 a2 z hok hx) (E48 a2 z hok hx) (E56 a2 z hok hx) (E21 a2 z hok hx) (E28 a2 z hok hx) (E13 a2 z hok hx), K17 a2 z hok hx⟩⟩
end Go.Proofs.YtfeabbeebkkhaaaGreat
/-! Sx25 -/
namespace Go.Sx
open Go
set_option linter.unusedVariables false
variable {P : Program} {R : Ending → World → Prop} {ds : List Deferred}
theorem at_mem : ∀ {sf : SF} {j lv : Nat}, at_ sf j = some lv → (j, lv) ∈ sf
  | (s, l) :: r, j, lv, h => by
    simp only [at_] at h
    split at h
    · rename_i e
      injection h with h
      subst e h
      exact List.mem_cons_self
    · exact List.mem_cons_of_mem _ (at_mem h)
theorem rel_of {sf : SF} {env : Env} {t : Array Value} (h : ∀ p ∈ sf, p.1 < t.size ∧ p.2 < env.length ∧ t.getD p.1 undef = val env p.2) : Rel sf env t := ⟨fun j lv hj => h _ (at_mem hj)⟩
theorem wp_rest_code {hs : List (Nat × Nat)} {sz : Nat} {fn : Func} {rl n : Nat} {c : Code} {sf : SF} {T : Tree} {env : Env} {w : World} {t : Array Value} {Q : Exit → Act → World → Prop} (hmix : P.follows .mixedOrders = true)
    (hT : cmp hs sz fn.results.toList rl c sf n [] 0 (fun sf n _ => (rvsOf n sf fn.results.toList).map .ret) rl = some T) (hn : env.length = n) (hr : Rel sf env t) (hsz : t.size = sz) (hW : W P R T env w [])
    (hQ : ∀ a w v, a.defers = ds → (results fn a.tmps).run P w = .ok v w → R (.returned v) w → Q .ret a w ∧ Q .normal a w)
    (hP : ∀ ch a w', R (.panicked ch) w' → a.defers = ds → Q (.panic ch) a w') : c.wp P Q ⟨t, ds⟩ w := by
  refine cmp_sound (fn := fn) hmix c _ _ [] 0 _ _ T env w _ [] _ hT hn rfl hr hsz hW ?_ (fun id kk h => by simp [lookupL] at h) (fun a w v h1 h2 h3 => (hQ a w v h1 h2 h3).1) hP
  intro sf n l T' env w' t B hk hn' _ _ _ hr _ hW'
  obtain ⟨rs, hrs, rfl⟩ := Option.map_eq_some_iff.1 hk
  subst hn'
  obtain ⟨vs, hv, hR⟩ := hW'
  exact (hQ ⟨t, ds⟩ w' _ rfl (results_run hr hrs hv) hR).2
theorem wp_rest {hs : List (Nat × Nat)} {sz : Nat} {fn : Func} {rl n : Nat} {ops : Array Oper} {l : List Oper} {c : Code} {sf : SF} {T : Tree} {env : Env} {w : World} {t : Array Value} {Q : Exit → Act → World → Prop} (hmix : P.follows .mixedOrders = true)
    (hT : cmpOps sz ops l sf n (fun sf n => cmp hs sz fn.results.toList rl c sf n [] 0 (fun sf n _ => (rvsOf n sf fn.results.toList).map .ret) rl) = some T) (hn : env.length = n) (hr : Rel sf env t) (hsz : t.size = sz) (hW : W P R T env w [])
    (hQ : ∀ a w v, a.defers = ds → (results fn a.tmps).run P w = .ok v w → R (.returned v) w → Q .ret a w ∧ Q .normal a w)
    (hP : ∀ ch a w', R (.panicked ch) w' → a.defers = ds → Q (.panic ch) a w') : wpList P ops (Exit.then (c.wp P Q) Q) l ⟨t, ds⟩ w := by
  subst hn
  refine cmpOps_sound (R := R) (Q := Exit.then (c.wp P Q) Q) (fun ch a w' h1 h2 => hP ch a w' h1 h2) l sf _ T env w t hT hr hsz hW ?_
  intro sf' n' T' env' w' t' hT' hn' he hr' hsz' hW'
  exact wp_rest_code hmix hT' hn' hr' hsz' hW' hQ hP
section
variable {ops : Array Oper} {Q : Exit → Act → World → Prop} {a : Act} {w w' : World} {l : List Oper} {o : Oper} {v : Value}
theorem wpl_val (hg : o.guard = none) (h : (execOp a.eval o).run P w = .ok (.value v) w') (hk : wpList P ops Q l (a.put o.dst v) w') : wpList P ops Q (o :: l) a w := by
  unfold wpList
  rw [if_pos (by simp [Region.wanted, hg])]
  left
  unfold Oper.wp
  rw [h]
  exact hk
theorem wpl_defer {d : Deferred} (hg : o.guard = none) (h : (execOp a.eval o).run P w = .ok (.defer d) w') (hk : wpList P ops Q l ({ a with defers := d :: a.defers }.put o.dst undef) w') : wpList P ops Q (o :: l) a w := by
  unfold wpList
  rw [if_pos (by simp [Region.wanted, hg])]
  left
  unfold Oper.wp
  rw [h]
  exact hk
theorem wpl_call {f : FuncId} {args : Array Value} {R' : Ending → World → Prop} (hg : o.guard = none) (h : (execOp a.eval o).run P w = .ok (.enter f args) w') (hc : Calls P f args w' R')
    (hret : ∀ v w2, R' (.returned v) w2 → wpList P ops Q l (a.put o.dst v) w2) (hpan : ∀ ch w2, R' (.panicked ch) w2 → Q (.panic ch) a w2) (hout : ∀ w2, ¬ R' .outgrown w2) : wpList P ops Q (o :: l) a w := by
  unfold wpList
  rw [if_pos (by simp [Region.wanted, hg])]
  left
  unfold Oper.wp
  rw [h]
  refine Calls.mono hc fun e w2 he => ?_
  cases e with
  | returned v => exact hret _ _ he
  | panicked ch => exact hpan _ _ he
  | outgrown => exact absurd he (hout w2)
theorem run_alloc_op {f : Operand → Value} {t : TypeId} {z : List Value} (ho : o.op = .alloc t) (hz : zeroL P t = some z) : (execOp f o).run P w = .ok (.value (.pointer (some ⟨w.heap.size, 0, none⟩))) { w with heap := w.heap.push (.cells z.toArray t (0, 0)) } := by
  obtain ⟨dst, op, ty, pos, after, guard⟩ := o
  simp only at ho
  subst ho
  obtain ⟨z', hz, hrun⟩ := run_zero_ok hz
  simp only [execOp, Instr.alloc, Sem.run_bind, hrun, Result.andThen_ok, newVar, newRow, newObj, hz, Sem.run, Sem.run_pure]
theorem run_box_op {f : Operand → Value} {t : TypeId} {x : Operand} {z : List Value} (ho : o.op = .box t x) (hx : (f x).cells = z.toArray) : (execOp f o).run P w = .ok (.value (.pointer (some ⟨w.heap.size, 0, none⟩))) { w with heap := w.heap.push (.cells z.toArray t (0, 0)) } := by
  obtain ⟨dst, op, ty, pos, after, guard⟩ := o
  simp only at ho
  subst ho
  simp only [execOp, Instr.box, Sem.run_bind, Result.andThen_ok, newVar, newRow, newObj, hx, Sem.run, Sem.run_pure]
theorem wpl_abs (F : Act → Prop) (hF : F a) (h : ∀ A, F A → wpList P ops Q l A w) : wpList P ops Q l a w := h a hF
theorem run_call_op {ev : Operand → Value} {f : FuncId} {g : Operand} {xs : Array Operand} {tys : Array TypeId} {args : List Value} (h : Enters P f) (ho : o.op = .call ⟨.value g, xs, tys⟩) (hg : ev g = .func (.func f) #[] #[]) (ha : xs.toList.map ev = args) (w : World) : (execOp ev o).run P w = .ok (.enter f args.toArray) w := by
  have e : (#[] ++ xs.map ev ++ #[] : Array Value) = args.toArray := by rw [← ha]; apply Array.ext'; simp
  rw [← e]
  simp only [execOp, ho, resolve, hg, Deferred.ofValue, invoke, Sem.run_bind, Sem.run_pure, Result.andThen_ok, run_callFunc h]
end
theorem j_ret_sub {env : Env} {S : List SH} {B : JB} {w : World} {Fp : SH} {post : Value → List SH → Prop} {rs : List RV} {vs : List Value} (S1 : List SH) (hs : S1.Sublist S) (hv : ∀ w', Sig ⟨w, dom Fp⟩ S w' → rvsW P env w' rs vs) (h : post (retVal vs) S1) :
    J P (fun e w' => ∃ v S', e = .returned v ∧ post v S' ∧ Sig ⟨w, dom Fp⟩ S' w') (.ret rs) env S ⟨w, dom Fp⟩ B := j_ret hv fun _ hw => ⟨_, S1, rfl, h, hw.sub (sub_flatten hs)⟩
theorem j_gsplit {P : Program} {R : Ending → World → Prop} {env : Env} {b : Base} {S : List SH} {B : JB} {T : Tree} {c : Operand} {b0 want : Bool} {o : Oper} (hc : ev env c = .bool b0) (h1 : b0 = want → J P R (.op o T) env S b B) (h2 : b0 ≠ want → J P R T (undef :: env) S b B) : J P R (.gop c want o T) env S b B := fun w hw => by
  by_cases h : b0 = want
  · have := h1 h w hw
    unfold W at this ⊢
    exact ⟨fun _ => this, fun e => absurd (by rw [hc, h]) e⟩
  · have := h2 h w hw
    unfold W
    exact ⟨fun e => by rw [hc] at e; injection e with e; exact absurd e h, fun _ => this⟩
theorem j_ret_fl {P : Program} {env : Env} {S : List SH} {B : JB} {w : World} {Fp : SH} {post : Value → List SH → Prop} {rs : List RV} {vs : List Value} (S1 : List SH) (hs : S1.flatten.Sublist S.flatten) (hv : ∀ w', Sig ⟨w, dom Fp⟩ S w' → rvsW P env w' rs vs) (h : post (retVal vs) S1) :
    J P (fun e w' => ∃ v S', e = .returned v ∧ post v S' ∧ Sig ⟨w, dom Fp⟩ S' w') (.ret rs) env S ⟨w, dom Fp⟩ B := j_ret hv fun _ hw => ⟨_, S1, rfl, h, hw.sub hs⟩
theorem sig_rfl0 (w : World) : Sig ⟨w, dom []⟩ [] w := ⟨rfl, rfl, rfl, Nat.le_refl _, by simp, by simp, by simp, fun _ _ _ => rfl⟩
end Go.Sx
