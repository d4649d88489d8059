/- Locks by names: the law LocksEnd. -/
import Derived.Test.YtlgfpoelhjlifaaTa
import Derived.Test.YtlgfpoelhjlifaaLk9
import Derived.Test.YtlgfpoelhjlifaaWf12c
namespace Go.Proofs.Ytlgfpoelhjlifaa
open Go Go.Sx
set_option maxRecDepth 100000
set_option maxHeartbeats 4000000
set_option linter.unusedVariables false
set_option linter.unusedSimpArgs false
attribute [local irreducible] J JQ QS Con W opW
theorem ent22 : Sx.Enters Try.prog 22 := ⟨_, Try.func22, by kernel_rfl, by kernel_rfl⟩
theorem ent35 : Sx.Enters Try.prog 35 := ⟨_, Try.func35, by kernel_rfl, by kernel_rfl⟩

open Go.MapKept Go.WideMaps Go.Maps
theorem bw65535 (m : Int) : 0 ≤ bw .and .i64 m 65535 ∧ bw .and .i64 m 65535 ≤ 65535 := by
  unfold bw
  dsimp only
  have h : (BitVec.ofInt IntKind.i64.bits m &&& BitVec.ofInt IntKind.i64.bits 65535).toNat ≤ 65535 := by
    rw [BitVec.toNat_and]
    exact Nat.le_trans Nat.and_le_right (by decide)
  rw [IntWalk.i64_in _ (by constructor <;> omega)]
  omega
theorem ks_addT {tasks : List Int} {t : Int} (h : 0 ≤ t ∧ hasI tasks t = false) : addT tasks t = tasks ++ [t] := by
  unfold addT
  rw [if_pos ⟨h.1, fun hm => by rw [hasI_iff.2 hm] at h; cases h.2⟩]
theorem ks_addT0 {tasks : List Int} {t : Int} (h : ¬ (0 ≤ t ∧ hasI tasks t = false)) : addT tasks t = tasks := by
  unfold addT
  rw [if_neg fun h1 => h ⟨h1.1, by cases hh : hasI tasks t with | false => rfl | true => exact absurd (hasI_iff.1 hh) h1.2⟩]
theorem getD_mem {l : List Int} {k : Nat} (h : k < l.length) : l.getD k 0 ∈ l := by
  rw [List.getD_eq_getElem?_getD, List.getElem?_eq_getElem h, Option.getD_some]
  exact List.getElem_mem h
theorem getD_get {l : List Int} {k : Nat} (h : k < l.length) : l[k]? = some (l.getD k 0) := by
  rw [List.getD_eq_getElem?_getD, List.getElem?_eq_getElem h, Option.getD_some]
/-- pantry.pantrylaw12.LocksEnd -/
theorem locksEnd_con (rs : List St) (v : Value) (ord : List Int) (vo : Value) (w : World) (h : Script w v rs) (hl : rs.length ≤ 4611686018427387903) (ho : RSl w vo (ks .i64 ord)) (hlo : ord.length ≤ 4611686018427387903) (hoi : ∀ n ∈ ord, intOk n) : Con Try.prog 7 [v, vo] w [] fun u _ => u = .bool true := by
  refine con_of_tree mix Try.func7 T7_ok (by kernel_rfl) ?_
  unfold T7
  obtain ⟨A, cap, g, off, rfl, hcap, hA⟩ := script_form h
  obtain ⟨Ao, co, rfl, hco⟩ := rsl_form ho
  rw [ks_length] at ho hco ⊢
  refine j_q (qs_ac) ?_
  refine j_q (qs_call ent22 rfl rfl rfl (fun w' hw' => heavy_con rs _ w' (script_keep h hw') hl)) ?_
  refine j_g rfl (fun hb => qs_mt rfl) ?_
  refine j_g rfl (fun hb => qs_lenl Try.underlying36 (gd_eq hb)) ?_
  refine j_g rfl (fun hb => qs_gtr (gd_eq hb) rfl) ?_
  refine j_q (qs_or rfl rfl) ?_
  refine j_cond rfl (fun hc0 => ?_) (fun hc0 => ?_)
  · skip
    refine j_q (qs_call ent9 rfl rfl rfl (fun w' hw' => known_con w')) ?_
    refine j_ret_con (vs := [_]) (fun w' hw' => ⟨rfl, trivial⟩) ?_
    rfl
  · skip
    have hol : ord.length ≤ 400 := by
      cases hh : heavyF rs <;> simp [gd, hh] at hc0
      omega
    refine j_call0 ent23 rfl rfl rfl (fun w' hw' => new_con w') (fun u S2 hu => ?_)
    obtain ⟨p0, rfl, rfl, hok0, hlm0, hwm0⟩ := hu
    refine j_subl (S' := [p0.heap]) (by repeat first | exact List.Sublist.refl _ | exact List.nil_sublist _ | apply List.Sublist.cons_cons | apply List.Sublist.cons) ?_
    have hA0 : p0.at_ = ⟨[], []⟩ := by
      show AT.mk _ _ = _
      rw [hlm0, hwm0]
      rfl
    refine j_q (qs_pnil Try.underlying45 rfl) ?_
    refine j_cond rfl (fun hc1 => ?_) (fun hc1 => ?_)
    · skip
      simp at hc1
    · skip
      refine j_perm (S' := [p0.heap, []]) (by simp) ?_
      refine j_q (qs_ac) ?_
      refine j_q (qs_ac) ?_
      refine j_loop (fun m vs S' => ∃ (i : Nat) (q : PT) (tasks : List Int) (tv : Value) (tc : SH), vs = [tv, .int .i64 (i : Int)] ∧ S' = [q.heap, tc] ∧ Sx.Own 3 1 (ks .i64 tasks) tv tc ∧ q.gt = p0.gt ∧ q.Ok i ∧ EI q.at_ tasks ∧ tasks.length ≤ i ∧ (∀ t ∈ tasks, intOk t) ∧ i ≤ 60 ∧ i ≤ rs.length ∧ m = 60 - i) ⟨_, 0, p0, [], _, [], rfl, rfl, own_nil, rfl, hok0, by rw [hA0]; exact ei_nil, Nat.zero_le _, (fun t ht => by cases ht), Nat.zero_le _, Nat.zero_le _, rfl⟩ ?_
      rintro m vs S' hlen ⟨i, q, tasks, tv, tc, rfl, rfl, hto, hgt, hok, hei, htl, htok, hi60, hirs, rfl⟩
      obtain ⟨nt, At, capt, rfl, hnt⟩ := own_form hto (by decide)
      rw [ks_length, Nat.mul_one] at hnt
      subst hnt
      have hcapt := own_cap hto
      rw [← hgt]
      refine j_q (qs_lenl Try.underlying43 rfl) ?_
      refine j_q (qs_lss rfl rfl) ?_
      refine j_g rfl (fun hb => qs_mt rfl) ?_
      refine j_g rfl (fun hb => qs_lss (gd_eq hb) rfl) ?_
      refine j_q (qs_and rfl rfl) ?_
      refine j_cond rfl (fun hc2 => ?_) (fun hc2 => ?_)
      · skip
        have hi1 : i < rs.length ∧ i < 60 := by
          simp [gd] at hc2
          omega
        obtain ⟨hi1, hi2⟩ := hi1
        obtain ⟨rfl, hgs, hcl⟩ := hA (by omega)
        have hxo := script_ok h hi1
        refine j_q (qs_ixl Try.underlying43 sz52 rfl rfl (by first | omega | (simp only [Bool.and_eq_true, Bool.or_eq_true, Bool.and_eq_false_iff, Bool.or_eq_false_iff, Bool.not_eq_true', Bool.not_eq_false', decide_eq_true_eq, decide_eq_false_iff_not, beq_iff_eq, beq_eq_false_iff_ne, bne_iff_ne, bne_eq_false_iff_eq, ne_eq, Int.toNat_natCast] at *; omega)) (by first | omega | (simp only [Bool.and_eq_true, Bool.or_eq_true, Bool.and_eq_false_iff, Bool.or_eq_false_iff, Bool.not_eq_true', Bool.not_eq_false', decide_eq_true_eq, decide_eq_false_iff_not, beq_iff_eq, beq_eq_false_iff_ne, bne_iff_ne, bne_eq_false_iff_eq, ne_eq, Int.toNat_natCast] at *; omega))) ?_
        refine j_q (qs_field (g := g) (off := off + (i : Int).toNat * 4) Try.underlying52 rfl sz3 (by decide) (by rw [add_off]; rfl)) ?_
        refine j_q (qs_loadR (v := .int .i64 (rs.getD i St0).kind) (a := ⟨g, off, none⟩) (i := i * 4 + 0) (rd_cells hcl (by simp)) Try.underlying3 rfl (congrArg (fun a => Value.pointer (some a)) (off_field g off i 0)) (steps_get (by omega) rfl)) ?_
        refine j_q (qs_eql rfl rfl) ?_
        refine j_cond rfl (fun hc3 => ?_) (fun hc3 => ?_)
        · skip
          refine j_mix _ (.refl _) ?_
          refine j_mq (qs_ixl Try.underlying43 sz52 rfl rfl (by first | omega | (simp only [Bool.and_eq_true, Bool.or_eq_true, Bool.and_eq_false_iff, Bool.or_eq_false_iff, Bool.not_eq_true', Bool.not_eq_false', decide_eq_true_eq, decide_eq_false_iff_not, beq_iff_eq, beq_eq_false_iff_ne, bne_iff_ne, bne_eq_false_iff_eq, ne_eq, Int.toNat_natCast] at *; omega)) (by first | omega | (simp only [Bool.and_eq_true, Bool.or_eq_true, Bool.and_eq_false_iff, Bool.or_eq_false_iff, Bool.not_eq_true', Bool.not_eq_false', decide_eq_true_eq, decide_eq_false_iff_not, beq_iff_eq, beq_eq_false_iff_ne, bne_iff_ne, bne_eq_false_iff_eq, ne_eq, Int.toNat_natCast] at *; omega))) ?_
          refine j_mq (qs_field (g := g) (off := off + (i : Int).toNat * 4) Try.underlying52 rfl sz3 (by decide) (by rw [add_off]; rfl)) ?_
          refine j_mq (qs_loadR (v := .int .i64 (rs.getD i St0).task) (a := ⟨g, off, none⟩) (i := i * 4 + 1) (rd_cells hcl (by simp)) Try.underlying3 rfl (congrArg (fun a => Value.pointer (some a)) (off_field g off i 1)) (steps_get (by omega) rfl)) ?_
          refine j_mq (qs_ixl Try.underlying43 sz52 rfl rfl (by first | omega | (simp only [Bool.and_eq_true, Bool.or_eq_true, Bool.and_eq_false_iff, Bool.or_eq_false_iff, Bool.not_eq_true', Bool.not_eq_false', decide_eq_true_eq, decide_eq_false_iff_not, beq_iff_eq, beq_eq_false_iff_ne, bne_iff_ne, bne_eq_false_iff_eq, ne_eq, Int.toNat_natCast] at *; omega)) (by first | omega | (simp only [Bool.and_eq_true, Bool.or_eq_true, Bool.and_eq_false_iff, Bool.or_eq_false_iff, Bool.not_eq_true', Bool.not_eq_false', decide_eq_true_eq, decide_eq_false_iff_not, beq_iff_eq, beq_eq_false_iff_ne, bne_iff_ne, bne_eq_false_iff_eq, ne_eq, Int.toNat_natCast] at *; omega))) ?_
          refine j_mq (qs_field (g := g) (off := off + (i : Int).toNat * 4) Try.underlying52 rfl sz9 (by decide) (by rw [add_off]; rfl)) ?_
          refine j_mq (qs_loadR (v := .string (bs (rs.getD i St0).name)) (a := ⟨g, off, none⟩) (i := i * 4 + 2) (rd_cells hcl (by simp)) Try.underlying9 rfl (congrArg (fun a => Value.pointer (some a)) (off_field g off i 2)) (steps_get (by omega) rfl)) ?_
          refine j_mq (qs_ixl Try.underlying43 sz52 rfl rfl (by first | omega | (simp only [Bool.and_eq_true, Bool.or_eq_true, Bool.and_eq_false_iff, Bool.or_eq_false_iff, Bool.not_eq_true', Bool.not_eq_false', decide_eq_true_eq, decide_eq_false_iff_not, beq_iff_eq, beq_eq_false_iff_ne, bne_iff_ne, bne_eq_false_iff_eq, ne_eq, Int.toNat_natCast] at *; omega)) (by first | omega | (simp only [Bool.and_eq_true, Bool.or_eq_true, Bool.and_eq_false_iff, Bool.or_eq_false_iff, Bool.not_eq_true', Bool.not_eq_false', decide_eq_true_eq, decide_eq_false_iff_not, beq_iff_eq, beq_eq_false_iff_ne, bne_iff_ne, bne_eq_false_iff_eq, ne_eq, Int.toNat_natCast] at *; omega))) ?_
          refine j_mq (qs_field (g := g) (off := off + (i : Int).toNat * 4) Try.underlying52 rfl sz4 (by decide) (by rw [add_off]; rfl)) ?_
          refine j_mq (qs_loadR (v := .bool (rs.getD i St0).sh) (a := ⟨g, off, none⟩) (i := i * 4 + 3) (rd_cells hcl (by simp)) Try.underlying4 rfl (congrArg (fun a => Value.pointer (some a)) (off_field g off i 3)) (steps_get (by omega) rfl)) ?_
          refine j_call 0 ent24 rfl rfl rfl rfl (fun w' hw' => take_con i (by omega) q (rs.getD i St0).task (rs.getD i St0).name (rs.getD i St0).sh w' hok hxo.2.1 hxo.str) (fun u S2 hu => ?_)
          obtain ⟨p1, r1, e1, rfl, rfl, hgt1, hok1, hT1⟩ := hu
          refine j_subl (S' := [p1.heap, tc]) (by repeat first | exact List.Sublist.refl _ | exact List.nil_sublist _ | apply List.Sublist.cons_cons | apply List.Sublist.cons) ?_
          have hei1 : EI p1.at_ (addT tasks (rs.getD i St0).task) := by
            have h1 : p1.at_ = (takeF q.at_ (rs.getD i St0).task (rs.getD i St0).name (rs.getD i St0).sh).1 := by rw [← hT1]
            rw [h1]
            exact ei_take hei _ _ _
          refine j_mR _ (.refl _) ?_
          refine j_mend ?_
          refine j_q (qs_ixl Try.underlying43 sz52 rfl rfl (by first | omega | (simp only [Bool.and_eq_true, Bool.or_eq_true, Bool.and_eq_false_iff, Bool.or_eq_false_iff, Bool.not_eq_true', Bool.not_eq_false', decide_eq_true_eq, decide_eq_false_iff_not, beq_iff_eq, beq_eq_false_iff_ne, bne_iff_ne, bne_eq_false_iff_eq, ne_eq, Int.toNat_natCast] at *; omega)) (by first | omega | (simp only [Bool.and_eq_true, Bool.or_eq_true, Bool.and_eq_false_iff, Bool.or_eq_false_iff, Bool.not_eq_true', Bool.not_eq_false', decide_eq_true_eq, decide_eq_false_iff_not, beq_iff_eq, beq_eq_false_iff_ne, bne_iff_ne, bne_eq_false_iff_eq, ne_eq, Int.toNat_natCast] at *; omega))) ?_
          refine j_q (qs_field (g := g) (off := off + (i : Int).toNat * 4) Try.underlying52 rfl sz3 (by decide) (by rw [add_off]; rfl)) ?_
          refine j_q (qs_loadR (v := .int .i64 (rs.getD i St0).task) (a := ⟨g, off, none⟩) (i := i * 4 + 1) (rd_cells hcl (by simp)) Try.underlying3 rfl (congrArg (fun a => Value.pointer (some a)) (off_field g off i 1)) (steps_get (by omega) rfl)) ?_
          refine j_q (qs_geq rfl rfl) ?_
          refine j_g rfl (fun hb => qs_mt rfl) ?_
          refine j_g rfl (fun hb => qs_mt rfl) ?_
          refine j_g rfl (fun hb => qs_mt rfl) ?_
          refine j_g rfl (fun hb => qs_ixl Try.underlying43 sz52 (gd_eq hb) (gd_eq hb) (by first | omega | (simp only [Bool.and_eq_true, Bool.or_eq_true, Bool.and_eq_false_iff, Bool.or_eq_false_iff, Bool.not_eq_true', Bool.not_eq_false', decide_eq_true_eq, decide_eq_false_iff_not, beq_iff_eq, beq_eq_false_iff_ne, bne_iff_ne, bne_eq_false_iff_eq, ne_eq, Int.toNat_natCast] at *; omega)) (by first | omega | (simp only [Bool.and_eq_true, Bool.or_eq_true, Bool.and_eq_false_iff, Bool.or_eq_false_iff, Bool.not_eq_true', Bool.not_eq_false', decide_eq_true_eq, decide_eq_false_iff_not, beq_iff_eq, beq_eq_false_iff_ne, bne_iff_ne, bne_eq_false_iff_eq, ne_eq, Int.toNat_natCast] at *; omega))) ?_
          refine j_g rfl (fun hb => qs_field (g := g) (off := off + (i : Int).toNat * 4) Try.underlying52 rfl sz3 (by decide) ((gd_eq hb).trans (by rw [add_off]))) ?_
          refine j_g rfl (fun hb => qs_loadR (v := .int .i64 (rs.getD i St0).task) (a := ⟨g, off, none⟩) (i := i * 4 + 1) (rd_cells hcl (by simp)) Try.underlying3 rfl ((gd_eq hb).trans (congrArg (fun a => Value.pointer (some a)) (off_field g off i 1))) (steps_get (by omega) rfl)) ?_
          refine j_g rfl (fun hb => qs_call ent35 rfl rfl (args2 (gd_eq hb) (gd_eq hb)) (fun w' hw' => hasL_con tasks (rs.getD i St0).task _ w' (rsl_own hto 1 rfl hw') (by omega))) ?_
          refine j_g rfl (fun hb => qs_not (gd_eq hb)) ?_
          refine j_q (qs_and rfl rfl) ?_
          refine j_cond rfl (fun hc4 => ?_) (fun hc4 => ?_)
          · skip
            have hnew : 0 ≤ (rs.getD i St0).task ∧ hasI tasks (rs.getD i St0).task = false := by
              simp only [Bool.and_eq_true, decide_eq_true_eq, Bool.not_eq_true'] at hc4
              exact hc4
            rw [ks_addT hnew] at hei1
            refine j_q (qs_ixl Try.underlying43 sz52 rfl rfl (by first | omega | (simp only [Bool.and_eq_true, Bool.or_eq_true, Bool.and_eq_false_iff, Bool.or_eq_false_iff, Bool.not_eq_true', Bool.not_eq_false', decide_eq_true_eq, decide_eq_false_iff_not, beq_iff_eq, beq_eq_false_iff_ne, bne_iff_ne, bne_eq_false_iff_eq, ne_eq, Int.toNat_natCast] at *; omega)) (by first | omega | (simp only [Bool.and_eq_true, Bool.or_eq_true, Bool.and_eq_false_iff, Bool.or_eq_false_iff, Bool.not_eq_true', Bool.not_eq_false', decide_eq_true_eq, decide_eq_false_iff_not, beq_iff_eq, beq_eq_false_iff_ne, bne_iff_ne, bne_eq_false_iff_eq, ne_eq, Int.toNat_natCast] at *; omega))) ?_
            refine j_q (qs_field (g := g) (off := off + (i : Int).toNat * 4) Try.underlying52 rfl sz3 (by decide) (by rw [add_off]; rfl)) ?_
            refine j_q (qs_loadR (v := .int .i64 (rs.getD i St0).task) (a := ⟨g, off, none⟩) (i := i * 4 + 1) (rd_cells hcl (by simp)) Try.underlying3 rfl (congrArg (fun a => Value.pointer (some a)) (off_field g off i 1)) (steps_get (by omega) rfl)) ?_
            refine j_lit (vs := [.int .i64 _]) Try.underlying36 sz3 zero3 rfl (by simp [oneV]) ⟨rfl, by decide⟩ (fun g47 v47 c47 hv47 hc47 ho47 => ?_)
            subst hv47 hc47
            refine j_append 2 Try.underlying36 Try.underlying36 (.inr ⟨_, rfl⟩) sb3 zero3 rfl hto rfl (.inl ⟨_, _, rfl, own_rd ho47 0 rfl, rfl⟩) (by intro u hu; rw [List.mem_singleton] at hu; rw [hu]; rfl) ⟨(by simp only [ks_length, List.length_singleton]; omega), (by decide)⟩ (fun v48 c48 ho48 => ?_)
            have hto48 : Sx.Own 3 1 (ks .i64 (tasks ++ [(rs.getD i St0).task])) v48 c48 := by
              have e : ks .i64 (tasks ++ [(rs.getD i St0).task]) = ks .i64 tasks ++ [Value.int .i64 (rs.getD i St0).task] := by simp [ks]
              rw [e]
              exact ho48
            refine j_subl (S' := [p1.heap, c48]) (by repeat first | exact List.Sublist.refl _ | exact List.nil_sublist _ | apply List.Sublist.cons_cons | apply List.Sublist.cons) ?_
            refine j_q (qs_add64 rfl rfl (by first | omega | (simp only [Bool.and_eq_true, Bool.or_eq_true, Bool.and_eq_false_iff, Bool.or_eq_false_iff, Bool.not_eq_true', Bool.not_eq_false', decide_eq_true_eq, decide_eq_false_iff_not, beq_iff_eq, beq_eq_false_iff_ne, bne_iff_ne, bne_eq_false_iff_eq, ne_eq, Int.toNat_natCast] at *; omega))) ?_
            refine j_back rfl ?_
            exact ⟨60 - (i + 1), by omega, i + 1, p1, tasks ++ [(rs.getD i St0).task], _, c48, rfl, rfl, hto48, hgt1, hok1, hei1, by rw [List.length_append, List.length_singleton]; omega, fun t ht => by
              rcases List.mem_append.1 ht with ht | ht
              · exact htok t ht
              · rw [List.mem_singleton.1 ht]; exact hxo.2.1, by omega, by omega, rfl⟩
          · skip
            have hnew : ¬ (0 ≤ (rs.getD i St0).task ∧ hasI tasks (rs.getD i St0).task = false) := by
              simp only [Bool.and_eq_false_iff, decide_eq_false_iff_not, Bool.not_eq_false'] at hc4
              rintro ⟨h0, hh⟩
              rcases hc4 with h | h
              · exact h h0
              · rw [hh] at h; cases h
            rw [ks_addT0 hnew] at hei1
            refine j_q (qs_add64 rfl rfl (by first | omega | (simp only [Bool.and_eq_true, Bool.or_eq_true, Bool.and_eq_false_iff, Bool.or_eq_false_iff, Bool.not_eq_true', Bool.not_eq_false', decide_eq_true_eq, decide_eq_false_iff_not, beq_iff_eq, beq_eq_false_iff_ne, bne_iff_ne, bne_eq_false_iff_eq, ne_eq, Int.toNat_natCast] at *; omega))) ?_
            refine j_back rfl ?_
            exact ⟨60 - (i + 1), by omega, i + 1, p1, tasks, _, tc, rfl, rfl, hto, hgt1, hok1, hei1, by omega, htok, by omega, by omega, rfl⟩
        · skip
          refine j_q (qs_add64 rfl rfl (by first | omega | (simp only [Bool.and_eq_true, Bool.or_eq_true, Bool.and_eq_false_iff, Bool.or_eq_false_iff, Bool.not_eq_true', Bool.not_eq_false', decide_eq_true_eq, decide_eq_false_iff_not, beq_iff_eq, beq_eq_false_iff_ne, bne_iff_ne, bne_eq_false_iff_eq, ne_eq, Int.toNat_natCast] at *; omega))) ?_
          refine j_back rfl ?_
          exact ⟨60 - (i + 1), by omega, i + 1, q, tasks, _, tc, rfl, rfl, hto, rfl, hok.up (by omega), hei, by omega, htok, by omega, by omega, rfl⟩
      · skip
        refine j_q (qs_ac) ?_
        refine j_loop (fun m vs S' => ∃ (round : Nat) (p : PT) (tasks : List Int) (tv : Value) (tc : SH), vs = [tv, .int .i64 (round : Int)] ∧ S' = [p.heap, tc] ∧ Sx.Own 3 1 (ks .i64 tasks) tv tc ∧ p.gt = q.gt ∧ p.Ok 60 ∧ EI p.at_ tasks ∧ Rounds p.at_ tasks round ∧ (∀ t ∈ tasks, intOk t) ∧ round ≤ 4000 ∧ m = 4000 - round) ⟨_, 0, q, tasks, _, tc, rfl, rfl, hto, rfl, hok.up hi60, hei, ⟨by omega, .inl (by omega)⟩, htok, by omega, rfl⟩ ?_
        rintro m vs S' hlen ⟨round, p, tasks, tv, tc, rfl, rfl, hto, hgt, hok, hei, hrds, htok, hr4, rfl⟩
        obtain ⟨nt, At, capt, rfl, hnt⟩ := own_form hto (by decide)
        rw [ks_length, Nat.mul_one] at hnt
        subst hnt
        have hcapt := own_cap hto
        rw [← hgt]
        refine j_q (qs_lenl Try.underlying36 rfl) ?_
        refine j_q (qs_gtr rfl rfl) ?_
        refine j_g rfl (fun hb => qs_mt rfl) ?_
        refine j_g rfl (fun hb => qs_lss (gd_eq hb) rfl) ?_
        refine j_q (qs_and rfl rfl) ?_
        refine j_cond rfl (fun hc5 => ?_) (fun hc5 => ?_)
        · skip
          have hr1 : 0 < tasks.length ∧ round < 4000 := by
            simp [gd] at hc5
            omega
          obtain ⟨hr0, hr1⟩ := hr1
          obtain ⟨gq, rfl⟩ := own_addr hto (by rw [ks_length]; omega)
          have hr60 := hrds.1
          refine j_q (qs_lenl Try.underlying36 rfl) ?_
          refine j_q (qs_rem64 rfl rfl (by first | omega | (simp only [Bool.and_eq_true, Bool.or_eq_true, Bool.and_eq_false_iff, Bool.or_eq_false_iff, Bool.not_eq_true', Bool.not_eq_false', decide_eq_true_eq, decide_eq_false_iff_not, beq_iff_eq, beq_eq_false_iff_ne, bne_iff_ne, bne_eq_false_iff_eq, ne_eq, Int.toNat_natCast] at *; omega)) (by first | omega | (simp only [Bool.and_eq_true, Bool.or_eq_true, Bool.and_eq_false_iff, Bool.or_eq_false_iff, Bool.not_eq_true', Bool.not_eq_false', decide_eq_true_eq, decide_eq_false_iff_not, beq_iff_eq, beq_eq_false_iff_ne, bne_iff_ne, bne_eq_false_iff_eq, ne_eq, Int.toNat_natCast] at *; omega))) ?_
          refine j_q (qs_lenl Try.underlying36 rfl) ?_
          refine j_q (qs_lss rfl rfl) ?_
          refine j_cond rfl (fun hc6 => ?_) (fun hc6 => ?_)
          · skip
            have hrl : round < ord.length := by
              simp only [Bool.and_eq_true, Bool.or_eq_true, Bool.and_eq_false_iff, Bool.or_eq_false_iff, Bool.not_eq_true', Bool.not_eq_false', decide_eq_true_eq, decide_eq_false_iff_not, beq_iff_eq, beq_eq_false_iff_ne, bne_iff_ne, bne_eq_false_iff_eq, ne_eq, Int.toNat_natCast] at *
              omega
            obtain ⟨g1, o1, rfl, _, hco1⟩ := rsl_addr ho (by rw [ks_length]; omega)
            refine j_q (qs_ixl0 Try.underlying36 sz3 rfl rfl (by omega)) ?_
            refine j_q (qs_loadrk (rd_cells hco1 (by simp)) Try.underlying3 rfl (by simp only [Int.toNat_natCast]; omega)) ?_
            simp only [Int.toNat_natCast]
            have hbw := bw65535 (ord.getD round 0)
            refine j_q (qs_and_ rfl rfl) ?_
            refine j_q (qs_lenl Try.underlying36 rfl) ?_
            refine j_q (qs_rem64 rfl rfl (by first | omega | (simp only [Bool.and_eq_true, Bool.or_eq_true, Bool.and_eq_false_iff, Bool.or_eq_false_iff, Bool.not_eq_true', Bool.not_eq_false', decide_eq_true_eq, decide_eq_false_iff_not, beq_iff_eq, beq_eq_false_iff_ne, bne_iff_ne, bne_eq_false_iff_eq, ne_eq, Int.toNat_natCast] at *; omega)) (by first | omega | (simp only [Bool.and_eq_true, Bool.or_eq_true, Bool.and_eq_false_iff, Bool.or_eq_false_iff, Bool.not_eq_true', Bool.not_eq_false', decide_eq_true_eq, decide_eq_false_iff_not, beq_iff_eq, beq_eq_false_iff_ne, bne_iff_ne, bne_eq_false_iff_eq, ne_eq, Int.toNat_natCast] at *; omega))) ?_
            obtain ⟨k, hkv, hkl, hkr⟩ : ∃ k : Nat, bw .and .i64 (ord.getD round 0) 65535 % (tasks.length : Int) = (k : Int) ∧ k < tasks.length ∧ (400 ≤ round → k = round % tasks.length) := ⟨(bw .and .i64 (ord.getD round 0) 65535 % (tasks.length : Int)).toNat, by have := Int.emod_nonneg (bw .and .i64 (ord.getD round 0) 65535) (show (tasks.length : Int) ≠ 0 by omega); omega, by have h1 := Int.emod_lt_of_pos (bw .and .i64 (ord.getD round 0) 65535) (show (0 : Int) < tasks.length by omega); have h2 := Int.emod_nonneg (bw .and .i64 (ord.getD round 0) 65535) (show (tasks.length : Int) ≠ 0 by omega); omega, fun h => by omega⟩
            rw [hkv]
            have htk : intOk (tasks.getD k 0) := htok _ (getD_mem hkl)
            refine j_q (qs_ixl0 Try.underlying36 sz3 rfl rfl (by omega)) ?_
            rw [Int.toNat_natCast]
            refine j_q (qs_loadrk (i := k) (own_rd hto 1 rfl) Try.underlying3 rfl hkl) ?_
            refine j_q (qs_call ent31 rfl rfl rfl (fun w' hw' => waits_con 60 p (tasks.getD k 0) w' (in_own hw' 0 rfl) hok htk)) ?_
            refine j_q (qs_ext (vs := [.string (bs ((alook p.wm (tasks.getD k 0)).getD [])), .bool (alook p.wm (tasks.getD k 0)).isSome]) rfl rfl) ?_
            refine j_q (qs_ext (vs := [.string (bs ((alook p.wm (tasks.getD k 0)).getD [])), .bool (alook p.wm (tasks.getD k 0)).isSome]) rfl rfl) ?_
            refine j_cond rfl (fun hc7 => ?_) (fun hc7 => ?_)
            · skip
              have hwaits : (alook p.at_.wm (tasks.getD k 0)).isSome = true := hc7
              refine j_q (qs_add64 rfl rfl (by first | omega | (simp only [Bool.and_eq_true, Bool.or_eq_true, Bool.and_eq_false_iff, Bool.or_eq_false_iff, Bool.not_eq_true', Bool.not_eq_false', decide_eq_true_eq, decide_eq_false_iff_not, beq_iff_eq, beq_eq_false_iff_ne, bne_iff_ne, bne_eq_false_iff_eq, ne_eq, Int.toNat_natCast] at *; omega))) ?_
              refine j_back rfl ?_
              exact ⟨4000 - (round + 1), by omega, round + 1, p, tasks, _, tc, rfl, rfl, hto, rfl, hok, hei, rounds_wait hrds (getD_get hkl) hkr hwaits, htok, by omega, rfl⟩
            · skip
              have hwaits : (alook p.at_.wm (tasks.getD k 0)).isSome = false := hc7
              refine j_q (qs_ixl0 Try.underlying36 sz3 rfl rfl (by omega)) ?_
              rw [Int.toNat_natCast]
              refine j_q (qs_loadrk (i := k) (own_rd hto 1 rfl) Try.underlying3 rfl hkl) ?_
              refine j_call 0 ent29 rfl rfl rfl rfl (fun w' hw' => leave_con 60 (by decide) p (tasks.getD k 0) w' hok htk) (fun u S2 hu => ?_)
              obtain ⟨p1, out1, oc1, rfl, ho1, hgt1, hok1, hL1⟩ := hu
              refine j_subl (S' := [p1.heap, tc]) (by repeat first | exact List.Sublist.refl _ | exact List.nil_sublist _ | apply List.Sublist.cons_cons | apply List.Sublist.cons) ?_
              refine j_mix _ (.refl _) ?_
              refine j_mq (qs_cutl  Try.underlying36 sz3 rfl rfl ⟨_, rfl⟩ (by first | omega | (simp only [Bool.and_eq_true, Bool.or_eq_true, Bool.and_eq_false_iff, Bool.or_eq_false_iff, Bool.not_eq_true', Bool.not_eq_false', decide_eq_true_eq, decide_eq_false_iff_not, beq_iff_eq, beq_eq_false_iff_ne, bne_iff_ne, bne_eq_false_iff_eq, ne_eq, Int.toNat_natCast] at *; omega)) (by first | omega | (simp only [Bool.and_eq_true, Bool.or_eq_true, Bool.and_eq_false_iff, Bool.or_eq_false_iff, Bool.not_eq_true', Bool.not_eq_false', decide_eq_true_eq, decide_eq_false_iff_not, beq_iff_eq, beq_eq_false_iff_ne, bne_iff_ne, bne_eq_false_iff_eq, ne_eq, Int.toNat_natCast] at *; omega))) ?_
              refine j_mq (qs_add64 rfl rfl (by first | omega | (simp only [Bool.and_eq_true, Bool.or_eq_true, Bool.and_eq_false_iff, Bool.or_eq_false_iff, Bool.not_eq_true', Bool.not_eq_false', decide_eq_true_eq, decide_eq_false_iff_not, beq_iff_eq, beq_eq_false_iff_ne, bne_iff_ne, bne_eq_false_iff_eq, ne_eq, Int.toNat_natCast] at *; omega))) ?_
              refine j_mq (qs_cutl  Try.underlying36 sz3 rfl ⟨_, rfl⟩ rfl (by first | omega | (simp only [Bool.and_eq_true, Bool.or_eq_true, Bool.and_eq_false_iff, Bool.or_eq_false_iff, Bool.not_eq_true', Bool.not_eq_false', decide_eq_true_eq, decide_eq_false_iff_not, beq_iff_eq, beq_eq_false_iff_ne, bne_iff_ne, bne_eq_false_iff_eq, ne_eq, Int.toNat_natCast] at *; omega)) (by first | omega | (simp only [Bool.and_eq_true, Bool.or_eq_true, Bool.and_eq_false_iff, Bool.or_eq_false_iff, Bool.not_eq_true', Bool.not_eq_false', decide_eq_true_eq, decide_eq_false_iff_not, beq_iff_eq, beq_eq_false_iff_ne, bne_iff_ne, bne_eq_false_iff_eq, ne_eq, Int.toNat_natCast] at *; omega))) ?_
              refine j_lit (vs := []) Try.underlying36 sz3 zero3 rfl (by simp [oneV]) ⟨rfl, by decide⟩ (fun g79 v79 c79 hv79 hc79 ho79 => ?_)
              subst hv79 hc79
              refine j_mD0 (Le.of_sub (by repeat first | exact List.Sublist.refl _ | exact List.nil_sublist _ | apply List.Sublist.cons_cons | apply List.Sublist.cons)) ?_
              refine j_append 0 Try.underlying36 Try.underlying36 (.inr ⟨_, rfl⟩) sb3 zero3 rfl ho79 rfl (src_cut hto 2 rfl (Nat.zero_le _) (by omega)) (fun u hu => ks_one u (by rw [List.drop_zero] at hu; exact List.mem_of_mem_take hu)) ⟨(by simp [ks_length]; omega), (by decide)⟩ (fun v80 c80 ho80 => ?_)
              refine j_mD0 (Le.of_sub (by repeat first | exact List.Sublist.refl _ | exact List.nil_sublist _ | apply List.Sublist.cons_cons | apply List.Sublist.cons)) ?_
              refine j_append 0 Try.underlying36 Try.underlying36 (.inr ⟨_, rfl⟩) sb3 zero3 rfl ho80 rfl (src_cut hto 2 rfl (show k + 1 ≤ tasks.length by omega) (Nat.le_refl _)) (fun u hu => ks_one u (List.mem_of_mem_take (List.mem_of_mem_drop hu))) ⟨(by simp [ks_length]; omega), (by decide)⟩ (fun v81 c81 ho81 => ?_)
              refine j_perm (S' := [p1.heap, c81, tc]) (by show ([c81, p1.heap, tc] : List SH).flatten.Perm _; simpa [← List.append_assoc] using (List.perm_append_comm (l₁ := c81) (l₂ := p1.heap)).append_right tc) ?_
              refine j_subl (S' := [p1.heap, c81]) (by repeat first | exact List.Sublist.refl _ | exact List.nil_sublist _ | apply List.Sublist.cons_cons | apply List.Sublist.cons) ?_
              refine j_mR _ (.refl _) ?_
              refine j_mend ?_
              refine j_q (qs_add64 rfl rfl (by first | omega | (simp only [Bool.and_eq_true, Bool.or_eq_true, Bool.and_eq_false_iff, Bool.or_eq_false_iff, Bool.not_eq_true', Bool.not_eq_false', decide_eq_true_eq, decide_eq_false_iff_not, beq_iff_eq, beq_eq_false_iff_ne, bne_iff_ne, bne_eq_false_iff_eq, ne_eq, Int.toNat_natCast] at *; omega))) ?_
              refine j_back rfl ?_
              have htl' : (ks .i64 tasks).length = tasks.length := ks_length _ _
              have hto' : Sx.Own 3 1 (ks .i64 (tasks.take k ++ tasks.drop (k + 1))) v81 c81 := by
                have e : ks .i64 (tasks.take k ++ tasks.drop (k + 1)) = ([] ++ (((ks .i64 tasks).take k).drop 0)) ++ (((ks .i64 tasks).take tasks.length).drop (k + 1)) := by
                  have e2 : (ks .i64 tasks).take tasks.length = ks .i64 tasks := List.take_of_length_le (by rw [htl']; exact Nat.le_refl _)
                  rw [List.nil_append, List.drop_zero, e2]
                  unfold ks
                  rw [List.map_append, List.map_take, List.map_drop]
                rw [e]
                exact ho81
              have hLw : alook p.at_.wm (tasks.getD k 0) = none := by simpa using hwaits
              have hAt1 : p1.at_ = (leaveF p.at_ (tasks.getD k 0)).1 := by rw [← hL1]
              exact ⟨4000 - (round + 1), by omega, round + 1, p1, tasks.take k ++ tasks.drop (k + 1), _, c81, rfl, rfl, hto', hgt1, hok1, by rw [hAt1]; exact ei_leave hei (getD_get hkl) hLw, rounds_leave hei hrds (getD_get hkl), fun t ht => htok t (by
                rcases List.mem_append.1 ht with h | h
                · exact List.mem_of_mem_take h
                · exact List.mem_of_mem_drop h), by omega, rfl⟩
          · skip
            have hrl : ord.length ≤ round := by
              simp only [Bool.and_eq_true, Bool.or_eq_true, Bool.and_eq_false_iff, Bool.or_eq_false_iff, Bool.not_eq_true', Bool.not_eq_false', decide_eq_true_eq, decide_eq_false_iff_not, beq_iff_eq, beq_eq_false_iff_ne, bne_iff_ne, bne_eq_false_iff_eq, ne_eq, Int.toNat_natCast] at *
              omega
            obtain ⟨k, hkv, hkl, hkr⟩ : ∃ k : Nat, (round : Int) % (tasks.length : Int) = (k : Int) ∧ k < tasks.length ∧ (400 ≤ round → k = round % tasks.length) := ⟨round % tasks.length, by omega, Nat.mod_lt _ (by omega), fun _ => rfl⟩
            rw [hkv]
            have htk : intOk (tasks.getD k 0) := htok _ (getD_mem hkl)
            refine j_q (qs_ixl0 Try.underlying36 sz3 rfl rfl (by omega)) ?_
            rw [Int.toNat_natCast]
            refine j_q (qs_loadrk (i := k) (own_rd hto 1 rfl) Try.underlying3 rfl hkl) ?_
            refine j_q (qs_call ent31 rfl rfl rfl (fun w' hw' => waits_con 60 p (tasks.getD k 0) w' (in_own hw' 0 rfl) hok htk)) ?_
            refine j_q (qs_ext (vs := [.string (bs ((alook p.wm (tasks.getD k 0)).getD [])), .bool (alook p.wm (tasks.getD k 0)).isSome]) rfl rfl) ?_
            refine j_q (qs_ext (vs := [.string (bs ((alook p.wm (tasks.getD k 0)).getD [])), .bool (alook p.wm (tasks.getD k 0)).isSome]) rfl rfl) ?_
            refine j_cond rfl (fun hc8 => ?_) (fun hc8 => ?_)
            · skip
              have hwaits : (alook p.at_.wm (tasks.getD k 0)).isSome = true := hc8
              refine j_q (qs_add64 rfl rfl (by first | omega | (simp only [Bool.and_eq_true, Bool.or_eq_true, Bool.and_eq_false_iff, Bool.or_eq_false_iff, Bool.not_eq_true', Bool.not_eq_false', decide_eq_true_eq, decide_eq_false_iff_not, beq_iff_eq, beq_eq_false_iff_ne, bne_iff_ne, bne_eq_false_iff_eq, ne_eq, Int.toNat_natCast] at *; omega))) ?_
              refine j_back rfl ?_
              exact ⟨4000 - (round + 1), by omega, round + 1, p, tasks, _, tc, rfl, rfl, hto, rfl, hok, hei, rounds_wait hrds (getD_get hkl) hkr hwaits, htok, by omega, rfl⟩
            · skip
              have hwaits : (alook p.at_.wm (tasks.getD k 0)).isSome = false := hc8
              refine j_q (qs_ixl0 Try.underlying36 sz3 rfl rfl (by omega)) ?_
              rw [Int.toNat_natCast]
              refine j_q (qs_loadrk (i := k) (own_rd hto 1 rfl) Try.underlying3 rfl hkl) ?_
              refine j_call 0 ent29 rfl rfl rfl rfl (fun w' hw' => leave_con 60 (by decide) p (tasks.getD k 0) w' hok htk) (fun u S2 hu => ?_)
              obtain ⟨p1, out1, oc1, rfl, ho1, hgt1, hok1, hL1⟩ := hu
              refine j_subl (S' := [p1.heap, tc]) (by repeat first | exact List.Sublist.refl _ | exact List.nil_sublist _ | apply List.Sublist.cons_cons | apply List.Sublist.cons) ?_
              refine j_mix _ (.refl _) ?_
              refine j_mq (qs_cutl  Try.underlying36 sz3 rfl rfl ⟨_, rfl⟩ (by first | omega | (simp only [Bool.and_eq_true, Bool.or_eq_true, Bool.and_eq_false_iff, Bool.or_eq_false_iff, Bool.not_eq_true', Bool.not_eq_false', decide_eq_true_eq, decide_eq_false_iff_not, beq_iff_eq, beq_eq_false_iff_ne, bne_iff_ne, bne_eq_false_iff_eq, ne_eq, Int.toNat_natCast] at *; omega)) (by first | omega | (simp only [Bool.and_eq_true, Bool.or_eq_true, Bool.and_eq_false_iff, Bool.or_eq_false_iff, Bool.not_eq_true', Bool.not_eq_false', decide_eq_true_eq, decide_eq_false_iff_not, beq_iff_eq, beq_eq_false_iff_ne, bne_iff_ne, bne_eq_false_iff_eq, ne_eq, Int.toNat_natCast] at *; omega))) ?_
              refine j_mq (qs_add64 rfl rfl (by first | omega | (simp only [Bool.and_eq_true, Bool.or_eq_true, Bool.and_eq_false_iff, Bool.or_eq_false_iff, Bool.not_eq_true', Bool.not_eq_false', decide_eq_true_eq, decide_eq_false_iff_not, beq_iff_eq, beq_eq_false_iff_ne, bne_iff_ne, bne_eq_false_iff_eq, ne_eq, Int.toNat_natCast] at *; omega))) ?_
              refine j_mq (qs_cutl  Try.underlying36 sz3 rfl ⟨_, rfl⟩ rfl (by first | omega | (simp only [Bool.and_eq_true, Bool.or_eq_true, Bool.and_eq_false_iff, Bool.or_eq_false_iff, Bool.not_eq_true', Bool.not_eq_false', decide_eq_true_eq, decide_eq_false_iff_not, beq_iff_eq, beq_eq_false_iff_ne, bne_iff_ne, bne_eq_false_iff_eq, ne_eq, Int.toNat_natCast] at *; omega)) (by first | omega | (simp only [Bool.and_eq_true, Bool.or_eq_true, Bool.and_eq_false_iff, Bool.or_eq_false_iff, Bool.not_eq_true', Bool.not_eq_false', decide_eq_true_eq, decide_eq_false_iff_not, beq_iff_eq, beq_eq_false_iff_ne, bne_iff_ne, bne_eq_false_iff_eq, ne_eq, Int.toNat_natCast] at *; omega))) ?_
              refine j_lit (vs := []) Try.underlying36 sz3 zero3 rfl (by simp [oneV]) ⟨rfl, by decide⟩ (fun g95 v95 c95 hv95 hc95 ho95 => ?_)
              subst hv95 hc95
              refine j_mD0 (Le.of_sub (by repeat first | exact List.Sublist.refl _ | exact List.nil_sublist _ | apply List.Sublist.cons_cons | apply List.Sublist.cons)) ?_
              refine j_append 0 Try.underlying36 Try.underlying36 (.inr ⟨_, rfl⟩) sb3 zero3 rfl ho95 rfl (src_cut hto 2 rfl (Nat.zero_le _) (by omega)) (fun u hu => ks_one u (by rw [List.drop_zero] at hu; exact List.mem_of_mem_take hu)) ⟨(by simp [ks_length]; omega), (by decide)⟩ (fun v96 c96 ho96 => ?_)
              refine j_mD0 (Le.of_sub (by repeat first | exact List.Sublist.refl _ | exact List.nil_sublist _ | apply List.Sublist.cons_cons | apply List.Sublist.cons)) ?_
              refine j_append 0 Try.underlying36 Try.underlying36 (.inr ⟨_, rfl⟩) sb3 zero3 rfl ho96 rfl (src_cut hto 2 rfl (show k + 1 ≤ tasks.length by omega) (Nat.le_refl _)) (fun u hu => ks_one u (List.mem_of_mem_take (List.mem_of_mem_drop hu))) ⟨(by simp [ks_length]; omega), (by decide)⟩ (fun v97 c97 ho97 => ?_)
              refine j_perm (S' := [p1.heap, c97, tc]) (by show ([c97, p1.heap, tc] : List SH).flatten.Perm _; simpa [← List.append_assoc] using (List.perm_append_comm (l₁ := c97) (l₂ := p1.heap)).append_right tc) ?_
              refine j_subl (S' := [p1.heap, c97]) (by repeat first | exact List.Sublist.refl _ | exact List.nil_sublist _ | apply List.Sublist.cons_cons | apply List.Sublist.cons) ?_
              refine j_mR _ (.refl _) ?_
              refine j_mend ?_
              refine j_q (qs_add64 rfl rfl (by first | omega | (simp only [Bool.and_eq_true, Bool.or_eq_true, Bool.and_eq_false_iff, Bool.or_eq_false_iff, Bool.not_eq_true', Bool.not_eq_false', decide_eq_true_eq, decide_eq_false_iff_not, beq_iff_eq, beq_eq_false_iff_ne, bne_iff_ne, bne_eq_false_iff_eq, ne_eq, Int.toNat_natCast] at *; omega))) ?_
              refine j_back rfl ?_
              have htl' : (ks .i64 tasks).length = tasks.length := ks_length _ _
              have hto' : Sx.Own 3 1 (ks .i64 (tasks.take k ++ tasks.drop (k + 1))) v97 c97 := by
                have e : ks .i64 (tasks.take k ++ tasks.drop (k + 1)) = ([] ++ (((ks .i64 tasks).take k).drop 0)) ++ (((ks .i64 tasks).take tasks.length).drop (k + 1)) := by
                  have e2 : (ks .i64 tasks).take tasks.length = ks .i64 tasks := List.take_of_length_le (by rw [htl']; exact Nat.le_refl _)
                  rw [List.nil_append, List.drop_zero, e2]
                  unfold ks
                  rw [List.map_append, List.map_take, List.map_drop]
                rw [e]
                exact ho97
              have hLw : alook p.at_.wm (tasks.getD k 0) = none := by simpa using hwaits
              have hAt1 : p1.at_ = (leaveF p.at_ (tasks.getD k 0)).1 := by rw [← hL1]
              exact ⟨4000 - (round + 1), by omega, round + 1, p1, tasks.take k ++ tasks.drop (k + 1), _, c97, rfl, rfl, hto', hgt1, hok1, by rw [hAt1]; exact ei_leave hei (getD_get hkl) hLw, rounds_leave hei hrds (getD_get hkl), fun t ht => htok t (by
                rcases List.mem_append.1 ht with h | h
                · exact List.mem_of_mem_take h
                · exact List.mem_of_mem_drop h), by omega, rfl⟩
        · skip
          obtain rfl : tasks = [] := by
            refine Classical.byContradiction fun hne => ?_
            have h1 := rounds_lt hei hrds hne
            have h2 := List.length_pos_iff.2 hne
            simp [gd] at hc5
            omega
          refine j_q (qs_ac) ?_
          refine j_loop (fun m vs S' => ∃ i : Nat, vs = [.int .i64 (i : Int)] ∧ S' = [p.heap, tc] ∧ i ≤ rs.length ∧ i ≤ 60 ∧ m = 60 - i) ⟨_, 0, rfl, rfl, Nat.zero_le _, Nat.zero_le _, rfl⟩ ?_
          rintro m vs S' hlen ⟨i, rfl, rfl, hirs, hi60, rfl⟩
          refine j_q (qs_lenl Try.underlying43 rfl) ?_
          refine j_q (qs_lss rfl rfl) ?_
          refine j_g rfl (fun hb => qs_mt rfl) ?_
          refine j_g rfl (fun hb => qs_lss (gd_eq hb) rfl) ?_
          refine j_q (qs_and rfl rfl) ?_
          refine j_cond rfl (fun hc9 => ?_) (fun hc9 => ?_)
          · skip
            have hi1 : i < rs.length ∧ i < 60 := by
              simp [gd] at hc9
              omega
            obtain ⟨hi1, hi2⟩ := hi1
            obtain ⟨rfl, hgs, hcl⟩ := hA (by omega)
            have hxo := script_ok h hi1
            refine j_mix _ (.refl _) ?_
            refine j_mq (qs_ixl Try.underlying43 sz52 rfl rfl (by first | omega | (simp only [Bool.and_eq_true, Bool.or_eq_true, Bool.and_eq_false_iff, Bool.or_eq_false_iff, Bool.not_eq_true', Bool.not_eq_false', decide_eq_true_eq, decide_eq_false_iff_not, beq_iff_eq, beq_eq_false_iff_ne, bne_iff_ne, bne_eq_false_iff_eq, ne_eq, Int.toNat_natCast] at *; omega)) (by first | omega | (simp only [Bool.and_eq_true, Bool.or_eq_true, Bool.and_eq_false_iff, Bool.or_eq_false_iff, Bool.not_eq_true', Bool.not_eq_false', decide_eq_true_eq, decide_eq_false_iff_not, beq_iff_eq, beq_eq_false_iff_ne, bne_iff_ne, bne_eq_false_iff_eq, ne_eq, Int.toNat_natCast] at *; omega))) ?_
            refine j_mq (qs_field (g := g) (off := off + (i : Int).toNat * 4) Try.underlying52 rfl sz3 (by decide) (by rw [add_off]; rfl)) ?_
            refine j_mq (qs_loadR (v := .int .i64 (rs.getD i St0).task) (a := ⟨g, off, none⟩) (i := i * 4 + 1) (rd_cells hcl (by simp)) Try.underlying3 rfl (congrArg (fun a => Value.pointer (some a)) (off_field g off i 1)) (steps_get (by omega) rfl)) ?_
            refine j_mq (qs_ixl Try.underlying43 sz52 rfl rfl (by first | omega | (simp only [Bool.and_eq_true, Bool.or_eq_true, Bool.and_eq_false_iff, Bool.or_eq_false_iff, Bool.not_eq_true', Bool.not_eq_false', decide_eq_true_eq, decide_eq_false_iff_not, beq_iff_eq, beq_eq_false_iff_ne, bne_iff_ne, bne_eq_false_iff_eq, ne_eq, Int.toNat_natCast] at *; omega)) (by first | omega | (simp only [Bool.and_eq_true, Bool.or_eq_true, Bool.and_eq_false_iff, Bool.or_eq_false_iff, Bool.not_eq_true', Bool.not_eq_false', decide_eq_true_eq, decide_eq_false_iff_not, beq_iff_eq, beq_eq_false_iff_ne, bne_iff_ne, bne_eq_false_iff_eq, ne_eq, Int.toNat_natCast] at *; omega))) ?_
            refine j_mq (qs_field (g := g) (off := off + (i : Int).toNat * 4) Try.underlying52 rfl sz9 (by decide) (by rw [add_off]; rfl)) ?_
            refine j_mq (qs_loadR (v := .string (bs (rs.getD i St0).name)) (a := ⟨g, off, none⟩) (i := i * 4 + 2) (rd_cells hcl (by simp)) Try.underlying9 rfl (congrArg (fun a => Value.pointer (some a)) (off_field g off i 2)) (steps_get (by omega) rfl)) ?_
            refine j_q (qs_call ent33 rfl rfl rfl (fun w' hw' => holds2_con 60 p (rs.getD i St0).task (rs.getD i St0).name w' (in_own hw' 0 rfl) hok hxo.2.1 hxo.str)) ?_
            refine j_mR _ (.refl _) ?_
            refine j_mend ?_
            refine j_cond rfl (fun hc10 => ?_) (fun hc10 => ?_)
            · skip
              rw [ei_none hei] at hc10
              cases hc10
            · skip
              refine j_q (qs_add64 rfl rfl (by first | omega | (simp only [Bool.and_eq_true, Bool.or_eq_true, Bool.and_eq_false_iff, Bool.or_eq_false_iff, Bool.not_eq_true', Bool.not_eq_false', decide_eq_true_eq, decide_eq_false_iff_not, beq_iff_eq, beq_eq_false_iff_ne, bne_iff_ne, bne_eq_false_iff_eq, ne_eq, Int.toNat_natCast] at *; omega))) ?_
              refine j_back rfl ?_
              exact ⟨60 - (i + 1), by omega, i + 1, rfl, rfl, by omega, by omega, rfl⟩
          · skip
            refine j_q (qs_lenl Try.underlying36 rfl) ?_
            refine j_q (qs_eql rfl rfl) ?_
            refine j_g rfl (fun hb => qs_call ent9 rfl rfl (args0) (fun w' hw' => known_con w')) ?_
            refine j_q (qs_and rfl rfl) ?_
            refine j_ret_con (vs := [_]) (fun w' hw' => ⟨rfl, trivial⟩) ?_
            rfl
end Go.Proofs.Ytlgfpoelhjlifaa
