/- Locks by names: the law LocksPlay. -/
import Derived.Test.YtlgfpoelhjlifaaTa
import Derived.Test.YtlgfpoelhjlifaaRel12
import Derived.Test.YtlgfpoelhjlifaaLk11
import Derived.Test.YtlgfpoelhjlifaaLk7
namespace Go.Proofs.Ytlgfpoelhjlifaa
open Go Go.Sx
set_option maxRecDepth 100000
set_option maxHeartbeats 4000000
set_option linter.unusedVariables false
set_option linter.unusedSimpArgs false
attribute [local irreducible] J JQ QS Con W opW
theorem ent25 : Sx.Enters Try.prog 25 := ⟨_, Try.func25, by kernel_rfl, by kernel_rfl⟩
theorem ent27 : Sx.Enters Try.prog 27 := ⟨_, Try.func27, by kernel_rfl, by kernel_rfl⟩
theorem ent30 : Sx.Enters Try.prog 30 := ⟨_, Try.func30, by kernel_rfl, by kernel_rfl⟩
theorem ent32 : Sx.Enters Try.prog 32 := ⟨_, Try.func32, by kernel_rfl, by kernel_rfl⟩

open Go.MapKept Go.WideMaps Go.Maps
theorem rWaits2_con (B : Nat) (hB : B ≤ 1000000) (a : AT) (p : RT) (t : Int) (w : World) (hin : In w p.heap) (hok : p.Ok B) (hrel : Rel a (p.ls.map RL.e)) (hw : RW a) : Con Try.prog 32 [.pointer (some ⟨p.gt, 0, none⟩), .int .i64 t] w [] fun v _ => v = .tuple #[.string (bs ((alook a.wm t).getD [])), .bool (alook a.wm t).isSome] :=
  (rWaits_con B hB p t w hin hok).mono fun u _ hu => by
    rw [hu, ← rel_waits hrel hw t, findW_e]
    cases findW p.ls t <;> rfl
theorem rholds2_con (B : Nat) (hB : B ≤ 1000000) (a : AT) (p : RT) (t : Int) (n : List UInt8) (w : World) (hin : In w p.heap) (hok : p.Ok B) (hrel : Rel a (p.ls.map RL.e)) : Con Try.prog 34 [.pointer (some ⟨p.gt, 0, none⟩), .int .i64 t, .string (bs n)] w [] fun v _ => v = .bool (holdsA a n t) :=
  (rholds_con B hB p t n w hin hok).mono fun u _ hu => by
    rw [hu, ← rel_holds hrel, holds_e]
/-- pantry.pantrylaw12.LocksPlay -/
theorem locksPlay_con (rs : List St) (v : Value) (w : World) (h : Script w v rs) (hl : rs.length ≤ 4611686018427387903) : Con Try.prog 5 [v] w [] fun u _ => u = .bool true := by
  refine con_of_tree mix Try.func5 T5_ok (by kernel_rfl) ?_
  unfold T5
  obtain ⟨A, cap, g, off, rfl, hcap, hA⟩ := script_form h
  refine j_q (qs_ac) ?_
  refine j_q (qs_call ent22 rfl rfl rfl (fun w' hw' => heavy_con rs _ w' (script_keep h hw') hl)) ?_
  refine j_cond rfl (fun hc0 => ?_) (fun hc0 => ?_)
  · skip
    refine j_q (qs_call ent9 rfl rfl rfl (fun w' hw' => known_con w')) ?_
    refine j_ret_con (vs := [_]) (fun w' hw' => ⟨rfl, trivial⟩) ?_
    rfl
  · skip
    refine j_call0 ent23 rfl rfl rfl (fun w' hw' => new_con w') (fun u S2 hu => ?_)
    obtain ⟨p0, rfl, rfl, hok0, hlm0, hwm0⟩ := hu
    refine j_subl (S' := [p0.heap]) (by repeat first | exact List.Sublist.refl _ | exact List.nil_sublist _ | apply List.Sublist.cons_cons | apply List.Sublist.cons) ?_
    have hA0 : p0.at_ = ⟨[], []⟩ := by
      show AT.mk _ _ = _
      rw [hlm0, hwm0]
      rfl
    refine j_q (qs_run (v := .agg #[.slice none 0 0]) (fun w => by kernel_rfl)) ?_
    refine j_box (l := [.slice none 0 0]) rfl (fun g5 hg5 hs5 => ?_)
    refine j_q (qs_pnil Try.underlying45 rfl) ?_
    refine j_cond rfl (fun hc1 => ?_) (fun hc1 => ?_)
    · skip
      simp at hc1
    · skip
      refine j_perm (S' := [p0.heap, RT.heap (⟨g5, .slice none 0 0, [], []⟩ : RT)]) (by
        classical
        refine List.perm_iff_count.2 fun x => ?_
        simp only [RT.heap, RT.tobj, List.map_nil, List.flatten_cons, List.flatten_nil, List.append_nil, List.nil_append, List.cons_append, List.count_append, List.count_cons, List.count_nil] <;> omega) ?_
      refine j_q (qs_ac) ?_
      refine j_loop (fun m vs S' => ∃ (i : Nat) (q : PT) (r : RT), vs = [.int .i64 (i : Int)] ∧ S' = [q.heap, r.heap] ∧ q.gt = p0.gt ∧ r.gt = g5 ∧ q.Ok i ∧ r.Ok i ∧ WF q.at_ ∧ Rel q.at_ (r.ls.map RL.e) ∧ i ≤ 200 ∧ i ≤ rs.length ∧ m = 200 - i) ⟨_, 0, p0, (⟨g5, .slice none 0 0, [], []⟩ : RT), rfl, rfl, rfl, rfl, hok0, ⟨own_nil, (fun x hx => by cases hx), Nat.le_refl _⟩, by rw [hA0]; exact wf_nil, by rw [hA0]; exact rel_nil, Nat.zero_le _, Nat.zero_le _, rfl⟩ ?_
      rintro m vs S' hlen ⟨i, q, r, rfl, rfl, hgt, hgr, hok, hokr, hwf, hrel, hi200, hirs, rfl⟩
      rw [← hgt, ← hgr]
      refine j_q (qs_lenl Try.underlying43 rfl) ?_
      refine j_q (qs_lss rfl rfl) ?_
      refine j_g rfl (fun hb => qs_mt rfl) ?_
      refine j_g rfl (fun hb => qs_lss (gd_eq hb) rfl) ?_
      refine j_q (qs_and rfl rfl) ?_
      refine j_cond rfl (fun hc2 => ?_) (fun hc2 => ?_)
      · skip
        have hi1 : i < rs.length ∧ i < 200 := by
          simp [gd] at hc2
          omega
        obtain ⟨hi1, hi2⟩ := hi1
        obtain ⟨rfl, hgs, hcl⟩ := hA (by omega)
        have hxo := script_ok h hi1
        refine j_q (qs_ixl Try.underlying43 sz52 rfl rfl (by first | omega | (simp only [Bool.and_eq_true, Bool.or_eq_true, Bool.and_eq_false_iff, Bool.or_eq_false_iff, Bool.not_eq_true', Bool.not_eq_false', decide_eq_true_eq, decide_eq_false_iff_not, beq_iff_eq, beq_eq_false_iff_ne, bne_iff_ne, bne_eq_false_iff_eq, ne_eq, Int.toNat_natCast] at *; omega)) (by first | omega | (simp only [Bool.and_eq_true, Bool.or_eq_true, Bool.and_eq_false_iff, Bool.or_eq_false_iff, Bool.not_eq_true', Bool.not_eq_false', decide_eq_true_eq, decide_eq_false_iff_not, beq_iff_eq, beq_eq_false_iff_ne, bne_iff_ne, bne_eq_false_iff_eq, ne_eq, Int.toNat_natCast] at *; omega))) ?_
        refine j_q (qs_loadwR (vs := encS (rs.getD i St0)) (g := g) (off := off + (i : Int).toNat * 4) (by
          have h1 := rd_win (rd_cells (S := [q.heap, r.heap]) (b := ⟨w, dom []⟩) hcl (by simp)) (i * 4) 4
          rw [steps_take hi1] at h1
          rw [Int.toNat_natCast]
          exact h1) Try.underlying52 rfl sz52 (by rw [add_off]; rfl) rfl) ?_
        refine j_alloc zero52 (fun g16 hg16 hs16 => ?_)
        refine j_storew (vs := [Value.int .i64 (rs.getD i St0).kind, .int .i64 (rs.getD i St0).task, .string (bs (rs.getD i St0).name), .bool (rs.getD i St0).sh]) 0 sz52 rfl rfl rfl (by simp [oneV]) rfl rfl ?_
        refine j_q (qs_field Try.underlying52 rfl sz3 (by decide) rfl) ?_
        first
          | refine j_q (qs_loadk 0 Try.underlying3 rfl rfl (by first | omega | (simp only [Bool.and_eq_true, Bool.or_eq_true, Bool.and_eq_false_iff, Bool.or_eq_false_iff, Bool.not_eq_true', Bool.not_eq_false', decide_eq_true_eq, decide_eq_false_iff_not, beq_iff_eq, beq_eq_false_iff_ne, bne_iff_ne, bne_eq_false_iff_eq, ne_eq, Int.toNat_natCast] at *; omega))) ?_
          | refine j_q (qs_loadk 1 Try.underlying3 rfl rfl (by first | omega | (simp only [Bool.and_eq_true, Bool.or_eq_true, Bool.and_eq_false_iff, Bool.or_eq_false_iff, Bool.not_eq_true', Bool.not_eq_false', decide_eq_true_eq, decide_eq_false_iff_not, beq_iff_eq, beq_eq_false_iff_ne, bne_iff_ne, bne_eq_false_iff_eq, ne_eq, Int.toNat_natCast] at *; omega))) ?_
          | refine j_q (qs_loadk 2 Try.underlying3 rfl rfl (by first | omega | (simp only [Bool.and_eq_true, Bool.or_eq_true, Bool.and_eq_false_iff, Bool.or_eq_false_iff, Bool.not_eq_true', Bool.not_eq_false', decide_eq_true_eq, decide_eq_false_iff_not, beq_iff_eq, beq_eq_false_iff_ne, bne_iff_ne, bne_eq_false_iff_eq, ne_eq, Int.toNat_natCast] at *; omega))) ?_
          | refine j_q (qs_loadk 3 Try.underlying3 rfl rfl (by first | omega | (simp only [Bool.and_eq_true, Bool.or_eq_true, Bool.and_eq_false_iff, Bool.or_eq_false_iff, Bool.not_eq_true', Bool.not_eq_false', decide_eq_true_eq, decide_eq_false_iff_not, beq_iff_eq, beq_eq_false_iff_ne, bne_iff_ne, bne_eq_false_iff_eq, ne_eq, Int.toNat_natCast] at *; omega))) ?_
          | refine j_q (qs_loadk 4 Try.underlying3 rfl rfl (by first | omega | (simp only [Bool.and_eq_true, Bool.or_eq_true, Bool.and_eq_false_iff, Bool.or_eq_false_iff, Bool.not_eq_true', Bool.not_eq_false', decide_eq_true_eq, decide_eq_false_iff_not, beq_iff_eq, beq_eq_false_iff_ne, bne_iff_ne, bne_eq_false_iff_eq, ne_eq, Int.toNat_natCast] at *; omega))) ?_
          | refine j_q (qs_load 0 Try.underlying3 rfl rfl rfl rfl) ?_
          | refine j_q (qs_load 1 Try.underlying3 rfl rfl rfl rfl) ?_
          | refine j_q (qs_load 2 Try.underlying3 rfl rfl rfl rfl) ?_
          | refine j_q (qs_load 3 Try.underlying3 rfl rfl rfl rfl) ?_
          | refine j_q (qs_load 4 Try.underlying3 rfl rfl rfl rfl) ?_
        refine j_q (qs_eql rfl rfl) ?_
        refine j_cond rfl (fun hc3 => ?_) (fun hc3 => ?_)
        · skip
          refine j_q (qs_field Try.underlying52 rfl sz3 (by decide) rfl) ?_
          first
            | refine j_q (qs_loadk 0 Try.underlying3 rfl rfl (by first | omega | (simp only [Bool.and_eq_true, Bool.or_eq_true, Bool.and_eq_false_iff, Bool.or_eq_false_iff, Bool.not_eq_true', Bool.not_eq_false', decide_eq_true_eq, decide_eq_false_iff_not, beq_iff_eq, beq_eq_false_iff_ne, bne_iff_ne, bne_eq_false_iff_eq, ne_eq, Int.toNat_natCast] at *; omega))) ?_
            | refine j_q (qs_loadk 1 Try.underlying3 rfl rfl (by first | omega | (simp only [Bool.and_eq_true, Bool.or_eq_true, Bool.and_eq_false_iff, Bool.or_eq_false_iff, Bool.not_eq_true', Bool.not_eq_false', decide_eq_true_eq, decide_eq_false_iff_not, beq_iff_eq, beq_eq_false_iff_ne, bne_iff_ne, bne_eq_false_iff_eq, ne_eq, Int.toNat_natCast] at *; omega))) ?_
            | refine j_q (qs_loadk 2 Try.underlying3 rfl rfl (by first | omega | (simp only [Bool.and_eq_true, Bool.or_eq_true, Bool.and_eq_false_iff, Bool.or_eq_false_iff, Bool.not_eq_true', Bool.not_eq_false', decide_eq_true_eq, decide_eq_false_iff_not, beq_iff_eq, beq_eq_false_iff_ne, bne_iff_ne, bne_eq_false_iff_eq, ne_eq, Int.toNat_natCast] at *; omega))) ?_
            | refine j_q (qs_loadk 3 Try.underlying3 rfl rfl (by first | omega | (simp only [Bool.and_eq_true, Bool.or_eq_true, Bool.and_eq_false_iff, Bool.or_eq_false_iff, Bool.not_eq_true', Bool.not_eq_false', decide_eq_true_eq, decide_eq_false_iff_not, beq_iff_eq, beq_eq_false_iff_ne, bne_iff_ne, bne_eq_false_iff_eq, ne_eq, Int.toNat_natCast] at *; omega))) ?_
            | refine j_q (qs_loadk 4 Try.underlying3 rfl rfl (by first | omega | (simp only [Bool.and_eq_true, Bool.or_eq_true, Bool.and_eq_false_iff, Bool.or_eq_false_iff, Bool.not_eq_true', Bool.not_eq_false', decide_eq_true_eq, decide_eq_false_iff_not, beq_iff_eq, beq_eq_false_iff_ne, bne_iff_ne, bne_eq_false_iff_eq, ne_eq, Int.toNat_natCast] at *; omega))) ?_
            | refine j_q (qs_load 0 Try.underlying3 rfl rfl rfl rfl) ?_
            | refine j_q (qs_load 1 Try.underlying3 rfl rfl rfl rfl) ?_
            | refine j_q (qs_load 2 Try.underlying3 rfl rfl rfl rfl) ?_
            | refine j_q (qs_load 3 Try.underlying3 rfl rfl rfl rfl) ?_
            | refine j_q (qs_load 4 Try.underlying3 rfl rfl rfl rfl) ?_
          refine j_q (qs_field Try.underlying52 rfl sz9 (by decide) rfl) ?_
          first
            | refine j_q (qs_load 0 Try.underlying9 rfl rfl rfl rfl) ?_
            | refine j_q (qs_load 1 Try.underlying9 rfl rfl rfl rfl) ?_
            | refine j_q (qs_load 2 Try.underlying9 rfl rfl rfl rfl) ?_
            | refine j_q (qs_load 3 Try.underlying9 rfl rfl rfl rfl) ?_
            | refine j_q (qs_load 4 Try.underlying9 rfl rfl rfl rfl) ?_
          refine j_q (qs_field Try.underlying52 rfl sz4 (by decide) rfl) ?_
          first
            | refine j_q (qs_load 0 Try.underlying4 rfl rfl rfl rfl) ?_
            | refine j_q (qs_load 1 Try.underlying4 rfl rfl rfl rfl) ?_
            | refine j_q (qs_load 2 Try.underlying4 rfl rfl rfl rfl) ?_
            | refine j_q (qs_load 3 Try.underlying4 rfl rfl rfl rfl) ?_
            | refine j_q (qs_load 4 Try.underlying4 rfl rfl rfl rfl) ?_
          refine j_call 1 ent24 rfl rfl rfl rfl (fun w' hw' => take_con i (by omega) q (rs.getD i St0).task (rs.getD i St0).name (rs.getD i St0).sh w' hok hxo.2.1 hxo.str) (fun u S2 hu => ?_)
          obtain ⟨p1, r1, e1, rfl, rfl, hgt1, hok1, hT1⟩ := hu
          refine j_perm (S' := [[(g16, .cells [Value.int .i64 (rs.getD i St0).kind, .int .i64 (rs.getD i St0).task, .string (bs (rs.getD i St0).name), .bool (rs.getD i St0).sh].toArray 52 (0, 0))], p1.heap, r.heap]) (by
            classical
            refine List.perm_iff_count.2 fun x => ?_
            simp only [List.set, List.flatten_cons, List.flatten_nil, List.append_nil, List.nil_append, List.cons_append, List.count_append, List.count_cons, List.count_nil] <;> omega) ?_
          refine j_q (qs_ext (vs := [.bool _, .int .i64 _]) rfl rfl) ?_
          refine j_q (qs_ext (vs := [.bool _, .int .i64 _]) rfl rfl) ?_
          refine j_q (qs_field Try.underlying52 rfl sz3 (by decide) rfl) ?_
          first
            | refine j_q (qs_loadk 0 Try.underlying3 rfl rfl (by first | omega | (simp only [Bool.and_eq_true, Bool.or_eq_true, Bool.and_eq_false_iff, Bool.or_eq_false_iff, Bool.not_eq_true', Bool.not_eq_false', decide_eq_true_eq, decide_eq_false_iff_not, beq_iff_eq, beq_eq_false_iff_ne, bne_iff_ne, bne_eq_false_iff_eq, ne_eq, Int.toNat_natCast] at *; omega))) ?_
            | refine j_q (qs_loadk 1 Try.underlying3 rfl rfl (by first | omega | (simp only [Bool.and_eq_true, Bool.or_eq_true, Bool.and_eq_false_iff, Bool.or_eq_false_iff, Bool.not_eq_true', Bool.not_eq_false', decide_eq_true_eq, decide_eq_false_iff_not, beq_iff_eq, beq_eq_false_iff_ne, bne_iff_ne, bne_eq_false_iff_eq, ne_eq, Int.toNat_natCast] at *; omega))) ?_
            | refine j_q (qs_loadk 2 Try.underlying3 rfl rfl (by first | omega | (simp only [Bool.and_eq_true, Bool.or_eq_true, Bool.and_eq_false_iff, Bool.or_eq_false_iff, Bool.not_eq_true', Bool.not_eq_false', decide_eq_true_eq, decide_eq_false_iff_not, beq_iff_eq, beq_eq_false_iff_ne, bne_iff_ne, bne_eq_false_iff_eq, ne_eq, Int.toNat_natCast] at *; omega))) ?_
            | refine j_q (qs_loadk 3 Try.underlying3 rfl rfl (by first | omega | (simp only [Bool.and_eq_true, Bool.or_eq_true, Bool.and_eq_false_iff, Bool.or_eq_false_iff, Bool.not_eq_true', Bool.not_eq_false', decide_eq_true_eq, decide_eq_false_iff_not, beq_iff_eq, beq_eq_false_iff_ne, bne_iff_ne, bne_eq_false_iff_eq, ne_eq, Int.toNat_natCast] at *; omega))) ?_
            | refine j_q (qs_loadk 4 Try.underlying3 rfl rfl (by first | omega | (simp only [Bool.and_eq_true, Bool.or_eq_true, Bool.and_eq_false_iff, Bool.or_eq_false_iff, Bool.not_eq_true', Bool.not_eq_false', decide_eq_true_eq, decide_eq_false_iff_not, beq_iff_eq, beq_eq_false_iff_ne, bne_iff_ne, bne_eq_false_iff_eq, ne_eq, Int.toNat_natCast] at *; omega))) ?_
            | refine j_q (qs_load 0 Try.underlying3 rfl rfl rfl rfl) ?_
            | refine j_q (qs_load 1 Try.underlying3 rfl rfl rfl rfl) ?_
            | refine j_q (qs_load 2 Try.underlying3 rfl rfl rfl rfl) ?_
            | refine j_q (qs_load 3 Try.underlying3 rfl rfl rfl rfl) ?_
            | refine j_q (qs_load 4 Try.underlying3 rfl rfl rfl rfl) ?_
          refine j_q (qs_field Try.underlying52 rfl sz9 (by decide) rfl) ?_
          first
            | refine j_q (qs_load 0 Try.underlying9 rfl rfl rfl rfl) ?_
            | refine j_q (qs_load 1 Try.underlying9 rfl rfl rfl rfl) ?_
            | refine j_q (qs_load 2 Try.underlying9 rfl rfl rfl rfl) ?_
            | refine j_q (qs_load 3 Try.underlying9 rfl rfl rfl rfl) ?_
            | refine j_q (qs_load 4 Try.underlying9 rfl rfl rfl rfl) ?_
          refine j_q (qs_field Try.underlying52 rfl sz4 (by decide) rfl) ?_
          first
            | refine j_q (qs_load 0 Try.underlying4 rfl rfl rfl rfl) ?_
            | refine j_q (qs_load 1 Try.underlying4 rfl rfl rfl rfl) ?_
            | refine j_q (qs_load 2 Try.underlying4 rfl rfl rfl rfl) ?_
            | refine j_q (qs_load 3 Try.underlying4 rfl rfl rfl rfl) ?_
            | refine j_q (qs_load 4 Try.underlying4 rfl rfl rfl rfl) ?_
          refine j_call 2 ent25 rfl rfl rfl rfl (fun w' hw' => rtake_con i (by omega) r (rs.getD i St0).task (rs.getD i St0).name (rs.getD i St0).sh w' hokr hxo.str hrel.rise) (fun u S2 hu => ?_)
          obtain ⟨s1, r2, e2, rfl, rfl, hgs1, hoks1, hT2⟩ := hu
          refine j_perm (S' := [[(g16, .cells [Value.int .i64 (rs.getD i St0).kind, .int .i64 (rs.getD i St0).task, .string (bs (rs.getD i St0).name), .bool (rs.getD i St0).sh].toArray 52 (0, 0))], p1.heap, s1.heap]) (by
            classical
            refine List.perm_iff_count.2 fun x => ?_
            simp only [List.set, List.flatten_cons, List.flatten_nil, List.append_nil, List.nil_append, List.cons_append, List.count_append, List.count_cons, List.count_nil] <;> omega) ?_
          obtain ⟨hTa, hTb⟩ := rel_take hrel hwf (rs.getD i St0).task (rs.getD i St0).name (rs.getD i St0).sh
          rw [← hT1, ← hT2] at hTa hTb
          have hr2 : r2 = r1 := congrArg Prod.fst hTa
          have he2 : e2 = e1 := congrArg Prod.snd hTa
          subst hr2 he2
          rw [← hgt1]
          rw [← hgs1]
          have hwf1 : WF p1.at_ := by
            have h1 : p1.at_ = (takeF q.at_ (rs.getD i St0).task (rs.getD i St0).name (rs.getD i St0).sh).1 := by rw [← hT1]
            rw [h1]
            exact wf_take hwf _ _ _
          have hrel1 : Rel p1.at_ (s1.ls.map RL.e) := hTb
          refine j_q (qs_ext (vs := [.bool _, .int .i64 _]) rfl rfl) ?_
          refine j_q (qs_ext (vs := [.bool _, .int .i64 _]) rfl rfl) ?_
          refine j_q (qs_bne Try.underlying4 rfl rfl) ?_
          refine j_g rfl (fun hb => qs_mt rfl) ?_
          refine j_g rfl (fun hb => qs_mt rfl) ?_
          refine j_g rfl (fun hb => qs_neq (gd_eq hb) (gd_eq hb)) ?_
          refine j_q (qs_or rfl rfl) ?_
          refine j_cond rfl (fun hc4 => ?_) (fun hc4 => ?_)
          · skip
            simp [gd] at hc4
          · skip
            refine j_q (qs_ac) ?_
            refine j_loop (fun m vs S' => ∃ k : Nat, vs = [.int .i64 (k : Int)] ∧ S' = [[(g16, .cells [Value.int .i64 (rs.getD i St0).kind, .int .i64 (rs.getD i St0).task, .string (bs (rs.getD i St0).name), .bool (rs.getD i St0).sh].toArray 52 (0, 0))], p1.heap, s1.heap] ∧ k ≤ i + 1 ∧ m = i + 1 - k) ⟨_, 0, rfl, rfl, Nat.zero_le _, rfl⟩ ?_
            rintro m vs S' hlen ⟨k, rfl, rfl, hki, rfl⟩
            refine j_q (qs_leq rfl rfl) ?_
            refine j_cond rfl (fun hc5 => ?_) (fun hc5 => ?_)
            · skip
              have hk1 : k < i + 1 := by
                simp only [Bool.and_eq_true, Bool.or_eq_true, Bool.and_eq_false_iff, Bool.or_eq_false_iff, Bool.not_eq_true', Bool.not_eq_false', decide_eq_true_eq, decide_eq_false_iff_not, beq_iff_eq, beq_eq_false_iff_ne, bne_iff_ne, bne_eq_false_iff_eq, ne_eq, Int.toNat_natCast] at *
                omega
              have hyo := script_ok h (show k < rs.length by omega)
              refine j_q (qs_ixl Try.underlying43 sz52 rfl rfl (by first | omega | (simp only [Bool.and_eq_true, Bool.or_eq_true, Bool.and_eq_false_iff, Bool.or_eq_false_iff, Bool.not_eq_true', Bool.not_eq_false', decide_eq_true_eq, decide_eq_false_iff_not, beq_iff_eq, beq_eq_false_iff_ne, bne_iff_ne, bne_eq_false_iff_eq, ne_eq, Int.toNat_natCast] at *; omega)) (by first | omega | (simp only [Bool.and_eq_true, Bool.or_eq_true, Bool.and_eq_false_iff, Bool.or_eq_false_iff, Bool.not_eq_true', Bool.not_eq_false', decide_eq_true_eq, decide_eq_false_iff_not, beq_iff_eq, beq_eq_false_iff_ne, bne_iff_ne, bne_eq_false_iff_eq, ne_eq, Int.toNat_natCast] at *; omega))) ?_
              refine j_q (qs_field (g := g) (off := off + (k : Int).toNat * 4) Try.underlying52 rfl sz3 (by decide) (by rw [add_off]; rfl)) ?_
              refine j_q (qs_loadR (v := .int .i64 (rs.getD k St0).task) (a := ⟨g, off, none⟩) (i := k * 4 + 1) (rd_cells hcl (by simp)) Try.underlying3 rfl (congrArg (fun a => Value.pointer (some a)) (off_field g off k 1)) (steps_get (by omega) rfl)) ?_
              refine j_q (qs_call ent31 rfl rfl rfl (fun w' hw' => waits_con (i + 1) p1 (rs.getD k St0).task w' (in_own hw' 1 rfl) hok1 hyo.2.1)) ?_
              refine j_q (qs_ext (vs := [.string (bs ((alook p1.wm (rs.getD k St0).task).getD [])), .bool (alook p1.wm (rs.getD k St0).task).isSome]) rfl rfl) ?_
              refine j_q (qs_ext (vs := [.string (bs ((alook p1.wm (rs.getD k St0).task).getD [])), .bool (alook p1.wm (rs.getD k St0).task).isSome]) rfl rfl) ?_
              refine j_q (qs_ixl Try.underlying43 sz52 rfl rfl (by first | omega | (simp only [Bool.and_eq_true, Bool.or_eq_true, Bool.and_eq_false_iff, Bool.or_eq_false_iff, Bool.not_eq_true', Bool.not_eq_false', decide_eq_true_eq, decide_eq_false_iff_not, beq_iff_eq, beq_eq_false_iff_ne, bne_iff_ne, bne_eq_false_iff_eq, ne_eq, Int.toNat_natCast] at *; omega)) (by first | omega | (simp only [Bool.and_eq_true, Bool.or_eq_true, Bool.and_eq_false_iff, Bool.or_eq_false_iff, Bool.not_eq_true', Bool.not_eq_false', decide_eq_true_eq, decide_eq_false_iff_not, beq_iff_eq, beq_eq_false_iff_ne, bne_iff_ne, bne_eq_false_iff_eq, ne_eq, Int.toNat_natCast] at *; omega))) ?_
              refine j_q (qs_field (g := g) (off := off + (k : Int).toNat * 4) Try.underlying52 rfl sz3 (by decide) (by rw [add_off]; rfl)) ?_
              refine j_q (qs_loadR (v := .int .i64 (rs.getD k St0).task) (a := ⟨g, off, none⟩) (i := k * 4 + 1) (rd_cells hcl (by simp)) Try.underlying3 rfl (congrArg (fun a => Value.pointer (some a)) (off_field g off k 1)) (steps_get (by omega) rfl)) ?_
              refine j_q (qs_call ent32 rfl rfl rfl (fun w' hw' => rWaits2_con (i + 1) (by omega) p1.at_ s1 (rs.getD k St0).task w' (in_own hw' 2 rfl) hoks1 hrel1 (rw_of hwf1))) ?_
              refine j_q (qs_ext (vs := [.string (bs ((alook p1.wm (rs.getD k St0).task).getD [])), .bool (alook p1.wm (rs.getD k St0).task).isSome]) rfl rfl) ?_
              refine j_q (qs_ext (vs := [.string (bs ((alook p1.wm (rs.getD k St0).task).getD [])), .bool (alook p1.wm (rs.getD k St0).task).isSome]) rfl rfl) ?_
              refine j_q (qs_sneq rfl rfl) ?_
              refine j_g rfl (fun hb => qs_mt rfl) ?_
              refine j_g rfl (fun hb => qs_mt rfl) ?_
              refine j_g rfl (fun hb => qs_bne Try.underlying4 (gd_eq hb) (gd_eq hb)) ?_
              refine j_q (qs_or rfl rfl) ?_
              refine j_cond rfl (fun hc6 => ?_) (fun hc6 => ?_)
              · skip
                simp [gd] at hc6
              · skip
                refine j_mix _ (.refl _) ?_
                refine j_mq (qs_lss rfl rfl) ?_
                refine j_mg rfl (fun hb => qs_mt rfl) ?_
                refine j_mg rfl (fun hb => qs_mt rfl) ?_
                refine j_mg rfl (fun hb => qs_eql (gd_eq hb) (gd_eq hb)) ?_
                refine j_mq (qs_or rfl rfl) ?_
                refine j_mg rfl (fun hb => qs_mt rfl) ?_
                refine j_mg rfl (fun hb => qs_mt rfl) ?_
                refine j_mg rfl (fun hb => qs_mt rfl) ?_
                refine j_mg rfl (fun hb => qs_ixl Try.underlying43 sz52 (gd_eq hb) (gd_eq hb) (by first | omega | (simp only [Bool.and_eq_true, Bool.or_eq_true, Bool.and_eq_false_iff, Bool.or_eq_false_iff, Bool.not_eq_true', Bool.not_eq_false', decide_eq_true_eq, decide_eq_false_iff_not, beq_iff_eq, beq_eq_false_iff_ne, bne_iff_ne, bne_eq_false_iff_eq, ne_eq, Int.toNat_natCast] at *; omega)) (by first | omega | (simp only [Bool.and_eq_true, Bool.or_eq_true, Bool.and_eq_false_iff, Bool.or_eq_false_iff, Bool.not_eq_true', Bool.not_eq_false', decide_eq_true_eq, decide_eq_false_iff_not, beq_iff_eq, beq_eq_false_iff_ne, bne_iff_ne, bne_eq_false_iff_eq, ne_eq, Int.toNat_natCast] at *; omega))) ?_
                refine j_mg rfl (fun hb => qs_field (g := g) (off := off + (k : Int).toNat * 4) Try.underlying52 rfl sz3 (by decide) ((gd_eq hb).trans (by rw [add_off]))) ?_
                refine j_mg rfl (fun hb => qs_loadR (v := .int .i64 (rs.getD k St0).task) (a := ⟨g, off, none⟩) (i := k * 4 + 1) (rd_cells hcl (by simp)) Try.underlying3 rfl ((gd_eq hb).trans (congrArg (fun a => Value.pointer (some a)) (off_field g off k 1))) (steps_get (by omega) rfl)) ?_
                refine j_mg rfl (fun hb => qs_mt rfl) ?_
                refine j_mg rfl (fun hb => qs_mt rfl) ?_
                refine j_mg rfl (fun hb => qs_ixl Try.underlying43 sz52 (gd_eq hb) (gd_eq hb) (by first | omega | (simp only [Bool.and_eq_true, Bool.or_eq_true, Bool.and_eq_false_iff, Bool.or_eq_false_iff, Bool.not_eq_true', Bool.not_eq_false', decide_eq_true_eq, decide_eq_false_iff_not, beq_iff_eq, beq_eq_false_iff_ne, bne_iff_ne, bne_eq_false_iff_eq, ne_eq, Int.toNat_natCast] at *; omega)) (by first | omega | (simp only [Bool.and_eq_true, Bool.or_eq_true, Bool.and_eq_false_iff, Bool.or_eq_false_iff, Bool.not_eq_true', Bool.not_eq_false', decide_eq_true_eq, decide_eq_false_iff_not, beq_iff_eq, beq_eq_false_iff_ne, bne_iff_ne, bne_eq_false_iff_eq, ne_eq, Int.toNat_natCast] at *; omega))) ?_
                refine j_mg rfl (fun hb => qs_field (g := g) (off := off + (k : Int).toNat * 4) Try.underlying52 rfl sz9 (by decide) ((gd_eq hb).trans (by rw [add_off]))) ?_
                refine j_mg rfl (fun hb => qs_loadR (v := .string (bs (rs.getD k St0).name)) (a := ⟨g, off, none⟩) (i := k * 4 + 2) (rd_cells hcl (by simp)) Try.underlying9 rfl ((gd_eq hb).trans (congrArg (fun a => Value.pointer (some a)) (off_field g off k 2))) (steps_get (by omega) rfl)) ?_
                refine j_mg rfl (fun hb => qs_mt rfl) ?_
                refine j_mg rfl (fun hb => qs_mt rfl) ?_
                refine j_mg rfl (fun hb => qs_mt rfl) ?_
                refine j_mg rfl (fun hb => qs_ixl Try.underlying43 sz52 (gd_eq hb) (gd_eq hb) (by first | omega | (simp only [Bool.and_eq_true, Bool.or_eq_true, Bool.and_eq_false_iff, Bool.or_eq_false_iff, Bool.not_eq_true', Bool.not_eq_false', decide_eq_true_eq, decide_eq_false_iff_not, beq_iff_eq, beq_eq_false_iff_ne, bne_iff_ne, bne_eq_false_iff_eq, ne_eq, Int.toNat_natCast] at *; omega)) (by first | omega | (simp only [Bool.and_eq_true, Bool.or_eq_true, Bool.and_eq_false_iff, Bool.or_eq_false_iff, Bool.not_eq_true', Bool.not_eq_false', decide_eq_true_eq, decide_eq_false_iff_not, beq_iff_eq, beq_eq_false_iff_ne, bne_iff_ne, bne_eq_false_iff_eq, ne_eq, Int.toNat_natCast] at *; omega))) ?_
                refine j_mg rfl (fun hb => qs_field (g := g) (off := off + (k : Int).toNat * 4) Try.underlying52 rfl sz3 (by decide) ((gd_eq hb).trans (by rw [add_off]))) ?_
                refine j_mg rfl (fun hb => qs_loadR (v := .int .i64 (rs.getD k St0).task) (a := ⟨g, off, none⟩) (i := k * 4 + 1) (rd_cells hcl (by simp)) Try.underlying3 rfl ((gd_eq hb).trans (congrArg (fun a => Value.pointer (some a)) (off_field g off k 1))) (steps_get (by omega) rfl)) ?_
                refine j_mg rfl (fun hb => qs_mt rfl) ?_
                refine j_mg rfl (fun hb => qs_mt rfl) ?_
                refine j_mg rfl (fun hb => qs_ixl Try.underlying43 sz52 (gd_eq hb) (gd_eq hb) (by first | omega | (simp only [Bool.and_eq_true, Bool.or_eq_true, Bool.and_eq_false_iff, Bool.or_eq_false_iff, Bool.not_eq_true', Bool.not_eq_false', decide_eq_true_eq, decide_eq_false_iff_not, beq_iff_eq, beq_eq_false_iff_ne, bne_iff_ne, bne_eq_false_iff_eq, ne_eq, Int.toNat_natCast] at *; omega)) (by first | omega | (simp only [Bool.and_eq_true, Bool.or_eq_true, Bool.and_eq_false_iff, Bool.or_eq_false_iff, Bool.not_eq_true', Bool.not_eq_false', decide_eq_true_eq, decide_eq_false_iff_not, beq_iff_eq, beq_eq_false_iff_ne, bne_iff_ne, bne_eq_false_iff_eq, ne_eq, Int.toNat_natCast] at *; omega))) ?_
                refine j_mg rfl (fun hb => qs_field (g := g) (off := off + (k : Int).toNat * 4) Try.underlying52 rfl sz9 (by decide) ((gd_eq hb).trans (by rw [add_off]))) ?_
                refine j_mg rfl (fun hb => qs_loadR (v := .string (bs (rs.getD k St0).name)) (a := ⟨g, off, none⟩) (i := k * 4 + 2) (rd_cells hcl (by simp)) Try.underlying9 rfl ((gd_eq hb).trans (congrArg (fun a => Value.pointer (some a)) (off_field g off k 2))) (steps_get (by omega) rfl)) ?_
                refine j_g rfl (fun hb => qs_call ent33 rfl rfl (args3 (gd_eq hb) (gd_eq hb) (gd_eq hb)) (fun w' hw' => holds2_con (i + 1) p1 (rs.getD k St0).task (rs.getD k St0).name w' (in_own hw' 1 rfl) hok1 hyo.2.1 hyo.str)) ?_
                refine j_mD0 (Le.of_sub (by repeat first | exact List.Sublist.refl _ | exact List.nil_sublist _ | apply List.Sublist.cons_cons | apply List.Sublist.cons)) ?_
                refine j_g rfl (fun hb => qs_call ent34 rfl rfl (args3 (gd_eq hb) (gd_eq hb) (gd_eq hb)) (fun w' hw' => rholds2_con (i + 1) (by omega) p1.at_ s1 (rs.getD k St0).task (rs.getD k St0).name w' (in_own hw' 2 rfl) hoks1 hrel1)) ?_
                refine j_mR _ (.refl _) ?_
                refine j_mg rfl (fun hb => qs_bne Try.underlying4 (gd_eq hb) (gd_eq hb)) ?_
                refine j_mq (qs_and rfl rfl) ?_
                refine j_mend ?_
                refine j_cond rfl (fun hc7 => ?_) (fun hc7 => ?_)
                · skip
                  simp [gd] at hc7
                · skip
                  refine j_q (qs_add64 rfl rfl (by first | omega | (simp only [Bool.and_eq_true, Bool.or_eq_true, Bool.and_eq_false_iff, Bool.or_eq_false_iff, Bool.not_eq_true', Bool.not_eq_false', decide_eq_true_eq, decide_eq_false_iff_not, beq_iff_eq, beq_eq_false_iff_ne, bne_iff_ne, bne_eq_false_iff_eq, ne_eq, Int.toNat_natCast] at *; omega))) ?_
                  refine j_back rfl ?_
                  exact ⟨i + 1 - (k + 1), by omega, k + 1, rfl, rfl, by omega, rfl⟩
            · skip
              refine j_subl (S' := [p1.heap, s1.heap]) (by repeat first | exact List.Sublist.refl _ | exact List.nil_sublist _ | apply List.Sublist.cons_cons | apply List.Sublist.cons) ?_
              refine j_q (qs_add64 rfl rfl (by first | omega | (simp only [Bool.and_eq_true, Bool.or_eq_true, Bool.and_eq_false_iff, Bool.or_eq_false_iff, Bool.not_eq_true', Bool.not_eq_false', decide_eq_true_eq, decide_eq_false_iff_not, beq_iff_eq, beq_eq_false_iff_ne, bne_iff_ne, bne_eq_false_iff_eq, ne_eq, Int.toNat_natCast] at *; omega))) ?_
              refine j_back rfl ?_
              exact ⟨200 - (i + 1), by omega, i + 1, p1, s1, rfl, rfl, rfl, rfl, hok1, hoks1, hwf1, hrel1, by omega, by omega, rfl⟩
        · skip
          refine j_q (qs_eql rfl rfl) ?_
          refine j_cond rfl (fun hc8 => ?_) (fun hc8 => ?_)
          · skip
            refine j_q (qs_field Try.underlying52 rfl sz3 (by decide) rfl) ?_
            first
              | refine j_q (qs_loadk 0 Try.underlying3 rfl rfl (by first | omega | (simp only [Bool.and_eq_true, Bool.or_eq_true, Bool.and_eq_false_iff, Bool.or_eq_false_iff, Bool.not_eq_true', Bool.not_eq_false', decide_eq_true_eq, decide_eq_false_iff_not, beq_iff_eq, beq_eq_false_iff_ne, bne_iff_ne, bne_eq_false_iff_eq, ne_eq, Int.toNat_natCast] at *; omega))) ?_
              | refine j_q (qs_loadk 1 Try.underlying3 rfl rfl (by first | omega | (simp only [Bool.and_eq_true, Bool.or_eq_true, Bool.and_eq_false_iff, Bool.or_eq_false_iff, Bool.not_eq_true', Bool.not_eq_false', decide_eq_true_eq, decide_eq_false_iff_not, beq_iff_eq, beq_eq_false_iff_ne, bne_iff_ne, bne_eq_false_iff_eq, ne_eq, Int.toNat_natCast] at *; omega))) ?_
              | refine j_q (qs_loadk 2 Try.underlying3 rfl rfl (by first | omega | (simp only [Bool.and_eq_true, Bool.or_eq_true, Bool.and_eq_false_iff, Bool.or_eq_false_iff, Bool.not_eq_true', Bool.not_eq_false', decide_eq_true_eq, decide_eq_false_iff_not, beq_iff_eq, beq_eq_false_iff_ne, bne_iff_ne, bne_eq_false_iff_eq, ne_eq, Int.toNat_natCast] at *; omega))) ?_
              | refine j_q (qs_loadk 3 Try.underlying3 rfl rfl (by first | omega | (simp only [Bool.and_eq_true, Bool.or_eq_true, Bool.and_eq_false_iff, Bool.or_eq_false_iff, Bool.not_eq_true', Bool.not_eq_false', decide_eq_true_eq, decide_eq_false_iff_not, beq_iff_eq, beq_eq_false_iff_ne, bne_iff_ne, bne_eq_false_iff_eq, ne_eq, Int.toNat_natCast] at *; omega))) ?_
              | refine j_q (qs_loadk 4 Try.underlying3 rfl rfl (by first | omega | (simp only [Bool.and_eq_true, Bool.or_eq_true, Bool.and_eq_false_iff, Bool.or_eq_false_iff, Bool.not_eq_true', Bool.not_eq_false', decide_eq_true_eq, decide_eq_false_iff_not, beq_iff_eq, beq_eq_false_iff_ne, bne_iff_ne, bne_eq_false_iff_eq, ne_eq, Int.toNat_natCast] at *; omega))) ?_
              | refine j_q (qs_load 0 Try.underlying3 rfl rfl rfl rfl) ?_
              | refine j_q (qs_load 1 Try.underlying3 rfl rfl rfl rfl) ?_
              | refine j_q (qs_load 2 Try.underlying3 rfl rfl rfl rfl) ?_
              | refine j_q (qs_load 3 Try.underlying3 rfl rfl rfl rfl) ?_
              | refine j_q (qs_load 4 Try.underlying3 rfl rfl rfl rfl) ?_
            refine j_q (qs_field Try.underlying52 rfl sz9 (by decide) rfl) ?_
            first
              | refine j_q (qs_load 0 Try.underlying9 rfl rfl rfl rfl) ?_
              | refine j_q (qs_load 1 Try.underlying9 rfl rfl rfl rfl) ?_
              | refine j_q (qs_load 2 Try.underlying9 rfl rfl rfl rfl) ?_
              | refine j_q (qs_load 3 Try.underlying9 rfl rfl rfl rfl) ?_
              | refine j_q (qs_load 4 Try.underlying9 rfl rfl rfl rfl) ?_
            refine j_call 1 ent26 rfl rfl rfl rfl (fun w' hw' => give_con i (by omega) q (rs.getD i St0).task (rs.getD i St0).name w' hok hxo.2.1 hxo.str) (fun u S2 hu => ?_)
            obtain ⟨p1, out1, oc1, e1, v1, rfl, rfl, ho1, hgt1, hok1', hT1, hob1⟩ := hu
            have hok1 : p1.Ok (i + 1) := hok1'.up (by omega)
            refine j_perm (S' := [[(g16, .cells [Value.int .i64 (rs.getD i St0).kind, .int .i64 (rs.getD i St0).task, .string (bs (rs.getD i St0).name), .bool (rs.getD i St0).sh].toArray 52 (0, 0))], p1.heap, r.heap, oc1]) (by
              classical
              refine List.perm_iff_count.2 fun x => ?_
              simp only [List.set, List.flatten_cons, List.flatten_nil, List.append_nil, List.nil_append, List.cons_append, List.count_append, List.count_cons, List.count_nil] <;> omega) ?_
            refine j_q (qs_ext (vs := [_, .int .i64 _]) rfl rfl) ?_
            refine j_q (qs_ext (vs := [_, .int .i64 _]) rfl rfl) ?_
            refine j_q (qs_field Try.underlying52 rfl sz3 (by decide) rfl) ?_
            first
              | refine j_q (qs_loadk 0 Try.underlying3 rfl rfl (by first | omega | (simp only [Bool.and_eq_true, Bool.or_eq_true, Bool.and_eq_false_iff, Bool.or_eq_false_iff, Bool.not_eq_true', Bool.not_eq_false', decide_eq_true_eq, decide_eq_false_iff_not, beq_iff_eq, beq_eq_false_iff_ne, bne_iff_ne, bne_eq_false_iff_eq, ne_eq, Int.toNat_natCast] at *; omega))) ?_
              | refine j_q (qs_loadk 1 Try.underlying3 rfl rfl (by first | omega | (simp only [Bool.and_eq_true, Bool.or_eq_true, Bool.and_eq_false_iff, Bool.or_eq_false_iff, Bool.not_eq_true', Bool.not_eq_false', decide_eq_true_eq, decide_eq_false_iff_not, beq_iff_eq, beq_eq_false_iff_ne, bne_iff_ne, bne_eq_false_iff_eq, ne_eq, Int.toNat_natCast] at *; omega))) ?_
              | refine j_q (qs_loadk 2 Try.underlying3 rfl rfl (by first | omega | (simp only [Bool.and_eq_true, Bool.or_eq_true, Bool.and_eq_false_iff, Bool.or_eq_false_iff, Bool.not_eq_true', Bool.not_eq_false', decide_eq_true_eq, decide_eq_false_iff_not, beq_iff_eq, beq_eq_false_iff_ne, bne_iff_ne, bne_eq_false_iff_eq, ne_eq, Int.toNat_natCast] at *; omega))) ?_
              | refine j_q (qs_loadk 3 Try.underlying3 rfl rfl (by first | omega | (simp only [Bool.and_eq_true, Bool.or_eq_true, Bool.and_eq_false_iff, Bool.or_eq_false_iff, Bool.not_eq_true', Bool.not_eq_false', decide_eq_true_eq, decide_eq_false_iff_not, beq_iff_eq, beq_eq_false_iff_ne, bne_iff_ne, bne_eq_false_iff_eq, ne_eq, Int.toNat_natCast] at *; omega))) ?_
              | refine j_q (qs_loadk 4 Try.underlying3 rfl rfl (by first | omega | (simp only [Bool.and_eq_true, Bool.or_eq_true, Bool.and_eq_false_iff, Bool.or_eq_false_iff, Bool.not_eq_true', Bool.not_eq_false', decide_eq_true_eq, decide_eq_false_iff_not, beq_iff_eq, beq_eq_false_iff_ne, bne_iff_ne, bne_eq_false_iff_eq, ne_eq, Int.toNat_natCast] at *; omega))) ?_
              | refine j_q (qs_load 0 Try.underlying3 rfl rfl rfl rfl) ?_
              | refine j_q (qs_load 1 Try.underlying3 rfl rfl rfl rfl) ?_
              | refine j_q (qs_load 2 Try.underlying3 rfl rfl rfl rfl) ?_
              | refine j_q (qs_load 3 Try.underlying3 rfl rfl rfl rfl) ?_
              | refine j_q (qs_load 4 Try.underlying3 rfl rfl rfl rfl) ?_
            refine j_q (qs_field Try.underlying52 rfl sz9 (by decide) rfl) ?_
            first
              | refine j_q (qs_load 0 Try.underlying9 rfl rfl rfl rfl) ?_
              | refine j_q (qs_load 1 Try.underlying9 rfl rfl rfl rfl) ?_
              | refine j_q (qs_load 2 Try.underlying9 rfl rfl rfl rfl) ?_
              | refine j_q (qs_load 3 Try.underlying9 rfl rfl rfl rfl) ?_
              | refine j_q (qs_load 4 Try.underlying9 rfl rfl rfl rfl) ?_
            refine j_call 2 ent27 rfl rfl rfl rfl (fun w' hw' => rgive_con i (by omega) r (rs.getD i St0).task (rs.getD i St0).name w' hokr hxo.str hrel.rise) (fun u S2 hu => ?_)
            obtain ⟨s1, out2, oc2, e2, v2, rfl, rfl, ho2, hgs1, hoks1, hT2, hob2⟩ := hu
            refine j_perm (S' := [[(g16, .cells [Value.int .i64 (rs.getD i St0).kind, .int .i64 (rs.getD i St0).task, .string (bs (rs.getD i St0).name), .bool (rs.getD i St0).sh].toArray 52 (0, 0))], p1.heap, s1.heap, oc1, oc2]) (by
              classical
              refine List.perm_iff_count.2 fun x => ?_
              simp only [List.set, List.flatten_cons, List.flatten_nil, List.append_nil, List.nil_append, List.cons_append, List.count_append, List.count_cons, List.count_nil] <;> omega) ?_
            obtain ⟨hTa, hTb⟩ := rel_give hrel hwf (rs.getD i St0).task (rs.getD i St0).name
            rw [← hT1, ← hT2] at hTa hTb
            have hr2 : out2 = out1 := congrArg Prod.fst hTa
            have he2 : e2 = e1 := congrArg Prod.snd hTa
            subst hr2 he2
            rw [← hgt1]
            rw [← hgs1]
            have hwf1 : WF p1.at_ := by
              have h1 : p1.at_ = (giveF q.at_ (rs.getD i St0).task (rs.getD i St0).name).1 := by rw [← hT1]
              rw [h1]
              exact wf_give hwf _ _
            have hrel1 : Rel p1.at_ (s1.ls.map RL.e) := hTb
            refine j_q (qs_ext (vs := [_, .int .i64 _]) rfl rfl) ?_
            refine j_q (qs_ext (vs := [_, .int .i64 _]) rfl rfl) ?_
            refine j_q (qs_call ent28 rfl rfl rfl (fun w' hw' => ints_con out2 out2 _ _ w' (rsl_own ho1 3 rfl hw') (rsl_own ho2 4 rfl hw') (by omega))) ?_
            refine j_q (qs_not rfl) ?_
            refine j_g rfl (fun hb => qs_mt rfl) ?_
            refine j_g rfl (fun hb => qs_mt rfl) ?_
            refine j_g rfl (fun hb => qs_neq (gd_eq hb) (gd_eq hb)) ?_
            refine j_q (qs_or rfl rfl) ?_
            refine j_cond rfl (fun hc9 => ?_) (fun hc9 => ?_)
            · skip
              simp [gd] at hc9
            · skip
              refine j_subl (S' := [[(g16, .cells [Value.int .i64 (rs.getD i St0).kind, .int .i64 (rs.getD i St0).task, .string (bs (rs.getD i St0).name), .bool (rs.getD i St0).sh].toArray 52 (0, 0))], p1.heap, s1.heap]) (by repeat first | exact List.Sublist.refl _ | exact List.nil_sublist _ | apply List.Sublist.cons_cons | apply List.Sublist.cons) ?_
              refine j_q (qs_ac) ?_
              refine j_loop (fun m vs S' => ∃ k : Nat, vs = [.int .i64 (k : Int)] ∧ S' = [[(g16, .cells [Value.int .i64 (rs.getD i St0).kind, .int .i64 (rs.getD i St0).task, .string (bs (rs.getD i St0).name), .bool (rs.getD i St0).sh].toArray 52 (0, 0))], p1.heap, s1.heap] ∧ k ≤ i + 1 ∧ m = i + 1 - k) ⟨_, 0, rfl, rfl, Nat.zero_le _, rfl⟩ ?_
              rintro m vs S' hlen ⟨k, rfl, rfl, hki, rfl⟩
              refine j_q (qs_leq rfl rfl) ?_
              refine j_cond rfl (fun hc10 => ?_) (fun hc10 => ?_)
              · skip
                have hk1 : k < i + 1 := by
                  simp only [Bool.and_eq_true, Bool.or_eq_true, Bool.and_eq_false_iff, Bool.or_eq_false_iff, Bool.not_eq_true', Bool.not_eq_false', decide_eq_true_eq, decide_eq_false_iff_not, beq_iff_eq, beq_eq_false_iff_ne, bne_iff_ne, bne_eq_false_iff_eq, ne_eq, Int.toNat_natCast] at *
                  omega
                have hyo := script_ok h (show k < rs.length by omega)
                refine j_q (qs_ixl Try.underlying43 sz52 rfl rfl (by first | omega | (simp only [Bool.and_eq_true, Bool.or_eq_true, Bool.and_eq_false_iff, Bool.or_eq_false_iff, Bool.not_eq_true', Bool.not_eq_false', decide_eq_true_eq, decide_eq_false_iff_not, beq_iff_eq, beq_eq_false_iff_ne, bne_iff_ne, bne_eq_false_iff_eq, ne_eq, Int.toNat_natCast] at *; omega)) (by first | omega | (simp only [Bool.and_eq_true, Bool.or_eq_true, Bool.and_eq_false_iff, Bool.or_eq_false_iff, Bool.not_eq_true', Bool.not_eq_false', decide_eq_true_eq, decide_eq_false_iff_not, beq_iff_eq, beq_eq_false_iff_ne, bne_iff_ne, bne_eq_false_iff_eq, ne_eq, Int.toNat_natCast] at *; omega))) ?_
                refine j_q (qs_field (g := g) (off := off + (k : Int).toNat * 4) Try.underlying52 rfl sz3 (by decide) (by rw [add_off]; rfl)) ?_
                refine j_q (qs_loadR (v := .int .i64 (rs.getD k St0).task) (a := ⟨g, off, none⟩) (i := k * 4 + 1) (rd_cells hcl (by simp)) Try.underlying3 rfl (congrArg (fun a => Value.pointer (some a)) (off_field g off k 1)) (steps_get (by omega) rfl)) ?_
                refine j_q (qs_call ent31 rfl rfl rfl (fun w' hw' => waits_con (i + 1) p1 (rs.getD k St0).task w' (in_own hw' 1 rfl) hok1 hyo.2.1)) ?_
                refine j_q (qs_ext (vs := [.string (bs ((alook p1.wm (rs.getD k St0).task).getD [])), .bool (alook p1.wm (rs.getD k St0).task).isSome]) rfl rfl) ?_
                refine j_q (qs_ext (vs := [.string (bs ((alook p1.wm (rs.getD k St0).task).getD [])), .bool (alook p1.wm (rs.getD k St0).task).isSome]) rfl rfl) ?_
                refine j_q (qs_ixl Try.underlying43 sz52 rfl rfl (by first | omega | (simp only [Bool.and_eq_true, Bool.or_eq_true, Bool.and_eq_false_iff, Bool.or_eq_false_iff, Bool.not_eq_true', Bool.not_eq_false', decide_eq_true_eq, decide_eq_false_iff_not, beq_iff_eq, beq_eq_false_iff_ne, bne_iff_ne, bne_eq_false_iff_eq, ne_eq, Int.toNat_natCast] at *; omega)) (by first | omega | (simp only [Bool.and_eq_true, Bool.or_eq_true, Bool.and_eq_false_iff, Bool.or_eq_false_iff, Bool.not_eq_true', Bool.not_eq_false', decide_eq_true_eq, decide_eq_false_iff_not, beq_iff_eq, beq_eq_false_iff_ne, bne_iff_ne, bne_eq_false_iff_eq, ne_eq, Int.toNat_natCast] at *; omega))) ?_
                refine j_q (qs_field (g := g) (off := off + (k : Int).toNat * 4) Try.underlying52 rfl sz3 (by decide) (by rw [add_off]; rfl)) ?_
                refine j_q (qs_loadR (v := .int .i64 (rs.getD k St0).task) (a := ⟨g, off, none⟩) (i := k * 4 + 1) (rd_cells hcl (by simp)) Try.underlying3 rfl (congrArg (fun a => Value.pointer (some a)) (off_field g off k 1)) (steps_get (by omega) rfl)) ?_
                refine j_q (qs_call ent32 rfl rfl rfl (fun w' hw' => rWaits2_con (i + 1) (by omega) p1.at_ s1 (rs.getD k St0).task w' (in_own hw' 2 rfl) hoks1 hrel1 (rw_of hwf1))) ?_
                refine j_q (qs_ext (vs := [.string (bs ((alook p1.wm (rs.getD k St0).task).getD [])), .bool (alook p1.wm (rs.getD k St0).task).isSome]) rfl rfl) ?_
                refine j_q (qs_ext (vs := [.string (bs ((alook p1.wm (rs.getD k St0).task).getD [])), .bool (alook p1.wm (rs.getD k St0).task).isSome]) rfl rfl) ?_
                refine j_q (qs_sneq rfl rfl) ?_
                refine j_g rfl (fun hb => qs_mt rfl) ?_
                refine j_g rfl (fun hb => qs_mt rfl) ?_
                refine j_g rfl (fun hb => qs_bne Try.underlying4 (gd_eq hb) (gd_eq hb)) ?_
                refine j_q (qs_or rfl rfl) ?_
                refine j_cond rfl (fun hc11 => ?_) (fun hc11 => ?_)
                · skip
                  simp [gd] at hc11
                · skip
                  refine j_mix _ (.refl _) ?_
                  refine j_mq (qs_lss rfl rfl) ?_
                  refine j_mg rfl (fun hb => qs_mt rfl) ?_
                  refine j_mg rfl (fun hb => qs_mt rfl) ?_
                  refine j_mg rfl (fun hb => qs_eql (gd_eq hb) (gd_eq hb)) ?_
                  refine j_mq (qs_or rfl rfl) ?_
                  refine j_mg rfl (fun hb => qs_mt rfl) ?_
                  refine j_mg rfl (fun hb => qs_mt rfl) ?_
                  refine j_mg rfl (fun hb => qs_mt rfl) ?_
                  refine j_mg rfl (fun hb => qs_ixl Try.underlying43 sz52 (gd_eq hb) (gd_eq hb) (by first | omega | (simp only [Bool.and_eq_true, Bool.or_eq_true, Bool.and_eq_false_iff, Bool.or_eq_false_iff, Bool.not_eq_true', Bool.not_eq_false', decide_eq_true_eq, decide_eq_false_iff_not, beq_iff_eq, beq_eq_false_iff_ne, bne_iff_ne, bne_eq_false_iff_eq, ne_eq, Int.toNat_natCast] at *; omega)) (by first | omega | (simp only [Bool.and_eq_true, Bool.or_eq_true, Bool.and_eq_false_iff, Bool.or_eq_false_iff, Bool.not_eq_true', Bool.not_eq_false', decide_eq_true_eq, decide_eq_false_iff_not, beq_iff_eq, beq_eq_false_iff_ne, bne_iff_ne, bne_eq_false_iff_eq, ne_eq, Int.toNat_natCast] at *; omega))) ?_
                  refine j_mg rfl (fun hb => qs_field (g := g) (off := off + (k : Int).toNat * 4) Try.underlying52 rfl sz3 (by decide) ((gd_eq hb).trans (by rw [add_off]))) ?_
                  refine j_mg rfl (fun hb => qs_loadR (v := .int .i64 (rs.getD k St0).task) (a := ⟨g, off, none⟩) (i := k * 4 + 1) (rd_cells hcl (by simp)) Try.underlying3 rfl ((gd_eq hb).trans (congrArg (fun a => Value.pointer (some a)) (off_field g off k 1))) (steps_get (by omega) rfl)) ?_
                  refine j_mg rfl (fun hb => qs_mt rfl) ?_
                  refine j_mg rfl (fun hb => qs_mt rfl) ?_
                  refine j_mg rfl (fun hb => qs_ixl Try.underlying43 sz52 (gd_eq hb) (gd_eq hb) (by first | omega | (simp only [Bool.and_eq_true, Bool.or_eq_true, Bool.and_eq_false_iff, Bool.or_eq_false_iff, Bool.not_eq_true', Bool.not_eq_false', decide_eq_true_eq, decide_eq_false_iff_not, beq_iff_eq, beq_eq_false_iff_ne, bne_iff_ne, bne_eq_false_iff_eq, ne_eq, Int.toNat_natCast] at *; omega)) (by first | omega | (simp only [Bool.and_eq_true, Bool.or_eq_true, Bool.and_eq_false_iff, Bool.or_eq_false_iff, Bool.not_eq_true', Bool.not_eq_false', decide_eq_true_eq, decide_eq_false_iff_not, beq_iff_eq, beq_eq_false_iff_ne, bne_iff_ne, bne_eq_false_iff_eq, ne_eq, Int.toNat_natCast] at *; omega))) ?_
                  refine j_mg rfl (fun hb => qs_field (g := g) (off := off + (k : Int).toNat * 4) Try.underlying52 rfl sz9 (by decide) ((gd_eq hb).trans (by rw [add_off]))) ?_
                  refine j_mg rfl (fun hb => qs_loadR (v := .string (bs (rs.getD k St0).name)) (a := ⟨g, off, none⟩) (i := k * 4 + 2) (rd_cells hcl (by simp)) Try.underlying9 rfl ((gd_eq hb).trans (congrArg (fun a => Value.pointer (some a)) (off_field g off k 2))) (steps_get (by omega) rfl)) ?_
                  refine j_mg rfl (fun hb => qs_mt rfl) ?_
                  refine j_mg rfl (fun hb => qs_mt rfl) ?_
                  refine j_mg rfl (fun hb => qs_mt rfl) ?_
                  refine j_mg rfl (fun hb => qs_ixl Try.underlying43 sz52 (gd_eq hb) (gd_eq hb) (by first | omega | (simp only [Bool.and_eq_true, Bool.or_eq_true, Bool.and_eq_false_iff, Bool.or_eq_false_iff, Bool.not_eq_true', Bool.not_eq_false', decide_eq_true_eq, decide_eq_false_iff_not, beq_iff_eq, beq_eq_false_iff_ne, bne_iff_ne, bne_eq_false_iff_eq, ne_eq, Int.toNat_natCast] at *; omega)) (by first | omega | (simp only [Bool.and_eq_true, Bool.or_eq_true, Bool.and_eq_false_iff, Bool.or_eq_false_iff, Bool.not_eq_true', Bool.not_eq_false', decide_eq_true_eq, decide_eq_false_iff_not, beq_iff_eq, beq_eq_false_iff_ne, bne_iff_ne, bne_eq_false_iff_eq, ne_eq, Int.toNat_natCast] at *; omega))) ?_
                  refine j_mg rfl (fun hb => qs_field (g := g) (off := off + (k : Int).toNat * 4) Try.underlying52 rfl sz3 (by decide) ((gd_eq hb).trans (by rw [add_off]))) ?_
                  refine j_mg rfl (fun hb => qs_loadR (v := .int .i64 (rs.getD k St0).task) (a := ⟨g, off, none⟩) (i := k * 4 + 1) (rd_cells hcl (by simp)) Try.underlying3 rfl ((gd_eq hb).trans (congrArg (fun a => Value.pointer (some a)) (off_field g off k 1))) (steps_get (by omega) rfl)) ?_
                  refine j_mg rfl (fun hb => qs_mt rfl) ?_
                  refine j_mg rfl (fun hb => qs_mt rfl) ?_
                  refine j_mg rfl (fun hb => qs_ixl Try.underlying43 sz52 (gd_eq hb) (gd_eq hb) (by first | omega | (simp only [Bool.and_eq_true, Bool.or_eq_true, Bool.and_eq_false_iff, Bool.or_eq_false_iff, Bool.not_eq_true', Bool.not_eq_false', decide_eq_true_eq, decide_eq_false_iff_not, beq_iff_eq, beq_eq_false_iff_ne, bne_iff_ne, bne_eq_false_iff_eq, ne_eq, Int.toNat_natCast] at *; omega)) (by first | omega | (simp only [Bool.and_eq_true, Bool.or_eq_true, Bool.and_eq_false_iff, Bool.or_eq_false_iff, Bool.not_eq_true', Bool.not_eq_false', decide_eq_true_eq, decide_eq_false_iff_not, beq_iff_eq, beq_eq_false_iff_ne, bne_iff_ne, bne_eq_false_iff_eq, ne_eq, Int.toNat_natCast] at *; omega))) ?_
                  refine j_mg rfl (fun hb => qs_field (g := g) (off := off + (k : Int).toNat * 4) Try.underlying52 rfl sz9 (by decide) ((gd_eq hb).trans (by rw [add_off]))) ?_
                  refine j_mg rfl (fun hb => qs_loadR (v := .string (bs (rs.getD k St0).name)) (a := ⟨g, off, none⟩) (i := k * 4 + 2) (rd_cells hcl (by simp)) Try.underlying9 rfl ((gd_eq hb).trans (congrArg (fun a => Value.pointer (some a)) (off_field g off k 2))) (steps_get (by omega) rfl)) ?_
                  refine j_g rfl (fun hb => qs_call ent33 rfl rfl (args3 (gd_eq hb) (gd_eq hb) (gd_eq hb)) (fun w' hw' => holds2_con (i + 1) p1 (rs.getD k St0).task (rs.getD k St0).name w' (in_own hw' 1 rfl) hok1 hyo.2.1 hyo.str)) ?_
                  refine j_mD0 (Le.of_sub (by repeat first | exact List.Sublist.refl _ | exact List.nil_sublist _ | apply List.Sublist.cons_cons | apply List.Sublist.cons)) ?_
                  refine j_g rfl (fun hb => qs_call ent34 rfl rfl (args3 (gd_eq hb) (gd_eq hb) (gd_eq hb)) (fun w' hw' => rholds2_con (i + 1) (by omega) p1.at_ s1 (rs.getD k St0).task (rs.getD k St0).name w' (in_own hw' 2 rfl) hoks1 hrel1)) ?_
                  refine j_mR _ (.refl _) ?_
                  refine j_mg rfl (fun hb => qs_bne Try.underlying4 (gd_eq hb) (gd_eq hb)) ?_
                  refine j_mq (qs_and rfl rfl) ?_
                  refine j_mend ?_
                  refine j_cond rfl (fun hc12 => ?_) (fun hc12 => ?_)
                  · skip
                    simp [gd] at hc12
                  · skip
                    refine j_q (qs_add64 rfl rfl (by first | omega | (simp only [Bool.and_eq_true, Bool.or_eq_true, Bool.and_eq_false_iff, Bool.or_eq_false_iff, Bool.not_eq_true', Bool.not_eq_false', decide_eq_true_eq, decide_eq_false_iff_not, beq_iff_eq, beq_eq_false_iff_ne, bne_iff_ne, bne_eq_false_iff_eq, ne_eq, Int.toNat_natCast] at *; omega))) ?_
                    refine j_back rfl ?_
                    exact ⟨i + 1 - (k + 1), by omega, k + 1, rfl, rfl, by omega, rfl⟩
              · skip
                refine j_subl (S' := [p1.heap, s1.heap]) (by repeat first | exact List.Sublist.refl _ | exact List.nil_sublist _ | apply List.Sublist.cons_cons | apply List.Sublist.cons) ?_
                refine j_q (qs_add64 rfl rfl (by first | omega | (simp only [Bool.and_eq_true, Bool.or_eq_true, Bool.and_eq_false_iff, Bool.or_eq_false_iff, Bool.not_eq_true', Bool.not_eq_false', decide_eq_true_eq, decide_eq_false_iff_not, beq_iff_eq, beq_eq_false_iff_ne, bne_iff_ne, bne_eq_false_iff_eq, ne_eq, Int.toNat_natCast] at *; omega))) ?_
                refine j_back rfl ?_
                exact ⟨200 - (i + 1), by omega, i + 1, p1, s1, rfl, rfl, rfl, rfl, hok1, hoks1, hwf1, hrel1, by omega, by omega, rfl⟩
          · skip
            refine j_mix [[(g16, .cells [Value.int .i64 (rs.getD i St0).kind, .int .i64 (rs.getD i St0).task, .string (bs (rs.getD i St0).name), .bool (rs.getD i St0).sh].toArray 52 (0, 0))]] (Le.of_sub (by repeat first | exact List.Sublist.refl _ | exact List.nil_sublist _ | apply List.Sublist.cons_cons | apply List.Sublist.cons)) ?_
            refine j_mq (qs_field Try.underlying52 rfl sz3 (by decide) rfl) ?_
            first
              | refine j_mq (qs_loadk 0 Try.underlying3 rfl rfl (by first | omega | (simp only [Bool.and_eq_true, Bool.or_eq_true, Bool.and_eq_false_iff, Bool.or_eq_false_iff, Bool.not_eq_true', Bool.not_eq_false', decide_eq_true_eq, decide_eq_false_iff_not, beq_iff_eq, beq_eq_false_iff_ne, bne_iff_ne, bne_eq_false_iff_eq, ne_eq, Int.toNat_natCast] at *; omega))) ?_
              | refine j_mq (qs_loadk 1 Try.underlying3 rfl rfl (by first | omega | (simp only [Bool.and_eq_true, Bool.or_eq_true, Bool.and_eq_false_iff, Bool.or_eq_false_iff, Bool.not_eq_true', Bool.not_eq_false', decide_eq_true_eq, decide_eq_false_iff_not, beq_iff_eq, beq_eq_false_iff_ne, bne_iff_ne, bne_eq_false_iff_eq, ne_eq, Int.toNat_natCast] at *; omega))) ?_
              | refine j_mq (qs_loadk 2 Try.underlying3 rfl rfl (by first | omega | (simp only [Bool.and_eq_true, Bool.or_eq_true, Bool.and_eq_false_iff, Bool.or_eq_false_iff, Bool.not_eq_true', Bool.not_eq_false', decide_eq_true_eq, decide_eq_false_iff_not, beq_iff_eq, beq_eq_false_iff_ne, bne_iff_ne, bne_eq_false_iff_eq, ne_eq, Int.toNat_natCast] at *; omega))) ?_
              | refine j_mq (qs_loadk 3 Try.underlying3 rfl rfl (by first | omega | (simp only [Bool.and_eq_true, Bool.or_eq_true, Bool.and_eq_false_iff, Bool.or_eq_false_iff, Bool.not_eq_true', Bool.not_eq_false', decide_eq_true_eq, decide_eq_false_iff_not, beq_iff_eq, beq_eq_false_iff_ne, bne_iff_ne, bne_eq_false_iff_eq, ne_eq, Int.toNat_natCast] at *; omega))) ?_
              | refine j_mq (qs_loadk 4 Try.underlying3 rfl rfl (by first | omega | (simp only [Bool.and_eq_true, Bool.or_eq_true, Bool.and_eq_false_iff, Bool.or_eq_false_iff, Bool.not_eq_true', Bool.not_eq_false', decide_eq_true_eq, decide_eq_false_iff_not, beq_iff_eq, beq_eq_false_iff_ne, bne_iff_ne, bne_eq_false_iff_eq, ne_eq, Int.toNat_natCast] at *; omega))) ?_
              | refine j_mq (qs_load 0 Try.underlying3 rfl rfl rfl rfl) ?_
              | refine j_mq (qs_load 1 Try.underlying3 rfl rfl rfl rfl) ?_
              | refine j_mq (qs_load 2 Try.underlying3 rfl rfl rfl rfl) ?_
              | refine j_mq (qs_load 3 Try.underlying3 rfl rfl rfl rfl) ?_
              | refine j_mq (qs_load 4 Try.underlying3 rfl rfl rfl rfl) ?_
            refine j_mq (qs_field Try.underlying52 rfl sz3 (by decide) rfl) ?_
            first
              | refine j_mq (qs_loadk 0 Try.underlying3 rfl rfl (by first | omega | (simp only [Bool.and_eq_true, Bool.or_eq_true, Bool.and_eq_false_iff, Bool.or_eq_false_iff, Bool.not_eq_true', Bool.not_eq_false', decide_eq_true_eq, decide_eq_false_iff_not, beq_iff_eq, beq_eq_false_iff_ne, bne_iff_ne, bne_eq_false_iff_eq, ne_eq, Int.toNat_natCast] at *; omega))) ?_
              | refine j_mq (qs_loadk 1 Try.underlying3 rfl rfl (by first | omega | (simp only [Bool.and_eq_true, Bool.or_eq_true, Bool.and_eq_false_iff, Bool.or_eq_false_iff, Bool.not_eq_true', Bool.not_eq_false', decide_eq_true_eq, decide_eq_false_iff_not, beq_iff_eq, beq_eq_false_iff_ne, bne_iff_ne, bne_eq_false_iff_eq, ne_eq, Int.toNat_natCast] at *; omega))) ?_
              | refine j_mq (qs_loadk 2 Try.underlying3 rfl rfl (by first | omega | (simp only [Bool.and_eq_true, Bool.or_eq_true, Bool.and_eq_false_iff, Bool.or_eq_false_iff, Bool.not_eq_true', Bool.not_eq_false', decide_eq_true_eq, decide_eq_false_iff_not, beq_iff_eq, beq_eq_false_iff_ne, bne_iff_ne, bne_eq_false_iff_eq, ne_eq, Int.toNat_natCast] at *; omega))) ?_
              | refine j_mq (qs_loadk 3 Try.underlying3 rfl rfl (by first | omega | (simp only [Bool.and_eq_true, Bool.or_eq_true, Bool.and_eq_false_iff, Bool.or_eq_false_iff, Bool.not_eq_true', Bool.not_eq_false', decide_eq_true_eq, decide_eq_false_iff_not, beq_iff_eq, beq_eq_false_iff_ne, bne_iff_ne, bne_eq_false_iff_eq, ne_eq, Int.toNat_natCast] at *; omega))) ?_
              | refine j_mq (qs_loadk 4 Try.underlying3 rfl rfl (by first | omega | (simp only [Bool.and_eq_true, Bool.or_eq_true, Bool.and_eq_false_iff, Bool.or_eq_false_iff, Bool.not_eq_true', Bool.not_eq_false', decide_eq_true_eq, decide_eq_false_iff_not, beq_iff_eq, beq_eq_false_iff_ne, bne_iff_ne, bne_eq_false_iff_eq, ne_eq, Int.toNat_natCast] at *; omega))) ?_
              | refine j_mq (qs_load 0 Try.underlying3 rfl rfl rfl rfl) ?_
              | refine j_mq (qs_load 1 Try.underlying3 rfl rfl rfl rfl) ?_
              | refine j_mq (qs_load 2 Try.underlying3 rfl rfl rfl rfl) ?_
              | refine j_mq (qs_load 3 Try.underlying3 rfl rfl rfl rfl) ?_
              | refine j_mq (qs_load 4 Try.underlying3 rfl rfl rfl rfl) ?_
            refine j_call 1 ent29 rfl rfl rfl rfl (fun w' hw' => leave_con i (by omega) q (rs.getD i St0).task w' hok hxo.2.1) (fun u1 S2 hu => ?_)
            obtain ⟨p1, out1, oc1, rfl, ho1, hgt1, hok1', hT1⟩ := hu
            have hok1 : p1.Ok (i + 1) := hok1'.up (by omega)
            refine j_perm (S' := [[(g16, .cells [Value.int .i64 (rs.getD i St0).kind, .int .i64 (rs.getD i St0).task, .string (bs (rs.getD i St0).name), .bool (rs.getD i St0).sh].toArray 52 (0, 0))], p1.heap, r.heap, oc1]) (by
              classical
              refine List.perm_iff_count.2 fun x => ?_
              simp only [List.set, List.flatten_cons, List.flatten_nil, List.append_nil, List.nil_append, List.cons_append, List.count_append, List.count_cons, List.count_nil] <;> omega) ?_
            refine j_mD0 (Le.of_sub (by repeat first | exact List.Sublist.refl _ | exact List.nil_sublist _ | apply List.Sublist.cons_cons | apply List.Sublist.cons)) ?_
            refine j_call 2 ent30 rfl rfl rfl rfl (fun w' hw' => rleave_con i (by omega) r (rs.getD i St0).task w' hokr hrel.rise) (fun u2 S2 hu => ?_)
            obtain ⟨s1, out2, oc2, rfl, ho2, hgs1, hoks1', hT2, hob2⟩ := hu
            have hoks1 : s1.Ok (i + 1) := hoks1'.up (by omega)
            refine j_perm (S' := [[(g16, .cells [Value.int .i64 (rs.getD i St0).kind, .int .i64 (rs.getD i St0).task, .string (bs (rs.getD i St0).name), .bool (rs.getD i St0).sh].toArray 52 (0, 0))], p1.heap, s1.heap, oc1, oc2]) (by
              classical
              refine List.perm_iff_count.2 fun x => ?_
              simp only [List.set, List.flatten_cons, List.flatten_nil, List.append_nil, List.nil_append, List.cons_append, List.count_append, List.count_cons, List.count_nil] <;> omega) ?_
            obtain ⟨hTa, hTb⟩ := rel_leave hrel hwf (rs.getD i St0).task
            rw [← hT1, ← hT2] at hTa hTb
            have hr2 : out2 = out1 := hTa
            subst hr2
            have hob3 : i * (i + 1) ≤ 200 * 201 := Nat.mul_le_mul (by omega) (by omega)
            rw [← hgt1]
            rw [← hgs1]
            have hwf1 : WF p1.at_ := by
              have h1 : p1.at_ = (leaveF q.at_ (rs.getD i St0).task).1 := by rw [← hT1]
              rw [h1]
              exact wf_leave hwf _
            have hrel1 : Rel p1.at_ (s1.ls.map RL.e) := hTb
            refine j_mR _ (.refl _) ?_
            refine j_q (qs_call ent28 rfl rfl rfl (fun w' hw' => ints_con out2 out2 _ _ w' (rsl_own ho1 3 rfl hw') (rsl_own ho2 4 rfl hw') (by omega))) ?_
            refine j_mR _ (.refl _) ?_
            refine j_mq (qs_not rfl) ?_
            refine j_mend ?_
            refine j_cond rfl (fun hc13 => ?_) (fun hc13 => ?_)
            · skip
              simp at hc13
            · skip
              refine j_subl (S' := [[(g16, .cells [Value.int .i64 (rs.getD i St0).kind, .int .i64 (rs.getD i St0).task, .string (bs (rs.getD i St0).name), .bool (rs.getD i St0).sh].toArray 52 (0, 0))], p1.heap, s1.heap]) (by repeat first | exact List.Sublist.refl _ | exact List.nil_sublist _ | apply List.Sublist.cons_cons | apply List.Sublist.cons) ?_
              refine j_q (qs_ac) ?_
              refine j_loop (fun m vs S' => ∃ k : Nat, vs = [.int .i64 (k : Int)] ∧ S' = [[(g16, .cells [Value.int .i64 (rs.getD i St0).kind, .int .i64 (rs.getD i St0).task, .string (bs (rs.getD i St0).name), .bool (rs.getD i St0).sh].toArray 52 (0, 0))], p1.heap, s1.heap] ∧ k ≤ i + 1 ∧ m = i + 1 - k) ⟨_, 0, rfl, rfl, Nat.zero_le _, rfl⟩ ?_
              rintro m vs S' hlen ⟨k, rfl, rfl, hki, rfl⟩
              refine j_q (qs_leq rfl rfl) ?_
              refine j_cond rfl (fun hc14 => ?_) (fun hc14 => ?_)
              · skip
                have hk1 : k < i + 1 := by
                  simp only [Bool.and_eq_true, Bool.or_eq_true, Bool.and_eq_false_iff, Bool.or_eq_false_iff, Bool.not_eq_true', Bool.not_eq_false', decide_eq_true_eq, decide_eq_false_iff_not, beq_iff_eq, beq_eq_false_iff_ne, bne_iff_ne, bne_eq_false_iff_eq, ne_eq, Int.toNat_natCast] at *
                  omega
                have hyo := script_ok h (show k < rs.length by omega)
                refine j_q (qs_ixl Try.underlying43 sz52 rfl rfl (by first | omega | (simp only [Bool.and_eq_true, Bool.or_eq_true, Bool.and_eq_false_iff, Bool.or_eq_false_iff, Bool.not_eq_true', Bool.not_eq_false', decide_eq_true_eq, decide_eq_false_iff_not, beq_iff_eq, beq_eq_false_iff_ne, bne_iff_ne, bne_eq_false_iff_eq, ne_eq, Int.toNat_natCast] at *; omega)) (by first | omega | (simp only [Bool.and_eq_true, Bool.or_eq_true, Bool.and_eq_false_iff, Bool.or_eq_false_iff, Bool.not_eq_true', Bool.not_eq_false', decide_eq_true_eq, decide_eq_false_iff_not, beq_iff_eq, beq_eq_false_iff_ne, bne_iff_ne, bne_eq_false_iff_eq, ne_eq, Int.toNat_natCast] at *; omega))) ?_
                refine j_q (qs_field (g := g) (off := off + (k : Int).toNat * 4) Try.underlying52 rfl sz3 (by decide) (by rw [add_off]; rfl)) ?_
                refine j_q (qs_loadR (v := .int .i64 (rs.getD k St0).task) (a := ⟨g, off, none⟩) (i := k * 4 + 1) (rd_cells hcl (by simp)) Try.underlying3 rfl (congrArg (fun a => Value.pointer (some a)) (off_field g off k 1)) (steps_get (by omega) rfl)) ?_
                refine j_q (qs_call ent31 rfl rfl rfl (fun w' hw' => waits_con (i + 1) p1 (rs.getD k St0).task w' (in_own hw' 1 rfl) hok1 hyo.2.1)) ?_
                refine j_q (qs_ext (vs := [.string (bs ((alook p1.wm (rs.getD k St0).task).getD [])), .bool (alook p1.wm (rs.getD k St0).task).isSome]) rfl rfl) ?_
                refine j_q (qs_ext (vs := [.string (bs ((alook p1.wm (rs.getD k St0).task).getD [])), .bool (alook p1.wm (rs.getD k St0).task).isSome]) rfl rfl) ?_
                refine j_q (qs_ixl Try.underlying43 sz52 rfl rfl (by first | omega | (simp only [Bool.and_eq_true, Bool.or_eq_true, Bool.and_eq_false_iff, Bool.or_eq_false_iff, Bool.not_eq_true', Bool.not_eq_false', decide_eq_true_eq, decide_eq_false_iff_not, beq_iff_eq, beq_eq_false_iff_ne, bne_iff_ne, bne_eq_false_iff_eq, ne_eq, Int.toNat_natCast] at *; omega)) (by first | omega | (simp only [Bool.and_eq_true, Bool.or_eq_true, Bool.and_eq_false_iff, Bool.or_eq_false_iff, Bool.not_eq_true', Bool.not_eq_false', decide_eq_true_eq, decide_eq_false_iff_not, beq_iff_eq, beq_eq_false_iff_ne, bne_iff_ne, bne_eq_false_iff_eq, ne_eq, Int.toNat_natCast] at *; omega))) ?_
                refine j_q (qs_field (g := g) (off := off + (k : Int).toNat * 4) Try.underlying52 rfl sz3 (by decide) (by rw [add_off]; rfl)) ?_
                refine j_q (qs_loadR (v := .int .i64 (rs.getD k St0).task) (a := ⟨g, off, none⟩) (i := k * 4 + 1) (rd_cells hcl (by simp)) Try.underlying3 rfl (congrArg (fun a => Value.pointer (some a)) (off_field g off k 1)) (steps_get (by omega) rfl)) ?_
                refine j_q (qs_call ent32 rfl rfl rfl (fun w' hw' => rWaits2_con (i + 1) (by omega) p1.at_ s1 (rs.getD k St0).task w' (in_own hw' 2 rfl) hoks1 hrel1 (rw_of hwf1))) ?_
                refine j_q (qs_ext (vs := [.string (bs ((alook p1.wm (rs.getD k St0).task).getD [])), .bool (alook p1.wm (rs.getD k St0).task).isSome]) rfl rfl) ?_
                refine j_q (qs_ext (vs := [.string (bs ((alook p1.wm (rs.getD k St0).task).getD [])), .bool (alook p1.wm (rs.getD k St0).task).isSome]) rfl rfl) ?_
                refine j_q (qs_sneq rfl rfl) ?_
                refine j_g rfl (fun hb => qs_mt rfl) ?_
                refine j_g rfl (fun hb => qs_mt rfl) ?_
                refine j_g rfl (fun hb => qs_bne Try.underlying4 (gd_eq hb) (gd_eq hb)) ?_
                refine j_q (qs_or rfl rfl) ?_
                refine j_cond rfl (fun hc15 => ?_) (fun hc15 => ?_)
                · skip
                  simp [gd] at hc15
                · skip
                  refine j_mix _ (.refl _) ?_
                  refine j_mq (qs_lss rfl rfl) ?_
                  refine j_mg rfl (fun hb => qs_mt rfl) ?_
                  refine j_mg rfl (fun hb => qs_mt rfl) ?_
                  refine j_mg rfl (fun hb => qs_eql (gd_eq hb) (gd_eq hb)) ?_
                  refine j_mq (qs_or rfl rfl) ?_
                  refine j_mg rfl (fun hb => qs_mt rfl) ?_
                  refine j_mg rfl (fun hb => qs_mt rfl) ?_
                  refine j_mg rfl (fun hb => qs_mt rfl) ?_
                  refine j_mg rfl (fun hb => qs_ixl Try.underlying43 sz52 (gd_eq hb) (gd_eq hb) (by first | omega | (simp only [Bool.and_eq_true, Bool.or_eq_true, Bool.and_eq_false_iff, Bool.or_eq_false_iff, Bool.not_eq_true', Bool.not_eq_false', decide_eq_true_eq, decide_eq_false_iff_not, beq_iff_eq, beq_eq_false_iff_ne, bne_iff_ne, bne_eq_false_iff_eq, ne_eq, Int.toNat_natCast] at *; omega)) (by first | omega | (simp only [Bool.and_eq_true, Bool.or_eq_true, Bool.and_eq_false_iff, Bool.or_eq_false_iff, Bool.not_eq_true', Bool.not_eq_false', decide_eq_true_eq, decide_eq_false_iff_not, beq_iff_eq, beq_eq_false_iff_ne, bne_iff_ne, bne_eq_false_iff_eq, ne_eq, Int.toNat_natCast] at *; omega))) ?_
                  refine j_mg rfl (fun hb => qs_field (g := g) (off := off + (k : Int).toNat * 4) Try.underlying52 rfl sz3 (by decide) ((gd_eq hb).trans (by rw [add_off]))) ?_
                  refine j_mg rfl (fun hb => qs_loadR (v := .int .i64 (rs.getD k St0).task) (a := ⟨g, off, none⟩) (i := k * 4 + 1) (rd_cells hcl (by simp)) Try.underlying3 rfl ((gd_eq hb).trans (congrArg (fun a => Value.pointer (some a)) (off_field g off k 1))) (steps_get (by omega) rfl)) ?_
                  refine j_mg rfl (fun hb => qs_mt rfl) ?_
                  refine j_mg rfl (fun hb => qs_mt rfl) ?_
                  refine j_mg rfl (fun hb => qs_ixl Try.underlying43 sz52 (gd_eq hb) (gd_eq hb) (by first | omega | (simp only [Bool.and_eq_true, Bool.or_eq_true, Bool.and_eq_false_iff, Bool.or_eq_false_iff, Bool.not_eq_true', Bool.not_eq_false', decide_eq_true_eq, decide_eq_false_iff_not, beq_iff_eq, beq_eq_false_iff_ne, bne_iff_ne, bne_eq_false_iff_eq, ne_eq, Int.toNat_natCast] at *; omega)) (by first | omega | (simp only [Bool.and_eq_true, Bool.or_eq_true, Bool.and_eq_false_iff, Bool.or_eq_false_iff, Bool.not_eq_true', Bool.not_eq_false', decide_eq_true_eq, decide_eq_false_iff_not, beq_iff_eq, beq_eq_false_iff_ne, bne_iff_ne, bne_eq_false_iff_eq, ne_eq, Int.toNat_natCast] at *; omega))) ?_
                  refine j_mg rfl (fun hb => qs_field (g := g) (off := off + (k : Int).toNat * 4) Try.underlying52 rfl sz9 (by decide) ((gd_eq hb).trans (by rw [add_off]))) ?_
                  refine j_mg rfl (fun hb => qs_loadR (v := .string (bs (rs.getD k St0).name)) (a := ⟨g, off, none⟩) (i := k * 4 + 2) (rd_cells hcl (by simp)) Try.underlying9 rfl ((gd_eq hb).trans (congrArg (fun a => Value.pointer (some a)) (off_field g off k 2))) (steps_get (by omega) rfl)) ?_
                  refine j_mg rfl (fun hb => qs_mt rfl) ?_
                  refine j_mg rfl (fun hb => qs_mt rfl) ?_
                  refine j_mg rfl (fun hb => qs_mt rfl) ?_
                  refine j_mg rfl (fun hb => qs_ixl Try.underlying43 sz52 (gd_eq hb) (gd_eq hb) (by first | omega | (simp only [Bool.and_eq_true, Bool.or_eq_true, Bool.and_eq_false_iff, Bool.or_eq_false_iff, Bool.not_eq_true', Bool.not_eq_false', decide_eq_true_eq, decide_eq_false_iff_not, beq_iff_eq, beq_eq_false_iff_ne, bne_iff_ne, bne_eq_false_iff_eq, ne_eq, Int.toNat_natCast] at *; omega)) (by first | omega | (simp only [Bool.and_eq_true, Bool.or_eq_true, Bool.and_eq_false_iff, Bool.or_eq_false_iff, Bool.not_eq_true', Bool.not_eq_false', decide_eq_true_eq, decide_eq_false_iff_not, beq_iff_eq, beq_eq_false_iff_ne, bne_iff_ne, bne_eq_false_iff_eq, ne_eq, Int.toNat_natCast] at *; omega))) ?_
                  refine j_mg rfl (fun hb => qs_field (g := g) (off := off + (k : Int).toNat * 4) Try.underlying52 rfl sz3 (by decide) ((gd_eq hb).trans (by rw [add_off]))) ?_
                  refine j_mg rfl (fun hb => qs_loadR (v := .int .i64 (rs.getD k St0).task) (a := ⟨g, off, none⟩) (i := k * 4 + 1) (rd_cells hcl (by simp)) Try.underlying3 rfl ((gd_eq hb).trans (congrArg (fun a => Value.pointer (some a)) (off_field g off k 1))) (steps_get (by omega) rfl)) ?_
                  refine j_mg rfl (fun hb => qs_mt rfl) ?_
                  refine j_mg rfl (fun hb => qs_mt rfl) ?_
                  refine j_mg rfl (fun hb => qs_ixl Try.underlying43 sz52 (gd_eq hb) (gd_eq hb) (by first | omega | (simp only [Bool.and_eq_true, Bool.or_eq_true, Bool.and_eq_false_iff, Bool.or_eq_false_iff, Bool.not_eq_true', Bool.not_eq_false', decide_eq_true_eq, decide_eq_false_iff_not, beq_iff_eq, beq_eq_false_iff_ne, bne_iff_ne, bne_eq_false_iff_eq, ne_eq, Int.toNat_natCast] at *; omega)) (by first | omega | (simp only [Bool.and_eq_true, Bool.or_eq_true, Bool.and_eq_false_iff, Bool.or_eq_false_iff, Bool.not_eq_true', Bool.not_eq_false', decide_eq_true_eq, decide_eq_false_iff_not, beq_iff_eq, beq_eq_false_iff_ne, bne_iff_ne, bne_eq_false_iff_eq, ne_eq, Int.toNat_natCast] at *; omega))) ?_
                  refine j_mg rfl (fun hb => qs_field (g := g) (off := off + (k : Int).toNat * 4) Try.underlying52 rfl sz9 (by decide) ((gd_eq hb).trans (by rw [add_off]))) ?_
                  refine j_mg rfl (fun hb => qs_loadR (v := .string (bs (rs.getD k St0).name)) (a := ⟨g, off, none⟩) (i := k * 4 + 2) (rd_cells hcl (by simp)) Try.underlying9 rfl ((gd_eq hb).trans (congrArg (fun a => Value.pointer (some a)) (off_field g off k 2))) (steps_get (by omega) rfl)) ?_
                  refine j_g rfl (fun hb => qs_call ent33 rfl rfl (args3 (gd_eq hb) (gd_eq hb) (gd_eq hb)) (fun w' hw' => holds2_con (i + 1) p1 (rs.getD k St0).task (rs.getD k St0).name w' (in_own hw' 1 rfl) hok1 hyo.2.1 hyo.str)) ?_
                  refine j_mD0 (Le.of_sub (by repeat first | exact List.Sublist.refl _ | exact List.nil_sublist _ | apply List.Sublist.cons_cons | apply List.Sublist.cons)) ?_
                  refine j_g rfl (fun hb => qs_call ent34 rfl rfl (args3 (gd_eq hb) (gd_eq hb) (gd_eq hb)) (fun w' hw' => rholds2_con (i + 1) (by omega) p1.at_ s1 (rs.getD k St0).task (rs.getD k St0).name w' (in_own hw' 2 rfl) hoks1 hrel1)) ?_
                  refine j_mR _ (.refl _) ?_
                  refine j_mg rfl (fun hb => qs_bne Try.underlying4 (gd_eq hb) (gd_eq hb)) ?_
                  refine j_mq (qs_and rfl rfl) ?_
                  refine j_mend ?_
                  refine j_cond rfl (fun hc16 => ?_) (fun hc16 => ?_)
                  · skip
                    simp [gd] at hc16
                  · skip
                    refine j_q (qs_add64 rfl rfl (by first | omega | (simp only [Bool.and_eq_true, Bool.or_eq_true, Bool.and_eq_false_iff, Bool.or_eq_false_iff, Bool.not_eq_true', Bool.not_eq_false', decide_eq_true_eq, decide_eq_false_iff_not, beq_iff_eq, beq_eq_false_iff_ne, bne_iff_ne, bne_eq_false_iff_eq, ne_eq, Int.toNat_natCast] at *; omega))) ?_
                    refine j_back rfl ?_
                    exact ⟨i + 1 - (k + 1), by omega, k + 1, rfl, rfl, by omega, rfl⟩
              · skip
                refine j_subl (S' := [p1.heap, s1.heap]) (by repeat first | exact List.Sublist.refl _ | exact List.nil_sublist _ | apply List.Sublist.cons_cons | apply List.Sublist.cons) ?_
                refine j_q (qs_add64 rfl rfl (by first | omega | (simp only [Bool.and_eq_true, Bool.or_eq_true, Bool.and_eq_false_iff, Bool.or_eq_false_iff, Bool.not_eq_true', Bool.not_eq_false', decide_eq_true_eq, decide_eq_false_iff_not, beq_iff_eq, beq_eq_false_iff_ne, bne_iff_ne, bne_eq_false_iff_eq, ne_eq, Int.toNat_natCast] at *; omega))) ?_
                refine j_back rfl ?_
                exact ⟨200 - (i + 1), by omega, i + 1, p1, s1, rfl, rfl, rfl, rfl, hok1, hoks1, hwf1, hrel1, by omega, by omega, rfl⟩
      · skip
        refine j_q (qs_call ent9 rfl rfl rfl (fun w' hw' => known_con w')) ?_
        refine j_ret_con (vs := [_]) (fun w' hw' => ⟨rfl, trivial⟩) ?_
        rfl
end Go.Proofs.Ytlgfpoelhjlifaa
