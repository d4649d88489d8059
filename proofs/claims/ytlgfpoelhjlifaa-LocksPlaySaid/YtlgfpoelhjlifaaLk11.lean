/- Locks by names: the law LocksAlone. -/
import Derived.Test.YtlgfpoelhjlifaaTa
import Derived.Test.YtlgfpoelhjlifaaLk10
import Derived.Test.YtlgfpoelhjlifaaWf12d
namespace Go.Proofs.Ytlgfpoelhjlifaa
open Go Go.Sx
set_option maxRecDepth 100000
set_option maxHeartbeats 4000000
set_option linter.unusedVariables false
set_option linter.unusedSimpArgs false
attribute [local irreducible] J JQ QS Con W opW
theorem zero52 : zeroL Try.prog 52 = some ([.int .i64 0, .int .i64 0, .string (bs []), .bool false]) := by kernel_rfl

open Go.MapKept Go.WideMaps Go.Maps
abbrev stEnc : Int × List UInt8 → Value := fun k => .agg #[.int .i64 0, .int .i64 k.1, .string (bs k.2), .bool false]
abbrev stOk : Int × List UInt8 → Prop := fun k => intOk k.1 ∧ strOk k.2
theorem laid_seat : laidOutB Try.prog = true := by kernel_rfl
theorem stKey : KeyE Try.prog 52 stEnc stOk := by
  refine ⟨Keyed.of_law (Go.deep_law_laid laid_seat (m := 3) (by decide) (show 52 < Try.prog.types.size from Nat.lt_of_lt_of_eq (m := 195) (by decide) (by kernel_rfl)) (by kernel_rfl) (by kernel_rfl)), fun a b h => ?_, fun k hk => ?_⟩
  · obtain ⟨a1, a2⟩ := a
    obtain ⟨b1, b2⟩ := b
    injection h with h
    have h2 := congrArg Array.toList h
    simp only [List.cons.injEq, Value.int.injEq, Value.string.injEq, true_and, and_true] at h2
    rw [h2.1, bs_inj h2.2]
  · have hkt : Try.prog.keyType 52 = true := by kernel_rfl
    have hc : Try.prog.cellsOf 52 = 4 := by kernel_rfl
    have e3 : Try.prog.cellsOf 3 = 1 := by kernel_rfl
    have e9 : Try.prog.cellsOf 9 = 1 := by kernel_rfl
    have e4 : Try.prog.cellsOf 4 = 1 := by kernel_rfl
    obtain ⟨d, hd⟩ : ∃ d, Try.prog.types.size = d + 1 := ⟨194, by kernel_rfl⟩
    have hf : (stEnc k).formed Try.prog 52 = true := by
      unfold Value.formed
      simp only [Try.underlying52, hc]
      rfl
    have hw : (Lit.int .i64 k.1).wf = true := by
      have h1 : IntKind.i64.min = -9223372036854775808 := rfl
      have h2 : IntKind.i64.max = 9223372036854775807 := rfl
      simp only [Lit.wf, h1, h2, Bool.and_eq_true, decide_eq_true_eq]
      exact hk.1
    have hs : (bs k.2).size ≤ maxLen := hk.2
    have hlits : Try.prog.keyLits (Try.prog.types.size + 1) 52 (stEnc k).cells.toList = some [.int .i64 0, .int .i64 k.1, .string k.2, .bool false] := by
      have hcl : (stEnc k).cells.toList = [.int .i64 0, .int .i64 k.1, .string (bs k.2), .bool false] := rfl
      have h0 : (Lit.int .i64 0).wf = true := by decide
      have k3 : ∀ n : Int, (Lit.int .i64 n).wf = true → Try.prog.keyLits (d + 1) 3 [.int .i64 n] = some [.int .i64 n] := fun n hn => by
        unfold Program.keyLits
        simp only [Try.underlying3]
        rw [if_pos ⟨trivial, hn⟩]
      have k9 : Try.prog.keyLits (d + 1) 9 [.string (bs k.2)] = some [.string k.2] := by
        unfold Program.keyLits
        simp only [Try.underlying9]
        rw [if_pos hs, bs_data]
      have k4 : Try.prog.keyLits (d + 1) 4 [.bool false] = some [.bool false] := by
        unfold Program.keyLits
        simp only [Try.underlying4]
      rw [hcl, hd]
      unfold Program.keyLits
      simp only [Try.underlying52]
      rw [if_pos (by rw [hc]; exact ⟨rfl, by kernel_rfl⟩)]
      simp only [e3, e9, e4, List.drop_zero, List.take_succ_cons, List.take_zero, List.drop_succ_cons, List.mapM_cons, List.mapM_nil, k3 0 h0, k3 k.1 hw, k9, k4]
      rfl
    refine ⟨.string (keyBytes [.int .i64 0, .int .i64 k.1, .string k.2, .bool false]), ?_⟩
    unfold keyOf
    simp only [Try.underlying52, hkt, hf, Bool.and_self, if_true, hlits, Option.map_some]
theorem zv3 : (Try.prog.info? 3).bind (·.zero) = some (.int .i64 0) := by kernel_rfl
abbrev zEnc : Int → Value := fun n => .int .i64 n
theorem getD_z (o : Option Int) : (o.map zEnc).getD (.int .i64 0) = .int .i64 (o.getD 0) := by cases o <;> rfl
/-- pantry.pantrylaw12.LocksAlone -/
theorem locksAlone_con (rs : List St) (v : Value) (w : World) (h : Script w v rs) (hl : rs.length ≤ 4611686018427387903) : Con Try.prog 6 [v] w [] fun u _ => u = .bool true := by
  refine con_of_tree mix Try.func6 T6_ok (by kernel_rfl) ?_
  unfold T6
  obtain ⟨A, cap, g, off, rfl, hcap, hA⟩ := script_form h
  refine j_q (qs_ac) ?_
  refine j_q (qs_call ent22 rfl rfl rfl (fun w' hw' => heavy_con rs _ w' (script_keep h hw') hl)) ?_
  refine j_cond rfl (fun hc0 => ?_) (fun hc0 => ?_)
  · skip
    refine j_q (qs_call ent9 rfl rfl rfl (fun w' hw' => known_con w')) ?_
    refine j_ret_con (vs := [_]) (fun w' hw' => ⟨rfl, trivial⟩) ?_
    rfl
  · skip
    refine j_call0 ent23 rfl rfl rfl (fun w' hw' => new_con w') (fun u S2 hu => ?_)
    obtain ⟨p0, rfl, rfl, hok0, hlm0, hwm0⟩ := hu
    refine j_subl (S' := [p0.heap]) (by repeat first | exact List.Sublist.refl _ | exact List.nil_sublist _ | apply List.Sublist.cons_cons | apply List.Sublist.cons) ?_
    have hA0 : p0.at_ = ⟨[], []⟩ := by
      show AT.mk _ _ = _
      rw [hlm0, hwm0]
      rfl
    refine j_q (qs_pnil Try.underlying45 rfl) ?_
    refine j_cond rfl (fun hc1 => ?_) (fun hc1 => ?_)
    · skip
      simp at hc1
    · skip
      skip
      refine j_mkmap (fun gm hgm => ?_)
      refine j_perm (S' := [p0.heap, [(gm, .map #[] 0)]]) (by
        show ([[(gm, Obj.map #[] 0)], p0.heap] : List SH).flatten.Perm _
        simpa using List.perm_append_comm (l₁ := [(gm, Obj.map #[] 0)]) (l₂ := p0.heap)) ?_
      refine j_q (qs_ac) ?_
      refine j_loop (fun m vs S' => ∃ (i : Nat) (q : PT) (mm : List ((Int × List UInt8) × Int)) (es : Array MapEntry) (ck : Nat), vs = [.int .i64 (i : Int)] ∧ S' = [q.heap, [(gm, .map es ck)]] ∧ q.gt = p0.gt ∧ q.Ok i ∧ AI q.at_ mm ∧ MapOk stEnc stOk es ck (mm.map fun p => (p.1, zEnc p.2)) ∧ i ≤ 200 ∧ i ≤ rs.length ∧ m = 200 - i) ⟨_, 0, p0, [], #[], 0, rfl, rfl, rfl, hok0, by rw [hA0]; exact ai_nil, mapOk_nil, Nat.zero_le _, Nat.zero_le _, rfl⟩ ?_
      rintro m vs S' hlen ⟨i, q, mm, es, ck, rfl, rfl, hgt, hok, hai, hmp, hi200, hirs, rfl⟩
      rw [← hgt]
      refine j_q (qs_lenl Try.underlying43 rfl) ?_
      refine j_q (qs_lss rfl rfl) ?_
      refine j_g rfl (fun hb => qs_mt rfl) ?_
      refine j_g rfl (fun hb => qs_lss (gd_eq hb) rfl) ?_
      refine j_q (qs_and rfl rfl) ?_
      refine j_cond rfl (fun hc2 => ?_) (fun hc2 => ?_)
      · skip
        have hi1 : i < rs.length ∧ i < 200 := by
          simp [gd] at hc2
          omega
        obtain ⟨hi1, hi2⟩ := hi1
        obtain ⟨rfl, hgs, hcl⟩ := hA (by omega)
        have hxo := script_ok h hi1
        refine j_q (qs_ixl Try.underlying43 sz52 rfl rfl (by first | omega | (simp only [Bool.and_eq_true, Bool.or_eq_true, Bool.and_eq_false_iff, Bool.or_eq_false_iff, Bool.not_eq_true', Bool.not_eq_false', decide_eq_true_eq, decide_eq_false_iff_not, beq_iff_eq, beq_eq_false_iff_ne, bne_iff_ne, bne_eq_false_iff_eq, ne_eq, Int.toNat_natCast] at *; omega)) (by first | omega | (simp only [Bool.and_eq_true, Bool.or_eq_true, Bool.and_eq_false_iff, Bool.or_eq_false_iff, Bool.not_eq_true', Bool.not_eq_false', decide_eq_true_eq, decide_eq_false_iff_not, beq_iff_eq, beq_eq_false_iff_ne, bne_iff_ne, bne_eq_false_iff_eq, ne_eq, Int.toNat_natCast] at *; omega))) ?_
        refine j_q (qs_loadwR (vs := encS (rs.getD i St0)) (g := g) (off := off + (i : Int).toNat * 4) (by
          have h1 := rd_win (rd_cells (S := [q.heap, [(gm, .map es ck)]]) (b := ⟨w, dom []⟩) hcl (by simp)) (i * 4) 4
          rw [steps_take hi1] at h1
          rw [Int.toNat_natCast]
          exact h1) Try.underlying52 rfl sz52 (by rw [add_off]; rfl) rfl) ?_
        refine j_alloc zero52 (fun g15 hg15 hs15 => ?_)
        refine j_storew (vs := [Value.int .i64 (rs.getD i St0).kind, .int .i64 (rs.getD i St0).task, .string (bs (rs.getD i St0).name), .bool (rs.getD i St0).sh]) 0 sz52 rfl rfl rfl (by simp [oneV]) rfl rfl ?_
        refine j_q (qs_field Try.underlying52 rfl sz3 (by decide) rfl) ?_
        first
          | refine j_q (qs_loadk 0 Try.underlying3 rfl rfl (by first | omega | (simp only [Bool.and_eq_true, Bool.or_eq_true, Bool.and_eq_false_iff, Bool.or_eq_false_iff, Bool.not_eq_true', Bool.not_eq_false', decide_eq_true_eq, decide_eq_false_iff_not, beq_iff_eq, beq_eq_false_iff_ne, bne_iff_ne, bne_eq_false_iff_eq, ne_eq, Int.toNat_natCast] at *; omega))) ?_
          | refine j_q (qs_loadk 1 Try.underlying3 rfl rfl (by first | omega | (simp only [Bool.and_eq_true, Bool.or_eq_true, Bool.and_eq_false_iff, Bool.or_eq_false_iff, Bool.not_eq_true', Bool.not_eq_false', decide_eq_true_eq, decide_eq_false_iff_not, beq_iff_eq, beq_eq_false_iff_ne, bne_iff_ne, bne_eq_false_iff_eq, ne_eq, Int.toNat_natCast] at *; omega))) ?_
          | refine j_q (qs_loadk 2 Try.underlying3 rfl rfl (by first | omega | (simp only [Bool.and_eq_true, Bool.or_eq_true, Bool.and_eq_false_iff, Bool.or_eq_false_iff, Bool.not_eq_true', Bool.not_eq_false', decide_eq_true_eq, decide_eq_false_iff_not, beq_iff_eq, beq_eq_false_iff_ne, bne_iff_ne, bne_eq_false_iff_eq, ne_eq, Int.toNat_natCast] at *; omega))) ?_
          | refine j_q (qs_loadk 3 Try.underlying3 rfl rfl (by first | omega | (simp only [Bool.and_eq_true, Bool.or_eq_true, Bool.and_eq_false_iff, Bool.or_eq_false_iff, Bool.not_eq_true', Bool.not_eq_false', decide_eq_true_eq, decide_eq_false_iff_not, beq_iff_eq, beq_eq_false_iff_ne, bne_iff_ne, bne_eq_false_iff_eq, ne_eq, Int.toNat_natCast] at *; omega))) ?_
          | refine j_q (qs_load 0 Try.underlying3 rfl rfl rfl rfl) ?_
          | refine j_q (qs_load 1 Try.underlying3 rfl rfl rfl rfl) ?_
          | refine j_q (qs_load 2 Try.underlying3 rfl rfl rfl rfl) ?_
          | refine j_q (qs_load 3 Try.underlying3 rfl rfl rfl rfl) ?_
        refine j_q (qs_eql rfl rfl) ?_
        refine j_cond rfl (fun hc3 => ?_) (fun hc3 => ?_)
        · skip
          refine j_q (qs_field Try.underlying52 rfl sz3 (by decide) rfl) ?_
          first
            | refine j_q (qs_loadk 0 Try.underlying3 rfl rfl (by first | omega | (simp only [Bool.and_eq_true, Bool.or_eq_true, Bool.and_eq_false_iff, Bool.or_eq_false_iff, Bool.not_eq_true', Bool.not_eq_false', decide_eq_true_eq, decide_eq_false_iff_not, beq_iff_eq, beq_eq_false_iff_ne, bne_iff_ne, bne_eq_false_iff_eq, ne_eq, Int.toNat_natCast] at *; omega))) ?_
            | refine j_q (qs_loadk 1 Try.underlying3 rfl rfl (by first | omega | (simp only [Bool.and_eq_true, Bool.or_eq_true, Bool.and_eq_false_iff, Bool.or_eq_false_iff, Bool.not_eq_true', Bool.not_eq_false', decide_eq_true_eq, decide_eq_false_iff_not, beq_iff_eq, beq_eq_false_iff_ne, bne_iff_ne, bne_eq_false_iff_eq, ne_eq, Int.toNat_natCast] at *; omega))) ?_
            | refine j_q (qs_loadk 2 Try.underlying3 rfl rfl (by first | omega | (simp only [Bool.and_eq_true, Bool.or_eq_true, Bool.and_eq_false_iff, Bool.or_eq_false_iff, Bool.not_eq_true', Bool.not_eq_false', decide_eq_true_eq, decide_eq_false_iff_not, beq_iff_eq, beq_eq_false_iff_ne, bne_iff_ne, bne_eq_false_iff_eq, ne_eq, Int.toNat_natCast] at *; omega))) ?_
            | refine j_q (qs_loadk 3 Try.underlying3 rfl rfl (by first | omega | (simp only [Bool.and_eq_true, Bool.or_eq_true, Bool.and_eq_false_iff, Bool.or_eq_false_iff, Bool.not_eq_true', Bool.not_eq_false', decide_eq_true_eq, decide_eq_false_iff_not, beq_iff_eq, beq_eq_false_iff_ne, bne_iff_ne, bne_eq_false_iff_eq, ne_eq, Int.toNat_natCast] at *; omega))) ?_
            | refine j_q (qs_load 0 Try.underlying3 rfl rfl rfl rfl) ?_
            | refine j_q (qs_load 1 Try.underlying3 rfl rfl rfl rfl) ?_
            | refine j_q (qs_load 2 Try.underlying3 rfl rfl rfl rfl) ?_
            | refine j_q (qs_load 3 Try.underlying3 rfl rfl rfl rfl) ?_
          refine j_q (qs_field Try.underlying52 rfl sz9 (by decide) rfl) ?_
          first
            | refine j_q (qs_load 0 Try.underlying9 rfl rfl rfl rfl) ?_
            | refine j_q (qs_load 1 Try.underlying9 rfl rfl rfl rfl) ?_
            | refine j_q (qs_load 2 Try.underlying9 rfl rfl rfl rfl) ?_
            | refine j_q (qs_load 3 Try.underlying9 rfl rfl rfl rfl) ?_
          refine j_q (qs_field Try.underlying52 rfl sz4 (by decide) rfl) ?_
          first
            | refine j_q (qs_load 0 Try.underlying4 rfl rfl rfl rfl) ?_
            | refine j_q (qs_load 1 Try.underlying4 rfl rfl rfl rfl) ?_
            | refine j_q (qs_load 2 Try.underlying4 rfl rfl rfl rfl) ?_
            | refine j_q (qs_load 3 Try.underlying4 rfl rfl rfl rfl) ?_
          refine j_call 1 ent24 rfl rfl rfl rfl (fun w' hw' => take_con i (by omega) q (rs.getD i St0).task (rs.getD i St0).name (rs.getD i St0).sh w' hok hxo.2.1 hxo.str) (fun u S2 hu => ?_)
          obtain ⟨p1, r1, e1, rfl, rfl, hgt1, hok1, hT1⟩ := hu
          refine j_perm (S' := [[(g15, .cells [Value.int .i64 (rs.getD i St0).kind, .int .i64 (rs.getD i St0).task, .string (bs (rs.getD i St0).name), .bool (rs.getD i St0).sh].toArray 52 (0, 0))], p1.heap, [(gm, .map es ck)]]) (by
            show ([p1.heap, [(g15, .cells [Value.int .i64 (rs.getD i St0).kind, .int .i64 (rs.getD i St0).task, .string (bs (rs.getD i St0).name), .bool (rs.getD i St0).sh].toArray 52 (0, 0))], [], [(gm, .map es ck)]] : List SH).flatten.Perm _
            exact (by classical exact List.perm_iff_count.2 fun a => by simp only [PT.heap, PT.base, PL.heap, PT.tobj, PL.obj, PL.hobj, List.set_cons_succ, List.set_cons_zero, List.flatten_cons, List.flatten_nil, List.append_nil, List.nil_append, List.map_append, List.map_cons, List.map_nil, List.flatten_append, List.count_append, List.count_cons, List.count_nil]; omega)) ?_
          rw [← hgt1]
          have hA1 : p1.at_ = (takeF q.at_ (rs.getD i St0).task (rs.getD i St0).name (rs.getD i St0).sh).1 := by rw [← hT1]
          have hR1 : r1 = (takeF q.at_ (rs.getD i St0).task (rs.getD i St0).name (rs.getD i St0).sh).2.1 := by rw [← hT1]
          have hE1 : e1 = (takeF q.at_ (rs.getD i St0).task (rs.getD i St0).name (rs.getD i St0).sh).2.2 := by rw [← hT1]
          have hgot : r1 = (holdsA p1.at_ (rs.getD i St0).name (rs.getD i St0).task && (e1 == 0)) := by
            rw [hR1, hA1, hE1]
            exact take_got _ _ _ _
          refine j_q (qs_ext (vs := [.bool r1, .int .i64 e1]) rfl rfl) ?_
          refine j_q (qs_ext (vs := [.bool r1, .int .i64 e1]) rfl rfl) ?_
          refine j_q (qs_eql rfl rfl) ?_
          refine j_cond rfl (fun hc4 => ?_) (fun hc4 => ?_)
          · skip
            have he : (takeF q.at_ (rs.getD i St0).task (rs.getD i St0).name (rs.getD i St0).sh).2.2 = 0 := by rw [← hE1]; simpa using hc4
            have he1 : e1 = 0 := by rw [hE1]; exact he
            refine j_q (qs_ac) ?_
            refine j_q (qs_field Try.underlying52 rfl sz4 (by decide) rfl) ?_
            first
              | refine j_q (qs_load 0 Try.underlying4 rfl rfl rfl rfl) ?_
              | refine j_q (qs_load 1 Try.underlying4 rfl rfl rfl rfl) ?_
              | refine j_q (qs_load 2 Try.underlying4 rfl rfl rfl rfl) ?_
              | refine j_q (qs_load 3 Try.underlying4 rfl rfl rfl rfl) ?_
            refine j_cond rfl (fun hc5 => ?_) (fun hc5 => ?_)
            · skip
              have hsh : (rs.getD i St0).sh = true := hc5
              refine j_q (qs_ac) ?_
              refine j_q (qs_field Try.underlying52 rfl sz3 (by decide) rfl) ?_
              first
                | refine j_q (qs_loadk 0 Try.underlying3 rfl rfl (by first | omega | (simp only [Bool.and_eq_true, Bool.or_eq_true, Bool.and_eq_false_iff, Bool.or_eq_false_iff, Bool.not_eq_true', Bool.not_eq_false', decide_eq_true_eq, decide_eq_false_iff_not, beq_iff_eq, beq_eq_false_iff_ne, bne_iff_ne, bne_eq_false_iff_eq, ne_eq, Int.toNat_natCast] at *; omega))) ?_
                | refine j_q (qs_loadk 1 Try.underlying3 rfl rfl (by first | omega | (simp only [Bool.and_eq_true, Bool.or_eq_true, Bool.and_eq_false_iff, Bool.or_eq_false_iff, Bool.not_eq_true', Bool.not_eq_false', decide_eq_true_eq, decide_eq_false_iff_not, beq_iff_eq, beq_eq_false_iff_ne, bne_iff_ne, bne_eq_false_iff_eq, ne_eq, Int.toNat_natCast] at *; omega))) ?_
                | refine j_q (qs_loadk 2 Try.underlying3 rfl rfl (by first | omega | (simp only [Bool.and_eq_true, Bool.or_eq_true, Bool.and_eq_false_iff, Bool.or_eq_false_iff, Bool.not_eq_true', Bool.not_eq_false', decide_eq_true_eq, decide_eq_false_iff_not, beq_iff_eq, beq_eq_false_iff_ne, bne_iff_ne, bne_eq_false_iff_eq, ne_eq, Int.toNat_natCast] at *; omega))) ?_
                | refine j_q (qs_loadk 3 Try.underlying3 rfl rfl (by first | omega | (simp only [Bool.and_eq_true, Bool.or_eq_true, Bool.and_eq_false_iff, Bool.or_eq_false_iff, Bool.not_eq_true', Bool.not_eq_false', decide_eq_true_eq, decide_eq_false_iff_not, beq_iff_eq, beq_eq_false_iff_ne, bne_iff_ne, bne_eq_false_iff_eq, ne_eq, Int.toNat_natCast] at *; omega))) ?_
                | refine j_q (qs_load 0 Try.underlying3 rfl rfl rfl rfl) ?_
                | refine j_q (qs_load 1 Try.underlying3 rfl rfl rfl rfl) ?_
                | refine j_q (qs_load 2 Try.underlying3 rfl rfl rfl rfl) ?_
                | refine j_q (qs_load 3 Try.underlying3 rfl rfl rfl rfl) ?_
              refine j_q (qs_field Try.underlying52 rfl sz9 (by decide) rfl) ?_
              first
                | refine j_q (qs_load 0 Try.underlying9 rfl rfl rfl rfl) ?_
                | refine j_q (qs_load 1 Try.underlying9 rfl rfl rfl rfl) ?_
                | refine j_q (qs_load 2 Try.underlying9 rfl rfl rfl rfl) ?_
                | refine j_q (qs_load 3 Try.underlying9 rfl rfl rfl rfl) ?_
              refine j_q (qs_build (places := [(0, 1), (1, 1), (2, 1), (3, 1)]) (offs := [(1, [.int .i64 (rs.getD i St0).task]), (2, [.string (bs (rs.getD i St0).name)])]) Try.underlying52 zero52 (by kernel_rfl) rfl (by rintro (_ | _ | j) p q hp hq <;> first | (simp at hp hq; subst hp hq; exact ⟨rfl, rfl, by simp⟩) | (simp at hp))) ?_
              refine j_mapset (key := ((rs.getD i St0).task, (rs.getD i St0).name)) (val := zEnc 2) stKey 2 Try.underlying67 rfl rfl rfl rfl hmp ⟨hxo.2.1, hxo.str⟩ (fun es1 ck1 hmp1 => ?_)
              rw [mset_map zEnc] at hmp1
              obtain ⟨mm1, hmm1⟩ : ∃ l, l = aset mm ((rs.getD i St0).task, (rs.getD i St0).name) (2 : Int) := ⟨_, rfl⟩
              rw [← hmm1] at hmp1
              refine j_perm (S' := [[(g15, .cells [Value.int .i64 (rs.getD i St0).kind, .int .i64 (rs.getD i St0).task, .string (bs (rs.getD i St0).name), .bool (rs.getD i St0).sh].toArray 52 (0, 0))], p1.heap, [(gm, .map es1 ck1)]]) (List.Perm.of_eq rfl) ?_
              have hai1 : AI p1.at_ mm1 := by
                have h1 := ai_take0 hai (rs.getD i St0).task (rs.getD i St0).name (rs.getD i St0).sh he
                rw [hmm1, hA1]
                rw [hsh] at h1 ⊢
                exact h1
              refine j_q (qs_field Try.underlying52 rfl sz3 (by decide) rfl) ?_
              first
                | refine j_q (qs_loadk 0 Try.underlying3 rfl rfl (by first | omega | (simp only [Bool.and_eq_true, Bool.or_eq_true, Bool.and_eq_false_iff, Bool.or_eq_false_iff, Bool.not_eq_true', Bool.not_eq_false', decide_eq_true_eq, decide_eq_false_iff_not, beq_iff_eq, beq_eq_false_iff_ne, bne_iff_ne, bne_eq_false_iff_eq, ne_eq, Int.toNat_natCast] at *; omega))) ?_
                | refine j_q (qs_loadk 1 Try.underlying3 rfl rfl (by first | omega | (simp only [Bool.and_eq_true, Bool.or_eq_true, Bool.and_eq_false_iff, Bool.or_eq_false_iff, Bool.not_eq_true', Bool.not_eq_false', decide_eq_true_eq, decide_eq_false_iff_not, beq_iff_eq, beq_eq_false_iff_ne, bne_iff_ne, bne_eq_false_iff_eq, ne_eq, Int.toNat_natCast] at *; omega))) ?_
                | refine j_q (qs_loadk 2 Try.underlying3 rfl rfl (by first | omega | (simp only [Bool.and_eq_true, Bool.or_eq_true, Bool.and_eq_false_iff, Bool.or_eq_false_iff, Bool.not_eq_true', Bool.not_eq_false', decide_eq_true_eq, decide_eq_false_iff_not, beq_iff_eq, beq_eq_false_iff_ne, bne_iff_ne, bne_eq_false_iff_eq, ne_eq, Int.toNat_natCast] at *; omega))) ?_
                | refine j_q (qs_loadk 3 Try.underlying3 rfl rfl (by first | omega | (simp only [Bool.and_eq_true, Bool.or_eq_true, Bool.and_eq_false_iff, Bool.or_eq_false_iff, Bool.not_eq_true', Bool.not_eq_false', decide_eq_true_eq, decide_eq_false_iff_not, beq_iff_eq, beq_eq_false_iff_ne, bne_iff_ne, bne_eq_false_iff_eq, ne_eq, Int.toNat_natCast] at *; omega))) ?_
                | refine j_q (qs_load 0 Try.underlying3 rfl rfl rfl rfl) ?_
                | refine j_q (qs_load 1 Try.underlying3 rfl rfl rfl rfl) ?_
                | refine j_q (qs_load 2 Try.underlying3 rfl rfl rfl rfl) ?_
                | refine j_q (qs_load 3 Try.underlying3 rfl rfl rfl rfl) ?_
              refine j_q (qs_field Try.underlying52 rfl sz9 (by decide) rfl) ?_
              first
                | refine j_q (qs_load 0 Try.underlying9 rfl rfl rfl rfl) ?_
                | refine j_q (qs_load 1 Try.underlying9 rfl rfl rfl rfl) ?_
                | refine j_q (qs_load 2 Try.underlying9 rfl rfl rfl rfl) ?_
                | refine j_q (qs_load 3 Try.underlying9 rfl rfl rfl rfl) ?_
              refine j_q (qs_call ent33 rfl rfl rfl (fun w' hw' => holds2_con (i + 1) p1 (rs.getD i St0).task (rs.getD i St0).name w' (in_own hw' 1 rfl) hok1 hxo.2.1 hxo.str)) ?_
              refine j_g rfl (fun hb => qs_mt rfl) ?_
              refine j_g rfl (fun hb => qs_eql (gd_eq hb) rfl) ?_
              refine j_q (qs_and rfl rfl) ?_
              refine j_q (qs_bne Try.underlying4 rfl rfl) ?_
              refine j_cond rfl (fun hc6 => ?_) (fun hc6 => ?_)
              · skip
                rw [hgot] at hc6
                simp at hc6
              · skip
                refine j_q (qs_ac) ?_
                refine j_q (qs_ac) ?_
                refine j_q (qs_ac) ?_
                refine j_q (qs_ac) ?_
                refine j_perm (S' := [[(g15, .cells [Value.int .i64 (rs.getD i St0).kind, .int .i64 (rs.getD i St0).task, .string (bs (rs.getD i St0).name), .bool (rs.getD i St0).sh].toArray 52 (0, 0))], p1.heap, [(gm, .map es1 ck1)], []]) (by simp) ?_
                refine j_loop (fun m vs S' => ∃ (k : Nat) (seen : List Int) (sv : Value) (sc : SH) (al : Nat), vs = [.int .i64 (seen.length : Int), .int .i64 (al : Int), sv, .int .i64 (k : Int)] ∧ S' = [[(g15, .cells [Value.int .i64 (rs.getD i St0).kind, .int .i64 (rs.getD i St0).task, .string (bs (rs.getD i St0).name), .bool (rs.getD i St0).sh].toArray 52 (0, 0))], p1.heap, [(gm, .map es1 ck1)], sc] ∧ Sx.Own 3 1 (ks .i64 seen) sv sc ∧ SeenI p1.at_ mm1 (rs.getD i St0).name seen al ∧ seen.length ≤ k ∧ k ≤ i + 1 ∧ m = i + 1 - k) ⟨_, 0, [], _, [], 0, rfl, rfl, own_nil, seen_nil _ _ _, Nat.zero_le _, Nat.zero_le _, rfl⟩ ?_
                rintro m vs S' hlen ⟨k, seen, sv, sc, al, rfl, rfl, hso, hsi, hsk, hki, rfl⟩
                refine j_q (qs_leq rfl rfl) ?_
                refine j_cond rfl (fun hc7 => ?_) (fun hc7 => ?_)
                · skip
                  have hk1 : k < i + 1 := by
                    simp only [Bool.and_eq_true, Bool.or_eq_true, Bool.and_eq_false_iff, Bool.or_eq_false_iff, Bool.not_eq_true', Bool.not_eq_false', decide_eq_true_eq, decide_eq_false_iff_not, beq_iff_eq, beq_eq_false_iff_ne, bne_iff_ne, bne_eq_false_iff_eq, ne_eq, Int.toNat_natCast] at *
                    omega
                  have hyo := script_ok h (show k < rs.length by omega)
                  have hal := hsi.le
                  have hwfx : strOk (rs.getD i St0).name := hxo.str
                  refine j_mix _ (.refl _) ?_
                  refine j_mq (qs_ixl Try.underlying43 sz52 rfl rfl (by first | omega | (simp only [Bool.and_eq_true, Bool.or_eq_true, Bool.and_eq_false_iff, Bool.or_eq_false_iff, Bool.not_eq_true', Bool.not_eq_false', decide_eq_true_eq, decide_eq_false_iff_not, beq_iff_eq, beq_eq_false_iff_ne, bne_iff_ne, bne_eq_false_iff_eq, ne_eq, Int.toNat_natCast] at *; omega)) (by first | omega | (simp only [Bool.and_eq_true, Bool.or_eq_true, Bool.and_eq_false_iff, Bool.or_eq_false_iff, Bool.not_eq_true', Bool.not_eq_false', decide_eq_true_eq, decide_eq_false_iff_not, beq_iff_eq, beq_eq_false_iff_ne, bne_iff_ne, bne_eq_false_iff_eq, ne_eq, Int.toNat_natCast] at *; omega))) ?_
                  refine j_mq (qs_field (g := g) (off := off + (k : Int).toNat * 4) Try.underlying52 rfl sz9 (by decide) (by rw [add_off]; rfl)) ?_
                  refine j_mq (qs_loadR (v := .string (bs (rs.getD k St0).name)) (a := ⟨g, off, none⟩) (i := k * 4 + 2) (rd_cells hcl (by simp)) Try.underlying9 rfl (congrArg (fun a => Value.pointer (some a)) (off_field g off k 2)) (steps_get (by omega) rfl)) ?_
                  refine j_mq (qs_field Try.underlying52 rfl sz9 (by decide) rfl) ?_
                  first
                    | refine j_mq (qs_load 0 Try.underlying9 rfl rfl rfl rfl) ?_
                    | refine j_mq (qs_load 1 Try.underlying9 rfl rfl rfl rfl) ?_
                    | refine j_mq (qs_load 2 Try.underlying9 rfl rfl rfl rfl) ?_
                    | refine j_mq (qs_load 3 Try.underlying9 rfl rfl rfl rfl) ?_
                  refine j_mq (qs_sneq rfl rfl) ?_
                  refine j_mg rfl (fun hb => qs_mt rfl) ?_
                  refine j_mg rfl (fun hb => qs_mt rfl) ?_
                  refine j_mg rfl (fun hb => qs_mt rfl) ?_
                  refine j_mg rfl (fun hb => qs_ixl Try.underlying43 sz52 (gd_eq hb) (gd_eq hb) (by first | omega | (simp only [Bool.and_eq_true, Bool.or_eq_true, Bool.and_eq_false_iff, Bool.or_eq_false_iff, Bool.not_eq_true', Bool.not_eq_false', decide_eq_true_eq, decide_eq_false_iff_not, beq_iff_eq, beq_eq_false_iff_ne, bne_iff_ne, bne_eq_false_iff_eq, ne_eq, Int.toNat_natCast] at *; omega)) (by first | omega | (simp only [Bool.and_eq_true, Bool.or_eq_true, Bool.and_eq_false_iff, Bool.or_eq_false_iff, Bool.not_eq_true', Bool.not_eq_false', decide_eq_true_eq, decide_eq_false_iff_not, beq_iff_eq, beq_eq_false_iff_ne, bne_iff_ne, bne_eq_false_iff_eq, ne_eq, Int.toNat_natCast] at *; omega))) ?_
                  refine j_mg rfl (fun hb => qs_field (g := g) (off := off + (k : Int).toNat * 4) Try.underlying52 rfl sz3 (by decide) ((gd_eq hb).trans (by rw [add_off]))) ?_
                  refine j_mg rfl (fun hb => qs_loadR (v := .int .i64 (rs.getD k St0).task) (a := ⟨g, off, none⟩) (i := k * 4 + 1) (rd_cells hcl (by simp)) Try.underlying3 rfl ((gd_eq hb).trans (congrArg (fun a => Value.pointer (some a)) (off_field g off k 1))) (steps_get (by omega) rfl)) ?_
                  refine j_g rfl (fun hb => qs_call ent35 rfl rfl (args2 (gd_eq hb) (gd_eq hb)) (fun w' hw' => hasL_con seen (rs.getD k St0).task _ w' (rsl_own hso 3 rfl hw') (by omega))) ?_
                  refine j_mR _ (.refl _) ?_
                  refine j_mq (qs_or rfl rfl) ?_
                  refine j_mg rfl (fun hb => qs_mt rfl) ?_
                  refine j_mg rfl (fun hb => qs_mt rfl) ?_
                  refine j_mg rfl (fun hb => qs_mt rfl) ?_
                  refine j_mg rfl (fun hb => qs_ixl Try.underlying43 sz52 (gd_eq hb) (gd_eq hb) (by first | omega | (simp only [Bool.and_eq_true, Bool.or_eq_true, Bool.and_eq_false_iff, Bool.or_eq_false_iff, Bool.not_eq_true', Bool.not_eq_false', decide_eq_true_eq, decide_eq_false_iff_not, beq_iff_eq, beq_eq_false_iff_ne, bne_iff_ne, bne_eq_false_iff_eq, ne_eq, Int.toNat_natCast] at *; omega)) (by first | omega | (simp only [Bool.and_eq_true, Bool.or_eq_true, Bool.and_eq_false_iff, Bool.or_eq_false_iff, Bool.not_eq_true', Bool.not_eq_false', decide_eq_true_eq, decide_eq_false_iff_not, beq_iff_eq, beq_eq_false_iff_ne, bne_iff_ne, bne_eq_false_iff_eq, ne_eq, Int.toNat_natCast] at *; omega))) ?_
                  refine j_mg rfl (fun hb => qs_field (g := g) (off := off + (k : Int).toNat * 4) Try.underlying52 rfl sz3 (by decide) ((gd_eq hb).trans (by rw [add_off]))) ?_
                  refine j_mg rfl (fun hb => qs_loadR (v := .int .i64 (rs.getD k St0).task) (a := ⟨g, off, none⟩) (i := k * 4 + 1) (rd_cells hcl (by simp)) Try.underlying3 rfl ((gd_eq hb).trans (congrArg (fun a => Value.pointer (some a)) (off_field g off k 1))) (steps_get (by omega) rfl)) ?_
                  refine j_mg rfl (fun hb => qs_field Try.underlying52 rfl sz9 (by decide) rfl) ?_
                  first
                    | refine j_mg rfl (fun hb => qs_load 0 Try.underlying9 rfl (gd_eq hb) rfl rfl) ?_
                    | refine j_mg rfl (fun hb => qs_load 1 Try.underlying9 rfl (gd_eq hb) rfl rfl) ?_
                    | refine j_mg rfl (fun hb => qs_load 2 Try.underlying9 rfl (gd_eq hb) rfl rfl) ?_
                    | refine j_mg rfl (fun hb => qs_load 3 Try.underlying9 rfl (gd_eq hb) rfl rfl) ?_
                  refine j_g rfl (fun hb => qs_call ent33 rfl rfl (args3 (gd_eq hb) (gd_eq hb) (gd_eq hb)) (fun w' hw' => holds2_con (i + 1) p1 (rs.getD k St0).task (rs.getD i St0).name w' (in_own hw' 1 rfl) hok1 hyo.2.1 hxo.str)) ?_
                  refine j_mR _ (.refl _) ?_
                  refine j_mg rfl (fun hb => qs_not (gd_eq hb)) ?_
                  refine j_mq (qs_or rfl rfl) ?_
                  refine j_mend ?_
                  refine j_cond rfl (fun hc8 => ?_) (fun hc8 => ?_)
                  · skip
                    refine j_q (qs_add64 rfl rfl (by first | omega | (simp only [Bool.and_eq_true, Bool.or_eq_true, Bool.and_eq_false_iff, Bool.or_eq_false_iff, Bool.not_eq_true', Bool.not_eq_false', decide_eq_true_eq, decide_eq_false_iff_not, beq_iff_eq, beq_eq_false_iff_ne, bne_iff_ne, bne_eq_false_iff_eq, ne_eq, Int.toNat_natCast] at *; omega))) ?_
                    refine j_back rfl ?_
                    exact ⟨i + 1 - (k + 1), by omega, k + 1, seen, _, sc, al, rfl, rfl, hso, hsi, by omega, by omega, rfl⟩
                  · skip
                    simp only [Bool.or_eq_false_iff, Bool.not_eq_false'] at hc8
                    obtain ⟨⟨hy1, hy2⟩, hy3⟩ := hc8
                    have hyn : (rs.getD k St0).name = (rs.getD i St0).name := by simpa using hy1
                    have hyt : (rs.getD k St0).task ∉ seen := fun hm => by rw [hasI_iff.2 hm] at hy2; cases hy2
                    refine j_q (qs_ixl Try.underlying43 sz52 rfl rfl (by first | omega | (simp only [Bool.and_eq_true, Bool.or_eq_true, Bool.and_eq_false_iff, Bool.or_eq_false_iff, Bool.not_eq_true', Bool.not_eq_false', decide_eq_true_eq, decide_eq_false_iff_not, beq_iff_eq, beq_eq_false_iff_ne, bne_iff_ne, bne_eq_false_iff_eq, ne_eq, Int.toNat_natCast] at *; omega)) (by first | omega | (simp only [Bool.and_eq_true, Bool.or_eq_true, Bool.and_eq_false_iff, Bool.or_eq_false_iff, Bool.not_eq_true', Bool.not_eq_false', decide_eq_true_eq, decide_eq_false_iff_not, beq_iff_eq, beq_eq_false_iff_ne, bne_iff_ne, bne_eq_false_iff_eq, ne_eq, Int.toNat_natCast] at *; omega))) ?_
                    refine j_q (qs_field (g := g) (off := off + (k : Int).toNat * 4) Try.underlying52 rfl sz3 (by decide) (by rw [add_off]; rfl)) ?_
                    refine j_q (qs_loadR (v := .int .i64 (rs.getD k St0).task) (a := ⟨g, off, none⟩) (i := k * 4 + 1) (rd_cells hcl (by simp)) Try.underlying3 rfl (congrArg (fun a => Value.pointer (some a)) (off_field g off k 1)) (steps_get (by omega) rfl)) ?_
                    refine j_lit (vs := [.int .i64 _]) Try.underlying36 sz3 zero3 rfl (by simp [oneV]) ⟨rfl, by decide⟩ (fun g84 v84 c84 hv84 hc84 ho84 => ?_)
                    subst hv84 hc84
                    refine j_append 4 Try.underlying36 Try.underlying36 (.inr ⟨_, rfl⟩) sb3 zero3 rfl hso rfl (.inl ⟨_, _, rfl, own_rd ho84 0 rfl, rfl⟩) (by intro u hu; rw [List.mem_singleton] at hu; rw [hu]; rfl) ⟨(by simp only [ks_length, List.length_singleton]; omega), (by decide)⟩ (fun v85 c85 ho85 => ?_)
                    have hso1 : Sx.Own 3 1 (ks .i64 (seen ++ [(rs.getD k St0).task])) v85 c85 := by
                      have e : ks .i64 (seen ++ [(rs.getD k St0).task]) = ks .i64 seen ++ [Value.int .i64 (rs.getD k St0).task] := by simp [ks]
                      rw [e]
                      exact ho85
                    refine j_subl (S' := [[(g15, .cells [Value.int .i64 (rs.getD i St0).kind, .int .i64 (rs.getD i St0).task, .string (bs (rs.getD i St0).name), .bool (rs.getD i St0).sh].toArray 52 (0, 0))], p1.heap, [(gm, .map es1 ck1)], c85]) (by repeat first | exact List.Sublist.refl _ | exact List.nil_sublist _ | apply List.Sublist.cons_cons | apply List.Sublist.cons) ?_
                    refine j_q (qs_add64 rfl rfl (by first | omega | (simp only [Bool.and_eq_true, Bool.or_eq_true, Bool.and_eq_false_iff, Bool.or_eq_false_iff, Bool.not_eq_true', Bool.not_eq_false', decide_eq_true_eq, decide_eq_false_iff_not, beq_iff_eq, beq_eq_false_iff_ne, bne_iff_ne, bne_eq_false_iff_eq, ne_eq, Int.toNat_natCast] at *; omega))) ?_
                    refine j_mix _ (.refl _) ?_
                    refine j_mq (qs_ixl Try.underlying43 sz52 rfl rfl (by first | omega | (simp only [Bool.and_eq_true, Bool.or_eq_true, Bool.and_eq_false_iff, Bool.or_eq_false_iff, Bool.not_eq_true', Bool.not_eq_false', decide_eq_true_eq, decide_eq_false_iff_not, beq_iff_eq, beq_eq_false_iff_ne, bne_iff_ne, bne_eq_false_iff_eq, ne_eq, Int.toNat_natCast] at *; omega)) (by first | omega | (simp only [Bool.and_eq_true, Bool.or_eq_true, Bool.and_eq_false_iff, Bool.or_eq_false_iff, Bool.not_eq_true', Bool.not_eq_false', decide_eq_true_eq, decide_eq_false_iff_not, beq_iff_eq, beq_eq_false_iff_ne, bne_iff_ne, bne_eq_false_iff_eq, ne_eq, Int.toNat_natCast] at *; omega))) ?_
                    refine j_mq (qs_field (g := g) (off := off + (k : Int).toNat * 4) Try.underlying52 rfl sz3 (by decide) (by rw [add_off]; rfl)) ?_
                    refine j_mq (qs_loadR (v := .int .i64 (rs.getD k St0).task) (a := ⟨g, off, none⟩) (i := k * 4 + 1) (rd_cells hcl (by simp)) Try.underlying3 rfl (congrArg (fun a => Value.pointer (some a)) (off_field g off k 1)) (steps_get (by omega) rfl)) ?_
                    refine j_mq (qs_field Try.underlying52 rfl sz9 (by decide) rfl) ?_
                    first
                      | refine j_mq (qs_load 0 Try.underlying9 rfl rfl rfl rfl) ?_
                      | refine j_mq (qs_load 1 Try.underlying9 rfl rfl rfl rfl) ?_
                      | refine j_mq (qs_load 2 Try.underlying9 rfl rfl rfl rfl) ?_
                      | refine j_mq (qs_load 3 Try.underlying9 rfl rfl rfl rfl) ?_
                    refine j_mq (qs_build (places := [(0, 1), (1, 1), (2, 1), (3, 1)]) (offs := [(1, [.int .i64 (rs.getD k St0).task]), (2, [.string (bs (rs.getD i St0).name)])]) Try.underlying52 zero52 (by kernel_rfl) rfl (by rintro (_ | _ | j) p q hp hq <;> first | (simp at hp hq; subst hp hq; exact ⟨rfl, rfl, by simp⟩) | (simp at hp))) ?_
                    refine j_mq (qs_lookup (key := ((rs.getD k St0).task, (rs.getD i St0).name)) stKey 2 Try.underlying67 zv3 rfl rfl rfl hmp1 ⟨hyo.2.1, hxo.str⟩) ?_
                    rw [mlook_map zEnc, getD_z]
                    refine j_mq (qs_eql rfl rfl) ?_
                    refine j_mend ?_
                    refine j_cond rfl (fun hc9 => ?_) (fun hc9 => ?_)
                    · skip
                      have hmd : alook mm1 ((rs.getD k St0).task, (rs.getD i St0).name) = some 1 := by
                        cases hh : alook mm1 ((rs.getD k St0).task, (rs.getD i St0).name) with
                        | none => rw [hh] at hc9; simp at hc9
                        | some z => rw [hh] at hc9; simp at hc9; rw [hc9]
                      refine j_q (qs_add64 rfl rfl (by first | omega | (simp only [Bool.and_eq_true, Bool.or_eq_true, Bool.and_eq_false_iff, Bool.or_eq_false_iff, Bool.not_eq_true', Bool.not_eq_false', decide_eq_true_eq, decide_eq_false_iff_not, beq_iff_eq, beq_eq_false_iff_ne, bne_iff_ne, bne_eq_false_iff_eq, ne_eq, Int.toNat_natCast] at *; omega))) ?_
                      refine j_q (qs_ixl Try.underlying43 sz52 rfl rfl (by first | omega | (simp only [Bool.and_eq_true, Bool.or_eq_true, Bool.and_eq_false_iff, Bool.or_eq_false_iff, Bool.not_eq_true', Bool.not_eq_false', decide_eq_true_eq, decide_eq_false_iff_not, beq_iff_eq, beq_eq_false_iff_ne, bne_iff_ne, bne_eq_false_iff_eq, ne_eq, Int.toNat_natCast] at *; omega)) (by first | omega | (simp only [Bool.and_eq_true, Bool.or_eq_true, Bool.and_eq_false_iff, Bool.or_eq_false_iff, Bool.not_eq_true', Bool.not_eq_false', decide_eq_true_eq, decide_eq_false_iff_not, beq_iff_eq, beq_eq_false_iff_ne, bne_iff_ne, bne_eq_false_iff_eq, ne_eq, Int.toNat_natCast] at *; omega))) ?_
                      refine j_q (qs_field (g := g) (off := off + (k : Int).toNat * 4) Try.underlying52 rfl sz3 (by decide) (by rw [add_off]; rfl)) ?_
                      refine j_q (qs_loadR (v := .int .i64 (rs.getD k St0).task) (a := ⟨g, off, none⟩) (i := k * 4 + 1) (rd_cells hcl (by simp)) Try.underlying3 rfl (congrArg (fun a => Value.pointer (some a)) (off_field g off k 1)) (steps_get (by omega) rfl)) ?_
                      refine j_q (qs_call ent31 rfl rfl rfl (fun w' hw' => waits_con (i + 1) p1 (rs.getD k St0).task w' (in_own hw' 1 rfl) hok1 hyo.2.1)) ?_
                      refine j_q (qs_ext (vs := [.string (bs ((alook p1.wm (rs.getD k St0).task).getD [])), .bool (alook p1.wm (rs.getD k St0).task).isSome]) rfl rfl) ?_
                      refine j_q (qs_ext (vs := [.string (bs ((alook p1.wm (rs.getD k St0).task).getD [])), .bool (alook p1.wm (rs.getD k St0).task).isSome]) rfl rfl) ?_
                      refine j_g rfl (fun hb => qs_mt rfl) ?_
                      refine j_g rfl (fun hb => qs_field Try.underlying52 rfl sz9 (by decide) rfl) ?_
                      first
                        | refine j_g rfl (fun hb => qs_load 0 Try.underlying9 rfl (gd_eq hb) rfl rfl) ?_
                        | refine j_g rfl (fun hb => qs_load 1 Try.underlying9 rfl (gd_eq hb) rfl rfl) ?_
                        | refine j_g rfl (fun hb => qs_load 2 Try.underlying9 rfl (gd_eq hb) rfl rfl) ?_
                        | refine j_g rfl (fun hb => qs_load 3 Try.underlying9 rfl (gd_eq hb) rfl rfl) ?_
                      refine j_g rfl (fun hb => qs_seql (gd_eq hb) (gd_eq hb)) ?_
                      refine j_q (qs_and rfl rfl) ?_
                      refine j_cond rfl (fun hc10 => ?_) (fun hc10 => ?_)
                      · skip
                        simp only [Bool.and_eq_true, beq_iff_eq] at hc10
                        refine absurd ?_ (no_wait hai1.wf hy3)
                        obtain ⟨z, hz⟩ := Option.isSome_iff_exists.1 hc10.1
                        have h2 := hc10.2
                        rw [hz] at h2
                        show alook p1.wm _ = _
                        rw [hz]
                        exact congrArg some h2
                      · skip
                        refine j_q (qs_add64 rfl rfl (by first | omega | (simp only [Bool.and_eq_true, Bool.or_eq_true, Bool.and_eq_false_iff, Bool.or_eq_false_iff, Bool.not_eq_true', Bool.not_eq_false', decide_eq_true_eq, decide_eq_false_iff_not, beq_iff_eq, beq_eq_false_iff_ne, bne_iff_ne, bne_eq_false_iff_eq, ne_eq, Int.toNat_natCast] at *; omega))) ?_
                        refine j_back rfl ?_
                        exact ⟨i + 1 - (k + 1), by omega, k + 1, seen ++ [(rs.getD k St0).task], _, c85, al + 1, by rw [List.length_append, List.length_singleton]; rfl, rfl, hso1, seen_more hsi hyt hy3 _ (.inr ⟨rfl, hmd⟩), by rw [List.length_append, List.length_singleton]; omega, by omega, rfl⟩
                    · skip
                      refine j_q (qs_ixl Try.underlying43 sz52 rfl rfl (by first | omega | (simp only [Bool.and_eq_true, Bool.or_eq_true, Bool.and_eq_false_iff, Bool.or_eq_false_iff, Bool.not_eq_true', Bool.not_eq_false', decide_eq_true_eq, decide_eq_false_iff_not, beq_iff_eq, beq_eq_false_iff_ne, bne_iff_ne, bne_eq_false_iff_eq, ne_eq, Int.toNat_natCast] at *; omega)) (by first | omega | (simp only [Bool.and_eq_true, Bool.or_eq_true, Bool.and_eq_false_iff, Bool.or_eq_false_iff, Bool.not_eq_true', Bool.not_eq_false', decide_eq_true_eq, decide_eq_false_iff_not, beq_iff_eq, beq_eq_false_iff_ne, bne_iff_ne, bne_eq_false_iff_eq, ne_eq, Int.toNat_natCast] at *; omega))) ?_
                      refine j_q (qs_field (g := g) (off := off + (k : Int).toNat * 4) Try.underlying52 rfl sz3 (by decide) (by rw [add_off]; rfl)) ?_
                      refine j_q (qs_loadR (v := .int .i64 (rs.getD k St0).task) (a := ⟨g, off, none⟩) (i := k * 4 + 1) (rd_cells hcl (by simp)) Try.underlying3 rfl (congrArg (fun a => Value.pointer (some a)) (off_field g off k 1)) (steps_get (by omega) rfl)) ?_
                      refine j_q (qs_call ent31 rfl rfl rfl (fun w' hw' => waits_con (i + 1) p1 (rs.getD k St0).task w' (in_own hw' 1 rfl) hok1 hyo.2.1)) ?_
                      refine j_q (qs_ext (vs := [.string (bs ((alook p1.wm (rs.getD k St0).task).getD [])), .bool (alook p1.wm (rs.getD k St0).task).isSome]) rfl rfl) ?_
                      refine j_q (qs_ext (vs := [.string (bs ((alook p1.wm (rs.getD k St0).task).getD [])), .bool (alook p1.wm (rs.getD k St0).task).isSome]) rfl rfl) ?_
                      refine j_g rfl (fun hb => qs_mt rfl) ?_
                      refine j_g rfl (fun hb => qs_field Try.underlying52 rfl sz9 (by decide) rfl) ?_
                      first
                        | refine j_g rfl (fun hb => qs_load 0 Try.underlying9 rfl (gd_eq hb) rfl rfl) ?_
                        | refine j_g rfl (fun hb => qs_load 1 Try.underlying9 rfl (gd_eq hb) rfl rfl) ?_
                        | refine j_g rfl (fun hb => qs_load 2 Try.underlying9 rfl (gd_eq hb) rfl rfl) ?_
                        | refine j_g rfl (fun hb => qs_load 3 Try.underlying9 rfl (gd_eq hb) rfl rfl) ?_
                      refine j_g rfl (fun hb => qs_seql (gd_eq hb) (gd_eq hb)) ?_
                      refine j_q (qs_and rfl rfl) ?_
                      refine j_cond rfl (fun hc11 => ?_) (fun hc11 => ?_)
                      · skip
                        simp only [Bool.and_eq_true, beq_iff_eq] at hc11
                        refine absurd ?_ (no_wait hai1.wf hy3)
                        obtain ⟨z, hz⟩ := Option.isSome_iff_exists.1 hc11.1
                        have h2 := hc11.2
                        rw [hz] at h2
                        show alook p1.wm _ = _
                        rw [hz]
                        exact congrArg some h2
                      · skip
                        refine j_q (qs_add64 rfl rfl (by first | omega | (simp only [Bool.and_eq_true, Bool.or_eq_true, Bool.and_eq_false_iff, Bool.or_eq_false_iff, Bool.not_eq_true', Bool.not_eq_false', decide_eq_true_eq, decide_eq_false_iff_not, beq_iff_eq, beq_eq_false_iff_ne, bne_iff_ne, bne_eq_false_iff_eq, ne_eq, Int.toNat_natCast] at *; omega))) ?_
                        refine j_back rfl ?_
                        exact ⟨i + 1 - (k + 1), by omega, k + 1, seen ++ [(rs.getD k St0).task], _, c85, al, by rw [List.length_append, List.length_singleton]; rfl, rfl, hso1, seen_more hsi hyt hy3 _ (.inl rfl), by rw [List.length_append, List.length_singleton]; omega, by omega, rfl⟩
                · skip
                  have hki1 : k = i + 1 := by
                    simp only [Bool.and_eq_true, Bool.or_eq_true, Bool.and_eq_false_iff, Bool.or_eq_false_iff, Bool.not_eq_true', Bool.not_eq_false', decide_eq_true_eq, decide_eq_false_iff_not, beq_iff_eq, beq_eq_false_iff_ne, bne_iff_ne, bne_eq_false_iff_eq, ne_eq, Int.toNat_natCast] at *
                    omega
                  have hal := hsi.le
                  refine j_q (qs_gtr rfl rfl) ?_
                  refine j_g rfl (fun hb => qs_mt rfl) ?_
                  refine j_g rfl (fun hb => qs_gtr (gd_eq hb) rfl) ?_
                  refine j_q (qs_and rfl rfl) ?_
                  refine j_cond rfl (fun hc12 => ?_) (fun hc12 => ?_)
                  · skip
                    have h1 := seen_alone hai1 hsi
                    simp [gd] at hc12
                    omega
                  · skip
                    refine j_subl (S' := [p1.heap, [(gm, .map es1 ck1)]]) (by repeat first | exact List.Sublist.refl _ | exact List.nil_sublist _ | apply List.Sublist.cons_cons | apply List.Sublist.cons) ?_
                    refine j_q (qs_add64 rfl rfl (by first | omega | (simp only [Bool.and_eq_true, Bool.or_eq_true, Bool.and_eq_false_iff, Bool.or_eq_false_iff, Bool.not_eq_true', Bool.not_eq_false', decide_eq_true_eq, decide_eq_false_iff_not, beq_iff_eq, beq_eq_false_iff_ne, bne_iff_ne, bne_eq_false_iff_eq, ne_eq, Int.toNat_natCast] at *; omega))) ?_
                    refine j_back rfl ?_
                    exact ⟨200 - (i + 1), by omega, i + 1, p1, mm1, es1, ck1, rfl, rfl, rfl, hok1, hai1, hmp1, by omega, by omega, rfl⟩
            · skip
              have hsh : (rs.getD i St0).sh = false := hc5
              refine j_q (qs_field Try.underlying52 rfl sz3 (by decide) rfl) ?_
              first
                | refine j_q (qs_loadk 0 Try.underlying3 rfl rfl (by first | omega | (simp only [Bool.and_eq_true, Bool.or_eq_true, Bool.and_eq_false_iff, Bool.or_eq_false_iff, Bool.not_eq_true', Bool.not_eq_false', decide_eq_true_eq, decide_eq_false_iff_not, beq_iff_eq, beq_eq_false_iff_ne, bne_iff_ne, bne_eq_false_iff_eq, ne_eq, Int.toNat_natCast] at *; omega))) ?_
                | refine j_q (qs_loadk 1 Try.underlying3 rfl rfl (by first | omega | (simp only [Bool.and_eq_true, Bool.or_eq_true, Bool.and_eq_false_iff, Bool.or_eq_false_iff, Bool.not_eq_true', Bool.not_eq_false', decide_eq_true_eq, decide_eq_false_iff_not, beq_iff_eq, beq_eq_false_iff_ne, bne_iff_ne, bne_eq_false_iff_eq, ne_eq, Int.toNat_natCast] at *; omega))) ?_
                | refine j_q (qs_loadk 2 Try.underlying3 rfl rfl (by first | omega | (simp only [Bool.and_eq_true, Bool.or_eq_true, Bool.and_eq_false_iff, Bool.or_eq_false_iff, Bool.not_eq_true', Bool.not_eq_false', decide_eq_true_eq, decide_eq_false_iff_not, beq_iff_eq, beq_eq_false_iff_ne, bne_iff_ne, bne_eq_false_iff_eq, ne_eq, Int.toNat_natCast] at *; omega))) ?_
                | refine j_q (qs_loadk 3 Try.underlying3 rfl rfl (by first | omega | (simp only [Bool.and_eq_true, Bool.or_eq_true, Bool.and_eq_false_iff, Bool.or_eq_false_iff, Bool.not_eq_true', Bool.not_eq_false', decide_eq_true_eq, decide_eq_false_iff_not, beq_iff_eq, beq_eq_false_iff_ne, bne_iff_ne, bne_eq_false_iff_eq, ne_eq, Int.toNat_natCast] at *; omega))) ?_
                | refine j_q (qs_load 0 Try.underlying3 rfl rfl rfl rfl) ?_
                | refine j_q (qs_load 1 Try.underlying3 rfl rfl rfl rfl) ?_
                | refine j_q (qs_load 2 Try.underlying3 rfl rfl rfl rfl) ?_
                | refine j_q (qs_load 3 Try.underlying3 rfl rfl rfl rfl) ?_
              refine j_q (qs_field Try.underlying52 rfl sz9 (by decide) rfl) ?_
              first
                | refine j_q (qs_load 0 Try.underlying9 rfl rfl rfl rfl) ?_
                | refine j_q (qs_load 1 Try.underlying9 rfl rfl rfl rfl) ?_
                | refine j_q (qs_load 2 Try.underlying9 rfl rfl rfl rfl) ?_
                | refine j_q (qs_load 3 Try.underlying9 rfl rfl rfl rfl) ?_
              refine j_q (qs_build (places := [(0, 1), (1, 1), (2, 1), (3, 1)]) (offs := [(1, [.int .i64 (rs.getD i St0).task]), (2, [.string (bs (rs.getD i St0).name)])]) Try.underlying52 zero52 (by kernel_rfl) rfl (by rintro (_ | _ | j) p q hp hq <;> first | (simp at hp hq; subst hp hq; exact ⟨rfl, rfl, by simp⟩) | (simp at hp))) ?_
              refine j_mapset (key := ((rs.getD i St0).task, (rs.getD i St0).name)) (val := zEnc 1) stKey 2 Try.underlying67 rfl rfl rfl rfl hmp ⟨hxo.2.1, hxo.str⟩ (fun es1 ck1 hmp1 => ?_)
              rw [mset_map zEnc] at hmp1
              obtain ⟨mm1, hmm1⟩ : ∃ l, l = aset mm ((rs.getD i St0).task, (rs.getD i St0).name) (1 : Int) := ⟨_, rfl⟩
              rw [← hmm1] at hmp1
              refine j_perm (S' := [[(g15, .cells [Value.int .i64 (rs.getD i St0).kind, .int .i64 (rs.getD i St0).task, .string (bs (rs.getD i St0).name), .bool (rs.getD i St0).sh].toArray 52 (0, 0))], p1.heap, [(gm, .map es1 ck1)]]) (List.Perm.of_eq rfl) ?_
              have hai1 : AI p1.at_ mm1 := by
                have h1 := ai_take0 hai (rs.getD i St0).task (rs.getD i St0).name (rs.getD i St0).sh he
                rw [hmm1, hA1]
                rw [hsh] at h1 ⊢
                exact h1
              refine j_q (qs_field Try.underlying52 rfl sz3 (by decide) rfl) ?_
              first
                | refine j_q (qs_loadk 0 Try.underlying3 rfl rfl (by first | omega | (simp only [Bool.and_eq_true, Bool.or_eq_true, Bool.and_eq_false_iff, Bool.or_eq_false_iff, Bool.not_eq_true', Bool.not_eq_false', decide_eq_true_eq, decide_eq_false_iff_not, beq_iff_eq, beq_eq_false_iff_ne, bne_iff_ne, bne_eq_false_iff_eq, ne_eq, Int.toNat_natCast] at *; omega))) ?_
                | refine j_q (qs_loadk 1 Try.underlying3 rfl rfl (by first | omega | (simp only [Bool.and_eq_true, Bool.or_eq_true, Bool.and_eq_false_iff, Bool.or_eq_false_iff, Bool.not_eq_true', Bool.not_eq_false', decide_eq_true_eq, decide_eq_false_iff_not, beq_iff_eq, beq_eq_false_iff_ne, bne_iff_ne, bne_eq_false_iff_eq, ne_eq, Int.toNat_natCast] at *; omega))) ?_
                | refine j_q (qs_loadk 2 Try.underlying3 rfl rfl (by first | omega | (simp only [Bool.and_eq_true, Bool.or_eq_true, Bool.and_eq_false_iff, Bool.or_eq_false_iff, Bool.not_eq_true', Bool.not_eq_false', decide_eq_true_eq, decide_eq_false_iff_not, beq_iff_eq, beq_eq_false_iff_ne, bne_iff_ne, bne_eq_false_iff_eq, ne_eq, Int.toNat_natCast] at *; omega))) ?_
                | refine j_q (qs_loadk 3 Try.underlying3 rfl rfl (by first | omega | (simp only [Bool.and_eq_true, Bool.or_eq_true, Bool.and_eq_false_iff, Bool.or_eq_false_iff, Bool.not_eq_true', Bool.not_eq_false', decide_eq_true_eq, decide_eq_false_iff_not, beq_iff_eq, beq_eq_false_iff_ne, bne_iff_ne, bne_eq_false_iff_eq, ne_eq, Int.toNat_natCast] at *; omega))) ?_
                | refine j_q (qs_load 0 Try.underlying3 rfl rfl rfl rfl) ?_
                | refine j_q (qs_load 1 Try.underlying3 rfl rfl rfl rfl) ?_
                | refine j_q (qs_load 2 Try.underlying3 rfl rfl rfl rfl) ?_
                | refine j_q (qs_load 3 Try.underlying3 rfl rfl rfl rfl) ?_
              refine j_q (qs_field Try.underlying52 rfl sz9 (by decide) rfl) ?_
              first
                | refine j_q (qs_load 0 Try.underlying9 rfl rfl rfl rfl) ?_
                | refine j_q (qs_load 1 Try.underlying9 rfl rfl rfl rfl) ?_
                | refine j_q (qs_load 2 Try.underlying9 rfl rfl rfl rfl) ?_
                | refine j_q (qs_load 3 Try.underlying9 rfl rfl rfl rfl) ?_
              refine j_q (qs_call ent33 rfl rfl rfl (fun w' hw' => holds2_con (i + 1) p1 (rs.getD i St0).task (rs.getD i St0).name w' (in_own hw' 1 rfl) hok1 hxo.2.1 hxo.str)) ?_
              refine j_g rfl (fun hb => qs_mt rfl) ?_
              refine j_g rfl (fun hb => qs_eql (gd_eq hb) rfl) ?_
              refine j_q (qs_and rfl rfl) ?_
              refine j_q (qs_bne Try.underlying4 rfl rfl) ?_
              refine j_cond rfl (fun hc13 => ?_) (fun hc13 => ?_)
              · skip
                rw [hgot] at hc13
                simp at hc13
              · skip
                refine j_q (qs_ac) ?_
                refine j_q (qs_ac) ?_
                refine j_q (qs_ac) ?_
                refine j_q (qs_ac) ?_
                refine j_perm (S' := [[(g15, .cells [Value.int .i64 (rs.getD i St0).kind, .int .i64 (rs.getD i St0).task, .string (bs (rs.getD i St0).name), .bool (rs.getD i St0).sh].toArray 52 (0, 0))], p1.heap, [(gm, .map es1 ck1)], []]) (by simp) ?_
                refine j_loop (fun m vs S' => ∃ (k : Nat) (seen : List Int) (sv : Value) (sc : SH) (al : Nat), vs = [.int .i64 (seen.length : Int), .int .i64 (al : Int), sv, .int .i64 (k : Int)] ∧ S' = [[(g15, .cells [Value.int .i64 (rs.getD i St0).kind, .int .i64 (rs.getD i St0).task, .string (bs (rs.getD i St0).name), .bool (rs.getD i St0).sh].toArray 52 (0, 0))], p1.heap, [(gm, .map es1 ck1)], sc] ∧ Sx.Own 3 1 (ks .i64 seen) sv sc ∧ SeenI p1.at_ mm1 (rs.getD i St0).name seen al ∧ seen.length ≤ k ∧ k ≤ i + 1 ∧ m = i + 1 - k) ⟨_, 0, [], _, [], 0, rfl, rfl, own_nil, seen_nil _ _ _, Nat.zero_le _, Nat.zero_le _, rfl⟩ ?_
                rintro m vs S' hlen ⟨k, seen, sv, sc, al, rfl, rfl, hso, hsi, hsk, hki, rfl⟩
                refine j_q (qs_leq rfl rfl) ?_
                refine j_cond rfl (fun hc14 => ?_) (fun hc14 => ?_)
                · skip
                  have hk1 : k < i + 1 := by
                    simp only [Bool.and_eq_true, Bool.or_eq_true, Bool.and_eq_false_iff, Bool.or_eq_false_iff, Bool.not_eq_true', Bool.not_eq_false', decide_eq_true_eq, decide_eq_false_iff_not, beq_iff_eq, beq_eq_false_iff_ne, bne_iff_ne, bne_eq_false_iff_eq, ne_eq, Int.toNat_natCast] at *
                    omega
                  have hyo := script_ok h (show k < rs.length by omega)
                  have hal := hsi.le
                  have hwfx : strOk (rs.getD i St0).name := hxo.str
                  refine j_mix _ (.refl _) ?_
                  refine j_mq (qs_ixl Try.underlying43 sz52 rfl rfl (by first | omega | (simp only [Bool.and_eq_true, Bool.or_eq_true, Bool.and_eq_false_iff, Bool.or_eq_false_iff, Bool.not_eq_true', Bool.not_eq_false', decide_eq_true_eq, decide_eq_false_iff_not, beq_iff_eq, beq_eq_false_iff_ne, bne_iff_ne, bne_eq_false_iff_eq, ne_eq, Int.toNat_natCast] at *; omega)) (by first | omega | (simp only [Bool.and_eq_true, Bool.or_eq_true, Bool.and_eq_false_iff, Bool.or_eq_false_iff, Bool.not_eq_true', Bool.not_eq_false', decide_eq_true_eq, decide_eq_false_iff_not, beq_iff_eq, beq_eq_false_iff_ne, bne_iff_ne, bne_eq_false_iff_eq, ne_eq, Int.toNat_natCast] at *; omega))) ?_
                  refine j_mq (qs_field (g := g) (off := off + (k : Int).toNat * 4) Try.underlying52 rfl sz9 (by decide) (by rw [add_off]; rfl)) ?_
                  refine j_mq (qs_loadR (v := .string (bs (rs.getD k St0).name)) (a := ⟨g, off, none⟩) (i := k * 4 + 2) (rd_cells hcl (by simp)) Try.underlying9 rfl (congrArg (fun a => Value.pointer (some a)) (off_field g off k 2)) (steps_get (by omega) rfl)) ?_
                  refine j_mq (qs_field Try.underlying52 rfl sz9 (by decide) rfl) ?_
                  first
                    | refine j_mq (qs_load 0 Try.underlying9 rfl rfl rfl rfl) ?_
                    | refine j_mq (qs_load 1 Try.underlying9 rfl rfl rfl rfl) ?_
                    | refine j_mq (qs_load 2 Try.underlying9 rfl rfl rfl rfl) ?_
                    | refine j_mq (qs_load 3 Try.underlying9 rfl rfl rfl rfl) ?_
                  refine j_mq (qs_sneq rfl rfl) ?_
                  refine j_mg rfl (fun hb => qs_mt rfl) ?_
                  refine j_mg rfl (fun hb => qs_mt rfl) ?_
                  refine j_mg rfl (fun hb => qs_mt rfl) ?_
                  refine j_mg rfl (fun hb => qs_ixl Try.underlying43 sz52 (gd_eq hb) (gd_eq hb) (by first | omega | (simp only [Bool.and_eq_true, Bool.or_eq_true, Bool.and_eq_false_iff, Bool.or_eq_false_iff, Bool.not_eq_true', Bool.not_eq_false', decide_eq_true_eq, decide_eq_false_iff_not, beq_iff_eq, beq_eq_false_iff_ne, bne_iff_ne, bne_eq_false_iff_eq, ne_eq, Int.toNat_natCast] at *; omega)) (by first | omega | (simp only [Bool.and_eq_true, Bool.or_eq_true, Bool.and_eq_false_iff, Bool.or_eq_false_iff, Bool.not_eq_true', Bool.not_eq_false', decide_eq_true_eq, decide_eq_false_iff_not, beq_iff_eq, beq_eq_false_iff_ne, bne_iff_ne, bne_eq_false_iff_eq, ne_eq, Int.toNat_natCast] at *; omega))) ?_
                  refine j_mg rfl (fun hb => qs_field (g := g) (off := off + (k : Int).toNat * 4) Try.underlying52 rfl sz3 (by decide) ((gd_eq hb).trans (by rw [add_off]))) ?_
                  refine j_mg rfl (fun hb => qs_loadR (v := .int .i64 (rs.getD k St0).task) (a := ⟨g, off, none⟩) (i := k * 4 + 1) (rd_cells hcl (by simp)) Try.underlying3 rfl ((gd_eq hb).trans (congrArg (fun a => Value.pointer (some a)) (off_field g off k 1))) (steps_get (by omega) rfl)) ?_
                  refine j_g rfl (fun hb => qs_call ent35 rfl rfl (args2 (gd_eq hb) (gd_eq hb)) (fun w' hw' => hasL_con seen (rs.getD k St0).task _ w' (rsl_own hso 3 rfl hw') (by omega))) ?_
                  refine j_mR _ (.refl _) ?_
                  refine j_mq (qs_or rfl rfl) ?_
                  refine j_mg rfl (fun hb => qs_mt rfl) ?_
                  refine j_mg rfl (fun hb => qs_mt rfl) ?_
                  refine j_mg rfl (fun hb => qs_mt rfl) ?_
                  refine j_mg rfl (fun hb => qs_ixl Try.underlying43 sz52 (gd_eq hb) (gd_eq hb) (by first | omega | (simp only [Bool.and_eq_true, Bool.or_eq_true, Bool.and_eq_false_iff, Bool.or_eq_false_iff, Bool.not_eq_true', Bool.not_eq_false', decide_eq_true_eq, decide_eq_false_iff_not, beq_iff_eq, beq_eq_false_iff_ne, bne_iff_ne, bne_eq_false_iff_eq, ne_eq, Int.toNat_natCast] at *; omega)) (by first | omega | (simp only [Bool.and_eq_true, Bool.or_eq_true, Bool.and_eq_false_iff, Bool.or_eq_false_iff, Bool.not_eq_true', Bool.not_eq_false', decide_eq_true_eq, decide_eq_false_iff_not, beq_iff_eq, beq_eq_false_iff_ne, bne_iff_ne, bne_eq_false_iff_eq, ne_eq, Int.toNat_natCast] at *; omega))) ?_
                  refine j_mg rfl (fun hb => qs_field (g := g) (off := off + (k : Int).toNat * 4) Try.underlying52 rfl sz3 (by decide) ((gd_eq hb).trans (by rw [add_off]))) ?_
                  refine j_mg rfl (fun hb => qs_loadR (v := .int .i64 (rs.getD k St0).task) (a := ⟨g, off, none⟩) (i := k * 4 + 1) (rd_cells hcl (by simp)) Try.underlying3 rfl ((gd_eq hb).trans (congrArg (fun a => Value.pointer (some a)) (off_field g off k 1))) (steps_get (by omega) rfl)) ?_
                  refine j_mg rfl (fun hb => qs_field Try.underlying52 rfl sz9 (by decide) rfl) ?_
                  first
                    | refine j_mg rfl (fun hb => qs_load 0 Try.underlying9 rfl (gd_eq hb) rfl rfl) ?_
                    | refine j_mg rfl (fun hb => qs_load 1 Try.underlying9 rfl (gd_eq hb) rfl rfl) ?_
                    | refine j_mg rfl (fun hb => qs_load 2 Try.underlying9 rfl (gd_eq hb) rfl rfl) ?_
                    | refine j_mg rfl (fun hb => qs_load 3 Try.underlying9 rfl (gd_eq hb) rfl rfl) ?_
                  refine j_g rfl (fun hb => qs_call ent33 rfl rfl (args3 (gd_eq hb) (gd_eq hb) (gd_eq hb)) (fun w' hw' => holds2_con (i + 1) p1 (rs.getD k St0).task (rs.getD i St0).name w' (in_own hw' 1 rfl) hok1 hyo.2.1 hxo.str)) ?_
                  refine j_mR _ (.refl _) ?_
                  refine j_mg rfl (fun hb => qs_not (gd_eq hb)) ?_
                  refine j_mq (qs_or rfl rfl) ?_
                  refine j_mend ?_
                  refine j_cond rfl (fun hc15 => ?_) (fun hc15 => ?_)
                  · skip
                    refine j_q (qs_add64 rfl rfl (by first | omega | (simp only [Bool.and_eq_true, Bool.or_eq_true, Bool.and_eq_false_iff, Bool.or_eq_false_iff, Bool.not_eq_true', Bool.not_eq_false', decide_eq_true_eq, decide_eq_false_iff_not, beq_iff_eq, beq_eq_false_iff_ne, bne_iff_ne, bne_eq_false_iff_eq, ne_eq, Int.toNat_natCast] at *; omega))) ?_
                    refine j_back rfl ?_
                    exact ⟨i + 1 - (k + 1), by omega, k + 1, seen, _, sc, al, rfl, rfl, hso, hsi, by omega, by omega, rfl⟩
                  · skip
                    simp only [Bool.or_eq_false_iff, Bool.not_eq_false'] at hc15
                    obtain ⟨⟨hy1, hy2⟩, hy3⟩ := hc15
                    have hyn : (rs.getD k St0).name = (rs.getD i St0).name := by simpa using hy1
                    have hyt : (rs.getD k St0).task ∉ seen := fun hm => by rw [hasI_iff.2 hm] at hy2; cases hy2
                    refine j_q (qs_ixl Try.underlying43 sz52 rfl rfl (by first | omega | (simp only [Bool.and_eq_true, Bool.or_eq_true, Bool.and_eq_false_iff, Bool.or_eq_false_iff, Bool.not_eq_true', Bool.not_eq_false', decide_eq_true_eq, decide_eq_false_iff_not, beq_iff_eq, beq_eq_false_iff_ne, bne_iff_ne, bne_eq_false_iff_eq, ne_eq, Int.toNat_natCast] at *; omega)) (by first | omega | (simp only [Bool.and_eq_true, Bool.or_eq_true, Bool.and_eq_false_iff, Bool.or_eq_false_iff, Bool.not_eq_true', Bool.not_eq_false', decide_eq_true_eq, decide_eq_false_iff_not, beq_iff_eq, beq_eq_false_iff_ne, bne_iff_ne, bne_eq_false_iff_eq, ne_eq, Int.toNat_natCast] at *; omega))) ?_
                    refine j_q (qs_field (g := g) (off := off + (k : Int).toNat * 4) Try.underlying52 rfl sz3 (by decide) (by rw [add_off]; rfl)) ?_
                    refine j_q (qs_loadR (v := .int .i64 (rs.getD k St0).task) (a := ⟨g, off, none⟩) (i := k * 4 + 1) (rd_cells hcl (by simp)) Try.underlying3 rfl (congrArg (fun a => Value.pointer (some a)) (off_field g off k 1)) (steps_get (by omega) rfl)) ?_
                    refine j_lit (vs := [.int .i64 _]) Try.underlying36 sz3 zero3 rfl (by simp [oneV]) ⟨rfl, by decide⟩ (fun g178 v178 c178 hv178 hc178 ho178 => ?_)
                    subst hv178 hc178
                    refine j_append 4 Try.underlying36 Try.underlying36 (.inr ⟨_, rfl⟩) sb3 zero3 rfl hso rfl (.inl ⟨_, _, rfl, own_rd ho178 0 rfl, rfl⟩) (by intro u hu; rw [List.mem_singleton] at hu; rw [hu]; rfl) ⟨(by simp only [ks_length, List.length_singleton]; omega), (by decide)⟩ (fun v179 c179 ho179 => ?_)
                    have hso1 : Sx.Own 3 1 (ks .i64 (seen ++ [(rs.getD k St0).task])) v179 c179 := by
                      have e : ks .i64 (seen ++ [(rs.getD k St0).task]) = ks .i64 seen ++ [Value.int .i64 (rs.getD k St0).task] := by simp [ks]
                      rw [e]
                      exact ho179
                    refine j_subl (S' := [[(g15, .cells [Value.int .i64 (rs.getD i St0).kind, .int .i64 (rs.getD i St0).task, .string (bs (rs.getD i St0).name), .bool (rs.getD i St0).sh].toArray 52 (0, 0))], p1.heap, [(gm, .map es1 ck1)], c179]) (by repeat first | exact List.Sublist.refl _ | exact List.nil_sublist _ | apply List.Sublist.cons_cons | apply List.Sublist.cons) ?_
                    refine j_q (qs_add64 rfl rfl (by first | omega | (simp only [Bool.and_eq_true, Bool.or_eq_true, Bool.and_eq_false_iff, Bool.or_eq_false_iff, Bool.not_eq_true', Bool.not_eq_false', decide_eq_true_eq, decide_eq_false_iff_not, beq_iff_eq, beq_eq_false_iff_ne, bne_iff_ne, bne_eq_false_iff_eq, ne_eq, Int.toNat_natCast] at *; omega))) ?_
                    refine j_mix _ (.refl _) ?_
                    refine j_mq (qs_ixl Try.underlying43 sz52 rfl rfl (by first | omega | (simp only [Bool.and_eq_true, Bool.or_eq_true, Bool.and_eq_false_iff, Bool.or_eq_false_iff, Bool.not_eq_true', Bool.not_eq_false', decide_eq_true_eq, decide_eq_false_iff_not, beq_iff_eq, beq_eq_false_iff_ne, bne_iff_ne, bne_eq_false_iff_eq, ne_eq, Int.toNat_natCast] at *; omega)) (by first | omega | (simp only [Bool.and_eq_true, Bool.or_eq_true, Bool.and_eq_false_iff, Bool.or_eq_false_iff, Bool.not_eq_true', Bool.not_eq_false', decide_eq_true_eq, decide_eq_false_iff_not, beq_iff_eq, beq_eq_false_iff_ne, bne_iff_ne, bne_eq_false_iff_eq, ne_eq, Int.toNat_natCast] at *; omega))) ?_
                    refine j_mq (qs_field (g := g) (off := off + (k : Int).toNat * 4) Try.underlying52 rfl sz3 (by decide) (by rw [add_off]; rfl)) ?_
                    refine j_mq (qs_loadR (v := .int .i64 (rs.getD k St0).task) (a := ⟨g, off, none⟩) (i := k * 4 + 1) (rd_cells hcl (by simp)) Try.underlying3 rfl (congrArg (fun a => Value.pointer (some a)) (off_field g off k 1)) (steps_get (by omega) rfl)) ?_
                    refine j_mq (qs_field Try.underlying52 rfl sz9 (by decide) rfl) ?_
                    first
                      | refine j_mq (qs_load 0 Try.underlying9 rfl rfl rfl rfl) ?_
                      | refine j_mq (qs_load 1 Try.underlying9 rfl rfl rfl rfl) ?_
                      | refine j_mq (qs_load 2 Try.underlying9 rfl rfl rfl rfl) ?_
                      | refine j_mq (qs_load 3 Try.underlying9 rfl rfl rfl rfl) ?_
                    refine j_mq (qs_build (places := [(0, 1), (1, 1), (2, 1), (3, 1)]) (offs := [(1, [.int .i64 (rs.getD k St0).task]), (2, [.string (bs (rs.getD i St0).name)])]) Try.underlying52 zero52 (by kernel_rfl) rfl (by rintro (_ | _ | j) p q hp hq <;> first | (simp at hp hq; subst hp hq; exact ⟨rfl, rfl, by simp⟩) | (simp at hp))) ?_
                    refine j_mq (qs_lookup (key := ((rs.getD k St0).task, (rs.getD i St0).name)) stKey 2 Try.underlying67 zv3 rfl rfl rfl hmp1 ⟨hyo.2.1, hxo.str⟩) ?_
                    rw [mlook_map zEnc, getD_z]
                    refine j_mq (qs_eql rfl rfl) ?_
                    refine j_mend ?_
                    refine j_cond rfl (fun hc16 => ?_) (fun hc16 => ?_)
                    · skip
                      have hmd : alook mm1 ((rs.getD k St0).task, (rs.getD i St0).name) = some 1 := by
                        cases hh : alook mm1 ((rs.getD k St0).task, (rs.getD i St0).name) with
                        | none => rw [hh] at hc16; simp at hc16
                        | some z => rw [hh] at hc16; simp at hc16; rw [hc16]
                      refine j_q (qs_add64 rfl rfl (by first | omega | (simp only [Bool.and_eq_true, Bool.or_eq_true, Bool.and_eq_false_iff, Bool.or_eq_false_iff, Bool.not_eq_true', Bool.not_eq_false', decide_eq_true_eq, decide_eq_false_iff_not, beq_iff_eq, beq_eq_false_iff_ne, bne_iff_ne, bne_eq_false_iff_eq, ne_eq, Int.toNat_natCast] at *; omega))) ?_
                      refine j_q (qs_ixl Try.underlying43 sz52 rfl rfl (by first | omega | (simp only [Bool.and_eq_true, Bool.or_eq_true, Bool.and_eq_false_iff, Bool.or_eq_false_iff, Bool.not_eq_true', Bool.not_eq_false', decide_eq_true_eq, decide_eq_false_iff_not, beq_iff_eq, beq_eq_false_iff_ne, bne_iff_ne, bne_eq_false_iff_eq, ne_eq, Int.toNat_natCast] at *; omega)) (by first | omega | (simp only [Bool.and_eq_true, Bool.or_eq_true, Bool.and_eq_false_iff, Bool.or_eq_false_iff, Bool.not_eq_true', Bool.not_eq_false', decide_eq_true_eq, decide_eq_false_iff_not, beq_iff_eq, beq_eq_false_iff_ne, bne_iff_ne, bne_eq_false_iff_eq, ne_eq, Int.toNat_natCast] at *; omega))) ?_
                      refine j_q (qs_field (g := g) (off := off + (k : Int).toNat * 4) Try.underlying52 rfl sz3 (by decide) (by rw [add_off]; rfl)) ?_
                      refine j_q (qs_loadR (v := .int .i64 (rs.getD k St0).task) (a := ⟨g, off, none⟩) (i := k * 4 + 1) (rd_cells hcl (by simp)) Try.underlying3 rfl (congrArg (fun a => Value.pointer (some a)) (off_field g off k 1)) (steps_get (by omega) rfl)) ?_
                      refine j_q (qs_call ent31 rfl rfl rfl (fun w' hw' => waits_con (i + 1) p1 (rs.getD k St0).task w' (in_own hw' 1 rfl) hok1 hyo.2.1)) ?_
                      refine j_q (qs_ext (vs := [.string (bs ((alook p1.wm (rs.getD k St0).task).getD [])), .bool (alook p1.wm (rs.getD k St0).task).isSome]) rfl rfl) ?_
                      refine j_q (qs_ext (vs := [.string (bs ((alook p1.wm (rs.getD k St0).task).getD [])), .bool (alook p1.wm (rs.getD k St0).task).isSome]) rfl rfl) ?_
                      refine j_g rfl (fun hb => qs_mt rfl) ?_
                      refine j_g rfl (fun hb => qs_field Try.underlying52 rfl sz9 (by decide) rfl) ?_
                      first
                        | refine j_g rfl (fun hb => qs_load 0 Try.underlying9 rfl (gd_eq hb) rfl rfl) ?_
                        | refine j_g rfl (fun hb => qs_load 1 Try.underlying9 rfl (gd_eq hb) rfl rfl) ?_
                        | refine j_g rfl (fun hb => qs_load 2 Try.underlying9 rfl (gd_eq hb) rfl rfl) ?_
                        | refine j_g rfl (fun hb => qs_load 3 Try.underlying9 rfl (gd_eq hb) rfl rfl) ?_
                      refine j_g rfl (fun hb => qs_seql (gd_eq hb) (gd_eq hb)) ?_
                      refine j_q (qs_and rfl rfl) ?_
                      refine j_cond rfl (fun hc17 => ?_) (fun hc17 => ?_)
                      · skip
                        simp only [Bool.and_eq_true, beq_iff_eq] at hc17
                        refine absurd ?_ (no_wait hai1.wf hy3)
                        obtain ⟨z, hz⟩ := Option.isSome_iff_exists.1 hc17.1
                        have h2 := hc17.2
                        rw [hz] at h2
                        show alook p1.wm _ = _
                        rw [hz]
                        exact congrArg some h2
                      · skip
                        refine j_q (qs_add64 rfl rfl (by first | omega | (simp only [Bool.and_eq_true, Bool.or_eq_true, Bool.and_eq_false_iff, Bool.or_eq_false_iff, Bool.not_eq_true', Bool.not_eq_false', decide_eq_true_eq, decide_eq_false_iff_not, beq_iff_eq, beq_eq_false_iff_ne, bne_iff_ne, bne_eq_false_iff_eq, ne_eq, Int.toNat_natCast] at *; omega))) ?_
                        refine j_back rfl ?_
                        exact ⟨i + 1 - (k + 1), by omega, k + 1, seen ++ [(rs.getD k St0).task], _, c179, al + 1, by rw [List.length_append, List.length_singleton]; rfl, rfl, hso1, seen_more hsi hyt hy3 _ (.inr ⟨rfl, hmd⟩), by rw [List.length_append, List.length_singleton]; omega, by omega, rfl⟩
                    · skip
                      refine j_q (qs_ixl Try.underlying43 sz52 rfl rfl (by first | omega | (simp only [Bool.and_eq_true, Bool.or_eq_true, Bool.and_eq_false_iff, Bool.or_eq_false_iff, Bool.not_eq_true', Bool.not_eq_false', decide_eq_true_eq, decide_eq_false_iff_not, beq_iff_eq, beq_eq_false_iff_ne, bne_iff_ne, bne_eq_false_iff_eq, ne_eq, Int.toNat_natCast] at *; omega)) (by first | omega | (simp only [Bool.and_eq_true, Bool.or_eq_true, Bool.and_eq_false_iff, Bool.or_eq_false_iff, Bool.not_eq_true', Bool.not_eq_false', decide_eq_true_eq, decide_eq_false_iff_not, beq_iff_eq, beq_eq_false_iff_ne, bne_iff_ne, bne_eq_false_iff_eq, ne_eq, Int.toNat_natCast] at *; omega))) ?_
                      refine j_q (qs_field (g := g) (off := off + (k : Int).toNat * 4) Try.underlying52 rfl sz3 (by decide) (by rw [add_off]; rfl)) ?_
                      refine j_q (qs_loadR (v := .int .i64 (rs.getD k St0).task) (a := ⟨g, off, none⟩) (i := k * 4 + 1) (rd_cells hcl (by simp)) Try.underlying3 rfl (congrArg (fun a => Value.pointer (some a)) (off_field g off k 1)) (steps_get (by omega) rfl)) ?_
                      refine j_q (qs_call ent31 rfl rfl rfl (fun w' hw' => waits_con (i + 1) p1 (rs.getD k St0).task w' (in_own hw' 1 rfl) hok1 hyo.2.1)) ?_
                      refine j_q (qs_ext (vs := [.string (bs ((alook p1.wm (rs.getD k St0).task).getD [])), .bool (alook p1.wm (rs.getD k St0).task).isSome]) rfl rfl) ?_
                      refine j_q (qs_ext (vs := [.string (bs ((alook p1.wm (rs.getD k St0).task).getD [])), .bool (alook p1.wm (rs.getD k St0).task).isSome]) rfl rfl) ?_
                      refine j_g rfl (fun hb => qs_mt rfl) ?_
                      refine j_g rfl (fun hb => qs_field Try.underlying52 rfl sz9 (by decide) rfl) ?_
                      first
                        | refine j_g rfl (fun hb => qs_load 0 Try.underlying9 rfl (gd_eq hb) rfl rfl) ?_
                        | refine j_g rfl (fun hb => qs_load 1 Try.underlying9 rfl (gd_eq hb) rfl rfl) ?_
                        | refine j_g rfl (fun hb => qs_load 2 Try.underlying9 rfl (gd_eq hb) rfl rfl) ?_
                        | refine j_g rfl (fun hb => qs_load 3 Try.underlying9 rfl (gd_eq hb) rfl rfl) ?_
                      refine j_g rfl (fun hb => qs_seql (gd_eq hb) (gd_eq hb)) ?_
                      refine j_q (qs_and rfl rfl) ?_
                      refine j_cond rfl (fun hc18 => ?_) (fun hc18 => ?_)
                      · skip
                        simp only [Bool.and_eq_true, beq_iff_eq] at hc18
                        refine absurd ?_ (no_wait hai1.wf hy3)
                        obtain ⟨z, hz⟩ := Option.isSome_iff_exists.1 hc18.1
                        have h2 := hc18.2
                        rw [hz] at h2
                        show alook p1.wm _ = _
                        rw [hz]
                        exact congrArg some h2
                      · skip
                        refine j_q (qs_add64 rfl rfl (by first | omega | (simp only [Bool.and_eq_true, Bool.or_eq_true, Bool.and_eq_false_iff, Bool.or_eq_false_iff, Bool.not_eq_true', Bool.not_eq_false', decide_eq_true_eq, decide_eq_false_iff_not, beq_iff_eq, beq_eq_false_iff_ne, bne_iff_ne, bne_eq_false_iff_eq, ne_eq, Int.toNat_natCast] at *; omega))) ?_
                        refine j_back rfl ?_
                        exact ⟨i + 1 - (k + 1), by omega, k + 1, seen ++ [(rs.getD k St0).task], _, c179, al, by rw [List.length_append, List.length_singleton]; rfl, rfl, hso1, seen_more hsi hyt hy3 _ (.inl rfl), by rw [List.length_append, List.length_singleton]; omega, by omega, rfl⟩
                · skip
                  have hki1 : k = i + 1 := by
                    simp only [Bool.and_eq_true, Bool.or_eq_true, Bool.and_eq_false_iff, Bool.or_eq_false_iff, Bool.not_eq_true', Bool.not_eq_false', decide_eq_true_eq, decide_eq_false_iff_not, beq_iff_eq, beq_eq_false_iff_ne, bne_iff_ne, bne_eq_false_iff_eq, ne_eq, Int.toNat_natCast] at *
                    omega
                  have hal := hsi.le
                  refine j_q (qs_gtr rfl rfl) ?_
                  refine j_g rfl (fun hb => qs_mt rfl) ?_
                  refine j_g rfl (fun hb => qs_gtr (gd_eq hb) rfl) ?_
                  refine j_q (qs_and rfl rfl) ?_
                  refine j_cond rfl (fun hc19 => ?_) (fun hc19 => ?_)
                  · skip
                    have h1 := seen_alone hai1 hsi
                    simp [gd] at hc19
                    omega
                  · skip
                    refine j_subl (S' := [p1.heap, [(gm, .map es1 ck1)]]) (by repeat first | exact List.Sublist.refl _ | exact List.nil_sublist _ | apply List.Sublist.cons_cons | apply List.Sublist.cons) ?_
                    refine j_q (qs_add64 rfl rfl (by first | omega | (simp only [Bool.and_eq_true, Bool.or_eq_true, Bool.and_eq_false_iff, Bool.or_eq_false_iff, Bool.not_eq_true', Bool.not_eq_false', decide_eq_true_eq, decide_eq_false_iff_not, beq_iff_eq, beq_eq_false_iff_ne, bne_iff_ne, bne_eq_false_iff_eq, ne_eq, Int.toNat_natCast] at *; omega))) ?_
                    refine j_back rfl ?_
                    exact ⟨200 - (i + 1), by omega, i + 1, p1, mm1, es1, ck1, rfl, rfl, rfl, hok1, hai1, hmp1, by omega, by omega, rfl⟩
          · skip
            have he : (takeF q.at_ (rs.getD i St0).task (rs.getD i St0).name (rs.getD i St0).sh).2.2 ≠ 0 := by rw [← hE1]; simpa using hc4
            obtain ⟨mm1, hmm1⟩ : ∃ l, l = mm := ⟨_, rfl⟩
            rw [← hmm1] at hmp
            have hai1 : AI p1.at_ mm1 := by rw [hmm1, hA1]; exact ai_take1 hai _ _ _ he
            have hmp1 := hmp
            obtain ⟨es1, hes1⟩ : ∃ l, l = es := ⟨_, rfl⟩
            obtain ⟨ck1, hck1⟩ : ∃ l, l = ck := ⟨_, rfl⟩
            rw [← hes1, ← hck1] at hmp1 ⊢
            refine j_q (qs_field Try.underlying52 rfl sz3 (by decide) rfl) ?_
            first
              | refine j_q (qs_loadk 0 Try.underlying3 rfl rfl (by first | omega | (simp only [Bool.and_eq_true, Bool.or_eq_true, Bool.and_eq_false_iff, Bool.or_eq_false_iff, Bool.not_eq_true', Bool.not_eq_false', decide_eq_true_eq, decide_eq_false_iff_not, beq_iff_eq, beq_eq_false_iff_ne, bne_iff_ne, bne_eq_false_iff_eq, ne_eq, Int.toNat_natCast] at *; omega))) ?_
              | refine j_q (qs_loadk 1 Try.underlying3 rfl rfl (by first | omega | (simp only [Bool.and_eq_true, Bool.or_eq_true, Bool.and_eq_false_iff, Bool.or_eq_false_iff, Bool.not_eq_true', Bool.not_eq_false', decide_eq_true_eq, decide_eq_false_iff_not, beq_iff_eq, beq_eq_false_iff_ne, bne_iff_ne, bne_eq_false_iff_eq, ne_eq, Int.toNat_natCast] at *; omega))) ?_
              | refine j_q (qs_loadk 2 Try.underlying3 rfl rfl (by first | omega | (simp only [Bool.and_eq_true, Bool.or_eq_true, Bool.and_eq_false_iff, Bool.or_eq_false_iff, Bool.not_eq_true', Bool.not_eq_false', decide_eq_true_eq, decide_eq_false_iff_not, beq_iff_eq, beq_eq_false_iff_ne, bne_iff_ne, bne_eq_false_iff_eq, ne_eq, Int.toNat_natCast] at *; omega))) ?_
              | refine j_q (qs_loadk 3 Try.underlying3 rfl rfl (by first | omega | (simp only [Bool.and_eq_true, Bool.or_eq_true, Bool.and_eq_false_iff, Bool.or_eq_false_iff, Bool.not_eq_true', Bool.not_eq_false', decide_eq_true_eq, decide_eq_false_iff_not, beq_iff_eq, beq_eq_false_iff_ne, bne_iff_ne, bne_eq_false_iff_eq, ne_eq, Int.toNat_natCast] at *; omega))) ?_
              | refine j_q (qs_load 0 Try.underlying3 rfl rfl rfl rfl) ?_
              | refine j_q (qs_load 1 Try.underlying3 rfl rfl rfl rfl) ?_
              | refine j_q (qs_load 2 Try.underlying3 rfl rfl rfl rfl) ?_
              | refine j_q (qs_load 3 Try.underlying3 rfl rfl rfl rfl) ?_
            refine j_q (qs_field Try.underlying52 rfl sz9 (by decide) rfl) ?_
            first
              | refine j_q (qs_load 0 Try.underlying9 rfl rfl rfl rfl) ?_
              | refine j_q (qs_load 1 Try.underlying9 rfl rfl rfl rfl) ?_
              | refine j_q (qs_load 2 Try.underlying9 rfl rfl rfl rfl) ?_
              | refine j_q (qs_load 3 Try.underlying9 rfl rfl rfl rfl) ?_
            refine j_q (qs_call ent33 rfl rfl rfl (fun w' hw' => holds2_con (i + 1) p1 (rs.getD i St0).task (rs.getD i St0).name w' (in_own hw' 1 rfl) hok1 hxo.2.1 hxo.str)) ?_
            refine j_g rfl (fun hb => qs_mt rfl) ?_
            refine j_g rfl (fun hb => qs_eql (gd_eq hb) rfl) ?_
            refine j_q (qs_and rfl rfl) ?_
            refine j_q (qs_bne Try.underlying4 rfl rfl) ?_
            refine j_cond rfl (fun hc20 => ?_) (fun hc20 => ?_)
            · skip
              rw [hgot] at hc20
              simp at hc20
            · skip
              refine j_q (qs_ac) ?_
              refine j_q (qs_ac) ?_
              refine j_q (qs_ac) ?_
              refine j_q (qs_ac) ?_
              refine j_perm (S' := [[(g15, .cells [Value.int .i64 (rs.getD i St0).kind, .int .i64 (rs.getD i St0).task, .string (bs (rs.getD i St0).name), .bool (rs.getD i St0).sh].toArray 52 (0, 0))], p1.heap, [(gm, .map es1 ck1)], []]) (by simp) ?_
              refine j_loop (fun m vs S' => ∃ (k : Nat) (seen : List Int) (sv : Value) (sc : SH) (al : Nat), vs = [.int .i64 (seen.length : Int), .int .i64 (al : Int), sv, .int .i64 (k : Int)] ∧ S' = [[(g15, .cells [Value.int .i64 (rs.getD i St0).kind, .int .i64 (rs.getD i St0).task, .string (bs (rs.getD i St0).name), .bool (rs.getD i St0).sh].toArray 52 (0, 0))], p1.heap, [(gm, .map es1 ck1)], sc] ∧ Sx.Own 3 1 (ks .i64 seen) sv sc ∧ SeenI p1.at_ mm1 (rs.getD i St0).name seen al ∧ seen.length ≤ k ∧ k ≤ i + 1 ∧ m = i + 1 - k) ⟨_, 0, [], _, [], 0, rfl, rfl, own_nil, seen_nil _ _ _, Nat.zero_le _, Nat.zero_le _, rfl⟩ ?_
              rintro m vs S' hlen ⟨k, seen, sv, sc, al, rfl, rfl, hso, hsi, hsk, hki, rfl⟩
              refine j_q (qs_leq rfl rfl) ?_
              refine j_cond rfl (fun hc21 => ?_) (fun hc21 => ?_)
              · skip
                have hk1 : k < i + 1 := by
                  simp only [Bool.and_eq_true, Bool.or_eq_true, Bool.and_eq_false_iff, Bool.or_eq_false_iff, Bool.not_eq_true', Bool.not_eq_false', decide_eq_true_eq, decide_eq_false_iff_not, beq_iff_eq, beq_eq_false_iff_ne, bne_iff_ne, bne_eq_false_iff_eq, ne_eq, Int.toNat_natCast] at *
                  omega
                have hyo := script_ok h (show k < rs.length by omega)
                have hal := hsi.le
                have hwfx : strOk (rs.getD i St0).name := hxo.str
                refine j_mix _ (.refl _) ?_
                refine j_mq (qs_ixl Try.underlying43 sz52 rfl rfl (by first | omega | (simp only [Bool.and_eq_true, Bool.or_eq_true, Bool.and_eq_false_iff, Bool.or_eq_false_iff, Bool.not_eq_true', Bool.not_eq_false', decide_eq_true_eq, decide_eq_false_iff_not, beq_iff_eq, beq_eq_false_iff_ne, bne_iff_ne, bne_eq_false_iff_eq, ne_eq, Int.toNat_natCast] at *; omega)) (by first | omega | (simp only [Bool.and_eq_true, Bool.or_eq_true, Bool.and_eq_false_iff, Bool.or_eq_false_iff, Bool.not_eq_true', Bool.not_eq_false', decide_eq_true_eq, decide_eq_false_iff_not, beq_iff_eq, beq_eq_false_iff_ne, bne_iff_ne, bne_eq_false_iff_eq, ne_eq, Int.toNat_natCast] at *; omega))) ?_
                refine j_mq (qs_field (g := g) (off := off + (k : Int).toNat * 4) Try.underlying52 rfl sz9 (by decide) (by rw [add_off]; rfl)) ?_
                refine j_mq (qs_loadR (v := .string (bs (rs.getD k St0).name)) (a := ⟨g, off, none⟩) (i := k * 4 + 2) (rd_cells hcl (by simp)) Try.underlying9 rfl (congrArg (fun a => Value.pointer (some a)) (off_field g off k 2)) (steps_get (by omega) rfl)) ?_
                refine j_mq (qs_field Try.underlying52 rfl sz9 (by decide) rfl) ?_
                first
                  | refine j_mq (qs_load 0 Try.underlying9 rfl rfl rfl rfl) ?_
                  | refine j_mq (qs_load 1 Try.underlying9 rfl rfl rfl rfl) ?_
                  | refine j_mq (qs_load 2 Try.underlying9 rfl rfl rfl rfl) ?_
                  | refine j_mq (qs_load 3 Try.underlying9 rfl rfl rfl rfl) ?_
                refine j_mq (qs_sneq rfl rfl) ?_
                refine j_mg rfl (fun hb => qs_mt rfl) ?_
                refine j_mg rfl (fun hb => qs_mt rfl) ?_
                refine j_mg rfl (fun hb => qs_mt rfl) ?_
                refine j_mg rfl (fun hb => qs_ixl Try.underlying43 sz52 (gd_eq hb) (gd_eq hb) (by first | omega | (simp only [Bool.and_eq_true, Bool.or_eq_true, Bool.and_eq_false_iff, Bool.or_eq_false_iff, Bool.not_eq_true', Bool.not_eq_false', decide_eq_true_eq, decide_eq_false_iff_not, beq_iff_eq, beq_eq_false_iff_ne, bne_iff_ne, bne_eq_false_iff_eq, ne_eq, Int.toNat_natCast] at *; omega)) (by first | omega | (simp only [Bool.and_eq_true, Bool.or_eq_true, Bool.and_eq_false_iff, Bool.or_eq_false_iff, Bool.not_eq_true', Bool.not_eq_false', decide_eq_true_eq, decide_eq_false_iff_not, beq_iff_eq, beq_eq_false_iff_ne, bne_iff_ne, bne_eq_false_iff_eq, ne_eq, Int.toNat_natCast] at *; omega))) ?_
                refine j_mg rfl (fun hb => qs_field (g := g) (off := off + (k : Int).toNat * 4) Try.underlying52 rfl sz3 (by decide) ((gd_eq hb).trans (by rw [add_off]))) ?_
                refine j_mg rfl (fun hb => qs_loadR (v := .int .i64 (rs.getD k St0).task) (a := ⟨g, off, none⟩) (i := k * 4 + 1) (rd_cells hcl (by simp)) Try.underlying3 rfl ((gd_eq hb).trans (congrArg (fun a => Value.pointer (some a)) (off_field g off k 1))) (steps_get (by omega) rfl)) ?_
                refine j_g rfl (fun hb => qs_call ent35 rfl rfl (args2 (gd_eq hb) (gd_eq hb)) (fun w' hw' => hasL_con seen (rs.getD k St0).task _ w' (rsl_own hso 3 rfl hw') (by omega))) ?_
                refine j_mR _ (.refl _) ?_
                refine j_mq (qs_or rfl rfl) ?_
                refine j_mg rfl (fun hb => qs_mt rfl) ?_
                refine j_mg rfl (fun hb => qs_mt rfl) ?_
                refine j_mg rfl (fun hb => qs_mt rfl) ?_
                refine j_mg rfl (fun hb => qs_ixl Try.underlying43 sz52 (gd_eq hb) (gd_eq hb) (by first | omega | (simp only [Bool.and_eq_true, Bool.or_eq_true, Bool.and_eq_false_iff, Bool.or_eq_false_iff, Bool.not_eq_true', Bool.not_eq_false', decide_eq_true_eq, decide_eq_false_iff_not, beq_iff_eq, beq_eq_false_iff_ne, bne_iff_ne, bne_eq_false_iff_eq, ne_eq, Int.toNat_natCast] at *; omega)) (by first | omega | (simp only [Bool.and_eq_true, Bool.or_eq_true, Bool.and_eq_false_iff, Bool.or_eq_false_iff, Bool.not_eq_true', Bool.not_eq_false', decide_eq_true_eq, decide_eq_false_iff_not, beq_iff_eq, beq_eq_false_iff_ne, bne_iff_ne, bne_eq_false_iff_eq, ne_eq, Int.toNat_natCast] at *; omega))) ?_
                refine j_mg rfl (fun hb => qs_field (g := g) (off := off + (k : Int).toNat * 4) Try.underlying52 rfl sz3 (by decide) ((gd_eq hb).trans (by rw [add_off]))) ?_
                refine j_mg rfl (fun hb => qs_loadR (v := .int .i64 (rs.getD k St0).task) (a := ⟨g, off, none⟩) (i := k * 4 + 1) (rd_cells hcl (by simp)) Try.underlying3 rfl ((gd_eq hb).trans (congrArg (fun a => Value.pointer (some a)) (off_field g off k 1))) (steps_get (by omega) rfl)) ?_
                refine j_mg rfl (fun hb => qs_field Try.underlying52 rfl sz9 (by decide) rfl) ?_
                first
                  | refine j_mg rfl (fun hb => qs_load 0 Try.underlying9 rfl (gd_eq hb) rfl rfl) ?_
                  | refine j_mg rfl (fun hb => qs_load 1 Try.underlying9 rfl (gd_eq hb) rfl rfl) ?_
                  | refine j_mg rfl (fun hb => qs_load 2 Try.underlying9 rfl (gd_eq hb) rfl rfl) ?_
                  | refine j_mg rfl (fun hb => qs_load 3 Try.underlying9 rfl (gd_eq hb) rfl rfl) ?_
                refine j_g rfl (fun hb => qs_call ent33 rfl rfl (args3 (gd_eq hb) (gd_eq hb) (gd_eq hb)) (fun w' hw' => holds2_con (i + 1) p1 (rs.getD k St0).task (rs.getD i St0).name w' (in_own hw' 1 rfl) hok1 hyo.2.1 hxo.str)) ?_
                refine j_mR _ (.refl _) ?_
                refine j_mg rfl (fun hb => qs_not (gd_eq hb)) ?_
                refine j_mq (qs_or rfl rfl) ?_
                refine j_mend ?_
                refine j_cond rfl (fun hc22 => ?_) (fun hc22 => ?_)
                · skip
                  refine j_q (qs_add64 rfl rfl (by first | omega | (simp only [Bool.and_eq_true, Bool.or_eq_true, Bool.and_eq_false_iff, Bool.or_eq_false_iff, Bool.not_eq_true', Bool.not_eq_false', decide_eq_true_eq, decide_eq_false_iff_not, beq_iff_eq, beq_eq_false_iff_ne, bne_iff_ne, bne_eq_false_iff_eq, ne_eq, Int.toNat_natCast] at *; omega))) ?_
                  refine j_back rfl ?_
                  exact ⟨i + 1 - (k + 1), by omega, k + 1, seen, _, sc, al, rfl, rfl, hso, hsi, by omega, by omega, rfl⟩
                · skip
                  simp only [Bool.or_eq_false_iff, Bool.not_eq_false'] at hc22
                  obtain ⟨⟨hy1, hy2⟩, hy3⟩ := hc22
                  have hyn : (rs.getD k St0).name = (rs.getD i St0).name := by simpa using hy1
                  have hyt : (rs.getD k St0).task ∉ seen := fun hm => by rw [hasI_iff.2 hm] at hy2; cases hy2
                  refine j_q (qs_ixl Try.underlying43 sz52 rfl rfl (by first | omega | (simp only [Bool.and_eq_true, Bool.or_eq_true, Bool.and_eq_false_iff, Bool.or_eq_false_iff, Bool.not_eq_true', Bool.not_eq_false', decide_eq_true_eq, decide_eq_false_iff_not, beq_iff_eq, beq_eq_false_iff_ne, bne_iff_ne, bne_eq_false_iff_eq, ne_eq, Int.toNat_natCast] at *; omega)) (by first | omega | (simp only [Bool.and_eq_true, Bool.or_eq_true, Bool.and_eq_false_iff, Bool.or_eq_false_iff, Bool.not_eq_true', Bool.not_eq_false', decide_eq_true_eq, decide_eq_false_iff_not, beq_iff_eq, beq_eq_false_iff_ne, bne_iff_ne, bne_eq_false_iff_eq, ne_eq, Int.toNat_natCast] at *; omega))) ?_
                  refine j_q (qs_field (g := g) (off := off + (k : Int).toNat * 4) Try.underlying52 rfl sz3 (by decide) (by rw [add_off]; rfl)) ?_
                  refine j_q (qs_loadR (v := .int .i64 (rs.getD k St0).task) (a := ⟨g, off, none⟩) (i := k * 4 + 1) (rd_cells hcl (by simp)) Try.underlying3 rfl (congrArg (fun a => Value.pointer (some a)) (off_field g off k 1)) (steps_get (by omega) rfl)) ?_
                  refine j_lit (vs := [.int .i64 _]) Try.underlying36 sz3 zero3 rfl (by simp [oneV]) ⟨rfl, by decide⟩ (fun g266 v266 c266 hv266 hc266 ho266 => ?_)
                  subst hv266 hc266
                  refine j_append 4 Try.underlying36 Try.underlying36 (.inr ⟨_, rfl⟩) sb3 zero3 rfl hso rfl (.inl ⟨_, _, rfl, own_rd ho266 0 rfl, rfl⟩) (by intro u hu; rw [List.mem_singleton] at hu; rw [hu]; rfl) ⟨(by simp only [ks_length, List.length_singleton]; omega), (by decide)⟩ (fun v267 c267 ho267 => ?_)
                  have hso1 : Sx.Own 3 1 (ks .i64 (seen ++ [(rs.getD k St0).task])) v267 c267 := by
                    have e : ks .i64 (seen ++ [(rs.getD k St0).task]) = ks .i64 seen ++ [Value.int .i64 (rs.getD k St0).task] := by simp [ks]
                    rw [e]
                    exact ho267
                  refine j_subl (S' := [[(g15, .cells [Value.int .i64 (rs.getD i St0).kind, .int .i64 (rs.getD i St0).task, .string (bs (rs.getD i St0).name), .bool (rs.getD i St0).sh].toArray 52 (0, 0))], p1.heap, [(gm, .map es1 ck1)], c267]) (by repeat first | exact List.Sublist.refl _ | exact List.nil_sublist _ | apply List.Sublist.cons_cons | apply List.Sublist.cons) ?_
                  refine j_q (qs_add64 rfl rfl (by first | omega | (simp only [Bool.and_eq_true, Bool.or_eq_true, Bool.and_eq_false_iff, Bool.or_eq_false_iff, Bool.not_eq_true', Bool.not_eq_false', decide_eq_true_eq, decide_eq_false_iff_not, beq_iff_eq, beq_eq_false_iff_ne, bne_iff_ne, bne_eq_false_iff_eq, ne_eq, Int.toNat_natCast] at *; omega))) ?_
                  refine j_mix _ (.refl _) ?_
                  refine j_mq (qs_ixl Try.underlying43 sz52 rfl rfl (by first | omega | (simp only [Bool.and_eq_true, Bool.or_eq_true, Bool.and_eq_false_iff, Bool.or_eq_false_iff, Bool.not_eq_true', Bool.not_eq_false', decide_eq_true_eq, decide_eq_false_iff_not, beq_iff_eq, beq_eq_false_iff_ne, bne_iff_ne, bne_eq_false_iff_eq, ne_eq, Int.toNat_natCast] at *; omega)) (by first | omega | (simp only [Bool.and_eq_true, Bool.or_eq_true, Bool.and_eq_false_iff, Bool.or_eq_false_iff, Bool.not_eq_true', Bool.not_eq_false', decide_eq_true_eq, decide_eq_false_iff_not, beq_iff_eq, beq_eq_false_iff_ne, bne_iff_ne, bne_eq_false_iff_eq, ne_eq, Int.toNat_natCast] at *; omega))) ?_
                  refine j_mq (qs_field (g := g) (off := off + (k : Int).toNat * 4) Try.underlying52 rfl sz3 (by decide) (by rw [add_off]; rfl)) ?_
                  refine j_mq (qs_loadR (v := .int .i64 (rs.getD k St0).task) (a := ⟨g, off, none⟩) (i := k * 4 + 1) (rd_cells hcl (by simp)) Try.underlying3 rfl (congrArg (fun a => Value.pointer (some a)) (off_field g off k 1)) (steps_get (by omega) rfl)) ?_
                  refine j_mq (qs_field Try.underlying52 rfl sz9 (by decide) rfl) ?_
                  first
                    | refine j_mq (qs_load 0 Try.underlying9 rfl rfl rfl rfl) ?_
                    | refine j_mq (qs_load 1 Try.underlying9 rfl rfl rfl rfl) ?_
                    | refine j_mq (qs_load 2 Try.underlying9 rfl rfl rfl rfl) ?_
                    | refine j_mq (qs_load 3 Try.underlying9 rfl rfl rfl rfl) ?_
                  refine j_mq (qs_build (places := [(0, 1), (1, 1), (2, 1), (3, 1)]) (offs := [(1, [.int .i64 (rs.getD k St0).task]), (2, [.string (bs (rs.getD i St0).name)])]) Try.underlying52 zero52 (by kernel_rfl) rfl (by rintro (_ | _ | j) p q hp hq <;> first | (simp at hp hq; subst hp hq; exact ⟨rfl, rfl, by simp⟩) | (simp at hp))) ?_
                  refine j_mq (qs_lookup (key := ((rs.getD k St0).task, (rs.getD i St0).name)) stKey 2 Try.underlying67 zv3 rfl rfl rfl hmp1 ⟨hyo.2.1, hxo.str⟩) ?_
                  rw [mlook_map zEnc, getD_z]
                  refine j_mq (qs_eql rfl rfl) ?_
                  refine j_mend ?_
                  refine j_cond rfl (fun hc23 => ?_) (fun hc23 => ?_)
                  · skip
                    have hmd : alook mm1 ((rs.getD k St0).task, (rs.getD i St0).name) = some 1 := by
                      cases hh : alook mm1 ((rs.getD k St0).task, (rs.getD i St0).name) with
                      | none => rw [hh] at hc23; simp at hc23
                      | some z => rw [hh] at hc23; simp at hc23; rw [hc23]
                    refine j_q (qs_add64 rfl rfl (by first | omega | (simp only [Bool.and_eq_true, Bool.or_eq_true, Bool.and_eq_false_iff, Bool.or_eq_false_iff, Bool.not_eq_true', Bool.not_eq_false', decide_eq_true_eq, decide_eq_false_iff_not, beq_iff_eq, beq_eq_false_iff_ne, bne_iff_ne, bne_eq_false_iff_eq, ne_eq, Int.toNat_natCast] at *; omega))) ?_
                    refine j_q (qs_ixl Try.underlying43 sz52 rfl rfl (by first | omega | (simp only [Bool.and_eq_true, Bool.or_eq_true, Bool.and_eq_false_iff, Bool.or_eq_false_iff, Bool.not_eq_true', Bool.not_eq_false', decide_eq_true_eq, decide_eq_false_iff_not, beq_iff_eq, beq_eq_false_iff_ne, bne_iff_ne, bne_eq_false_iff_eq, ne_eq, Int.toNat_natCast] at *; omega)) (by first | omega | (simp only [Bool.and_eq_true, Bool.or_eq_true, Bool.and_eq_false_iff, Bool.or_eq_false_iff, Bool.not_eq_true', Bool.not_eq_false', decide_eq_true_eq, decide_eq_false_iff_not, beq_iff_eq, beq_eq_false_iff_ne, bne_iff_ne, bne_eq_false_iff_eq, ne_eq, Int.toNat_natCast] at *; omega))) ?_
                    refine j_q (qs_field (g := g) (off := off + (k : Int).toNat * 4) Try.underlying52 rfl sz3 (by decide) (by rw [add_off]; rfl)) ?_
                    refine j_q (qs_loadR (v := .int .i64 (rs.getD k St0).task) (a := ⟨g, off, none⟩) (i := k * 4 + 1) (rd_cells hcl (by simp)) Try.underlying3 rfl (congrArg (fun a => Value.pointer (some a)) (off_field g off k 1)) (steps_get (by omega) rfl)) ?_
                    refine j_q (qs_call ent31 rfl rfl rfl (fun w' hw' => waits_con (i + 1) p1 (rs.getD k St0).task w' (in_own hw' 1 rfl) hok1 hyo.2.1)) ?_
                    refine j_q (qs_ext (vs := [.string (bs ((alook p1.wm (rs.getD k St0).task).getD [])), .bool (alook p1.wm (rs.getD k St0).task).isSome]) rfl rfl) ?_
                    refine j_q (qs_ext (vs := [.string (bs ((alook p1.wm (rs.getD k St0).task).getD [])), .bool (alook p1.wm (rs.getD k St0).task).isSome]) rfl rfl) ?_
                    refine j_g rfl (fun hb => qs_mt rfl) ?_
                    refine j_g rfl (fun hb => qs_field Try.underlying52 rfl sz9 (by decide) rfl) ?_
                    first
                      | refine j_g rfl (fun hb => qs_load 0 Try.underlying9 rfl (gd_eq hb) rfl rfl) ?_
                      | refine j_g rfl (fun hb => qs_load 1 Try.underlying9 rfl (gd_eq hb) rfl rfl) ?_
                      | refine j_g rfl (fun hb => qs_load 2 Try.underlying9 rfl (gd_eq hb) rfl rfl) ?_
                      | refine j_g rfl (fun hb => qs_load 3 Try.underlying9 rfl (gd_eq hb) rfl rfl) ?_
                    refine j_g rfl (fun hb => qs_seql (gd_eq hb) (gd_eq hb)) ?_
                    refine j_q (qs_and rfl rfl) ?_
                    refine j_cond rfl (fun hc24 => ?_) (fun hc24 => ?_)
                    · skip
                      simp only [Bool.and_eq_true, beq_iff_eq] at hc24
                      refine absurd ?_ (no_wait hai1.wf hy3)
                      obtain ⟨z, hz⟩ := Option.isSome_iff_exists.1 hc24.1
                      have h2 := hc24.2
                      rw [hz] at h2
                      show alook p1.wm _ = _
                      rw [hz]
                      exact congrArg some h2
                    · skip
                      refine j_q (qs_add64 rfl rfl (by first | omega | (simp only [Bool.and_eq_true, Bool.or_eq_true, Bool.and_eq_false_iff, Bool.or_eq_false_iff, Bool.not_eq_true', Bool.not_eq_false', decide_eq_true_eq, decide_eq_false_iff_not, beq_iff_eq, beq_eq_false_iff_ne, bne_iff_ne, bne_eq_false_iff_eq, ne_eq, Int.toNat_natCast] at *; omega))) ?_
                      refine j_back rfl ?_
                      exact ⟨i + 1 - (k + 1), by omega, k + 1, seen ++ [(rs.getD k St0).task], _, c267, al + 1, by rw [List.length_append, List.length_singleton]; rfl, rfl, hso1, seen_more hsi hyt hy3 _ (.inr ⟨rfl, hmd⟩), by rw [List.length_append, List.length_singleton]; omega, by omega, rfl⟩
                  · skip
                    refine j_q (qs_ixl Try.underlying43 sz52 rfl rfl (by first | omega | (simp only [Bool.and_eq_true, Bool.or_eq_true, Bool.and_eq_false_iff, Bool.or_eq_false_iff, Bool.not_eq_true', Bool.not_eq_false', decide_eq_true_eq, decide_eq_false_iff_not, beq_iff_eq, beq_eq_false_iff_ne, bne_iff_ne, bne_eq_false_iff_eq, ne_eq, Int.toNat_natCast] at *; omega)) (by first | omega | (simp only [Bool.and_eq_true, Bool.or_eq_true, Bool.and_eq_false_iff, Bool.or_eq_false_iff, Bool.not_eq_true', Bool.not_eq_false', decide_eq_true_eq, decide_eq_false_iff_not, beq_iff_eq, beq_eq_false_iff_ne, bne_iff_ne, bne_eq_false_iff_eq, ne_eq, Int.toNat_natCast] at *; omega))) ?_
                    refine j_q (qs_field (g := g) (off := off + (k : Int).toNat * 4) Try.underlying52 rfl sz3 (by decide) (by rw [add_off]; rfl)) ?_
                    refine j_q (qs_loadR (v := .int .i64 (rs.getD k St0).task) (a := ⟨g, off, none⟩) (i := k * 4 + 1) (rd_cells hcl (by simp)) Try.underlying3 rfl (congrArg (fun a => Value.pointer (some a)) (off_field g off k 1)) (steps_get (by omega) rfl)) ?_
                    refine j_q (qs_call ent31 rfl rfl rfl (fun w' hw' => waits_con (i + 1) p1 (rs.getD k St0).task w' (in_own hw' 1 rfl) hok1 hyo.2.1)) ?_
                    refine j_q (qs_ext (vs := [.string (bs ((alook p1.wm (rs.getD k St0).task).getD [])), .bool (alook p1.wm (rs.getD k St0).task).isSome]) rfl rfl) ?_
                    refine j_q (qs_ext (vs := [.string (bs ((alook p1.wm (rs.getD k St0).task).getD [])), .bool (alook p1.wm (rs.getD k St0).task).isSome]) rfl rfl) ?_
                    refine j_g rfl (fun hb => qs_mt rfl) ?_
                    refine j_g rfl (fun hb => qs_field Try.underlying52 rfl sz9 (by decide) rfl) ?_
                    first
                      | refine j_g rfl (fun hb => qs_load 0 Try.underlying9 rfl (gd_eq hb) rfl rfl) ?_
                      | refine j_g rfl (fun hb => qs_load 1 Try.underlying9 rfl (gd_eq hb) rfl rfl) ?_
                      | refine j_g rfl (fun hb => qs_load 2 Try.underlying9 rfl (gd_eq hb) rfl rfl) ?_
                      | refine j_g rfl (fun hb => qs_load 3 Try.underlying9 rfl (gd_eq hb) rfl rfl) ?_
                    refine j_g rfl (fun hb => qs_seql (gd_eq hb) (gd_eq hb)) ?_
                    refine j_q (qs_and rfl rfl) ?_
                    refine j_cond rfl (fun hc25 => ?_) (fun hc25 => ?_)
                    · skip
                      simp only [Bool.and_eq_true, beq_iff_eq] at hc25
                      refine absurd ?_ (no_wait hai1.wf hy3)
                      obtain ⟨z, hz⟩ := Option.isSome_iff_exists.1 hc25.1
                      have h2 := hc25.2
                      rw [hz] at h2
                      show alook p1.wm _ = _
                      rw [hz]
                      exact congrArg some h2
                    · skip
                      refine j_q (qs_add64 rfl rfl (by first | omega | (simp only [Bool.and_eq_true, Bool.or_eq_true, Bool.and_eq_false_iff, Bool.or_eq_false_iff, Bool.not_eq_true', Bool.not_eq_false', decide_eq_true_eq, decide_eq_false_iff_not, beq_iff_eq, beq_eq_false_iff_ne, bne_iff_ne, bne_eq_false_iff_eq, ne_eq, Int.toNat_natCast] at *; omega))) ?_
                      refine j_back rfl ?_
                      exact ⟨i + 1 - (k + 1), by omega, k + 1, seen ++ [(rs.getD k St0).task], _, c267, al, by rw [List.length_append, List.length_singleton]; rfl, rfl, hso1, seen_more hsi hyt hy3 _ (.inl rfl), by rw [List.length_append, List.length_singleton]; omega, by omega, rfl⟩
              · skip
                have hki1 : k = i + 1 := by
                  simp only [Bool.and_eq_true, Bool.or_eq_true, Bool.and_eq_false_iff, Bool.or_eq_false_iff, Bool.not_eq_true', Bool.not_eq_false', decide_eq_true_eq, decide_eq_false_iff_not, beq_iff_eq, beq_eq_false_iff_ne, bne_iff_ne, bne_eq_false_iff_eq, ne_eq, Int.toNat_natCast] at *
                  omega
                have hal := hsi.le
                refine j_q (qs_gtr rfl rfl) ?_
                refine j_g rfl (fun hb => qs_mt rfl) ?_
                refine j_g rfl (fun hb => qs_gtr (gd_eq hb) rfl) ?_
                refine j_q (qs_and rfl rfl) ?_
                refine j_cond rfl (fun hc26 => ?_) (fun hc26 => ?_)
                · skip
                  have h1 := seen_alone hai1 hsi
                  simp [gd] at hc26
                  omega
                · skip
                  refine j_subl (S' := [p1.heap, [(gm, .map es1 ck1)]]) (by repeat first | exact List.Sublist.refl _ | exact List.nil_sublist _ | apply List.Sublist.cons_cons | apply List.Sublist.cons) ?_
                  refine j_q (qs_add64 rfl rfl (by first | omega | (simp only [Bool.and_eq_true, Bool.or_eq_true, Bool.and_eq_false_iff, Bool.or_eq_false_iff, Bool.not_eq_true', Bool.not_eq_false', decide_eq_true_eq, decide_eq_false_iff_not, beq_iff_eq, beq_eq_false_iff_ne, bne_iff_ne, bne_eq_false_iff_eq, ne_eq, Int.toNat_natCast] at *; omega))) ?_
                  refine j_back rfl ?_
                  exact ⟨200 - (i + 1), by omega, i + 1, p1, mm1, es1, ck1, rfl, rfl, rfl, hok1, hai1, hmp1, by omega, by omega, rfl⟩
        · skip
          refine j_q (qs_eql rfl rfl) ?_
          refine j_cond rfl (fun hc27 => ?_) (fun hc27 => ?_)
          · skip
            refine j_q (qs_field Try.underlying52 rfl sz3 (by decide) rfl) ?_
            first
              | refine j_q (qs_loadk 0 Try.underlying3 rfl rfl (by first | omega | (simp only [Bool.and_eq_true, Bool.or_eq_true, Bool.and_eq_false_iff, Bool.or_eq_false_iff, Bool.not_eq_true', Bool.not_eq_false', decide_eq_true_eq, decide_eq_false_iff_not, beq_iff_eq, beq_eq_false_iff_ne, bne_iff_ne, bne_eq_false_iff_eq, ne_eq, Int.toNat_natCast] at *; omega))) ?_
              | refine j_q (qs_loadk 1 Try.underlying3 rfl rfl (by first | omega | (simp only [Bool.and_eq_true, Bool.or_eq_true, Bool.and_eq_false_iff, Bool.or_eq_false_iff, Bool.not_eq_true', Bool.not_eq_false', decide_eq_true_eq, decide_eq_false_iff_not, beq_iff_eq, beq_eq_false_iff_ne, bne_iff_ne, bne_eq_false_iff_eq, ne_eq, Int.toNat_natCast] at *; omega))) ?_
              | refine j_q (qs_loadk 2 Try.underlying3 rfl rfl (by first | omega | (simp only [Bool.and_eq_true, Bool.or_eq_true, Bool.and_eq_false_iff, Bool.or_eq_false_iff, Bool.not_eq_true', Bool.not_eq_false', decide_eq_true_eq, decide_eq_false_iff_not, beq_iff_eq, beq_eq_false_iff_ne, bne_iff_ne, bne_eq_false_iff_eq, ne_eq, Int.toNat_natCast] at *; omega))) ?_
              | refine j_q (qs_loadk 3 Try.underlying3 rfl rfl (by first | omega | (simp only [Bool.and_eq_true, Bool.or_eq_true, Bool.and_eq_false_iff, Bool.or_eq_false_iff, Bool.not_eq_true', Bool.not_eq_false', decide_eq_true_eq, decide_eq_false_iff_not, beq_iff_eq, beq_eq_false_iff_ne, bne_iff_ne, bne_eq_false_iff_eq, ne_eq, Int.toNat_natCast] at *; omega))) ?_
              | refine j_q (qs_load 0 Try.underlying3 rfl rfl rfl rfl) ?_
              | refine j_q (qs_load 1 Try.underlying3 rfl rfl rfl rfl) ?_
              | refine j_q (qs_load 2 Try.underlying3 rfl rfl rfl rfl) ?_
              | refine j_q (qs_load 3 Try.underlying3 rfl rfl rfl rfl) ?_
            refine j_q (qs_field Try.underlying52 rfl sz9 (by decide) rfl) ?_
            first
              | refine j_q (qs_load 0 Try.underlying9 rfl rfl rfl rfl) ?_
              | refine j_q (qs_load 1 Try.underlying9 rfl rfl rfl rfl) ?_
              | refine j_q (qs_load 2 Try.underlying9 rfl rfl rfl rfl) ?_
              | refine j_q (qs_load 3 Try.underlying9 rfl rfl rfl rfl) ?_
            refine j_call 1 ent26 rfl rfl rfl rfl (fun w' hw' => give_con i (by omega) q (rs.getD i St0).task (rs.getD i St0).name w' hok hxo.2.1 hxo.str) (fun u S2 hu => ?_)
            obtain ⟨p1, out1, oc1, e1, v1, rfl, rfl, ho1, hgt1, hok1', hT1, hob1⟩ := hu
            have hok1 : p1.Ok (i + 1) := hok1'.up (by omega)
            refine j_subl (S' := [p1.heap, [(g15, .cells [Value.int .i64 (rs.getD i St0).kind, .int .i64 (rs.getD i St0).task, .string (bs (rs.getD i St0).name), .bool (rs.getD i St0).sh].toArray 52 (0, 0))], [(gm, .map es ck)]]) (by repeat first | exact List.Sublist.refl _ | exact List.nil_sublist _ | apply List.Sublist.cons_cons | apply List.Sublist.cons) ?_
            refine j_perm (S' := [[(g15, .cells [Value.int .i64 (rs.getD i St0).kind, .int .i64 (rs.getD i St0).task, .string (bs (rs.getD i St0).name), .bool (rs.getD i St0).sh].toArray 52 (0, 0))], p1.heap, [(gm, .map es ck)]]) (by classical exact List.perm_iff_count.2 fun a => by simp only [PT.heap, PT.base, PL.heap, PT.tobj, PL.obj, PL.hobj, List.set_cons_succ, List.set_cons_zero, List.flatten_cons, List.flatten_nil, List.append_nil, List.nil_append, List.map_append, List.map_cons, List.map_nil, List.flatten_append, List.count_append, List.count_cons, List.count_nil]; omega) ?_
            rw [← hgt1]
            obtain ⟨mm1, hmm1⟩ : ∃ l, l = mm := ⟨_, rfl⟩
            obtain ⟨es1, hes1⟩ : ∃ l, l = es := ⟨_, rfl⟩
            obtain ⟨ck1, hck1⟩ : ∃ l, l = ck := ⟨_, rfl⟩
            have hmp1 := hmp
            rw [← hes1, ← hck1] at hmp1 ⊢
            rw [← hmm1] at hmp1
            have hai1 : AI p1.at_ mm1 := by
              have h1 : p1.at_ = (giveF q.at_ (rs.getD i St0).task (rs.getD i St0).name).1 := by rw [← hT1]
              rw [hmm1, h1]
              exact ai_give hai _ _
            refine j_q (qs_ac) ?_
            refine j_q (qs_ac) ?_
            refine j_q (qs_ac) ?_
            refine j_q (qs_ac) ?_
            refine j_perm (S' := [[(g15, .cells [Value.int .i64 (rs.getD i St0).kind, .int .i64 (rs.getD i St0).task, .string (bs (rs.getD i St0).name), .bool (rs.getD i St0).sh].toArray 52 (0, 0))], p1.heap, [(gm, .map es1 ck1)], []]) (by simp) ?_
            refine j_loop (fun m vs S' => ∃ (k : Nat) (seen : List Int) (sv : Value) (sc : SH) (al : Nat), vs = [.int .i64 (seen.length : Int), .int .i64 (al : Int), sv, .int .i64 (k : Int)] ∧ S' = [[(g15, .cells [Value.int .i64 (rs.getD i St0).kind, .int .i64 (rs.getD i St0).task, .string (bs (rs.getD i St0).name), .bool (rs.getD i St0).sh].toArray 52 (0, 0))], p1.heap, [(gm, .map es1 ck1)], sc] ∧ Sx.Own 3 1 (ks .i64 seen) sv sc ∧ SeenI p1.at_ mm1 (rs.getD i St0).name seen al ∧ seen.length ≤ k ∧ k ≤ i + 1 ∧ m = i + 1 - k) ⟨_, 0, [], _, [], 0, rfl, rfl, own_nil, seen_nil _ _ _, Nat.zero_le _, Nat.zero_le _, rfl⟩ ?_
            rintro m vs S' hlen ⟨k, seen, sv, sc, al, rfl, rfl, hso, hsi, hsk, hki, rfl⟩
            refine j_q (qs_leq rfl rfl) ?_
            refine j_cond rfl (fun hc28 => ?_) (fun hc28 => ?_)
            · skip
              have hk1 : k < i + 1 := by
                simp only [Bool.and_eq_true, Bool.or_eq_true, Bool.and_eq_false_iff, Bool.or_eq_false_iff, Bool.not_eq_true', Bool.not_eq_false', decide_eq_true_eq, decide_eq_false_iff_not, beq_iff_eq, beq_eq_false_iff_ne, bne_iff_ne, bne_eq_false_iff_eq, ne_eq, Int.toNat_natCast] at *
                omega
              have hyo := script_ok h (show k < rs.length by omega)
              have hal := hsi.le
              have hwfx : strOk (rs.getD i St0).name := hxo.str
              refine j_mix _ (.refl _) ?_
              refine j_mq (qs_ixl Try.underlying43 sz52 rfl rfl (by first | omega | (simp only [Bool.and_eq_true, Bool.or_eq_true, Bool.and_eq_false_iff, Bool.or_eq_false_iff, Bool.not_eq_true', Bool.not_eq_false', decide_eq_true_eq, decide_eq_false_iff_not, beq_iff_eq, beq_eq_false_iff_ne, bne_iff_ne, bne_eq_false_iff_eq, ne_eq, Int.toNat_natCast] at *; omega)) (by first | omega | (simp only [Bool.and_eq_true, Bool.or_eq_true, Bool.and_eq_false_iff, Bool.or_eq_false_iff, Bool.not_eq_true', Bool.not_eq_false', decide_eq_true_eq, decide_eq_false_iff_not, beq_iff_eq, beq_eq_false_iff_ne, bne_iff_ne, bne_eq_false_iff_eq, ne_eq, Int.toNat_natCast] at *; omega))) ?_
              refine j_mq (qs_field (g := g) (off := off + (k : Int).toNat * 4) Try.underlying52 rfl sz9 (by decide) (by rw [add_off]; rfl)) ?_
              refine j_mq (qs_loadR (v := .string (bs (rs.getD k St0).name)) (a := ⟨g, off, none⟩) (i := k * 4 + 2) (rd_cells hcl (by simp)) Try.underlying9 rfl (congrArg (fun a => Value.pointer (some a)) (off_field g off k 2)) (steps_get (by omega) rfl)) ?_
              refine j_mq (qs_field Try.underlying52 rfl sz9 (by decide) rfl) ?_
              first
                | refine j_mq (qs_load 0 Try.underlying9 rfl rfl rfl rfl) ?_
                | refine j_mq (qs_load 1 Try.underlying9 rfl rfl rfl rfl) ?_
                | refine j_mq (qs_load 2 Try.underlying9 rfl rfl rfl rfl) ?_
                | refine j_mq (qs_load 3 Try.underlying9 rfl rfl rfl rfl) ?_
              refine j_mq (qs_sneq rfl rfl) ?_
              refine j_mg rfl (fun hb => qs_mt rfl) ?_
              refine j_mg rfl (fun hb => qs_mt rfl) ?_
              refine j_mg rfl (fun hb => qs_mt rfl) ?_
              refine j_mg rfl (fun hb => qs_ixl Try.underlying43 sz52 (gd_eq hb) (gd_eq hb) (by first | omega | (simp only [Bool.and_eq_true, Bool.or_eq_true, Bool.and_eq_false_iff, Bool.or_eq_false_iff, Bool.not_eq_true', Bool.not_eq_false', decide_eq_true_eq, decide_eq_false_iff_not, beq_iff_eq, beq_eq_false_iff_ne, bne_iff_ne, bne_eq_false_iff_eq, ne_eq, Int.toNat_natCast] at *; omega)) (by first | omega | (simp only [Bool.and_eq_true, Bool.or_eq_true, Bool.and_eq_false_iff, Bool.or_eq_false_iff, Bool.not_eq_true', Bool.not_eq_false', decide_eq_true_eq, decide_eq_false_iff_not, beq_iff_eq, beq_eq_false_iff_ne, bne_iff_ne, bne_eq_false_iff_eq, ne_eq, Int.toNat_natCast] at *; omega))) ?_
              refine j_mg rfl (fun hb => qs_field (g := g) (off := off + (k : Int).toNat * 4) Try.underlying52 rfl sz3 (by decide) ((gd_eq hb).trans (by rw [add_off]))) ?_
              refine j_mg rfl (fun hb => qs_loadR (v := .int .i64 (rs.getD k St0).task) (a := ⟨g, off, none⟩) (i := k * 4 + 1) (rd_cells hcl (by simp)) Try.underlying3 rfl ((gd_eq hb).trans (congrArg (fun a => Value.pointer (some a)) (off_field g off k 1))) (steps_get (by omega) rfl)) ?_
              refine j_g rfl (fun hb => qs_call ent35 rfl rfl (args2 (gd_eq hb) (gd_eq hb)) (fun w' hw' => hasL_con seen (rs.getD k St0).task _ w' (rsl_own hso 3 rfl hw') (by omega))) ?_
              refine j_mR _ (.refl _) ?_
              refine j_mq (qs_or rfl rfl) ?_
              refine j_mg rfl (fun hb => qs_mt rfl) ?_
              refine j_mg rfl (fun hb => qs_mt rfl) ?_
              refine j_mg rfl (fun hb => qs_mt rfl) ?_
              refine j_mg rfl (fun hb => qs_ixl Try.underlying43 sz52 (gd_eq hb) (gd_eq hb) (by first | omega | (simp only [Bool.and_eq_true, Bool.or_eq_true, Bool.and_eq_false_iff, Bool.or_eq_false_iff, Bool.not_eq_true', Bool.not_eq_false', decide_eq_true_eq, decide_eq_false_iff_not, beq_iff_eq, beq_eq_false_iff_ne, bne_iff_ne, bne_eq_false_iff_eq, ne_eq, Int.toNat_natCast] at *; omega)) (by first | omega | (simp only [Bool.and_eq_true, Bool.or_eq_true, Bool.and_eq_false_iff, Bool.or_eq_false_iff, Bool.not_eq_true', Bool.not_eq_false', decide_eq_true_eq, decide_eq_false_iff_not, beq_iff_eq, beq_eq_false_iff_ne, bne_iff_ne, bne_eq_false_iff_eq, ne_eq, Int.toNat_natCast] at *; omega))) ?_
              refine j_mg rfl (fun hb => qs_field (g := g) (off := off + (k : Int).toNat * 4) Try.underlying52 rfl sz3 (by decide) ((gd_eq hb).trans (by rw [add_off]))) ?_
              refine j_mg rfl (fun hb => qs_loadR (v := .int .i64 (rs.getD k St0).task) (a := ⟨g, off, none⟩) (i := k * 4 + 1) (rd_cells hcl (by simp)) Try.underlying3 rfl ((gd_eq hb).trans (congrArg (fun a => Value.pointer (some a)) (off_field g off k 1))) (steps_get (by omega) rfl)) ?_
              refine j_mg rfl (fun hb => qs_field Try.underlying52 rfl sz9 (by decide) rfl) ?_
              first
                | refine j_mg rfl (fun hb => qs_load 0 Try.underlying9 rfl (gd_eq hb) rfl rfl) ?_
                | refine j_mg rfl (fun hb => qs_load 1 Try.underlying9 rfl (gd_eq hb) rfl rfl) ?_
                | refine j_mg rfl (fun hb => qs_load 2 Try.underlying9 rfl (gd_eq hb) rfl rfl) ?_
                | refine j_mg rfl (fun hb => qs_load 3 Try.underlying9 rfl (gd_eq hb) rfl rfl) ?_
              refine j_g rfl (fun hb => qs_call ent33 rfl rfl (args3 (gd_eq hb) (gd_eq hb) (gd_eq hb)) (fun w' hw' => holds2_con (i + 1) p1 (rs.getD k St0).task (rs.getD i St0).name w' (in_own hw' 1 rfl) hok1 hyo.2.1 hxo.str)) ?_
              refine j_mR _ (.refl _) ?_
              refine j_mg rfl (fun hb => qs_not (gd_eq hb)) ?_
              refine j_mq (qs_or rfl rfl) ?_
              refine j_mend ?_
              refine j_cond rfl (fun hc29 => ?_) (fun hc29 => ?_)
              · skip
                refine j_q (qs_add64 rfl rfl (by first | omega | (simp only [Bool.and_eq_true, Bool.or_eq_true, Bool.and_eq_false_iff, Bool.or_eq_false_iff, Bool.not_eq_true', Bool.not_eq_false', decide_eq_true_eq, decide_eq_false_iff_not, beq_iff_eq, beq_eq_false_iff_ne, bne_iff_ne, bne_eq_false_iff_eq, ne_eq, Int.toNat_natCast] at *; omega))) ?_
                refine j_back rfl ?_
                exact ⟨i + 1 - (k + 1), by omega, k + 1, seen, _, sc, al, rfl, rfl, hso, hsi, by omega, by omega, rfl⟩
              · skip
                simp only [Bool.or_eq_false_iff, Bool.not_eq_false'] at hc29
                obtain ⟨⟨hy1, hy2⟩, hy3⟩ := hc29
                have hyn : (rs.getD k St0).name = (rs.getD i St0).name := by simpa using hy1
                have hyt : (rs.getD k St0).task ∉ seen := fun hm => by rw [hasI_iff.2 hm] at hy2; cases hy2
                refine j_q (qs_ixl Try.underlying43 sz52 rfl rfl (by first | omega | (simp only [Bool.and_eq_true, Bool.or_eq_true, Bool.and_eq_false_iff, Bool.or_eq_false_iff, Bool.not_eq_true', Bool.not_eq_false', decide_eq_true_eq, decide_eq_false_iff_not, beq_iff_eq, beq_eq_false_iff_ne, bne_iff_ne, bne_eq_false_iff_eq, ne_eq, Int.toNat_natCast] at *; omega)) (by first | omega | (simp only [Bool.and_eq_true, Bool.or_eq_true, Bool.and_eq_false_iff, Bool.or_eq_false_iff, Bool.not_eq_true', Bool.not_eq_false', decide_eq_true_eq, decide_eq_false_iff_not, beq_iff_eq, beq_eq_false_iff_ne, bne_iff_ne, bne_eq_false_iff_eq, ne_eq, Int.toNat_natCast] at *; omega))) ?_
                refine j_q (qs_field (g := g) (off := off + (k : Int).toNat * 4) Try.underlying52 rfl sz3 (by decide) (by rw [add_off]; rfl)) ?_
                refine j_q (qs_loadR (v := .int .i64 (rs.getD k St0).task) (a := ⟨g, off, none⟩) (i := k * 4 + 1) (rd_cells hcl (by simp)) Try.underlying3 rfl (congrArg (fun a => Value.pointer (some a)) (off_field g off k 1)) (steps_get (by omega) rfl)) ?_
                refine j_lit (vs := [.int .i64 _]) Try.underlying36 sz3 zero3 rfl (by simp [oneV]) ⟨rfl, by decide⟩ (fun g350 v350 c350 hv350 hc350 ho350 => ?_)
                subst hv350 hc350
                refine j_append 4 Try.underlying36 Try.underlying36 (.inr ⟨_, rfl⟩) sb3 zero3 rfl hso rfl (.inl ⟨_, _, rfl, own_rd ho350 0 rfl, rfl⟩) (by intro u hu; rw [List.mem_singleton] at hu; rw [hu]; rfl) ⟨(by simp only [ks_length, List.length_singleton]; omega), (by decide)⟩ (fun v351 c351 ho351 => ?_)
                have hso1 : Sx.Own 3 1 (ks .i64 (seen ++ [(rs.getD k St0).task])) v351 c351 := by
                  have e : ks .i64 (seen ++ [(rs.getD k St0).task]) = ks .i64 seen ++ [Value.int .i64 (rs.getD k St0).task] := by simp [ks]
                  rw [e]
                  exact ho351
                refine j_subl (S' := [[(g15, .cells [Value.int .i64 (rs.getD i St0).kind, .int .i64 (rs.getD i St0).task, .string (bs (rs.getD i St0).name), .bool (rs.getD i St0).sh].toArray 52 (0, 0))], p1.heap, [(gm, .map es1 ck1)], c351]) (by repeat first | exact List.Sublist.refl _ | exact List.nil_sublist _ | apply List.Sublist.cons_cons | apply List.Sublist.cons) ?_
                refine j_q (qs_add64 rfl rfl (by first | omega | (simp only [Bool.and_eq_true, Bool.or_eq_true, Bool.and_eq_false_iff, Bool.or_eq_false_iff, Bool.not_eq_true', Bool.not_eq_false', decide_eq_true_eq, decide_eq_false_iff_not, beq_iff_eq, beq_eq_false_iff_ne, bne_iff_ne, bne_eq_false_iff_eq, ne_eq, Int.toNat_natCast] at *; omega))) ?_
                refine j_mix _ (.refl _) ?_
                refine j_mq (qs_ixl Try.underlying43 sz52 rfl rfl (by first | omega | (simp only [Bool.and_eq_true, Bool.or_eq_true, Bool.and_eq_false_iff, Bool.or_eq_false_iff, Bool.not_eq_true', Bool.not_eq_false', decide_eq_true_eq, decide_eq_false_iff_not, beq_iff_eq, beq_eq_false_iff_ne, bne_iff_ne, bne_eq_false_iff_eq, ne_eq, Int.toNat_natCast] at *; omega)) (by first | omega | (simp only [Bool.and_eq_true, Bool.or_eq_true, Bool.and_eq_false_iff, Bool.or_eq_false_iff, Bool.not_eq_true', Bool.not_eq_false', decide_eq_true_eq, decide_eq_false_iff_not, beq_iff_eq, beq_eq_false_iff_ne, bne_iff_ne, bne_eq_false_iff_eq, ne_eq, Int.toNat_natCast] at *; omega))) ?_
                refine j_mq (qs_field (g := g) (off := off + (k : Int).toNat * 4) Try.underlying52 rfl sz3 (by decide) (by rw [add_off]; rfl)) ?_
                refine j_mq (qs_loadR (v := .int .i64 (rs.getD k St0).task) (a := ⟨g, off, none⟩) (i := k * 4 + 1) (rd_cells hcl (by simp)) Try.underlying3 rfl (congrArg (fun a => Value.pointer (some a)) (off_field g off k 1)) (steps_get (by omega) rfl)) ?_
                refine j_mq (qs_field Try.underlying52 rfl sz9 (by decide) rfl) ?_
                first
                  | refine j_mq (qs_load 0 Try.underlying9 rfl rfl rfl rfl) ?_
                  | refine j_mq (qs_load 1 Try.underlying9 rfl rfl rfl rfl) ?_
                  | refine j_mq (qs_load 2 Try.underlying9 rfl rfl rfl rfl) ?_
                  | refine j_mq (qs_load 3 Try.underlying9 rfl rfl rfl rfl) ?_
                refine j_mq (qs_build (places := [(0, 1), (1, 1), (2, 1), (3, 1)]) (offs := [(1, [.int .i64 (rs.getD k St0).task]), (2, [.string (bs (rs.getD i St0).name)])]) Try.underlying52 zero52 (by kernel_rfl) rfl (by rintro (_ | _ | j) p q hp hq <;> first | (simp at hp hq; subst hp hq; exact ⟨rfl, rfl, by simp⟩) | (simp at hp))) ?_
                refine j_mq (qs_lookup (key := ((rs.getD k St0).task, (rs.getD i St0).name)) stKey 2 Try.underlying67 zv3 rfl rfl rfl hmp1 ⟨hyo.2.1, hxo.str⟩) ?_
                rw [mlook_map zEnc, getD_z]
                refine j_mq (qs_eql rfl rfl) ?_
                refine j_mend ?_
                refine j_cond rfl (fun hc30 => ?_) (fun hc30 => ?_)
                · skip
                  have hmd : alook mm1 ((rs.getD k St0).task, (rs.getD i St0).name) = some 1 := by
                    cases hh : alook mm1 ((rs.getD k St0).task, (rs.getD i St0).name) with
                    | none => rw [hh] at hc30; simp at hc30
                    | some z => rw [hh] at hc30; simp at hc30; rw [hc30]
                  refine j_q (qs_add64 rfl rfl (by first | omega | (simp only [Bool.and_eq_true, Bool.or_eq_true, Bool.and_eq_false_iff, Bool.or_eq_false_iff, Bool.not_eq_true', Bool.not_eq_false', decide_eq_true_eq, decide_eq_false_iff_not, beq_iff_eq, beq_eq_false_iff_ne, bne_iff_ne, bne_eq_false_iff_eq, ne_eq, Int.toNat_natCast] at *; omega))) ?_
                  refine j_q (qs_ixl Try.underlying43 sz52 rfl rfl (by first | omega | (simp only [Bool.and_eq_true, Bool.or_eq_true, Bool.and_eq_false_iff, Bool.or_eq_false_iff, Bool.not_eq_true', Bool.not_eq_false', decide_eq_true_eq, decide_eq_false_iff_not, beq_iff_eq, beq_eq_false_iff_ne, bne_iff_ne, bne_eq_false_iff_eq, ne_eq, Int.toNat_natCast] at *; omega)) (by first | omega | (simp only [Bool.and_eq_true, Bool.or_eq_true, Bool.and_eq_false_iff, Bool.or_eq_false_iff, Bool.not_eq_true', Bool.not_eq_false', decide_eq_true_eq, decide_eq_false_iff_not, beq_iff_eq, beq_eq_false_iff_ne, bne_iff_ne, bne_eq_false_iff_eq, ne_eq, Int.toNat_natCast] at *; omega))) ?_
                  refine j_q (qs_field (g := g) (off := off + (k : Int).toNat * 4) Try.underlying52 rfl sz3 (by decide) (by rw [add_off]; rfl)) ?_
                  refine j_q (qs_loadR (v := .int .i64 (rs.getD k St0).task) (a := ⟨g, off, none⟩) (i := k * 4 + 1) (rd_cells hcl (by simp)) Try.underlying3 rfl (congrArg (fun a => Value.pointer (some a)) (off_field g off k 1)) (steps_get (by omega) rfl)) ?_
                  refine j_q (qs_call ent31 rfl rfl rfl (fun w' hw' => waits_con (i + 1) p1 (rs.getD k St0).task w' (in_own hw' 1 rfl) hok1 hyo.2.1)) ?_
                  refine j_q (qs_ext (vs := [.string (bs ((alook p1.wm (rs.getD k St0).task).getD [])), .bool (alook p1.wm (rs.getD k St0).task).isSome]) rfl rfl) ?_
                  refine j_q (qs_ext (vs := [.string (bs ((alook p1.wm (rs.getD k St0).task).getD [])), .bool (alook p1.wm (rs.getD k St0).task).isSome]) rfl rfl) ?_
                  refine j_g rfl (fun hb => qs_mt rfl) ?_
                  refine j_g rfl (fun hb => qs_field Try.underlying52 rfl sz9 (by decide) rfl) ?_
                  first
                    | refine j_g rfl (fun hb => qs_load 0 Try.underlying9 rfl (gd_eq hb) rfl rfl) ?_
                    | refine j_g rfl (fun hb => qs_load 1 Try.underlying9 rfl (gd_eq hb) rfl rfl) ?_
                    | refine j_g rfl (fun hb => qs_load 2 Try.underlying9 rfl (gd_eq hb) rfl rfl) ?_
                    | refine j_g rfl (fun hb => qs_load 3 Try.underlying9 rfl (gd_eq hb) rfl rfl) ?_
                  refine j_g rfl (fun hb => qs_seql (gd_eq hb) (gd_eq hb)) ?_
                  refine j_q (qs_and rfl rfl) ?_
                  refine j_cond rfl (fun hc31 => ?_) (fun hc31 => ?_)
                  · skip
                    simp only [Bool.and_eq_true, beq_iff_eq] at hc31
                    refine absurd ?_ (no_wait hai1.wf hy3)
                    obtain ⟨z, hz⟩ := Option.isSome_iff_exists.1 hc31.1
                    have h2 := hc31.2
                    rw [hz] at h2
                    show alook p1.wm _ = _
                    rw [hz]
                    exact congrArg some h2
                  · skip
                    refine j_q (qs_add64 rfl rfl (by first | omega | (simp only [Bool.and_eq_true, Bool.or_eq_true, Bool.and_eq_false_iff, Bool.or_eq_false_iff, Bool.not_eq_true', Bool.not_eq_false', decide_eq_true_eq, decide_eq_false_iff_not, beq_iff_eq, beq_eq_false_iff_ne, bne_iff_ne, bne_eq_false_iff_eq, ne_eq, Int.toNat_natCast] at *; omega))) ?_
                    refine j_back rfl ?_
                    exact ⟨i + 1 - (k + 1), by omega, k + 1, seen ++ [(rs.getD k St0).task], _, c351, al + 1, by rw [List.length_append, List.length_singleton]; rfl, rfl, hso1, seen_more hsi hyt hy3 _ (.inr ⟨rfl, hmd⟩), by rw [List.length_append, List.length_singleton]; omega, by omega, rfl⟩
                · skip
                  refine j_q (qs_ixl Try.underlying43 sz52 rfl rfl (by first | omega | (simp only [Bool.and_eq_true, Bool.or_eq_true, Bool.and_eq_false_iff, Bool.or_eq_false_iff, Bool.not_eq_true', Bool.not_eq_false', decide_eq_true_eq, decide_eq_false_iff_not, beq_iff_eq, beq_eq_false_iff_ne, bne_iff_ne, bne_eq_false_iff_eq, ne_eq, Int.toNat_natCast] at *; omega)) (by first | omega | (simp only [Bool.and_eq_true, Bool.or_eq_true, Bool.and_eq_false_iff, Bool.or_eq_false_iff, Bool.not_eq_true', Bool.not_eq_false', decide_eq_true_eq, decide_eq_false_iff_not, beq_iff_eq, beq_eq_false_iff_ne, bne_iff_ne, bne_eq_false_iff_eq, ne_eq, Int.toNat_natCast] at *; omega))) ?_
                  refine j_q (qs_field (g := g) (off := off + (k : Int).toNat * 4) Try.underlying52 rfl sz3 (by decide) (by rw [add_off]; rfl)) ?_
                  refine j_q (qs_loadR (v := .int .i64 (rs.getD k St0).task) (a := ⟨g, off, none⟩) (i := k * 4 + 1) (rd_cells hcl (by simp)) Try.underlying3 rfl (congrArg (fun a => Value.pointer (some a)) (off_field g off k 1)) (steps_get (by omega) rfl)) ?_
                  refine j_q (qs_call ent31 rfl rfl rfl (fun w' hw' => waits_con (i + 1) p1 (rs.getD k St0).task w' (in_own hw' 1 rfl) hok1 hyo.2.1)) ?_
                  refine j_q (qs_ext (vs := [.string (bs ((alook p1.wm (rs.getD k St0).task).getD [])), .bool (alook p1.wm (rs.getD k St0).task).isSome]) rfl rfl) ?_
                  refine j_q (qs_ext (vs := [.string (bs ((alook p1.wm (rs.getD k St0).task).getD [])), .bool (alook p1.wm (rs.getD k St0).task).isSome]) rfl rfl) ?_
                  refine j_g rfl (fun hb => qs_mt rfl) ?_
                  refine j_g rfl (fun hb => qs_field Try.underlying52 rfl sz9 (by decide) rfl) ?_
                  first
                    | refine j_g rfl (fun hb => qs_load 0 Try.underlying9 rfl (gd_eq hb) rfl rfl) ?_
                    | refine j_g rfl (fun hb => qs_load 1 Try.underlying9 rfl (gd_eq hb) rfl rfl) ?_
                    | refine j_g rfl (fun hb => qs_load 2 Try.underlying9 rfl (gd_eq hb) rfl rfl) ?_
                    | refine j_g rfl (fun hb => qs_load 3 Try.underlying9 rfl (gd_eq hb) rfl rfl) ?_
                  refine j_g rfl (fun hb => qs_seql (gd_eq hb) (gd_eq hb)) ?_
                  refine j_q (qs_and rfl rfl) ?_
                  refine j_cond rfl (fun hc32 => ?_) (fun hc32 => ?_)
                  · skip
                    simp only [Bool.and_eq_true, beq_iff_eq] at hc32
                    refine absurd ?_ (no_wait hai1.wf hy3)
                    obtain ⟨z, hz⟩ := Option.isSome_iff_exists.1 hc32.1
                    have h2 := hc32.2
                    rw [hz] at h2
                    show alook p1.wm _ = _
                    rw [hz]
                    exact congrArg some h2
                  · skip
                    refine j_q (qs_add64 rfl rfl (by first | omega | (simp only [Bool.and_eq_true, Bool.or_eq_true, Bool.and_eq_false_iff, Bool.or_eq_false_iff, Bool.not_eq_true', Bool.not_eq_false', decide_eq_true_eq, decide_eq_false_iff_not, beq_iff_eq, beq_eq_false_iff_ne, bne_iff_ne, bne_eq_false_iff_eq, ne_eq, Int.toNat_natCast] at *; omega))) ?_
                    refine j_back rfl ?_
                    exact ⟨i + 1 - (k + 1), by omega, k + 1, seen ++ [(rs.getD k St0).task], _, c351, al, by rw [List.length_append, List.length_singleton]; rfl, rfl, hso1, seen_more hsi hyt hy3 _ (.inl rfl), by rw [List.length_append, List.length_singleton]; omega, by omega, rfl⟩
            · skip
              have hki1 : k = i + 1 := by
                simp only [Bool.and_eq_true, Bool.or_eq_true, Bool.and_eq_false_iff, Bool.or_eq_false_iff, Bool.not_eq_true', Bool.not_eq_false', decide_eq_true_eq, decide_eq_false_iff_not, beq_iff_eq, beq_eq_false_iff_ne, bne_iff_ne, bne_eq_false_iff_eq, ne_eq, Int.toNat_natCast] at *
                omega
              have hal := hsi.le
              refine j_q (qs_gtr rfl rfl) ?_
              refine j_g rfl (fun hb => qs_mt rfl) ?_
              refine j_g rfl (fun hb => qs_gtr (gd_eq hb) rfl) ?_
              refine j_q (qs_and rfl rfl) ?_
              refine j_cond rfl (fun hc33 => ?_) (fun hc33 => ?_)
              · skip
                have h1 := seen_alone hai1 hsi
                simp [gd] at hc33
                omega
              · skip
                refine j_subl (S' := [p1.heap, [(gm, .map es1 ck1)]]) (by repeat first | exact List.Sublist.refl _ | exact List.nil_sublist _ | apply List.Sublist.cons_cons | apply List.Sublist.cons) ?_
                refine j_q (qs_add64 rfl rfl (by first | omega | (simp only [Bool.and_eq_true, Bool.or_eq_true, Bool.and_eq_false_iff, Bool.or_eq_false_iff, Bool.not_eq_true', Bool.not_eq_false', decide_eq_true_eq, decide_eq_false_iff_not, beq_iff_eq, beq_eq_false_iff_ne, bne_iff_ne, bne_eq_false_iff_eq, ne_eq, Int.toNat_natCast] at *; omega))) ?_
                refine j_back rfl ?_
                exact ⟨200 - (i + 1), by omega, i + 1, p1, mm1, es1, ck1, rfl, rfl, rfl, hok1, hai1, hmp1, by omega, by omega, rfl⟩
          · skip
            refine j_q (qs_field Try.underlying52 rfl sz3 (by decide) rfl) ?_
            first
              | refine j_q (qs_loadk 0 Try.underlying3 rfl rfl (by first | omega | (simp only [Bool.and_eq_true, Bool.or_eq_true, Bool.and_eq_false_iff, Bool.or_eq_false_iff, Bool.not_eq_true', Bool.not_eq_false', decide_eq_true_eq, decide_eq_false_iff_not, beq_iff_eq, beq_eq_false_iff_ne, bne_iff_ne, bne_eq_false_iff_eq, ne_eq, Int.toNat_natCast] at *; omega))) ?_
              | refine j_q (qs_loadk 1 Try.underlying3 rfl rfl (by first | omega | (simp only [Bool.and_eq_true, Bool.or_eq_true, Bool.and_eq_false_iff, Bool.or_eq_false_iff, Bool.not_eq_true', Bool.not_eq_false', decide_eq_true_eq, decide_eq_false_iff_not, beq_iff_eq, beq_eq_false_iff_ne, bne_iff_ne, bne_eq_false_iff_eq, ne_eq, Int.toNat_natCast] at *; omega))) ?_
              | refine j_q (qs_loadk 2 Try.underlying3 rfl rfl (by first | omega | (simp only [Bool.and_eq_true, Bool.or_eq_true, Bool.and_eq_false_iff, Bool.or_eq_false_iff, Bool.not_eq_true', Bool.not_eq_false', decide_eq_true_eq, decide_eq_false_iff_not, beq_iff_eq, beq_eq_false_iff_ne, bne_iff_ne, bne_eq_false_iff_eq, ne_eq, Int.toNat_natCast] at *; omega))) ?_
              | refine j_q (qs_loadk 3 Try.underlying3 rfl rfl (by first | omega | (simp only [Bool.and_eq_true, Bool.or_eq_true, Bool.and_eq_false_iff, Bool.or_eq_false_iff, Bool.not_eq_true', Bool.not_eq_false', decide_eq_true_eq, decide_eq_false_iff_not, beq_iff_eq, beq_eq_false_iff_ne, bne_iff_ne, bne_eq_false_iff_eq, ne_eq, Int.toNat_natCast] at *; omega))) ?_
              | refine j_q (qs_load 0 Try.underlying3 rfl rfl rfl rfl) ?_
              | refine j_q (qs_load 1 Try.underlying3 rfl rfl rfl rfl) ?_
              | refine j_q (qs_load 2 Try.underlying3 rfl rfl rfl rfl) ?_
              | refine j_q (qs_load 3 Try.underlying3 rfl rfl rfl rfl) ?_
            refine j_call 1 ent29 rfl rfl rfl rfl (fun w' hw' => leave_con i (by omega) q (rs.getD i St0).task w' hok hxo.2.1) (fun u S2 hu => ?_)
            obtain ⟨p1, out1, oc1, rfl, ho1, hgt1, hok1', hT1⟩ := hu
            have hok1 : p1.Ok (i + 1) := hok1'.up (by omega)
            refine j_subl (S' := [p1.heap, [(g15, .cells [Value.int .i64 (rs.getD i St0).kind, .int .i64 (rs.getD i St0).task, .string (bs (rs.getD i St0).name), .bool (rs.getD i St0).sh].toArray 52 (0, 0))], [(gm, .map es ck)]]) (by repeat first | exact List.Sublist.refl _ | exact List.nil_sublist _ | apply List.Sublist.cons_cons | apply List.Sublist.cons) ?_
            refine j_perm (S' := [[(g15, .cells [Value.int .i64 (rs.getD i St0).kind, .int .i64 (rs.getD i St0).task, .string (bs (rs.getD i St0).name), .bool (rs.getD i St0).sh].toArray 52 (0, 0))], p1.heap, [(gm, .map es ck)]]) (by classical exact List.perm_iff_count.2 fun a => by simp only [PT.heap, PT.base, PL.heap, PT.tobj, PL.obj, PL.hobj, List.set_cons_succ, List.set_cons_zero, List.flatten_cons, List.flatten_nil, List.append_nil, List.nil_append, List.map_append, List.map_cons, List.map_nil, List.flatten_append, List.count_append, List.count_cons, List.count_nil]; omega) ?_
            rw [← hgt1]
            obtain ⟨mm1, hmm1⟩ : ∃ l, l = mm := ⟨_, rfl⟩
            obtain ⟨es1, hes1⟩ : ∃ l, l = es := ⟨_, rfl⟩
            obtain ⟨ck1, hck1⟩ : ∃ l, l = ck := ⟨_, rfl⟩
            have hmp1 := hmp
            rw [← hes1, ← hck1] at hmp1 ⊢
            rw [← hmm1] at hmp1
            have hai1 : AI p1.at_ mm1 := by
              have h1 : p1.at_ = (leaveF q.at_ (rs.getD i St0).task).1 := by rw [← hT1]
              rw [hmm1, h1]
              exact ai_leave hai _
            refine j_q (qs_ac) ?_
            refine j_q (qs_ac) ?_
            refine j_q (qs_ac) ?_
            refine j_q (qs_ac) ?_
            refine j_perm (S' := [[(g15, .cells [Value.int .i64 (rs.getD i St0).kind, .int .i64 (rs.getD i St0).task, .string (bs (rs.getD i St0).name), .bool (rs.getD i St0).sh].toArray 52 (0, 0))], p1.heap, [(gm, .map es1 ck1)], []]) (by simp) ?_
            refine j_loop (fun m vs S' => ∃ (k : Nat) (seen : List Int) (sv : Value) (sc : SH) (al : Nat), vs = [.int .i64 (seen.length : Int), .int .i64 (al : Int), sv, .int .i64 (k : Int)] ∧ S' = [[(g15, .cells [Value.int .i64 (rs.getD i St0).kind, .int .i64 (rs.getD i St0).task, .string (bs (rs.getD i St0).name), .bool (rs.getD i St0).sh].toArray 52 (0, 0))], p1.heap, [(gm, .map es1 ck1)], sc] ∧ Sx.Own 3 1 (ks .i64 seen) sv sc ∧ SeenI p1.at_ mm1 (rs.getD i St0).name seen al ∧ seen.length ≤ k ∧ k ≤ i + 1 ∧ m = i + 1 - k) ⟨_, 0, [], _, [], 0, rfl, rfl, own_nil, seen_nil _ _ _, Nat.zero_le _, Nat.zero_le _, rfl⟩ ?_
            rintro m vs S' hlen ⟨k, seen, sv, sc, al, rfl, rfl, hso, hsi, hsk, hki, rfl⟩
            refine j_q (qs_leq rfl rfl) ?_
            refine j_cond rfl (fun hc34 => ?_) (fun hc34 => ?_)
            · skip
              have hk1 : k < i + 1 := by
                simp only [Bool.and_eq_true, Bool.or_eq_true, Bool.and_eq_false_iff, Bool.or_eq_false_iff, Bool.not_eq_true', Bool.not_eq_false', decide_eq_true_eq, decide_eq_false_iff_not, beq_iff_eq, beq_eq_false_iff_ne, bne_iff_ne, bne_eq_false_iff_eq, ne_eq, Int.toNat_natCast] at *
                omega
              have hyo := script_ok h (show k < rs.length by omega)
              have hal := hsi.le
              have hwfx : strOk (rs.getD i St0).name := hxo.str
              refine j_mix _ (.refl _) ?_
              refine j_mq (qs_ixl Try.underlying43 sz52 rfl rfl (by first | omega | (simp only [Bool.and_eq_true, Bool.or_eq_true, Bool.and_eq_false_iff, Bool.or_eq_false_iff, Bool.not_eq_true', Bool.not_eq_false', decide_eq_true_eq, decide_eq_false_iff_not, beq_iff_eq, beq_eq_false_iff_ne, bne_iff_ne, bne_eq_false_iff_eq, ne_eq, Int.toNat_natCast] at *; omega)) (by first | omega | (simp only [Bool.and_eq_true, Bool.or_eq_true, Bool.and_eq_false_iff, Bool.or_eq_false_iff, Bool.not_eq_true', Bool.not_eq_false', decide_eq_true_eq, decide_eq_false_iff_not, beq_iff_eq, beq_eq_false_iff_ne, bne_iff_ne, bne_eq_false_iff_eq, ne_eq, Int.toNat_natCast] at *; omega))) ?_
              refine j_mq (qs_field (g := g) (off := off + (k : Int).toNat * 4) Try.underlying52 rfl sz9 (by decide) (by rw [add_off]; rfl)) ?_
              refine j_mq (qs_loadR (v := .string (bs (rs.getD k St0).name)) (a := ⟨g, off, none⟩) (i := k * 4 + 2) (rd_cells hcl (by simp)) Try.underlying9 rfl (congrArg (fun a => Value.pointer (some a)) (off_field g off k 2)) (steps_get (by omega) rfl)) ?_
              refine j_mq (qs_field Try.underlying52 rfl sz9 (by decide) rfl) ?_
              first
                | refine j_mq (qs_load 0 Try.underlying9 rfl rfl rfl rfl) ?_
                | refine j_mq (qs_load 1 Try.underlying9 rfl rfl rfl rfl) ?_
                | refine j_mq (qs_load 2 Try.underlying9 rfl rfl rfl rfl) ?_
                | refine j_mq (qs_load 3 Try.underlying9 rfl rfl rfl rfl) ?_
              refine j_mq (qs_sneq rfl rfl) ?_
              refine j_mg rfl (fun hb => qs_mt rfl) ?_
              refine j_mg rfl (fun hb => qs_mt rfl) ?_
              refine j_mg rfl (fun hb => qs_mt rfl) ?_
              refine j_mg rfl (fun hb => qs_ixl Try.underlying43 sz52 (gd_eq hb) (gd_eq hb) (by first | omega | (simp only [Bool.and_eq_true, Bool.or_eq_true, Bool.and_eq_false_iff, Bool.or_eq_false_iff, Bool.not_eq_true', Bool.not_eq_false', decide_eq_true_eq, decide_eq_false_iff_not, beq_iff_eq, beq_eq_false_iff_ne, bne_iff_ne, bne_eq_false_iff_eq, ne_eq, Int.toNat_natCast] at *; omega)) (by first | omega | (simp only [Bool.and_eq_true, Bool.or_eq_true, Bool.and_eq_false_iff, Bool.or_eq_false_iff, Bool.not_eq_true', Bool.not_eq_false', decide_eq_true_eq, decide_eq_false_iff_not, beq_iff_eq, beq_eq_false_iff_ne, bne_iff_ne, bne_eq_false_iff_eq, ne_eq, Int.toNat_natCast] at *; omega))) ?_
              refine j_mg rfl (fun hb => qs_field (g := g) (off := off + (k : Int).toNat * 4) Try.underlying52 rfl sz3 (by decide) ((gd_eq hb).trans (by rw [add_off]))) ?_
              refine j_mg rfl (fun hb => qs_loadR (v := .int .i64 (rs.getD k St0).task) (a := ⟨g, off, none⟩) (i := k * 4 + 1) (rd_cells hcl (by simp)) Try.underlying3 rfl ((gd_eq hb).trans (congrArg (fun a => Value.pointer (some a)) (off_field g off k 1))) (steps_get (by omega) rfl)) ?_
              refine j_g rfl (fun hb => qs_call ent35 rfl rfl (args2 (gd_eq hb) (gd_eq hb)) (fun w' hw' => hasL_con seen (rs.getD k St0).task _ w' (rsl_own hso 3 rfl hw') (by omega))) ?_
              refine j_mR _ (.refl _) ?_
              refine j_mq (qs_or rfl rfl) ?_
              refine j_mg rfl (fun hb => qs_mt rfl) ?_
              refine j_mg rfl (fun hb => qs_mt rfl) ?_
              refine j_mg rfl (fun hb => qs_mt rfl) ?_
              refine j_mg rfl (fun hb => qs_ixl Try.underlying43 sz52 (gd_eq hb) (gd_eq hb) (by first | omega | (simp only [Bool.and_eq_true, Bool.or_eq_true, Bool.and_eq_false_iff, Bool.or_eq_false_iff, Bool.not_eq_true', Bool.not_eq_false', decide_eq_true_eq, decide_eq_false_iff_not, beq_iff_eq, beq_eq_false_iff_ne, bne_iff_ne, bne_eq_false_iff_eq, ne_eq, Int.toNat_natCast] at *; omega)) (by first | omega | (simp only [Bool.and_eq_true, Bool.or_eq_true, Bool.and_eq_false_iff, Bool.or_eq_false_iff, Bool.not_eq_true', Bool.not_eq_false', decide_eq_true_eq, decide_eq_false_iff_not, beq_iff_eq, beq_eq_false_iff_ne, bne_iff_ne, bne_eq_false_iff_eq, ne_eq, Int.toNat_natCast] at *; omega))) ?_
              refine j_mg rfl (fun hb => qs_field (g := g) (off := off + (k : Int).toNat * 4) Try.underlying52 rfl sz3 (by decide) ((gd_eq hb).trans (by rw [add_off]))) ?_
              refine j_mg rfl (fun hb => qs_loadR (v := .int .i64 (rs.getD k St0).task) (a := ⟨g, off, none⟩) (i := k * 4 + 1) (rd_cells hcl (by simp)) Try.underlying3 rfl ((gd_eq hb).trans (congrArg (fun a => Value.pointer (some a)) (off_field g off k 1))) (steps_get (by omega) rfl)) ?_
              refine j_mg rfl (fun hb => qs_field Try.underlying52 rfl sz9 (by decide) rfl) ?_
              first
                | refine j_mg rfl (fun hb => qs_load 0 Try.underlying9 rfl (gd_eq hb) rfl rfl) ?_
                | refine j_mg rfl (fun hb => qs_load 1 Try.underlying9 rfl (gd_eq hb) rfl rfl) ?_
                | refine j_mg rfl (fun hb => qs_load 2 Try.underlying9 rfl (gd_eq hb) rfl rfl) ?_
                | refine j_mg rfl (fun hb => qs_load 3 Try.underlying9 rfl (gd_eq hb) rfl rfl) ?_
              refine j_g rfl (fun hb => qs_call ent33 rfl rfl (args3 (gd_eq hb) (gd_eq hb) (gd_eq hb)) (fun w' hw' => holds2_con (i + 1) p1 (rs.getD k St0).task (rs.getD i St0).name w' (in_own hw' 1 rfl) hok1 hyo.2.1 hxo.str)) ?_
              refine j_mR _ (.refl _) ?_
              refine j_mg rfl (fun hb => qs_not (gd_eq hb)) ?_
              refine j_mq (qs_or rfl rfl) ?_
              refine j_mend ?_
              refine j_cond rfl (fun hc35 => ?_) (fun hc35 => ?_)
              · skip
                refine j_q (qs_add64 rfl rfl (by first | omega | (simp only [Bool.and_eq_true, Bool.or_eq_true, Bool.and_eq_false_iff, Bool.or_eq_false_iff, Bool.not_eq_true', Bool.not_eq_false', decide_eq_true_eq, decide_eq_false_iff_not, beq_iff_eq, beq_eq_false_iff_ne, bne_iff_ne, bne_eq_false_iff_eq, ne_eq, Int.toNat_natCast] at *; omega))) ?_
                refine j_back rfl ?_
                exact ⟨i + 1 - (k + 1), by omega, k + 1, seen, _, sc, al, rfl, rfl, hso, hsi, by omega, by omega, rfl⟩
              · skip
                simp only [Bool.or_eq_false_iff, Bool.not_eq_false'] at hc35
                obtain ⟨⟨hy1, hy2⟩, hy3⟩ := hc35
                have hyn : (rs.getD k St0).name = (rs.getD i St0).name := by simpa using hy1
                have hyt : (rs.getD k St0).task ∉ seen := fun hm => by rw [hasI_iff.2 hm] at hy2; cases hy2
                refine j_q (qs_ixl Try.underlying43 sz52 rfl rfl (by first | omega | (simp only [Bool.and_eq_true, Bool.or_eq_true, Bool.and_eq_false_iff, Bool.or_eq_false_iff, Bool.not_eq_true', Bool.not_eq_false', decide_eq_true_eq, decide_eq_false_iff_not, beq_iff_eq, beq_eq_false_iff_ne, bne_iff_ne, bne_eq_false_iff_eq, ne_eq, Int.toNat_natCast] at *; omega)) (by first | omega | (simp only [Bool.and_eq_true, Bool.or_eq_true, Bool.and_eq_false_iff, Bool.or_eq_false_iff, Bool.not_eq_true', Bool.not_eq_false', decide_eq_true_eq, decide_eq_false_iff_not, beq_iff_eq, beq_eq_false_iff_ne, bne_iff_ne, bne_eq_false_iff_eq, ne_eq, Int.toNat_natCast] at *; omega))) ?_
                refine j_q (qs_field (g := g) (off := off + (k : Int).toNat * 4) Try.underlying52 rfl sz3 (by decide) (by rw [add_off]; rfl)) ?_
                refine j_q (qs_loadR (v := .int .i64 (rs.getD k St0).task) (a := ⟨g, off, none⟩) (i := k * 4 + 1) (rd_cells hcl (by simp)) Try.underlying3 rfl (congrArg (fun a => Value.pointer (some a)) (off_field g off k 1)) (steps_get (by omega) rfl)) ?_
                refine j_lit (vs := [.int .i64 _]) Try.underlying36 sz3 zero3 rfl (by simp [oneV]) ⟨rfl, by decide⟩ (fun g431 v431 c431 hv431 hc431 ho431 => ?_)
                subst hv431 hc431
                refine j_append 4 Try.underlying36 Try.underlying36 (.inr ⟨_, rfl⟩) sb3 zero3 rfl hso rfl (.inl ⟨_, _, rfl, own_rd ho431 0 rfl, rfl⟩) (by intro u hu; rw [List.mem_singleton] at hu; rw [hu]; rfl) ⟨(by simp only [ks_length, List.length_singleton]; omega), (by decide)⟩ (fun v432 c432 ho432 => ?_)
                have hso1 : Sx.Own 3 1 (ks .i64 (seen ++ [(rs.getD k St0).task])) v432 c432 := by
                  have e : ks .i64 (seen ++ [(rs.getD k St0).task]) = ks .i64 seen ++ [Value.int .i64 (rs.getD k St0).task] := by simp [ks]
                  rw [e]
                  exact ho432
                refine j_subl (S' := [[(g15, .cells [Value.int .i64 (rs.getD i St0).kind, .int .i64 (rs.getD i St0).task, .string (bs (rs.getD i St0).name), .bool (rs.getD i St0).sh].toArray 52 (0, 0))], p1.heap, [(gm, .map es1 ck1)], c432]) (by repeat first | exact List.Sublist.refl _ | exact List.nil_sublist _ | apply List.Sublist.cons_cons | apply List.Sublist.cons) ?_
                refine j_q (qs_add64 rfl rfl (by first | omega | (simp only [Bool.and_eq_true, Bool.or_eq_true, Bool.and_eq_false_iff, Bool.or_eq_false_iff, Bool.not_eq_true', Bool.not_eq_false', decide_eq_true_eq, decide_eq_false_iff_not, beq_iff_eq, beq_eq_false_iff_ne, bne_iff_ne, bne_eq_false_iff_eq, ne_eq, Int.toNat_natCast] at *; omega))) ?_
                refine j_mix _ (.refl _) ?_
                refine j_mq (qs_ixl Try.underlying43 sz52 rfl rfl (by first | omega | (simp only [Bool.and_eq_true, Bool.or_eq_true, Bool.and_eq_false_iff, Bool.or_eq_false_iff, Bool.not_eq_true', Bool.not_eq_false', decide_eq_true_eq, decide_eq_false_iff_not, beq_iff_eq, beq_eq_false_iff_ne, bne_iff_ne, bne_eq_false_iff_eq, ne_eq, Int.toNat_natCast] at *; omega)) (by first | omega | (simp only [Bool.and_eq_true, Bool.or_eq_true, Bool.and_eq_false_iff, Bool.or_eq_false_iff, Bool.not_eq_true', Bool.not_eq_false', decide_eq_true_eq, decide_eq_false_iff_not, beq_iff_eq, beq_eq_false_iff_ne, bne_iff_ne, bne_eq_false_iff_eq, ne_eq, Int.toNat_natCast] at *; omega))) ?_
                refine j_mq (qs_field (g := g) (off := off + (k : Int).toNat * 4) Try.underlying52 rfl sz3 (by decide) (by rw [add_off]; rfl)) ?_
                refine j_mq (qs_loadR (v := .int .i64 (rs.getD k St0).task) (a := ⟨g, off, none⟩) (i := k * 4 + 1) (rd_cells hcl (by simp)) Try.underlying3 rfl (congrArg (fun a => Value.pointer (some a)) (off_field g off k 1)) (steps_get (by omega) rfl)) ?_
                refine j_mq (qs_field Try.underlying52 rfl sz9 (by decide) rfl) ?_
                first
                  | refine j_mq (qs_load 0 Try.underlying9 rfl rfl rfl rfl) ?_
                  | refine j_mq (qs_load 1 Try.underlying9 rfl rfl rfl rfl) ?_
                  | refine j_mq (qs_load 2 Try.underlying9 rfl rfl rfl rfl) ?_
                  | refine j_mq (qs_load 3 Try.underlying9 rfl rfl rfl rfl) ?_
                refine j_mq (qs_build (places := [(0, 1), (1, 1), (2, 1), (3, 1)]) (offs := [(1, [.int .i64 (rs.getD k St0).task]), (2, [.string (bs (rs.getD i St0).name)])]) Try.underlying52 zero52 (by kernel_rfl) rfl (by rintro (_ | _ | j) p q hp hq <;> first | (simp at hp hq; subst hp hq; exact ⟨rfl, rfl, by simp⟩) | (simp at hp))) ?_
                refine j_mq (qs_lookup (key := ((rs.getD k St0).task, (rs.getD i St0).name)) stKey 2 Try.underlying67 zv3 rfl rfl rfl hmp1 ⟨hyo.2.1, hxo.str⟩) ?_
                rw [mlook_map zEnc, getD_z]
                refine j_mq (qs_eql rfl rfl) ?_
                refine j_mend ?_
                refine j_cond rfl (fun hc36 => ?_) (fun hc36 => ?_)
                · skip
                  have hmd : alook mm1 ((rs.getD k St0).task, (rs.getD i St0).name) = some 1 := by
                    cases hh : alook mm1 ((rs.getD k St0).task, (rs.getD i St0).name) with
                    | none => rw [hh] at hc36; simp at hc36
                    | some z => rw [hh] at hc36; simp at hc36; rw [hc36]
                  refine j_q (qs_add64 rfl rfl (by first | omega | (simp only [Bool.and_eq_true, Bool.or_eq_true, Bool.and_eq_false_iff, Bool.or_eq_false_iff, Bool.not_eq_true', Bool.not_eq_false', decide_eq_true_eq, decide_eq_false_iff_not, beq_iff_eq, beq_eq_false_iff_ne, bne_iff_ne, bne_eq_false_iff_eq, ne_eq, Int.toNat_natCast] at *; omega))) ?_
                  refine j_q (qs_ixl Try.underlying43 sz52 rfl rfl (by first | omega | (simp only [Bool.and_eq_true, Bool.or_eq_true, Bool.and_eq_false_iff, Bool.or_eq_false_iff, Bool.not_eq_true', Bool.not_eq_false', decide_eq_true_eq, decide_eq_false_iff_not, beq_iff_eq, beq_eq_false_iff_ne, bne_iff_ne, bne_eq_false_iff_eq, ne_eq, Int.toNat_natCast] at *; omega)) (by first | omega | (simp only [Bool.and_eq_true, Bool.or_eq_true, Bool.and_eq_false_iff, Bool.or_eq_false_iff, Bool.not_eq_true', Bool.not_eq_false', decide_eq_true_eq, decide_eq_false_iff_not, beq_iff_eq, beq_eq_false_iff_ne, bne_iff_ne, bne_eq_false_iff_eq, ne_eq, Int.toNat_natCast] at *; omega))) ?_
                  refine j_q (qs_field (g := g) (off := off + (k : Int).toNat * 4) Try.underlying52 rfl sz3 (by decide) (by rw [add_off]; rfl)) ?_
                  refine j_q (qs_loadR (v := .int .i64 (rs.getD k St0).task) (a := ⟨g, off, none⟩) (i := k * 4 + 1) (rd_cells hcl (by simp)) Try.underlying3 rfl (congrArg (fun a => Value.pointer (some a)) (off_field g off k 1)) (steps_get (by omega) rfl)) ?_
                  refine j_q (qs_call ent31 rfl rfl rfl (fun w' hw' => waits_con (i + 1) p1 (rs.getD k St0).task w' (in_own hw' 1 rfl) hok1 hyo.2.1)) ?_
                  refine j_q (qs_ext (vs := [.string (bs ((alook p1.wm (rs.getD k St0).task).getD [])), .bool (alook p1.wm (rs.getD k St0).task).isSome]) rfl rfl) ?_
                  refine j_q (qs_ext (vs := [.string (bs ((alook p1.wm (rs.getD k St0).task).getD [])), .bool (alook p1.wm (rs.getD k St0).task).isSome]) rfl rfl) ?_
                  refine j_g rfl (fun hb => qs_mt rfl) ?_
                  refine j_g rfl (fun hb => qs_field Try.underlying52 rfl sz9 (by decide) rfl) ?_
                  first
                    | refine j_g rfl (fun hb => qs_load 0 Try.underlying9 rfl (gd_eq hb) rfl rfl) ?_
                    | refine j_g rfl (fun hb => qs_load 1 Try.underlying9 rfl (gd_eq hb) rfl rfl) ?_
                    | refine j_g rfl (fun hb => qs_load 2 Try.underlying9 rfl (gd_eq hb) rfl rfl) ?_
                    | refine j_g rfl (fun hb => qs_load 3 Try.underlying9 rfl (gd_eq hb) rfl rfl) ?_
                  refine j_g rfl (fun hb => qs_seql (gd_eq hb) (gd_eq hb)) ?_
                  refine j_q (qs_and rfl rfl) ?_
                  refine j_cond rfl (fun hc37 => ?_) (fun hc37 => ?_)
                  · skip
                    simp only [Bool.and_eq_true, beq_iff_eq] at hc37
                    refine absurd ?_ (no_wait hai1.wf hy3)
                    obtain ⟨z, hz⟩ := Option.isSome_iff_exists.1 hc37.1
                    have h2 := hc37.2
                    rw [hz] at h2
                    show alook p1.wm _ = _
                    rw [hz]
                    exact congrArg some h2
                  · skip
                    refine j_q (qs_add64 rfl rfl (by first | omega | (simp only [Bool.and_eq_true, Bool.or_eq_true, Bool.and_eq_false_iff, Bool.or_eq_false_iff, Bool.not_eq_true', Bool.not_eq_false', decide_eq_true_eq, decide_eq_false_iff_not, beq_iff_eq, beq_eq_false_iff_ne, bne_iff_ne, bne_eq_false_iff_eq, ne_eq, Int.toNat_natCast] at *; omega))) ?_
                    refine j_back rfl ?_
                    exact ⟨i + 1 - (k + 1), by omega, k + 1, seen ++ [(rs.getD k St0).task], _, c432, al + 1, by rw [List.length_append, List.length_singleton]; rfl, rfl, hso1, seen_more hsi hyt hy3 _ (.inr ⟨rfl, hmd⟩), by rw [List.length_append, List.length_singleton]; omega, by omega, rfl⟩
                · skip
                  refine j_q (qs_ixl Try.underlying43 sz52 rfl rfl (by first | omega | (simp only [Bool.and_eq_true, Bool.or_eq_true, Bool.and_eq_false_iff, Bool.or_eq_false_iff, Bool.not_eq_true', Bool.not_eq_false', decide_eq_true_eq, decide_eq_false_iff_not, beq_iff_eq, beq_eq_false_iff_ne, bne_iff_ne, bne_eq_false_iff_eq, ne_eq, Int.toNat_natCast] at *; omega)) (by first | omega | (simp only [Bool.and_eq_true, Bool.or_eq_true, Bool.and_eq_false_iff, Bool.or_eq_false_iff, Bool.not_eq_true', Bool.not_eq_false', decide_eq_true_eq, decide_eq_false_iff_not, beq_iff_eq, beq_eq_false_iff_ne, bne_iff_ne, bne_eq_false_iff_eq, ne_eq, Int.toNat_natCast] at *; omega))) ?_
                  refine j_q (qs_field (g := g) (off := off + (k : Int).toNat * 4) Try.underlying52 rfl sz3 (by decide) (by rw [add_off]; rfl)) ?_
                  refine j_q (qs_loadR (v := .int .i64 (rs.getD k St0).task) (a := ⟨g, off, none⟩) (i := k * 4 + 1) (rd_cells hcl (by simp)) Try.underlying3 rfl (congrArg (fun a => Value.pointer (some a)) (off_field g off k 1)) (steps_get (by omega) rfl)) ?_
                  refine j_q (qs_call ent31 rfl rfl rfl (fun w' hw' => waits_con (i + 1) p1 (rs.getD k St0).task w' (in_own hw' 1 rfl) hok1 hyo.2.1)) ?_
                  refine j_q (qs_ext (vs := [.string (bs ((alook p1.wm (rs.getD k St0).task).getD [])), .bool (alook p1.wm (rs.getD k St0).task).isSome]) rfl rfl) ?_
                  refine j_q (qs_ext (vs := [.string (bs ((alook p1.wm (rs.getD k St0).task).getD [])), .bool (alook p1.wm (rs.getD k St0).task).isSome]) rfl rfl) ?_
                  refine j_g rfl (fun hb => qs_mt rfl) ?_
                  refine j_g rfl (fun hb => qs_field Try.underlying52 rfl sz9 (by decide) rfl) ?_
                  first
                    | refine j_g rfl (fun hb => qs_load 0 Try.underlying9 rfl (gd_eq hb) rfl rfl) ?_
                    | refine j_g rfl (fun hb => qs_load 1 Try.underlying9 rfl (gd_eq hb) rfl rfl) ?_
                    | refine j_g rfl (fun hb => qs_load 2 Try.underlying9 rfl (gd_eq hb) rfl rfl) ?_
                    | refine j_g rfl (fun hb => qs_load 3 Try.underlying9 rfl (gd_eq hb) rfl rfl) ?_
                  refine j_g rfl (fun hb => qs_seql (gd_eq hb) (gd_eq hb)) ?_
                  refine j_q (qs_and rfl rfl) ?_
                  refine j_cond rfl (fun hc38 => ?_) (fun hc38 => ?_)
                  · skip
                    simp only [Bool.and_eq_true, beq_iff_eq] at hc38
                    refine absurd ?_ (no_wait hai1.wf hy3)
                    obtain ⟨z, hz⟩ := Option.isSome_iff_exists.1 hc38.1
                    have h2 := hc38.2
                    rw [hz] at h2
                    show alook p1.wm _ = _
                    rw [hz]
                    exact congrArg some h2
                  · skip
                    refine j_q (qs_add64 rfl rfl (by first | omega | (simp only [Bool.and_eq_true, Bool.or_eq_true, Bool.and_eq_false_iff, Bool.or_eq_false_iff, Bool.not_eq_true', Bool.not_eq_false', decide_eq_true_eq, decide_eq_false_iff_not, beq_iff_eq, beq_eq_false_iff_ne, bne_iff_ne, bne_eq_false_iff_eq, ne_eq, Int.toNat_natCast] at *; omega))) ?_
                    refine j_back rfl ?_
                    exact ⟨i + 1 - (k + 1), by omega, k + 1, seen ++ [(rs.getD k St0).task], _, c432, al, by rw [List.length_append, List.length_singleton]; rfl, rfl, hso1, seen_more hsi hyt hy3 _ (.inl rfl), by rw [List.length_append, List.length_singleton]; omega, by omega, rfl⟩
            · skip
              have hki1 : k = i + 1 := by
                simp only [Bool.and_eq_true, Bool.or_eq_true, Bool.and_eq_false_iff, Bool.or_eq_false_iff, Bool.not_eq_true', Bool.not_eq_false', decide_eq_true_eq, decide_eq_false_iff_not, beq_iff_eq, beq_eq_false_iff_ne, bne_iff_ne, bne_eq_false_iff_eq, ne_eq, Int.toNat_natCast] at *
                omega
              have hal := hsi.le
              refine j_q (qs_gtr rfl rfl) ?_
              refine j_g rfl (fun hb => qs_mt rfl) ?_
              refine j_g rfl (fun hb => qs_gtr (gd_eq hb) rfl) ?_
              refine j_q (qs_and rfl rfl) ?_
              refine j_cond rfl (fun hc39 => ?_) (fun hc39 => ?_)
              · skip
                have h1 := seen_alone hai1 hsi
                simp [gd] at hc39
                omega
              · skip
                refine j_subl (S' := [p1.heap, [(gm, .map es1 ck1)]]) (by repeat first | exact List.Sublist.refl _ | exact List.nil_sublist _ | apply List.Sublist.cons_cons | apply List.Sublist.cons) ?_
                refine j_q (qs_add64 rfl rfl (by first | omega | (simp only [Bool.and_eq_true, Bool.or_eq_true, Bool.and_eq_false_iff, Bool.or_eq_false_iff, Bool.not_eq_true', Bool.not_eq_false', decide_eq_true_eq, decide_eq_false_iff_not, beq_iff_eq, beq_eq_false_iff_ne, bne_iff_ne, bne_eq_false_iff_eq, ne_eq, Int.toNat_natCast] at *; omega))) ?_
                refine j_back rfl ?_
                exact ⟨200 - (i + 1), by omega, i + 1, p1, mm1, es1, ck1, rfl, rfl, rfl, hok1, hai1, hmp1, by omega, by omega, rfl⟩
      · skip
        refine j_q (qs_call ent9 rfl rfl rfl (fun w' hw' => known_con w')) ?_
        refine j_ret_con (vs := [_]) (fun w' hw' => ⟨rfl, trivial⟩) ?_
        rfl
end Go.Proofs.Ytlgfpoelhjlifaa
