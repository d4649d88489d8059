/- The law ScanSelf. -/
import Derived.Test.YtkafaodhppikfaaDoorTa
import Derived.Test.YtkafaodhppikfaaDoorMod
import Derived.Test.YtkafaodhppikfaaDoorPl
namespace Go.Proofs.YtkafaodhppikfaaDoor
open Go Go.Sx
set_option maxRecDepth 100000
set_option maxHeartbeats 4000000
set_option linter.unusedVariables false
set_option linter.unusedSimpArgs false
attribute [local irreducible] J JQ QS Con W opW
theorem ent8 : Sx.Enters Tryd.prog 8 := ⟨_, Tryd.func8, by kernel_rfl, by kernel_rfl⟩
theorem ent9 : Sx.Enters Tryd.prog 9 := ⟨_, Tryd.func9, by kernel_rfl, by kernel_rfl⟩
theorem ent10 : Sx.Enters Tryd.prog 10 := ⟨_, Tryd.func10, by kernel_rfl, by kernel_rfl⟩
theorem ent11 : Sx.Enters Tryd.prog 11 := ⟨_, Tryd.func11, by kernel_rfl, by kernel_rfl⟩

theorem modB_self {l P Q : List UInt8} (hP : P.length = 32) (hQ : Q.length = 32) (h : rew (rew l P Q) Q P = l) : modB (rew l P Q) Q = modB l P := by
  obtain ⟨e1, e2⟩ := self_law (z := List.replicate 32 0) hP hQ rfl h
  unfold modB
  rw [e1, e2]
attribute [local irreducible] isName isPath spA spB spE cp sortS rise dg PT ofDig Fnd RunOk Win isDig standsB rew over rwB rwN rwE rwOk SM SD LT bl p10 sum mods modB modH modE
/-- pantry.pantrylaw6.ScanSelf -/
theorem scanSelf_con (l : List UInt8) (v : Value) (p q : List UInt8) (w : World) (hv : RSl w v (ints l)) (hp : p.length ≤ 9223372036854775807) (hq : q.length ≤ 9223372036854775807) (hP : P10 w) : Con Tryd.prog 4 [v, .string (bs p), .string (bs q)] w [] fun u _ => u = .bool true := by
  refine con_of_tree mix Tryd.func4 T4_ok (by kernel_rfl) ?_
  unfold T4
  obtain ⟨A, cap, rfl, hcap⟩ := rsl_form hv
  rw [ints_length] at hv hcap ⊢
  refine j_q (qs_ac) ?_
  refine j_q (qs_lenl Tryd.underlying22 rfl) ?_
  refine j_q (qs_gtr rfl rfl) ?_
  refine j_g rfl (fun hb => qs_mt rfl) ?_
  refine j_g rfl (fun hb => qs_call ent8 rfl rfl (args1 (gd_eq hb)) (fun w' hw' => is_con p w' hp)) ?_
  refine j_g rfl (fun hb => qs_not (gd_eq hb)) ?_
  refine j_q (qs_or rfl rfl) ?_
  refine j_g rfl (fun hb => qs_mt rfl) ?_
  refine j_g rfl (fun hb => qs_call ent8 rfl rfl (args1 (gd_eq hb)) (fun w' hw' => is_con q w' hq)) ?_
  refine j_g rfl (fun hb => qs_not (gd_eq hb)) ?_
  refine j_q (qs_or rfl rfl) ?_
  refine j_cond rfl (fun hc0 => ?_) (fun hc0 => ?_)
  · skip
    refine j_q (qs_ac) ?_
    refine j_ret_con (vs := [_]) (fun w' hw' => ⟨rfl, trivial⟩) ?_
    rfl
  · skip
    have hb0 : l.length ≤ 4000 ∧ isPath p = true ∧ isPath q = true := by
      cases h1 : isPath p <;> cases h2 : isPath q <;> simp [gd, h1, h2] at hc0 ⊢ <;> omega
    obtain ⟨hb1, hpp, hpq⟩ := hb0
    have hok : rwOk p q = true := by unfold rwOk; rw [hpp, hpq]; rfl
    have hok2 : rwOk q p = true := by unfold rwOk; rw [hpp, hpq]; rfl
    obtain ⟨e1, e2, e3⟩ := rw_yes (l := l) hok
    obtain ⟨f1, f2, f3⟩ := rw_yes (l := rwB l p q) hok2
    have hrl := rwB_len l p q
    have hrl2 := rwB_len (rwB l p q) q p
    refine j_call0 ent9 rfl rfl rfl (fun w' hw' => prewrite_con l p q _ w' (rsl_keep hv hw') hp hq (by omega)) (fun u S2 hu => ?_)
    obtain ⟨ov12, c12, rfl, rfl, ho12⟩ := hu
    refine j_q (qs_ext (vs := [ov12, .int .i64 (rwN l p q : Int), .int .i64 (rwE p q)]) rfl rfl) ?_
    refine j_q (qs_ext (vs := [ov12, .int .i64 (rwN l p q : Int), .int .i64 (rwE p q)]) rfl rfl) ?_
    refine j_q (qs_ext (vs := [ov12, .int .i64 (rwN l p q : Int), .int .i64 (rwE p q)]) rfl rfl) ?_
    refine j_q (qs_neq rfl rfl) ?_
    refine j_cond rfl (fun hc1 => ?_) (fun hc1 => ?_)
    · skip
      rw [e3] at hc1
      simp at hc1
    · skip
      refine j_call0 ent10 rfl rfl rfl (fun w' hw' => rrewrite_con (rwB l p q) q p _ w' (rsl_own ho12 0 rfl hw') hq hp (by omega)) (fun u S2 hu => ?_)
      obtain ⟨ov18, c18, rfl, rfl, ho18⟩ := hu
      refine j_subl (S' := [c18, c12]) (by repeat first | exact List.Sublist.refl _ | exact List.nil_sublist _ | apply List.Sublist.cons_cons | apply List.Sublist.cons) ?_
      refine j_q (qs_ext (vs := [ov18, .int .i64 (rwN (rwB l p q) q p : Int), .int .i64 (rwE q p)]) rfl rfl) ?_
      refine j_q (qs_ext (vs := [ov18, .int .i64 (rwN (rwB l p q) q p : Int), .int .i64 (rwE q p)]) rfl rfl) ?_
      refine j_q (qs_ext (vs := [ov18, .int .i64 (rwN (rwB l p q) q p : Int), .int .i64 (rwE q p)]) rfl rfl) ?_
      refine j_q (qs_neq rfl rfl) ?_
      refine j_g rfl (fun hb => qs_mt rfl) ?_
      refine j_g rfl (fun hb => qs_mt rfl) ?_
      refine j_g rfl (fun hb => qs_call ent11 rfl rfl (args2 (gd_eq hb) (gd_eq hb)) (fun w' hw' => same_con _ l _ _ w' (rsl_own ho18 0 rfl hw') (rsl_keep hv hw') (by omega))) ?_
      refine j_g rfl (fun hb => qs_not (gd_eq hb)) ?_
      refine j_q (qs_or rfl rfl) ?_
      refine j_cond rfl (fun hc2 => ?_) (fun hc2 => ?_)
      · skip
        refine j_q (qs_call ent7 rfl rfl rfl (fun w' hw' => known_con w')) ?_
        refine j_ret_con (vs := [_]) (fun w' hw' => ⟨rfl, trivial⟩) ?_
        rfl
      · skip
        have hb : rwN (rwB l p q) q p = rwN l p q ∧ rwB (rwB l p q) q p = l := by
          by_cases h1 : rwN (rwB l p q) q p = rwN l p q <;> by_cases h2 : rwB (rwB l p q) q p = l <;> simp [gd, h1, h2] at hc2 ⊢ <;> omega
        obtain ⟨hb2, hb3⟩ := hb
        refine j_call0 ent9 rfl rfl rfl (fun w' hw' => prewrite_con (rwB l p q) q p _ w' (rsl_own ho12 1 rfl hw') hq hp (by omega)) (fun u S2 hu => ?_)
        obtain ⟨ov29, c29, rfl, rfl, ho29⟩ := hu
        refine j_subl (S' := [c29, c12]) (by repeat first | exact List.Sublist.refl _ | exact List.nil_sublist _ | apply List.Sublist.cons_cons | apply List.Sublist.cons) ?_
        refine j_q (qs_ext (vs := [ov29, .int .i64 (rwN (rwB l p q) q p : Int), .int .i64 (rwE q p)]) rfl rfl) ?_
        refine j_q (qs_ext (vs := [ov29, .int .i64 (rwN (rwB l p q) q p : Int), .int .i64 (rwE q p)]) rfl rfl) ?_
        refine j_q (qs_ext (vs := [ov29, .int .i64 (rwN (rwB l p q) q p : Int), .int .i64 (rwE q p)]) rfl rfl) ?_
        refine j_call0 ent5 rfl rfl rfl (fun w' hw' => pmod_con l p _ w' (rsl_keep hv hw') hp (by omega) (hP.keep hw' (by simp))) (fun u S2 hu => ?_)
        subst hu
        refine j_subl (S' := [c29, c12]) (List.sublist_append_right _ _) ?_
        refine j_q (qs_ext (vs := [.agg (ints (modH l p)).toArray, .int .i64 (modE p)]) rfl rfl) ?_
        refine j_q (qs_ext (vs := [.agg (ints (modH l p)).toArray, .int .i64 (modE p)]) rfl rfl) ?_
        refine j_alloc zero25 (fun g36 hg36 hs36 => ?_)
        first
          | refine j_storew 0 sz25 rfl rfl (by first | (rw [ints_length]; exact modH_len _ _) | rfl) ints_one rfl (by first | (rw [ints_length]; exact modH_len _ _) | rfl) ?_
          | refine j_storew 1 sz25 rfl rfl (by first | (rw [ints_length]; exact modH_len _ _) | rfl) ints_one rfl (by first | (rw [ints_length]; exact modH_len _ _) | rfl) ?_
          | refine j_storew 2 sz25 rfl rfl (by first | (rw [ints_length]; exact modH_len _ _) | rfl) ints_one rfl (by first | (rw [ints_length]; exact modH_len _ _) | rfl) ?_
          | refine j_storew 3 sz25 rfl rfl (by first | (rw [ints_length]; exact modH_len _ _) | rfl) ints_one rfl (by first | (rw [ints_length]; exact modH_len _ _) | rfl) ?_
        refine j_call0 ent5 rfl rfl rfl (fun w' hw' => pmod_con (rwB l p q) q _ w' (rsl_own ho12 2 rfl hw') hq (by omega) (hP.keep hw' (by simp))) (fun u S2 hu => ?_)
        subst hu
        refine j_subl (S' := [[(g36, .cells (ints (modH l p)).toArray 25 (0, 0))], c29, c12]) (List.sublist_append_right _ _) ?_
        refine j_q (qs_ext (vs := [.agg (ints (modH (rwB l p q) q)).toArray, .int .i64 (modE q)]) rfl rfl) ?_
        refine j_q (qs_ext (vs := [.agg (ints (modH (rwB l p q) q)).toArray, .int .i64 (modE q)]) rfl rfl) ?_
        refine j_alloc zero25 (fun g41 hg41 hs41 => ?_)
        first
          | refine j_storew 0 sz25 rfl rfl (by first | (rw [ints_length]; exact modH_len _ _) | rfl) ints_one rfl (by first | (rw [ints_length]; exact modH_len _ _) | rfl) ?_
          | refine j_storew 1 sz25 rfl rfl (by first | (rw [ints_length]; exact modH_len _ _) | rfl) ints_one rfl (by first | (rw [ints_length]; exact modH_len _ _) | rfl) ?_
          | refine j_storew 2 sz25 rfl rfl (by first | (rw [ints_length]; exact modH_len _ _) | rfl) ints_one rfl (by first | (rw [ints_length]; exact modH_len _ _) | rfl) ?_
          | refine j_storew 3 sz25 rfl rfl (by first | (rw [ints_length]; exact modH_len _ _) | rfl) ints_one rfl (by first | (rw [ints_length]; exact modH_len _ _) | rfl) ?_
        refine j_q (qs_eql rfl rfl) ?_
        refine j_g rfl (fun hb => qs_mt rfl) ?_
        refine j_g rfl (fun hb => qs_mt rfl) ?_
        refine j_g rfl (fun hb => qs_eql (gd_eq hb) (gd_eq hb)) ?_
        refine j_q (qs_and rfl rfl) ?_
        refine j_g rfl (fun hb => qs_mt rfl) ?_
        refine j_g rfl (fun hb => qs_mt rfl) ?_
        refine j_g rfl (fun hb => qs_call ent11 rfl rfl (args2 (gd_eq hb) (gd_eq hb)) (fun w' hw' => same_con _ l _ _ w' (rsl_own ho29 2 rfl hw') (rsl_keep hv hw') (by omega))) ?_
        refine j_q (qs_and rfl rfl) ?_
        refine j_g rfl (fun hb => qs_mt rfl) ?_
        refine j_g rfl (fun hb => qs_eql (gd_eq hb) rfl) ?_
        refine j_q (qs_and rfl rfl) ?_
        refine j_g rfl (fun hb => qs_mt rfl) ?_
        refine j_g rfl (fun hb => qs_eql (gd_eq hb) rfl) ?_
        refine j_q (qs_and rfl rfl) ?_
        first
          | refine j_g rfl (fun hb => qs_loadw 0 Tryd.underlying25 rfl sz25 rfl rfl (by first | (rw [ints_length]; exact modH_len _ _) | rfl)) ?_
          | refine j_g rfl (fun hb => qs_loadw 1 Tryd.underlying25 rfl sz25 rfl rfl (by first | (rw [ints_length]; exact modH_len _ _) | rfl)) ?_
          | refine j_g rfl (fun hb => qs_loadw 2 Tryd.underlying25 rfl sz25 rfl rfl (by first | (rw [ints_length]; exact modH_len _ _) | rfl)) ?_
          | refine j_g rfl (fun hb => qs_loadw 3 Tryd.underlying25 rfl sz25 rfl rfl (by first | (rw [ints_length]; exact modH_len _ _) | rfl)) ?_
        first
          | refine j_g rfl (fun hb => qs_loadw 0 Tryd.underlying25 rfl sz25 rfl rfl (by first | (rw [ints_length]; exact modH_len _ _) | rfl)) ?_
          | refine j_g rfl (fun hb => qs_loadw 1 Tryd.underlying25 rfl sz25 rfl rfl (by first | (rw [ints_length]; exact modH_len _ _) | rfl)) ?_
          | refine j_g rfl (fun hb => qs_loadw 2 Tryd.underlying25 rfl sz25 rfl rfl (by first | (rw [ints_length]; exact modH_len _ _) | rfl)) ?_
          | refine j_g rfl (fun hb => qs_loadw 3 Tryd.underlying25 rfl sz25 rfl rfl (by first | (rw [ints_length]; exact modH_len _ _) | rfl)) ?_
        refine j_g rfl (fun hb => qs_aeq (e := 5) Tryd.underlying25 Tryd.underlying5 (by kernel_rfl) (by kernel_rfl) (by kernel_rfl) (gd_eq hb) (gd_eq hb) (modH_len _ _) (modH_len _ _)) ?_
        refine j_q (qs_and rfl rfl) ?_
        refine j_g rfl (fun hb => qs_call ent7 rfl rfl (args0) (fun w' hw' => known_con w')) ?_
        refine j_q (qs_and rfl rfl) ?_
        refine j_ret_con (vs := [_]) (fun w' hw' => ⟨rfl, trivial⟩) ?_
        show Value.bool _ = _
        congr 1
        have e4 : (l.length : Nat) = l.length := rfl
        have hPl := path_take_len hpp
        have hQl := path_take_len hpq
        have hm : modH (rwB l p q) q = modH l p := by
          rw [(mod_yes hpp).1, (mod_yes hpq).1, e1, modB_self hPl hQl (by rw [← e1, ← f1]; exact hb3)]
        simp [gd, e3, f3, hb2, hb3, hm, (mod_yes (l := l) hpp).2, (mod_yes (l := l) hpq).2]
end Go.Proofs.YtkafaodhppikfaaDoor
