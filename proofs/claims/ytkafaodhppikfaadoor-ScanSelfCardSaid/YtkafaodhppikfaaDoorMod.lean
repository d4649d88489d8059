/- The digest of bytes but for a path's digits; the law ScanModulos. -/
import Derived.Test.YtkafaodhppikfaaDoorTa
import Derived.Test.YtkafaodhppikfaaDoorSum0
namespace Go.Proofs.YtkafaodhppikfaaDoor
open Go Go.Sx
set_option maxRecDepth 100000
set_option maxHeartbeats 4000000
set_option linter.unusedVariables false
set_option linter.unusedSimpArgs false
attribute [local irreducible] J JQ QS Con W opW
theorem ent5 : Sx.Enters Tryd.prog 5 := ⟨_, Tryd.func5, by kernel_rfl, by kernel_rfl⟩
theorem ent6 : Sx.Enters Tryd.prog 6 := ⟨_, Tryd.func6, by kernel_rfl, by kernel_rfl⟩
theorem ent7 : Sx.Enters Tryd.prog 7 := ⟨_, Tryd.func7, by kernel_rfl, by kernel_rfl⟩
theorem ent15 : Sx.Enters Tryd.prog 15 := ⟨_, Tryd.func15, by kernel_rfl, by kernel_rfl⟩
theorem ent16 : Sx.Enters Tryd.prog 16 := ⟨_, Tryd.func16, by kernel_rfl, by kernel_rfl⟩
theorem ent20 : Sx.Enters Tryd.prog 20 := ⟨_, Tryd.func20, by kernel_rfl, by kernel_rfl⟩
theorem ent21 : Sx.Enters Tryd.prog 21 := ⟨_, Tryd.func21, by kernel_rfl, by kernel_rfl⟩

theorem P10.not0 {w w' : World} {S : List SH} {c : SH} (h : P10 w) (k : Nat) (hk : S[k]? = some c) (hs : Sig ⟨w, dom []⟩ S w') : 0 ∉ dom c := fun hm => by
  obtain ⟨p, hp, e⟩ := List.mem_map.1 hm
  have h1 := mem_flatten_of hk hp
  rcases hs.dom_ 0 (List.mem_map.2 ⟨p, h1, e⟩) with h2 | h2
  · cases h2
  · exact absurd h.1 (by simpa using h2)
def mods (o : List UInt8) (ps : List Nat) : List UInt8 := ps.foldl (fun o p => o ++ [124] ++ dec p) o
theorem mods_nil (o : List UInt8) : mods o [] = o := rfl
theorem mods_snoc {o : List UInt8} {ps : List Nat} {i : Nat} (h : i < ps.length) : mods o (ps.take (i + 1)) = mods o (ps.take i) ++ [124] ++ dec (ps.getD i 0) := by
  unfold mods
  rw [List.take_add_one, List.getElem?_eq_getElem h, List.foldl_append, List.getD_eq_getElem?_getD, List.getElem?_eq_getElem h]
  rfl
theorem mods_len {o : List UInt8} : ∀ {ps : List Nat}, (∀ p ∈ ps, p < 10000) → (mods o ps).length ≤ o.length + 5 * ps.length := by
  intro ps
  induction ps generalizing o with
  | nil => intro _; simp [mods]
  | cons p ps ih =>
    intro h
    have h1 := ih (o := o ++ [124] ++ dec p) (fun q hq => h q (by simp [hq]))
    have h2 := dec_len (h p (by simp))
    simp only [List.length_append, List.length_cons, List.length_nil] at h1 ⊢
    show (mods (o ++ [124] ++ dec p) ps).length ≤ _
    omega
def modB (l d : List UInt8) : List UInt8 := mods (rew l d (List.replicate 32 0)) (plc l d 0)
def modH (l p : List UInt8) : List UInt8 := if isPath p then sum (modB l (p.take 32)) else List.replicate 32 0
def modE (p : List UInt8) : Int := if isPath p then 0 else 3
theorem mod_yes {l p : List UInt8} (h : isPath p = true) : modH l p = sum (modB l (p.take 32)) ∧ modE p = 0 := by unfold modH modE; rw [if_pos h, if_pos h]; exact ⟨rfl, rfl⟩
theorem mod_no {l p : List UInt8} (h : isPath p = false) : modH l p = List.replicate 32 0 ∧ modE p = 3 := by unfold modH modE; rw [if_neg (by rw [h]; decide), if_neg (by rw [h]; decide)]; exact ⟨rfl, rfl⟩
theorem modH_len (l p : List UInt8) : (modH l p).length = 32 := by
  cases h : isPath p
  · rw [(mod_no h).1]; rfl
  · rw [(mod_yes h).1]; exact sum_length _
attribute [local irreducible] isName isPath spA spB spE cp sortS rise dg PT ofDig Fnd RunOk Win isDig standsB rew over rwB rwN rwE rwOk SM SD LT bl p10 sum mods modB modH modE
/-- pantry.scan.Modulo -/
theorem pmod_con (l p : List UInt8) (v : Value) (w : World) (hv : RSl w v (ints l)) (hp : p.length ≤ 9223372036854775807) (hl : l.length ≤ 5000) (hP : P10 w) : Con Tryd.prog 5 [v, .string (bs p)] w [] fun u _ => u = .tuple #[.agg (ints (modH l p)).toArray, .int .i64 (modE p)] := by
  refine con_of_tree mix Tryd.func5 T5_ok (by kernel_rfl) ?_
  unfold T5
  refine j_alloc zero25 (fun g0 hg0 hs0 => ?_)
  refine j_q (qs_ac) ?_
  refine j_q (qs_call ent12 rfl rfl rfl (fun w' hw' => of_con p w' hp)) ?_
  refine j_q (qs_ext (vs := [.agg (ints (dg p)).toArray, .bool (isPath p)]) rfl rfl) ?_
  refine j_q (qs_ext (vs := [.agg (ints (dg p)).toArray, .bool (isPath p)]) rfl rfl) ?_
  refine j_alloc zero40 (fun g5 hg5 hs5 => ?_)
  first
    | refine j_storew 0 sz40 rfl rfl (by first | (rw [ints_length]; exact dg_length _) | (rw [ints_length]; exact path_take_len hyes) | (rw [ints_length]; exact sum_length _) | rfl) ints_one rfl (by first | (rw [ints_length]; exact dg_length _) | (rw [ints_length]; exact path_take_len hyes) | (rw [ints_length]; exact sum_length _) | rfl) ?_
    | refine j_storew 1 sz40 rfl rfl (by first | (rw [ints_length]; exact dg_length _) | (rw [ints_length]; exact path_take_len hyes) | (rw [ints_length]; exact sum_length _) | rfl) ints_one rfl (by first | (rw [ints_length]; exact dg_length _) | (rw [ints_length]; exact path_take_len hyes) | (rw [ints_length]; exact sum_length _) | rfl) ?_
    | refine j_storew 2 sz40 rfl rfl (by first | (rw [ints_length]; exact dg_length _) | (rw [ints_length]; exact path_take_len hyes) | (rw [ints_length]; exact sum_length _) | rfl) ints_one rfl (by first | (rw [ints_length]; exact dg_length _) | (rw [ints_length]; exact path_take_len hyes) | (rw [ints_length]; exact sum_length _) | rfl) ?_
    | refine j_storew 3 sz40 rfl rfl (by first | (rw [ints_length]; exact dg_length _) | (rw [ints_length]; exact path_take_len hyes) | (rw [ints_length]; exact sum_length _) | rfl) ints_one rfl (by first | (rw [ints_length]; exact dg_length _) | (rw [ints_length]; exact path_take_len hyes) | (rw [ints_length]; exact sum_length _) | rfl) ?_
    | refine j_storew 4 sz40 rfl rfl (by first | (rw [ints_length]; exact dg_length _) | (rw [ints_length]; exact path_take_len hyes) | (rw [ints_length]; exact sum_length _) | rfl) ints_one rfl (by first | (rw [ints_length]; exact dg_length _) | (rw [ints_length]; exact path_take_len hyes) | (rw [ints_length]; exact sum_length _) | rfl) ?_
    | refine j_storew 5 sz40 rfl rfl (by first | (rw [ints_length]; exact dg_length _) | (rw [ints_length]; exact path_take_len hyes) | (rw [ints_length]; exact sum_length _) | rfl) ints_one rfl (by first | (rw [ints_length]; exact dg_length _) | (rw [ints_length]; exact path_take_len hyes) | (rw [ints_length]; exact sum_length _) | rfl) ?_
  refine j_q (qs_not rfl) ?_
  refine j_cond rfl (fun hc0 => ?_) (fun hc0 => ?_)
  · skip
    have hno : isPath p = false := by simpa using hc0
    obtain ⟨e1, e2⟩ := mod_no (l := l) hno
    refine j_q (qs_run (v := .agg (ints (List.replicate 32 0)).toArray) (fun w => by kernel_rfl)) ?_
    first
      | refine j_storew 0 sz25 rfl rfl (by first | (rw [ints_length]; exact dg_length _) | (rw [ints_length]; exact path_take_len hyes) | (rw [ints_length]; exact sum_length _) | rfl) ints_one rfl (by first | (rw [ints_length]; exact dg_length _) | (rw [ints_length]; exact path_take_len hyes) | (rw [ints_length]; exact sum_length _) | rfl) ?_
      | refine j_storew 1 sz25 rfl rfl (by first | (rw [ints_length]; exact dg_length _) | (rw [ints_length]; exact path_take_len hyes) | (rw [ints_length]; exact sum_length _) | rfl) ints_one rfl (by first | (rw [ints_length]; exact dg_length _) | (rw [ints_length]; exact path_take_len hyes) | (rw [ints_length]; exact sum_length _) | rfl) ?_
      | refine j_storew 2 sz25 rfl rfl (by first | (rw [ints_length]; exact dg_length _) | (rw [ints_length]; exact path_take_len hyes) | (rw [ints_length]; exact sum_length _) | rfl) ints_one rfl (by first | (rw [ints_length]; exact dg_length _) | (rw [ints_length]; exact path_take_len hyes) | (rw [ints_length]; exact sum_length _) | rfl) ?_
      | refine j_storew 3 sz25 rfl rfl (by first | (rw [ints_length]; exact dg_length _) | (rw [ints_length]; exact path_take_len hyes) | (rw [ints_length]; exact sum_length _) | rfl) ints_one rfl (by first | (rw [ints_length]; exact dg_length _) | (rw [ints_length]; exact path_take_len hyes) | (rw [ints_length]; exact sum_length _) | rfl) ?_
      | refine j_storew 4 sz25 rfl rfl (by first | (rw [ints_length]; exact dg_length _) | (rw [ints_length]; exact path_take_len hyes) | (rw [ints_length]; exact sum_length _) | rfl) ints_one rfl (by first | (rw [ints_length]; exact dg_length _) | (rw [ints_length]; exact path_take_len hyes) | (rw [ints_length]; exact sum_length _) | rfl) ?_
      | refine j_storew 5 sz25 rfl rfl (by first | (rw [ints_length]; exact dg_length _) | (rw [ints_length]; exact path_take_len hyes) | (rw [ints_length]; exact sum_length _) | rfl) ints_one rfl (by first | (rw [ints_length]; exact dg_length _) | (rw [ints_length]; exact path_take_len hyes) | (rw [ints_length]; exact sum_length _) | rfl) ?_
    refine j_q (qs_ac) ?_
    first
      | refine j_ret_con (vs := [_, _]) (fun w' hw' => ⟨rv_agg 0 Tryd.underlying25 rfl sz25 rfl rfl (by first | (rw [ints_length]; exact dg_length _) | (rw [ints_length]; exact path_take_len hyes) | (rw [ints_length]; exact sum_length _) | rfl) hw', rfl, trivial⟩) ?_
      | refine j_ret_con (vs := [_, _]) (fun w' hw' => ⟨rv_agg 1 Tryd.underlying25 rfl sz25 rfl rfl (by first | (rw [ints_length]; exact dg_length _) | (rw [ints_length]; exact path_take_len hyes) | (rw [ints_length]; exact sum_length _) | rfl) hw', rfl, trivial⟩) ?_
      | refine j_ret_con (vs := [_, _]) (fun w' hw' => ⟨rv_agg 2 Tryd.underlying25 rfl sz25 rfl rfl (by first | (rw [ints_length]; exact dg_length _) | (rw [ints_length]; exact path_take_len hyes) | (rw [ints_length]; exact sum_length _) | rfl) hw', rfl, trivial⟩) ?_
      | refine j_ret_con (vs := [_, _]) (fun w' hw' => ⟨rv_agg 3 Tryd.underlying25 rfl sz25 rfl rfl (by first | (rw [ints_length]; exact dg_length _) | (rw [ints_length]; exact path_take_len hyes) | (rw [ints_length]; exact sum_length _) | rfl) hw', rfl, trivial⟩) ?_
      | refine j_ret_con (vs := [_, _]) (fun w' hw' => ⟨rv_agg 4 Tryd.underlying25 rfl sz25 rfl rfl (by first | (rw [ints_length]; exact dg_length _) | (rw [ints_length]; exact path_take_len hyes) | (rw [ints_length]; exact sum_length _) | rfl) hw', rfl, trivial⟩) ?_
      | refine j_ret_con (vs := [_, _]) (fun w' hw' => ⟨rv_agg 5 Tryd.underlying25 rfl sz25 rfl rfl (by first | (rw [ints_length]; exact dg_length _) | (rw [ints_length]; exact path_take_len hyes) | (rw [ints_length]; exact sum_length _) | rfl) hw', rfl, trivial⟩) ?_
    rw [e1, e2]
    rfl
  · skip
    have hyes : isPath p = true := by simpa using hc0
    obtain ⟨e1, e2⟩ := mod_yes (l := l) hyes
    first
      | refine j_q (qs_loadw 0 Tryd.underlying40 rfl sz40 rfl rfl (by first | (rw [ints_length]; exact dg_length _) | (rw [ints_length]; exact path_take_len hyes) | (rw [ints_length]; exact sum_length _) | rfl)) ?_
      | refine j_q (qs_loadw 1 Tryd.underlying40 rfl sz40 rfl rfl (by first | (rw [ints_length]; exact dg_length _) | (rw [ints_length]; exact path_take_len hyes) | (rw [ints_length]; exact sum_length _) | rfl)) ?_
      | refine j_q (qs_loadw 2 Tryd.underlying40 rfl sz40 rfl rfl (by first | (rw [ints_length]; exact dg_length _) | (rw [ints_length]; exact path_take_len hyes) | (rw [ints_length]; exact sum_length _) | rfl)) ?_
      | refine j_q (qs_loadw 3 Tryd.underlying40 rfl sz40 rfl rfl (by first | (rw [ints_length]; exact dg_length _) | (rw [ints_length]; exact path_take_len hyes) | (rw [ints_length]; exact sum_length _) | rfl)) ?_
      | refine j_q (qs_loadw 4 Tryd.underlying40 rfl sz40 rfl rfl (by first | (rw [ints_length]; exact dg_length _) | (rw [ints_length]; exact path_take_len hyes) | (rw [ints_length]; exact sum_length _) | rfl)) ?_
      | refine j_q (qs_loadw 5 Tryd.underlying40 rfl sz40 rfl rfl (by first | (rw [ints_length]; exact dg_length _) | (rw [ints_length]; exact path_take_len hyes) | (rw [ints_length]; exact sum_length _) | rfl)) ?_
    rw [dg_path hyes]
    refine j_call0 ent13 rfl rfl rfl (fun w' hw' => places_con l (p.take 32) _ w' (rsl_keep hv hw') (path_take_len hyes) (by omega)) (fun u S2 hu => ?_)
    obtain ⟨cp, rfl, hop⟩ := hu
    obtain ⟨n6, A6, cap6, rfl, hn6⟩ := own_form hop (by decide)
    rw [nats_length, Nat.mul_one] at hn6
    subst hn6
    have hpl := (plc_le (l := l) (d := p.take 32) l.length 0 (by omega)).2
    have hpp : ∀ q ∈ plc l (p.take 32) 0, q < 10000 := fun q hq => by
      have := (plc_le (l := l) (d := p.take 32) l.length 0 (by omega)).1 q hq
      omega
    first
      | refine j_q (qs_loadw 0 Tryd.underlying40 rfl sz40 rfl rfl (by first | (rw [ints_length]; exact dg_length _) | (rw [ints_length]; exact path_take_len hyes) | (rw [ints_length]; exact sum_length _) | rfl)) ?_
      | refine j_q (qs_loadw 1 Tryd.underlying40 rfl sz40 rfl rfl (by first | (rw [ints_length]; exact dg_length _) | (rw [ints_length]; exact path_take_len hyes) | (rw [ints_length]; exact sum_length _) | rfl)) ?_
      | refine j_q (qs_loadw 2 Tryd.underlying40 rfl sz40 rfl rfl (by first | (rw [ints_length]; exact dg_length _) | (rw [ints_length]; exact path_take_len hyes) | (rw [ints_length]; exact sum_length _) | rfl)) ?_
      | refine j_q (qs_loadw 3 Tryd.underlying40 rfl sz40 rfl rfl (by first | (rw [ints_length]; exact dg_length _) | (rw [ints_length]; exact path_take_len hyes) | (rw [ints_length]; exact sum_length _) | rfl)) ?_
      | refine j_q (qs_loadw 4 Tryd.underlying40 rfl sz40 rfl rfl (by first | (rw [ints_length]; exact dg_length _) | (rw [ints_length]; exact path_take_len hyes) | (rw [ints_length]; exact sum_length _) | rfl)) ?_
      | refine j_q (qs_loadw 5 Tryd.underlying40 rfl sz40 rfl rfl (by first | (rw [ints_length]; exact dg_length _) | (rw [ints_length]; exact path_take_len hyes) | (rw [ints_length]; exact sum_length _) | rfl)) ?_
    refine j_q (qs_run (v := .agg (ints (List.replicate 32 0)).toArray) (fun w => by kernel_rfl)) ?_
    refine j_call0 ent14 rfl rfl rfl (fun w' hw' => rewrite_con l (p.take 32) (List.replicate 32 0) _ w' (rsl_keep hv hw') (path_take_len hyes) rfl (by omega)) (fun u S2 hu => ?_)
    obtain ⟨ov15, c15, rfl, rfl, ho15⟩ := hu
    refine j_subl (S' := [c15, cp, [(g5, .cells (ints (p.take 32)).toArray 40 (0, 0))], [(g0, .cells (ints (List.replicate 32 0)).toArray 25 (0, 0))]]) (by repeat first | exact List.Sublist.refl _ | exact List.nil_sublist _ | apply List.Sublist.cons_cons | apply List.Sublist.cons) ?_
    refine j_q (qs_ext (vs := [ov15, .int .i64 ((plc l (p.take 32) 0).length : Int)]) rfl rfl) ?_
    refine j_q (qs_ext (vs := [ov15, .int .i64 ((plc l (p.take 32) 0).length : Int)]) rfl rfl) ?_
    refine j_q (qs_lenl Tryd.underlying43 rfl) ?_
    refine j_q (qs_mc) ?_
    refine j_loop (fun m vs S' => ∃ (i : Nat) (ov : Value) (c : SH), vs = [ov, .int .i64 (i : Int)] ∧ S' = [c, cp, [(g5, .cells (ints (p.take 32)).toArray 40 (0, 0))], [(g0, .cells (ints (List.replicate 32 0)).toArray 25 (0, 0))]] ∧ Sx.Own 5 1 (ints (mods (rew l (p.take 32) (List.replicate 32 0)) ((plc l (p.take 32) 0).take i))) ov c ∧ i ≤ (plc l (p.take 32) 0).length ∧ m = (plc l (p.take 32) 0).length - i) ⟨_, 0, _, _, rfl, rfl, (by rw [List.take_zero, mods_nil]; exact ho15), Nat.zero_le _, rfl⟩ ?_
    rintro m vs S' hlen ⟨i, ov, c, rfl, rfl, ho, hin, rfl⟩
    refine j_q (qs_lss rfl rfl) ?_
    refine j_cond rfl (fun hc1 => ?_) (fun hc1 => ?_)
    · skip
      have hi : i < (plc l (p.take 32) 0).length := by
        simp only [Bool.and_eq_true, Bool.or_eq_true, Bool.and_eq_false_iff, Bool.or_eq_false_iff, Bool.not_eq_true', Bool.not_eq_false', decide_eq_true_eq, decide_eq_false_iff_not, beq_iff_eq, beq_eq_false_iff_ne, bne_iff_ne, bne_eq_false_iff_eq, ne_eq, Int.toNat_natCast] at *
        omega
      obtain ⟨gp, rfl⟩ := own_addr hop (by rw [nats_length]; omega)
      have hq : (plc l (p.take 32) 0).getD i 0 < 10000 := hpp _ (by rw [List.getD_eq_getElem?_getD, List.getElem?_eq_getElem hi]; exact List.getElem_mem hi)
      have hal := mods_len (o := rew l (p.take 32) (List.replicate 32 0)) (ps := (plc l (p.take 32) 0).take i) (fun q hq => hpp q (List.mem_of_mem_take hq))
      rw [List.length_take, rew_len _ _ _ (by simp)] at hal
      generalize hacc : (mods (rew l (p.take 32) (List.replicate 32 0)) ((plc l (p.take 32) 0).take i)) = acc at *
      refine j_q (qs_ixl0 Tryd.underlying43 sz3 rfl rfl ⟨(by first | omega | (simp only [Bool.and_eq_true, Bool.or_eq_true, Bool.and_eq_false_iff, Bool.or_eq_false_iff, Bool.not_eq_true', Bool.not_eq_false', decide_eq_true_eq, decide_eq_false_iff_not, beq_iff_eq, beq_eq_false_iff_ne, bne_iff_ne, bne_eq_false_iff_eq, ne_eq, Int.toNat_natCast] at *; omega)), (by first | omega | (simp only [Bool.and_eq_true, Bool.or_eq_true, Bool.and_eq_false_iff, Bool.or_eq_false_iff, Bool.not_eq_true', Bool.not_eq_false', decide_eq_true_eq, decide_eq_false_iff_not, beq_iff_eq, beq_eq_false_iff_ne, bne_iff_ne, bne_eq_false_iff_eq, ne_eq, Int.toNat_natCast] at *; omega))⟩) ?_
      refine j_q (qs_loadR (vs := nats (plc l (p.take 32) 0)) (own_rd hop 1 rfl) Tryd.underlying3 rfl rfl (by simp only [Int.toNat_natCast]; exact nats_get hi)) ?_
      refine j_lit (vs := [.int .u8 _]) Tryd.underlying22 sz5 zero5 rfl (by simp [oneV]) ⟨rfl, by decide⟩ (fun g23 v23 c23 hv23 hc23 ho23 => ?_)
      subst hv23 hc23
      refine j_append 1 Tryd.underlying22 Tryd.underlying22 (.inr ⟨_, rfl⟩) sb5 zero5 rfl ho rfl (.inl ⟨_, _, rfl, own_rd ho23 0 rfl, rfl⟩) (by intro u hu; rw [List.mem_singleton] at hu; rw [hu]; rfl) ⟨(by simp only [ints_length, List.length_singleton]; omega), (by decide)⟩ (fun v24 c24 ho24 => ?_)
      have ho24' : Sx.Own 5 1 (ints (acc ++ [124])) v24 c24 := by
        rw [ints_append]
        exact ho24
      refine j_subl (S' := [c24, cp, [(g5, .cells (ints (p.take 32)).toArray 40 (0, 0))], [(g0, .cells (ints (List.replicate 32 0)).toArray 25 (0, 0))]]) (by repeat first | exact List.Sublist.refl _ | exact List.nil_sublist _ | apply List.Sublist.cons_cons | apply List.Sublist.cons) ?_
      refine j_call 0 ent15 rfl rfl rfl rfl (fun w' hw' => aint_con (acc ++ [124]) _ _ _ ho24' w' (hP.keep hw' (by simp)) (hP.not0 0 rfl hw') hq (by rw [List.length_append, List.length_singleton]; omega)) (fun u S2 hu => ?_)
      obtain ⟨c25, rfl, ho25⟩ := hu
      refine j_subl (S' := [c25, cp, [(g5, .cells (ints (p.take 32)).toArray 40 (0, 0))], [(g0, .cells (ints (List.replicate 32 0)).toArray 25 (0, 0))]]) (by repeat first | exact List.Sublist.refl _ | exact List.nil_sublist _ | apply List.Sublist.cons_cons | apply List.Sublist.cons) ?_
      refine j_q (qs_add64 rfl rfl (by first | omega | (simp only [Bool.and_eq_true, Bool.or_eq_true, Bool.and_eq_false_iff, Bool.or_eq_false_iff, Bool.not_eq_true', Bool.not_eq_false', decide_eq_true_eq, decide_eq_false_iff_not, beq_iff_eq, beq_eq_false_iff_ne, bne_iff_ne, bne_eq_false_iff_eq, ne_eq, Int.toNat_natCast] at *; omega))) ?_
      refine j_back rfl ?_
      exact ⟨(plc l (p.take 32) 0).length - (i + 1), by omega, i + 1, _, _, rfl, rfl, by rw [mods_snoc hi, hacc]; exact ho25, by omega, rfl⟩
    · skip
      obtain rfl : i = (plc l (p.take 32) 0).length := by
        simp only [Bool.and_eq_true, Bool.or_eq_true, Bool.and_eq_false_iff, Bool.or_eq_false_iff, Bool.not_eq_true', Bool.not_eq_false', decide_eq_true_eq, decide_eq_false_iff_not, beq_iff_eq, beq_eq_false_iff_ne, bne_iff_ne, bne_eq_false_iff_eq, ne_eq, Int.toNat_natCast] at *
        omega
      have hal := mods_len (o := rew l (p.take 32) (List.replicate 32 0)) hpp
      rw [rew_len _ _ _ (by simp)] at hal
      rw [List.take_of_length_le (Nat.le_refl _), show mods (rew l (p.take 32) (List.replicate 32 0)) (plc l (p.take 32) 0) = modB l (p.take 32) by unfold modB; rfl] at ho
      rw [show mods (rew l (p.take 32) (List.replicate 32 0)) (plc l (p.take 32) 0) = modB l (p.take 32) by unfold modB; rfl] at hal
      refine j_q (qs_call ent16 rfl rfl rfl (fun w' hw' => sums_con _ _ w' (by omega) (rsl_own ho 0 rfl hw'))) ?_
      first
        | refine j_storew 0 sz25 rfl rfl (by first | (rw [ints_length]; exact dg_length _) | (rw [ints_length]; exact path_take_len hyes) | (rw [ints_length]; exact sum_length _) | rfl) ints_one rfl (by first | (rw [ints_length]; exact dg_length _) | (rw [ints_length]; exact path_take_len hyes) | (rw [ints_length]; exact sum_length _) | rfl) ?_
        | refine j_storew 1 sz25 rfl rfl (by first | (rw [ints_length]; exact dg_length _) | (rw [ints_length]; exact path_take_len hyes) | (rw [ints_length]; exact sum_length _) | rfl) ints_one rfl (by first | (rw [ints_length]; exact dg_length _) | (rw [ints_length]; exact path_take_len hyes) | (rw [ints_length]; exact sum_length _) | rfl) ?_
        | refine j_storew 2 sz25 rfl rfl (by first | (rw [ints_length]; exact dg_length _) | (rw [ints_length]; exact path_take_len hyes) | (rw [ints_length]; exact sum_length _) | rfl) ints_one rfl (by first | (rw [ints_length]; exact dg_length _) | (rw [ints_length]; exact path_take_len hyes) | (rw [ints_length]; exact sum_length _) | rfl) ?_
        | refine j_storew 3 sz25 rfl rfl (by first | (rw [ints_length]; exact dg_length _) | (rw [ints_length]; exact path_take_len hyes) | (rw [ints_length]; exact sum_length _) | rfl) ints_one rfl (by first | (rw [ints_length]; exact dg_length _) | (rw [ints_length]; exact path_take_len hyes) | (rw [ints_length]; exact sum_length _) | rfl) ?_
        | refine j_storew 4 sz25 rfl rfl (by first | (rw [ints_length]; exact dg_length _) | (rw [ints_length]; exact path_take_len hyes) | (rw [ints_length]; exact sum_length _) | rfl) ints_one rfl (by first | (rw [ints_length]; exact dg_length _) | (rw [ints_length]; exact path_take_len hyes) | (rw [ints_length]; exact sum_length _) | rfl) ?_
        | refine j_storew 5 sz25 rfl rfl (by first | (rw [ints_length]; exact dg_length _) | (rw [ints_length]; exact path_take_len hyes) | (rw [ints_length]; exact sum_length _) | rfl) ints_one rfl (by first | (rw [ints_length]; exact dg_length _) | (rw [ints_length]; exact path_take_len hyes) | (rw [ints_length]; exact sum_length _) | rfl) ?_
      refine j_q (qs_ac) ?_
      first
        | refine j_ret_con (vs := [_, _]) (fun w' hw' => ⟨rv_agg 0 Tryd.underlying25 rfl sz25 rfl rfl (by first | (rw [ints_length]; exact dg_length _) | (rw [ints_length]; exact path_take_len hyes) | (rw [ints_length]; exact sum_length _) | rfl) hw', rfl, trivial⟩) ?_
        | refine j_ret_con (vs := [_, _]) (fun w' hw' => ⟨rv_agg 1 Tryd.underlying25 rfl sz25 rfl rfl (by first | (rw [ints_length]; exact dg_length _) | (rw [ints_length]; exact path_take_len hyes) | (rw [ints_length]; exact sum_length _) | rfl) hw', rfl, trivial⟩) ?_
        | refine j_ret_con (vs := [_, _]) (fun w' hw' => ⟨rv_agg 2 Tryd.underlying25 rfl sz25 rfl rfl (by first | (rw [ints_length]; exact dg_length _) | (rw [ints_length]; exact path_take_len hyes) | (rw [ints_length]; exact sum_length _) | rfl) hw', rfl, trivial⟩) ?_
        | refine j_ret_con (vs := [_, _]) (fun w' hw' => ⟨rv_agg 3 Tryd.underlying25 rfl sz25 rfl rfl (by first | (rw [ints_length]; exact dg_length _) | (rw [ints_length]; exact path_take_len hyes) | (rw [ints_length]; exact sum_length _) | rfl) hw', rfl, trivial⟩) ?_
        | refine j_ret_con (vs := [_, _]) (fun w' hw' => ⟨rv_agg 4 Tryd.underlying25 rfl sz25 rfl rfl (by first | (rw [ints_length]; exact dg_length _) | (rw [ints_length]; exact path_take_len hyes) | (rw [ints_length]; exact sum_length _) | rfl) hw', rfl, trivial⟩) ?_
        | refine j_ret_con (vs := [_, _]) (fun w' hw' => ⟨rv_agg 5 Tryd.underlying25 rfl sz25 rfl rfl (by first | (rw [ints_length]; exact dg_length _) | (rw [ints_length]; exact path_take_len hyes) | (rw [ints_length]; exact sum_length _) | rfl) hw', rfl, trivial⟩) ?_
      rw [e1, e2]
      rfl
/-- pantry.pantryref6.Modulo -/
theorem rmod_con (l p : List UInt8) (v : Value) (w : World) (hv : RSl w v (ints l)) (hp : p.length ≤ 9223372036854775807) (hl : l.length ≤ 5000) : Con Tryd.prog 6 [v, .string (bs p)] w [] fun u _ => u = .tuple #[.agg (ints (modH l p)).toArray, .int .i64 (modE p)] := by
  refine con_of_tree mix Tryd.func6 T6_ok (by kernel_rfl) ?_
  unfold T6
  refine j_alloc zero25 (fun g0 hg0 hs0 => ?_)
  refine j_q (qs_ac) ?_
  refine j_q (qs_call ent17 rfl rfl rfl (fun w' hw' => rsplit_con p w' hp)) ?_
  unfold spl
  refine j_q (qs_ext (vs := [.string (bs (spA p)), .string (bs (spB p)), .int .i64 (spE p)]) rfl rfl) ?_
  refine j_q (qs_ext (vs := [.string (bs (spA p)), .string (bs (spB p)), .int .i64 (spE p)]) rfl rfl) ?_
  refine j_q (qs_ext (vs := [.string (bs (spA p)), .string (bs (spB p)), .int .i64 (spE p)]) rfl rfl) ?_
  refine j_q (qs_neq rfl rfl) ?_
  refine j_cond rfl (fun hc0 => ?_) (fun hc0 => ?_)
  · skip
    rw [spE_ne] at hc0
    have hno : isPath p = false := by simpa using hc0
    obtain ⟨e1, e2⟩ := mod_no (l := l) hno
    refine j_q (qs_run (v := .agg (ints (List.replicate 32 0)).toArray) (fun w => by kernel_rfl)) ?_
    first
      | refine j_storew 0 sz25 rfl rfl (by first | (rw [ints_length]; exact dg_length _) | (rw [ints_length]; exact sum_length _) | rfl) ints_one rfl (by first | (rw [ints_length]; exact dg_length _) | (rw [ints_length]; exact sum_length _) | rfl) ?_
      | refine j_storew 1 sz25 rfl rfl (by first | (rw [ints_length]; exact dg_length _) | (rw [ints_length]; exact sum_length _) | rfl) ints_one rfl (by first | (rw [ints_length]; exact dg_length _) | (rw [ints_length]; exact sum_length _) | rfl) ?_
      | refine j_storew 2 sz25 rfl rfl (by first | (rw [ints_length]; exact dg_length _) | (rw [ints_length]; exact sum_length _) | rfl) ints_one rfl (by first | (rw [ints_length]; exact dg_length _) | (rw [ints_length]; exact sum_length _) | rfl) ?_
      | refine j_storew 3 sz25 rfl rfl (by first | (rw [ints_length]; exact dg_length _) | (rw [ints_length]; exact sum_length _) | rfl) ints_one rfl (by first | (rw [ints_length]; exact dg_length _) | (rw [ints_length]; exact sum_length _) | rfl) ?_
      | refine j_storew 4 sz25 rfl rfl (by first | (rw [ints_length]; exact dg_length _) | (rw [ints_length]; exact sum_length _) | rfl) ints_one rfl (by first | (rw [ints_length]; exact dg_length _) | (rw [ints_length]; exact sum_length _) | rfl) ?_
      | refine j_storew 5 sz25 rfl rfl (by first | (rw [ints_length]; exact dg_length _) | (rw [ints_length]; exact sum_length _) | rfl) ints_one rfl (by first | (rw [ints_length]; exact dg_length _) | (rw [ints_length]; exact sum_length _) | rfl) ?_
    refine j_q (qs_ac) ?_
    first
      | refine j_ret_con (vs := [_, _]) (fun w' hw' => ⟨rv_agg 0 Tryd.underlying25 rfl sz25 rfl rfl (by first | (rw [ints_length]; exact dg_length _) | (rw [ints_length]; exact sum_length _) | rfl) hw', rfl, trivial⟩) ?_
      | refine j_ret_con (vs := [_, _]) (fun w' hw' => ⟨rv_agg 1 Tryd.underlying25 rfl sz25 rfl rfl (by first | (rw [ints_length]; exact dg_length _) | (rw [ints_length]; exact sum_length _) | rfl) hw', rfl, trivial⟩) ?_
      | refine j_ret_con (vs := [_, _]) (fun w' hw' => ⟨rv_agg 2 Tryd.underlying25 rfl sz25 rfl rfl (by first | (rw [ints_length]; exact dg_length _) | (rw [ints_length]; exact sum_length _) | rfl) hw', rfl, trivial⟩) ?_
      | refine j_ret_con (vs := [_, _]) (fun w' hw' => ⟨rv_agg 3 Tryd.underlying25 rfl sz25 rfl rfl (by first | (rw [ints_length]; exact dg_length _) | (rw [ints_length]; exact sum_length _) | rfl) hw', rfl, trivial⟩) ?_
      | refine j_ret_con (vs := [_, _]) (fun w' hw' => ⟨rv_agg 4 Tryd.underlying25 rfl sz25 rfl rfl (by first | (rw [ints_length]; exact dg_length _) | (rw [ints_length]; exact sum_length _) | rfl) hw', rfl, trivial⟩) ?_
      | refine j_ret_con (vs := [_, _]) (fun w' hw' => ⟨rv_agg 5 Tryd.underlying25 rfl sz25 rfl rfl (by first | (rw [ints_length]; exact dg_length _) | (rw [ints_length]; exact sum_length _) | rfl) hw', rfl, trivial⟩) ?_
    rw [e1, e2]
    rfl
  · skip
    rw [spE_ne] at hc0
    have hyes : isPath p = true := by simpa using hc0
    obtain ⟨e1, e2⟩ := mod_yes (l := l) hyes
    rw [spA_yes hyes]
    refine j_call0 ent18 rfl rfl rfl (fun w' hw' => rplaces_con l (p.take 32) _ w' (rsl_keep hv hw') (path_take_len hyes) (by omega)) (fun u S2 hu => ?_)
    obtain ⟨cp, rfl, hop⟩ := hu
    obtain ⟨n6, A6, cap6, rfl, hn6⟩ := own_form hop (by decide)
    rw [nats_length, Nat.mul_one] at hn6
    subst hn6
    have hpl := (plc_le (l := l) (d := p.take 32) l.length 0 (by omega)).2
    have hpp : ∀ q ∈ plc l (p.take 32) 0, q < 10000 := fun q hq => by
      have := (plc_le (l := l) (d := p.take 32) l.length 0 (by omega)).1 q hq
      omega
    refine j_make Tryd.underlying22 sb5 zero5 rfl (by decide) rfl rfl (by first | omega | (simp only [Bool.and_eq_true, Bool.or_eq_true, Bool.and_eq_false_iff, Bool.or_eq_false_iff, Bool.not_eq_true', Bool.not_eq_false', decide_eq_true_eq, decide_eq_false_iff_not, beq_iff_eq, beq_eq_false_iff_ne, bne_iff_ne, bne_eq_false_iff_eq, ne_eq, Int.toNat_natCast] at *; omega)) (by first | omega | (simp only [Bool.and_eq_true, Bool.or_eq_true, Bool.and_eq_false_iff, Bool.or_eq_false_iff, Bool.not_eq_true', Bool.not_eq_false', decide_eq_true_eq, decide_eq_false_iff_not, beq_iff_eq, beq_eq_false_iff_ne, bne_iff_ne, bne_eq_false_iff_eq, ne_eq, Int.toNat_natCast] at *; omega)) (fun g11 v11 c11 hv11 hc11 ho11 => ?_)
    refine j_q (qs_stro (l := List.replicate 32 0) 0 Tryd.underlying22 Tryd.underlying5 Tryd.underlying9 ho11 rfl) ?_
    refine j_call0 ent19 rfl rfl rfl (fun w' hw' => replace_con l (p.take 32) (List.replicate 32 0) _ w' (rsl_keep hv hw') (path_take_len hyes) rfl (by omega)) (fun u S2 hu => ?_)
    obtain ⟨ov15, c15, rfl, rfl, ho15⟩ := hu
    refine j_subl (S' := [c15, cp, [(g0, .cells (ints (List.replicate 32 0)).toArray 25 (0, 0))]]) (by repeat first | exact List.Sublist.refl _ | exact List.nil_sublist _ | apply List.Sublist.cons_cons | apply List.Sublist.cons) ?_
    refine j_q (qs_ext (vs := [ov15, .int .i64 ((plc l (p.take 32) 0).length : Int)]) rfl rfl) ?_
    refine j_q (qs_ext (vs := [ov15, .int .i64 ((plc l (p.take 32) 0).length : Int)]) rfl rfl) ?_
    refine j_q (qs_ac) ?_
    refine j_loop (fun m vs S' => ∃ (i : Nat) (ov : Value) (c : SH), vs = [ov, .int .i64 (i : Int)] ∧ S' = [c, cp, [(g0, .cells (ints (List.replicate 32 0)).toArray 25 (0, 0))]] ∧ Sx.Own 5 1 (ints (mods (rew l (p.take 32) (List.replicate 32 0)) ((plc l (p.take 32) 0).take i))) ov c ∧ i ≤ (plc l (p.take 32) 0).length ∧ m = (plc l (p.take 32) 0).length - i) ⟨_, 0, _, _, rfl, rfl, (by rw [List.take_zero, mods_nil]; exact ho15), Nat.zero_le _, rfl⟩ ?_
    rintro m vs S' hlen ⟨i, ov, c, rfl, rfl, ho, hin, rfl⟩
    refine j_q (qs_lenl Tryd.underlying43 rfl) ?_
    refine j_q (qs_lss rfl rfl) ?_
    refine j_cond rfl (fun hc1 => ?_) (fun hc1 => ?_)
    · skip
      have hi : i < (plc l (p.take 32) 0).length := by
        simp only [Bool.and_eq_true, Bool.or_eq_true, Bool.and_eq_false_iff, Bool.or_eq_false_iff, Bool.not_eq_true', Bool.not_eq_false', decide_eq_true_eq, decide_eq_false_iff_not, beq_iff_eq, beq_eq_false_iff_ne, bne_iff_ne, bne_eq_false_iff_eq, ne_eq, Int.toNat_natCast] at *
        omega
      obtain ⟨gp, rfl⟩ := own_addr hop (by rw [nats_length]; omega)
      have hq : (plc l (p.take 32) 0).getD i 0 < 10000 := hpp _ (by rw [List.getD_eq_getElem?_getD, List.getElem?_eq_getElem hi]; exact List.getElem_mem hi)
      have hal := mods_len (o := rew l (p.take 32) (List.replicate 32 0)) (ps := (plc l (p.take 32) 0).take i) (fun q hq => hpp q (List.mem_of_mem_take hq))
      rw [List.length_take, rew_len _ _ _ (by simp)] at hal
      generalize hacc : (mods (rew l (p.take 32) (List.replicate 32 0)) ((plc l (p.take 32) 0).take i)) = acc at *
      refine j_lit (vs := [.int .u8 _]) Tryd.underlying22 sz5 zero5 rfl (by simp [oneV]) ⟨rfl, by decide⟩ (fun g19 v19 c19 hv19 hc19 ho19 => ?_)
      subst hv19 hc19
      refine j_append 1 Tryd.underlying22 Tryd.underlying22 (.inr ⟨_, rfl⟩) sb5 zero5 rfl ho rfl (.inl ⟨_, _, rfl, own_rd ho19 0 rfl, rfl⟩) (by intro u hu; rw [List.mem_singleton] at hu; rw [hu]; rfl) ⟨(by simp only [ints_length, List.length_singleton]; omega), (by decide)⟩ (fun v20 c20 ho20 => ?_)
      have ho20' : Sx.Own 5 1 (ints (acc ++ [124])) v20 c20 := by
        rw [ints_append]
        exact ho20
      refine j_subl (S' := [c20, cp, [(g0, .cells (ints (List.replicate 32 0)).toArray 25 (0, 0))]]) (by repeat first | exact List.Sublist.refl _ | exact List.nil_sublist _ | apply List.Sublist.cons_cons | apply List.Sublist.cons) ?_
      refine j_q (qs_ixl0 Tryd.underlying43 sz3 rfl rfl ⟨(by first | omega | (simp only [Bool.and_eq_true, Bool.or_eq_true, Bool.and_eq_false_iff, Bool.or_eq_false_iff, Bool.not_eq_true', Bool.not_eq_false', decide_eq_true_eq, decide_eq_false_iff_not, beq_iff_eq, beq_eq_false_iff_ne, bne_iff_ne, bne_eq_false_iff_eq, ne_eq, Int.toNat_natCast] at *; omega)), (by first | omega | (simp only [Bool.and_eq_true, Bool.or_eq_true, Bool.and_eq_false_iff, Bool.or_eq_false_iff, Bool.not_eq_true', Bool.not_eq_false', decide_eq_true_eq, decide_eq_false_iff_not, beq_iff_eq, beq_eq_false_iff_ne, bne_iff_ne, bne_eq_false_iff_eq, ne_eq, Int.toNat_natCast] at *; omega))⟩) ?_
      refine j_q (qs_loadR (vs := nats (plc l (p.take 32) 0)) (own_rd hop 1 rfl) Tryd.underlying3 rfl rfl (by simp only [Int.toNat_natCast]; exact nats_get hi)) ?_
      refine j_q (qs_call ent20 rfl rfl rfl (fun w' hw' => dec_con _ w' hq)) ?_
      refine j_append 0 Tryd.underlying22 Tryd.underlying9 (.inl rfl) sb5 zero5 rfl ho20' rfl (.inr (.inr ⟨_, rfl, rfl, rfl, rfl⟩)) ints_one ⟨(by have := dec_len hq; simp only [ints_length, List.length_append, List.length_singleton]; omega), (by decide)⟩ (fun v24 c24 ho24 => ?_)
      rw [← ints_append] at ho24
      refine j_q (qs_add64 rfl rfl (by first | omega | (simp only [Bool.and_eq_true, Bool.or_eq_true, Bool.and_eq_false_iff, Bool.or_eq_false_iff, Bool.not_eq_true', Bool.not_eq_false', decide_eq_true_eq, decide_eq_false_iff_not, beq_iff_eq, beq_eq_false_iff_ne, bne_iff_ne, bne_eq_false_iff_eq, ne_eq, Int.toNat_natCast] at *; omega))) ?_
      refine j_back rfl ?_
      exact ⟨(plc l (p.take 32) 0).length - (i + 1), by omega, i + 1, _, _, rfl, rfl, by rw [mods_snoc hi, hacc]; exact ho24, by omega, rfl⟩
    · skip
      obtain rfl : i = (plc l (p.take 32) 0).length := by
        simp only [Bool.and_eq_true, Bool.or_eq_true, Bool.and_eq_false_iff, Bool.or_eq_false_iff, Bool.not_eq_true', Bool.not_eq_false', decide_eq_true_eq, decide_eq_false_iff_not, beq_iff_eq, beq_eq_false_iff_ne, bne_iff_ne, bne_eq_false_iff_eq, ne_eq, Int.toNat_natCast] at *
        omega
      have hal := mods_len (o := rew l (p.take 32) (List.replicate 32 0)) hpp
      rw [rew_len _ _ _ (by simp)] at hal
      rw [List.take_of_length_le (Nat.le_refl _), show mods (rew l (p.take 32) (List.replicate 32 0)) (plc l (p.take 32) 0) = modB l (p.take 32) by unfold modB; rfl] at ho
      rw [show mods (rew l (p.take 32) (List.replicate 32 0)) (plc l (p.take 32) 0) = modB l (p.take 32) by unfold modB; rfl] at hal
      refine j_q (qs_call ent21 rfl rfl rfl (fun w' hw' => rsums_con _ _ w' (by omega) (rsl_own ho 0 rfl hw'))) ?_
      first
        | refine j_storew 0 sz25 rfl rfl (by first | (rw [ints_length]; exact dg_length _) | (rw [ints_length]; exact sum_length _) | rfl) ints_one rfl (by first | (rw [ints_length]; exact dg_length _) | (rw [ints_length]; exact sum_length _) | rfl) ?_
        | refine j_storew 1 sz25 rfl rfl (by first | (rw [ints_length]; exact dg_length _) | (rw [ints_length]; exact sum_length _) | rfl) ints_one rfl (by first | (rw [ints_length]; exact dg_length _) | (rw [ints_length]; exact sum_length _) | rfl) ?_
        | refine j_storew 2 sz25 rfl rfl (by first | (rw [ints_length]; exact dg_length _) | (rw [ints_length]; exact sum_length _) | rfl) ints_one rfl (by first | (rw [ints_length]; exact dg_length _) | (rw [ints_length]; exact sum_length _) | rfl) ?_
        | refine j_storew 3 sz25 rfl rfl (by first | (rw [ints_length]; exact dg_length _) | (rw [ints_length]; exact sum_length _) | rfl) ints_one rfl (by first | (rw [ints_length]; exact dg_length _) | (rw [ints_length]; exact sum_length _) | rfl) ?_
        | refine j_storew 4 sz25 rfl rfl (by first | (rw [ints_length]; exact dg_length _) | (rw [ints_length]; exact sum_length _) | rfl) ints_one rfl (by first | (rw [ints_length]; exact dg_length _) | (rw [ints_length]; exact sum_length _) | rfl) ?_
        | refine j_storew 5 sz25 rfl rfl (by first | (rw [ints_length]; exact dg_length _) | (rw [ints_length]; exact sum_length _) | rfl) ints_one rfl (by first | (rw [ints_length]; exact dg_length _) | (rw [ints_length]; exact sum_length _) | rfl) ?_
      refine j_q (qs_ac) ?_
      first
        | refine j_ret_con (vs := [_, _]) (fun w' hw' => ⟨rv_agg 0 Tryd.underlying25 rfl sz25 rfl rfl (by first | (rw [ints_length]; exact dg_length _) | (rw [ints_length]; exact sum_length _) | rfl) hw', rfl, trivial⟩) ?_
        | refine j_ret_con (vs := [_, _]) (fun w' hw' => ⟨rv_agg 1 Tryd.underlying25 rfl sz25 rfl rfl (by first | (rw [ints_length]; exact dg_length _) | (rw [ints_length]; exact sum_length _) | rfl) hw', rfl, trivial⟩) ?_
        | refine j_ret_con (vs := [_, _]) (fun w' hw' => ⟨rv_agg 2 Tryd.underlying25 rfl sz25 rfl rfl (by first | (rw [ints_length]; exact dg_length _) | (rw [ints_length]; exact sum_length _) | rfl) hw', rfl, trivial⟩) ?_
        | refine j_ret_con (vs := [_, _]) (fun w' hw' => ⟨rv_agg 3 Tryd.underlying25 rfl sz25 rfl rfl (by first | (rw [ints_length]; exact dg_length _) | (rw [ints_length]; exact sum_length _) | rfl) hw', rfl, trivial⟩) ?_
        | refine j_ret_con (vs := [_, _]) (fun w' hw' => ⟨rv_agg 4 Tryd.underlying25 rfl sz25 rfl rfl (by first | (rw [ints_length]; exact dg_length _) | (rw [ints_length]; exact sum_length _) | rfl) hw', rfl, trivial⟩) ?_
        | refine j_ret_con (vs := [_, _]) (fun w' hw' => ⟨rv_agg 5 Tryd.underlying25 rfl sz25 rfl rfl (by first | (rw [ints_length]; exact dg_length _) | (rw [ints_length]; exact sum_length _) | rfl) hw', rfl, trivial⟩) ?_
      rw [e1, e2]
      rfl
/-- pantry.pantrylaw6.ScanModulos -/
theorem scanModulos_con (l : List UInt8) (v : Value) (p : List UInt8) (w : World) (hv : RSl w v (ints l)) (hp : p.length ≤ 9223372036854775807) (hP : P10 w) : Con Tryd.prog 3 [v, .string (bs p)] w [] fun u _ => u = .bool true := by
  refine con_of_tree mix Tryd.func3 T3_ok (by kernel_rfl) ?_
  unfold T3
  obtain ⟨A, cap, rfl, hcap⟩ := rsl_form hv
  rw [ints_length] at hv hcap ⊢
  refine j_q (qs_ac) ?_
  refine j_q (qs_lenl Tryd.underlying22 rfl) ?_
  refine j_q (qs_gtr rfl rfl) ?_
  refine j_g rfl (fun hb => qs_mt rfl) ?_
  refine j_g rfl (fun hb => qs_lens Tryd.underlying23 (gd_eq hb)) ?_
  refine j_g rfl (fun hb => qs_gtr (gd_eq hb) rfl) ?_
  refine j_q (qs_or rfl rfl) ?_
  refine j_cond rfl (fun hc0 => ?_) (fun hc0 => ?_)
  · skip
    refine j_q (qs_ac) ?_
    refine j_ret_con (vs := [_]) (fun w' hw' => ⟨rfl, trivial⟩) ?_
    rfl
  · skip
    have hb : l.length ≤ 4000 ∧ p.length ≤ 300 := by
      simp only [Bool.and_eq_true, Bool.or_eq_true, Bool.and_eq_false_iff, Bool.or_eq_false_iff, Bool.not_eq_true', Bool.not_eq_false', decide_eq_true_eq, decide_eq_false_iff_not, beq_iff_eq, beq_eq_false_iff_ne, bne_iff_ne, bne_eq_false_iff_eq, ne_eq, Int.toNat_natCast] at *
      omega
    refine j_call0 ent5 rfl rfl rfl (fun w' hw' => pmod_con l p _ w' (rsl_keep hv hw') hp (by omega) (hP.keep hw' (by simp))) (fun u S2 hu => ?_)
    subst hu
    refine j_subl (S' := []) (by repeat first | exact List.Sublist.refl _ | exact List.nil_sublist _ | apply List.Sublist.cons_cons | apply List.Sublist.cons) ?_
    refine j_q (qs_ext (vs := [.agg (ints (modH l p)).toArray, .int .i64 (modE p)]) rfl rfl) ?_
    refine j_q (qs_ext (vs := [.agg (ints (modH l p)).toArray, .int .i64 (modE p)]) rfl rfl) ?_
    refine j_alloc zero25 (fun g11 hg11 hs11 => ?_)
    first
      | refine j_storew 0 sz25 rfl rfl (by first | (rw [ints_length]; exact modH_len _ _) | rfl) ints_one rfl (by first | (rw [ints_length]; exact modH_len _ _) | rfl) ?_
      | refine j_storew 1 sz25 rfl rfl (by first | (rw [ints_length]; exact modH_len _ _) | rfl) ints_one rfl (by first | (rw [ints_length]; exact modH_len _ _) | rfl) ?_
      | refine j_storew 2 sz25 rfl rfl (by first | (rw [ints_length]; exact modH_len _ _) | rfl) ints_one rfl (by first | (rw [ints_length]; exact modH_len _ _) | rfl) ?_
    refine j_call0 ent6 rfl rfl rfl (fun w' hw' => rmod_con l p _ w' (rsl_keep hv hw') hp (by omega)) (fun u S2 hu => ?_)
    subst hu
    refine j_subl (S' := [[(g11, .cells (ints (modH l p)).toArray 25 (0, 0))]]) (List.sublist_append_right _ _) ?_
    refine j_q (qs_ext (vs := [.agg (ints (modH l p)).toArray, .int .i64 (modE p)]) rfl rfl) ?_
    refine j_q (qs_ext (vs := [.agg (ints (modH l p)).toArray, .int .i64 (modE p)]) rfl rfl) ?_
    refine j_alloc zero25 (fun g16 hg16 hs16 => ?_)
    first
      | refine j_storew 0 sz25 rfl rfl (by first | (rw [ints_length]; exact modH_len _ _) | rfl) ints_one rfl (by first | (rw [ints_length]; exact modH_len _ _) | rfl) ?_
      | refine j_storew 1 sz25 rfl rfl (by first | (rw [ints_length]; exact modH_len _ _) | rfl) ints_one rfl (by first | (rw [ints_length]; exact modH_len _ _) | rfl) ?_
      | refine j_storew 2 sz25 rfl rfl (by first | (rw [ints_length]; exact modH_len _ _) | rfl) ints_one rfl (by first | (rw [ints_length]; exact modH_len _ _) | rfl) ?_
    first
      | refine j_q (qs_loadw 0 Tryd.underlying25 rfl sz25 rfl rfl (by first | (rw [ints_length]; exact modH_len _ _) | rfl)) ?_
      | refine j_q (qs_loadw 1 Tryd.underlying25 rfl sz25 rfl rfl (by first | (rw [ints_length]; exact modH_len _ _) | rfl)) ?_
      | refine j_q (qs_loadw 2 Tryd.underlying25 rfl sz25 rfl rfl (by first | (rw [ints_length]; exact modH_len _ _) | rfl)) ?_
    first
      | refine j_q (qs_loadw 0 Tryd.underlying25 rfl sz25 rfl rfl (by first | (rw [ints_length]; exact modH_len _ _) | rfl)) ?_
      | refine j_q (qs_loadw 1 Tryd.underlying25 rfl sz25 rfl rfl (by first | (rw [ints_length]; exact modH_len _ _) | rfl)) ?_
      | refine j_q (qs_loadw 2 Tryd.underlying25 rfl sz25 rfl rfl (by first | (rw [ints_length]; exact modH_len _ _) | rfl)) ?_
    refine j_q (qs_aeq (e := 5) Tryd.underlying25 Tryd.underlying5 (by kernel_rfl) (by kernel_rfl) (by kernel_rfl) rfl rfl (modH_len _ _) (modH_len _ _)) ?_
    refine j_g rfl (fun hb => qs_mt rfl) ?_
    refine j_g rfl (fun hb => qs_mt rfl) ?_
    refine j_g rfl (fun hb => qs_eql (gd_eq hb) (gd_eq hb)) ?_
    refine j_q (qs_and rfl rfl) ?_
    refine j_g rfl (fun hb => qs_call ent7 rfl rfl (args0) (fun w' hw' => known_con w')) ?_
    refine j_q (qs_and rfl rfl) ?_
    refine j_ret_con (vs := [_]) (fun w' hw' => ⟨rfl, trivial⟩) ?_
    show Value.bool _ = _
    congr 1
    simp [gd]
end Go.Proofs.YtkafaodhppikfaaDoor
