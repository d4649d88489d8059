/- Derivations: the law DrvBytes. -/
import Derived.Test.YtfeabbeebkkhaaaGreatTa
import Derived.Test.YtfeabbeebkkhaaaGreatDv19
namespace Go.Proofs.YtfeabbeebkkhaaaGreat
open Go Go.Sx
set_option maxRecDepth 100000
set_option maxHeartbeats 4000000
set_option linter.unusedVariables false
set_option linter.unusedSimpArgs false
attribute [local irreducible] J JQ QS Con W opW


/-- bytes that end no line -/
def Cl (l : Bs) : Prop := ∀ c ∈ l, c ≠ 9 ∧ c ≠ 10 ∧ c ≠ 13
theorem cl_nil : Cl [] := fun c h => by cases h
theorem cl_app {l m : Bs} (h1 : Cl l) (h2 : Cl m) : Cl (l ++ m) := fun c h => by
  rcases List.mem_append.1 h with h | h
  · exact h1 c h
  · exact h2 c h
theorem cl_cons {x : UInt8} {m : Bs} (h1 : x ≠ 9 ∧ x ≠ 10 ∧ x ≠ 13) (h2 : Cl m) : Cl (x :: m) := fun c h => by
  rcases List.mem_cons.1 h with rfl | h
  · exact h1
  · exact h2 c h
theorem cl_flat {l : List Bs} (h : ∀ x ∈ l, Cl x) : Cl l.flatten := fun c hc => by
  obtain ⟨x, hx, hcx⟩ := List.mem_flatten.1 hc
  exact h x hx c hcx
theorem cl_esc (c : UInt8) : Cl (esc c) := by
  unfold esc
  repeat' split
  all_goals first
    | exact cl_cons (by decide) (cl_cons (by decide) cl_nil)
    | (rename_i h1 h2 h3 h4 h5; exact cl_cons ⟨h5, h3, h4⟩ cl_nil)
theorem cl_qt (s : Bs) : Cl (qt s) := by
  unfold qt es
  refine cl_app (cl_app (cl_cons (by decide) cl_nil) (cl_flat fun x hx => ?_)) (cl_cons (by decide) cl_nil)
  obtain ⟨c, _, rfl⟩ := List.mem_map.1 hx
  exact cl_esc c
theorem cl_cms {l : List Bs} (h : ∀ x ∈ l, Cl x) : Cl (cms l) := fun c hc => by
  unfold cms at hc
  have hc2 := List.mem_of_mem_drop hc
  refine cl_flat (fun y hy => ?_) c hc2
  obtain ⟨x, hx, rfl⟩ := List.mem_map.1 hy
  exact cl_cons (by decide) (h x hx)
theorem cl_lst {o e : UInt8} {l : List Bs} (ho : o ≠ 9 ∧ o ≠ 10 ∧ o ≠ 13) (he : e ≠ 9 ∧ e ≠ 10 ∧ e ≠ 13) (h : ∀ x ∈ l, Cl x) : Cl (lst [o] l [e]) := by
  unfold lst
  exact cl_app (cl_app (cl_cons ho cl_nil) (cl_cms h)) (cl_cons he cl_nil)
theorem cl_tup {l : List Bs} (h : ∀ x ∈ l, Cl x) : Cl (tup l) := cl_lst (by decide) (by decide) h
theorem cl_ls {α : Type} (f : α → Bs) (l : List α) (h : ∀ x ∈ l, Cl (f x)) : Cl (lst [91] (l.map f) [93]) := cl_lst (by decide) (by decide) fun x hx => by
  obtain ⟨y, hy, rfl⟩ := List.mem_map.1 hx
  exact h y hy
theorem cl_tTs (l : List Bs) : Cl (tTs l) := cl_ls qt l fun x _ => cl_qt x
theorem cl_dtext (d : PD) : Cl (dtext d) := by
  unfold dtext
  refine cl_app (by unfold Cl sDerive; decide) (cl_tup fun x hx => ?_)
  simp only [List.mem_cons, List.not_mem_nil, or_false] at hx
  rcases hx with rfl | rfl | rfl | rfl | rfl | rfl | rfl | rfl
  · exact cl_qt _
  · refine cl_ls tO d.outs fun o _ => cl_tup fun x hx => ?_
    simp only [List.mem_cons, List.not_mem_nil, or_false] at hx
    rcases hx with rfl | rfl | rfl | rfl <;> exact cl_qt _
  · refine cl_ls tI d.ins fun o _ => cl_tup fun x hx => ?_
    simp only [List.mem_cons, List.not_mem_nil, or_false] at hx
    rcases hx with rfl | rfl
    · exact cl_qt _
    · exact cl_tTs _
  · exact cl_tTs _
  · exact cl_qt _
  · exact cl_qt _
  · exact cl_tTs _
  · refine cl_ls tV d.env fun o _ => cl_tup fun x hx => ?_
    simp only [List.mem_cons, List.not_mem_nil, or_false] at hx
    rcases hx with rfl | rfl <;> exact cl_qt _
abbrev dB (a b : Bs) : PD := ⟨[120], a, b, [b, a], [⟨[118] ++ a, b⟩], [], [], [⟨sOut, [], false, zHash⟩]⟩
theorem big2_dB (a b : Bs) (h : a.length + b.length ≤ 4000) : big2 (dB a b) ≤ 16000 := by
  unfold big2 big1 sl
  simp only [List.map_cons, List.map_nil, List.sum_cons, List.sum_nil, List.length_cons, List.length_nil, List.length_append]
  omega
theorem chk0_dB (a b : Bs) : chk0 (dB a b) = 0 := by
  have h1 : (isName [120] && isName ([120] ++ sDrv)) = true := by decide +kernel
  have h2 : chkOuts [⟨sOut, [], false, zHash⟩] = 0 := by decide +kernel
  have h3 : chkIns [] = 0 := rfl
  have h5 : firstE (chkV [⟨[118] ++ a, b⟩]) 1 = 0 := by
    have e : chkV [⟨[118] ++ a, b⟩] 0 = 0 := by
      unfold chkV
      rfl
    exact (show firstE (chkV [⟨[118] ++ a, b⟩]) 1 = chkV [⟨[118] ++ a, b⟩] 0 from if_neg (fun h => h rfl)).trans e
  unfold chk0
  rw [if_pos h1]
  exact orE_zero.2 ⟨h2, orE_zero.2 ⟨h3, orE_zero.2 ⟨rfl, h5⟩⟩⟩
theorem chk_dB {a b : Bs} (h : chk (dB a b) ≠ 0) : chk (dB a b) = 5 := by
  unfold chk at h ⊢
  rw [chk0_dB] at h ⊢
  unfold orE at h ⊢
  rw [if_pos rfl] at h ⊢
  split
  · rfl
  · rename_i h2
    rw [if_neg h2] at h
    exact absurd rfl h
theorem qs_strz {P : Program} {env : Env} {S : List SH} {ty : TypeId} {w0 : World} {t t' e : TypeId} {x : Operand} {l : List UInt8} (hs : P.underlying t = some (.slice e)) (he : P.underlying e = some (.int .u8)) (hd : P.underlying t' = some .string) (hr : RSl w0 (ev env x) (ints l)) : QS P (O (.convert t t' x) ty) env ⟨w0, dom []⟩ S (.string (bs l)) := by
  rcases hr with ⟨h1, h2⟩ | ⟨g, off, cap, h1, _, _, h3⟩
  · have : l = [] := by cases l <;> first | rfl | cases h2
    subst this
    exact qs_strn hs he hd h1
  · rw [ints_length] at h1
    exact qs_str hs he hd h1 (rd_cells h3 (by simp))
theorem cl_at {l : Bs} (h : Cl l) {i : Nat} (hi : i < l.length) : l.getD i 0 ≠ 9 ∧ l.getD i 0 ≠ 10 ∧ l.getD i 0 ≠ 13 := by
  rw [List.getD_eq_getElem?_getD, List.getElem?_eq_getElem hi]
  exact h _ (List.getElem_mem hi)
attribute [local irreducible] es qt cms hex Tbl Half lst isName isPath isDrvP leB chkO chkOuts chkN chkI chkIns firstE spA spB spE chkS chkV dtext chk chk0 tTs dshow big1 big2 heavyP Cl
/-- pantry.pantrylaw14.DrvBytes -/
theorem drvBytes_con (a : Bs) (va : Value) (b : Bs) (vb : Value) (w : World) (ha : RSl w va (ints a)) (hb : RSl w vb (ints b)) (hla : a.length ≤ 140737488351232) (hlb : b.length ≤ 140737488351232) : Con Tryz.prog 6 [va, vb] w [] fun v _ => v = .bool true := by
  refine con_of_tree mix Tryz.func6 T6_ok (by kernel_rfl) ?_
  unfold T6
  obtain ⟨Aa, capa, rfl, hca⟩ := rsl_form ha
  obtain ⟨Ab, capb, rfl, hcb⟩ := rsl_form hb
  have ela := ints_length a
  have elb := ints_length b
  refine j_q (qs_ac) ?_
  refine j_q (qs_lenl Tryz.underlying46 rfl) ?_
  refine j_q (qs_lenl Tryz.underlying46 rfl) ?_
  refine j_q (qs_add64 rfl rfl (by first | omega | (simp only [Bool.and_eq_true, Bool.or_eq_true, Bool.and_eq_false_iff, Bool.or_eq_false_iff, Bool.not_eq_true', Bool.not_eq_false', decide_eq_true_eq, decide_eq_false_iff_not, beq_iff_eq, beq_eq_false_iff_ne, bne_iff_ne, bne_eq_false_iff_eq, ne_eq, Int.toNat_natCast] at *; omega))) ?_
  refine j_q (qs_gtr rfl rfl) ?_
  refine j_cond rfl (fun hc0 => ?_) (fun hc0 => ?_)
  · skip
    refine j_q (qs_ac) ?_
    refine j_ret_con (vs := [_]) (fun w' hw' => ⟨rfl, trivial⟩) ?_
    rfl
  · skip
    have hl : a.length + b.length ≤ 4000 := by simp only [Bool.and_eq_true, Bool.or_eq_true, Bool.and_eq_false_iff, Bool.or_eq_false_iff, Bool.not_eq_true', Bool.not_eq_false', decide_eq_true_eq, decide_eq_false_iff_not, beq_iff_eq, beq_eq_false_iff_ne, bne_iff_ne, bne_eq_false_iff_eq, ne_eq, Int.toNat_natCast] at *; omega
    have hbig := big2_dB a b hl
    refine j_q (qs_strz (l := a) Tryz.underlying46 Tryz.underlying5 Tryz.underlying9 ha) ?_
    refine j_q (qs_strz (l := b) Tryz.underlying46 Tryz.underlying5 Tryz.underlying9 hb) ?_
    refine j_q (qs_strz (l := b) Tryz.underlying46 Tryz.underlying5 Tryz.underlying9 hb) ?_
    refine j_q (qs_strz (l := a) Tryz.underlying46 Tryz.underlying5 Tryz.underlying9 ha) ?_
    refine j_lit (vs := [.string (bs b), .string (bs a)]) Tryz.underlying22 sz9 zero9 rfl (by simp [oneV]) ⟨rfl, by decide⟩ (fun g10 v10 c10 hv10 hc10 ho10 => ?_)
    subst hv10 hc10
    refine j_q (qs_strz (l := a) Tryz.underlying46 Tryz.underlying5 Tryz.underlying9 ha) ?_
    refine j_q (qs_sadd (l := [118]) (l' := a) rfl rfl (by simp only [List.length_cons, List.length_nil, List.length_append]; omega)) ?_
    refine j_q (qs_strz (l := b) Tryz.underlying46 Tryz.underlying5 Tryz.underlying9 hb) ?_
    refine j_q (v := .agg (encV (⟨[118] ++ a, b⟩ : PV)).toArray) (qs_build (places := [(0, 1), (1, 1)]) (offs := [(0, [.string (bs ([118] ++ a))]), (1, [.string (bs b)])]) Tryz.underlying48 zero48 (by kernel_rfl) rfl (by rintro (_ | _ | _ | _ | j) p q hp hq <;> first | (simp at hp hq; subst hp hq; exact ⟨rfl, rfl, by simp⟩) | (simp at hp))) ?_
    refine j_litw (vs := encV (⟨[118] ++ a, b⟩ : PV)) Tryz.underlying23 sz48 zero48 rfl rfl ⟨rfl, by decide, by decide⟩ (fun g15 hg15 ho15 => ?_)
    refine j_q (v := .agg (encO (⟨sOut, [], false, zHash⟩ : PO)).toArray) (qs_build (places := [(0, 1), (1, 1), (2, 1), (3, 32)]) (offs := [(0, [.string (bs sOut)])]) Tryz.underlying53 zero53 (by kernel_rfl) rfl (by rintro (_ | _ | _ | _ | j) p q hp hq <;> first | (simp at hp hq; subst hp hq; exact ⟨rfl, rfl, by simp⟩) | (simp at hp))) ?_
    refine j_litw (vs := encO (⟨sOut, [], false, zHash⟩ : PO)) Tryz.underlying26 sz53 zero53 rfl rfl ⟨rfl, by decide, by decide⟩ (fun g17 hg17 ho17 => ?_)
    have hOB : DOwn (dB a b) (⟨.slice (some ⟨g10, 0, none⟩) 2 2, .slice (some ⟨g15, 0, none⟩) 1 1, nilv, nilv, .slice (some ⟨g17, 0, none⟩) 1 1, []⟩ : DV) [(g17, .cells (encO (⟨sOut, [], false, zHash⟩ : PO)).toArray 53 (0, 0))] [] [] [] [(g10, .cells [Value.string (bs b), Value.string (bs a)].toArray 9 (0, 0))] [(g15, .cells (encV (⟨[118] ++ a, b⟩ : PV)).toArray 48 (0, 0))] := ⟨by simpa using ho17, own_nil, (fun m hm => by cases hm), rfl, (fun m hm => by cases hm), own_nil, ho10, by simpa using ho15⟩
    refine j_q (v := dval (dB a b) (⟨.slice (some ⟨g10, 0, none⟩) 2 2, .slice (some ⟨g15, 0, none⟩) 1 1, nilv, nilv, .slice (some ⟨g17, 0, none⟩) 1 1, []⟩ : DV)) (qs_build (places := [(0, 1), (1, 1), (2, 1), (3, 1), (4, 1), (5, 1), (6, 1), (7, 1)]) (offs := [(0, [.string (bs [120])]), (1, [.string (bs a)]), (2, [.string (bs b)]), (3, [.slice (some ⟨g10, 0, none⟩) 2 2]), (4, [.slice (some ⟨g15, 0, none⟩) 1 1]), (7, [.slice (some ⟨g17, 0, none⟩) 1 1])]) Tryz.underlying28 zero28 (by kernel_rfl) rfl (by rintro (_ | _ | _ | _ | _ | _ | j) p q hp hq <;> first | (simp at hp hq; subst hp hq; exact ⟨rfl, rfl, by simp⟩) | (simp at hp))) ?_
    refine j_alloc zero28d (fun g19 hg19 hs19 => ?_)
    refine j_storew (l := dcells pd0 dv0) (vs := dcells (dB a b) (⟨.slice (some ⟨g10, 0, none⟩) 2 2, .slice (some ⟨g15, 0, none⟩) 1 1, nilv, nilv, .slice (some ⟨g17, 0, none⟩) 1 1, []⟩ : DV)) 0 sz28 rfl rfl rfl hOB.one rfl rfl ?_
    refine j_q (qs_loadw (l := dcells (dB a b) (⟨.slice (some ⟨g10, 0, none⟩) 2 2, .slice (some ⟨g15, 0, none⟩) 1 1, nilv, nilv, .slice (some ⟨g17, 0, none⟩) 1 1, []⟩ : DV)) 0 Tryz.underlying28 rfl sz28 rfl rfl rfl) ?_
    refine j_q (qs_call ent13 rfl rfl rfl (fun w' hw' => dprint_con (dB a b) (⟨.slice (some ⟨g10, 0, none⟩) 2 2, .slice (some ⟨g15, 0, none⟩) 1 1, nilv, nilv, .slice (some ⟨g17, 0, none⟩) 1 1, []⟩ : DV) w' (hOB.dr (fun p hp => hw'.own p (by simp at hp; rcases hp with h | h | h <;> simp [h]))) (Nat.le_trans hbig (by decide)) (fun y hy => by cases hy))) ?_
    refine j_q (qs_ext (vs := [.string (bs (prS (dB a b))), .int .i64 (chk (dB a b))]) rfl rfl) ?_
    refine j_q (qs_ext (vs := [.string (bs (prS (dB a b))), .int .i64 (chk (dB a b))]) rfl rfl) ?_
    refine j_q (qs_neq rfl rfl) ?_
    refine j_cond rfl (fun hc1 => ?_) (fun hc1 => ?_)
    · skip
      have hck : chk (dB a b) ≠ 0 := by simpa using hc1
      have hck5 := chk_dB hck
      refine j_q (qs_eql rfl rfl) ?_
      refine j_g rfl (fun hb1 => qs_call ent18 rfl rfl rfl (fun w' hw' => known_con w')) ?_
      refine j_q (qs_and rfl rfl) ?_
      refine j_ret_con (vs := [_]) (fun w' hw' => ⟨rfl, trivial⟩) ?_
      show Value.bool _ = Value.bool true
      rw [hck5]
      rfl
    · skip
      have hck : chk (dB a b) = 0 := by simpa using hc1
      have hp : prS (dB a b) = dtext (dB a b) := by unfold prS; rw [if_pos hck]
      have hlen5 := chk_len hck
      refine j_q (qs_ac) ?_
      refine j_loop (fun m vs S' => ∃ i : Nat, vs = [.int .i64 (i : Int)] ∧ S' = [[(g19, .cells (dcells (dB a b) (⟨.slice (some ⟨g10, 0, none⟩) 2 2, .slice (some ⟨g15, 0, none⟩) 1 1, nilv, nilv, .slice (some ⟨g17, 0, none⟩) 1 1, []⟩ : DV)).toArray 28 (0, 0))], [(g17, .cells (encO (⟨sOut, [], false, zHash⟩ : PO)).toArray 53 (0, 0))], [(g15, .cells (encV (⟨[118] ++ a, b⟩ : PV)).toArray 48 (0, 0))], [(g10, .cells [Value.string (bs b), Value.string (bs a)].toArray 9 (0, 0))], []] ∧ i ≤ (dtext (dB a b)).length ∧ m = (dtext (dB a b)).length - i) ⟨_, 0, rfl, rfl, Nat.zero_le _, rfl⟩ ?_
      rintro m vs S' hlen ⟨i, rfl, rfl, hin, rfl⟩
      refine j_q (qs_lens Tryz.underlying9 rfl) ?_
      refine j_q (qs_lss rfl rfl) ?_
      refine j_cond rfl (fun hc2 => ?_) (fun hc2 => ?_)
      · skip
        have hi : i < (dtext (dB a b)).length := by
          rw [hp] at hc2
          simp only [Bool.and_eq_true, Bool.or_eq_true, Bool.and_eq_false_iff, Bool.or_eq_false_iff, Bool.not_eq_true', Bool.not_eq_false', decide_eq_true_eq, decide_eq_false_iff_not, beq_iff_eq, beq_eq_false_iff_ne, bne_iff_ne, bne_eq_false_iff_eq, ne_eq, Int.toNat_natCast] at *
          omega
        have hcl := cl_at (cl_dtext (dB a b)) hi
        refine j_q (qs_idx Tryz.underlying9 rfl rfl ⟨(by first | omega | (simp only [Bool.and_eq_true, Bool.or_eq_true, Bool.and_eq_false_iff, Bool.or_eq_false_iff, Bool.not_eq_true', Bool.not_eq_false', decide_eq_true_eq, decide_eq_false_iff_not, beq_iff_eq, beq_eq_false_iff_ne, bne_iff_ne, bne_eq_false_iff_eq, ne_eq, Int.toNat_natCast] at *; omega)), (by first | omega | (simp only [Bool.and_eq_true, Bool.or_eq_true, Bool.and_eq_false_iff, Bool.or_eq_false_iff, Bool.not_eq_true', Bool.not_eq_false', decide_eq_true_eq, decide_eq_false_iff_not, beq_iff_eq, beq_eq_false_iff_ne, bne_iff_ne, bne_eq_false_iff_eq, ne_eq, Int.toNat_natCast] at *; omega))⟩) ?_
        refine j_q (qs_eql rfl rfl) ?_
        refine j_g rfl (fun hb => qs_mt rfl) ?_
        refine j_g rfl (fun hb => qs_mt rfl) ?_
        refine j_g rfl (fun hb => qs_idx Tryz.underlying9 (gd_eq hb) (gd_eq hb) ⟨(by first | omega | (simp only [Bool.and_eq_true, Bool.or_eq_true, Bool.and_eq_false_iff, Bool.or_eq_false_iff, Bool.not_eq_true', Bool.not_eq_false', decide_eq_true_eq, decide_eq_false_iff_not, beq_iff_eq, beq_eq_false_iff_ne, bne_iff_ne, bne_eq_false_iff_eq, ne_eq, Int.toNat_natCast] at *; omega)), (by first | omega | (simp only [Bool.and_eq_true, Bool.or_eq_true, Bool.and_eq_false_iff, Bool.or_eq_false_iff, Bool.not_eq_true', Bool.not_eq_false', decide_eq_true_eq, decide_eq_false_iff_not, beq_iff_eq, beq_eq_false_iff_ne, bne_iff_ne, bne_eq_false_iff_eq, ne_eq, Int.toNat_natCast] at *; omega))⟩) ?_
        refine j_g rfl (fun hb => qs_eql (gd_eq hb) rfl) ?_
        refine j_q (qs_or rfl rfl) ?_
        refine j_g rfl (fun hb => qs_mt rfl) ?_
        refine j_g rfl (fun hb => qs_mt rfl) ?_
        refine j_g rfl (fun hb => qs_idx Tryz.underlying9 (gd_eq hb) (gd_eq hb) ⟨(by first | omega | (simp only [Bool.and_eq_true, Bool.or_eq_true, Bool.and_eq_false_iff, Bool.or_eq_false_iff, Bool.not_eq_true', Bool.not_eq_false', decide_eq_true_eq, decide_eq_false_iff_not, beq_iff_eq, beq_eq_false_iff_ne, bne_iff_ne, bne_eq_false_iff_eq, ne_eq, Int.toNat_natCast] at *; omega)), (by first | omega | (simp only [Bool.and_eq_true, Bool.or_eq_true, Bool.and_eq_false_iff, Bool.or_eq_false_iff, Bool.not_eq_true', Bool.not_eq_false', decide_eq_true_eq, decide_eq_false_iff_not, beq_iff_eq, beq_eq_false_iff_ne, bne_iff_ne, bne_eq_false_iff_eq, ne_eq, Int.toNat_natCast] at *; omega))⟩) ?_
        refine j_g rfl (fun hb => qs_eql (gd_eq hb) rfl) ?_
        refine j_q (qs_or rfl rfl) ?_
        refine j_cond rfl (fun hc3 => ?_) (fun hc3 => ?_)
        · skip
          rw [hp] at hc3
          have h9 : ((dtext (dB a b)).getD i 0).toNat ≠ 9 := fun e => hcl.1 (UInt8.toNat_inj.1 e)
          have h10 : ((dtext (dB a b)).getD i 0).toNat ≠ 10 := fun e => hcl.2.1 (UInt8.toNat_inj.1 e)
          have h13 : ((dtext (dB a b)).getD i 0).toNat ≠ 13 := fun e => hcl.2.2 (UInt8.toNat_inj.1 e)
          exfalso
          simp only [Bool.and_eq_true, Bool.or_eq_true, Bool.and_eq_false_iff, Bool.or_eq_false_iff, Bool.not_eq_true', Bool.not_eq_false', decide_eq_true_eq, decide_eq_false_iff_not, beq_iff_eq, beq_eq_false_iff_ne, bne_iff_ne, bne_eq_false_iff_eq, ne_eq, Int.toNat_natCast] at *
          omega
        · skip
          refine j_q (qs_add64 rfl rfl (by first | omega | (simp only [Bool.and_eq_true, Bool.or_eq_true, Bool.and_eq_false_iff, Bool.or_eq_false_iff, Bool.not_eq_true', Bool.not_eq_false', decide_eq_true_eq, decide_eq_false_iff_not, beq_iff_eq, beq_eq_false_iff_ne, bne_iff_ne, bne_eq_false_iff_eq, ne_eq, Int.toNat_natCast] at *; omega))) ?_
          refine j_back rfl ?_
          exact ⟨(dtext (dB a b)).length - (i + 1), by omega, i + 1, rfl, rfl, by omega, rfl⟩
      · skip
        obtain rfl : i = (dtext (dB a b)).length := by
          rw [hp] at hc2
          simp only [Bool.and_eq_true, Bool.or_eq_true, Bool.and_eq_false_iff, Bool.or_eq_false_iff, Bool.not_eq_true', Bool.not_eq_false', decide_eq_true_eq, decide_eq_false_iff_not, beq_iff_eq, beq_eq_false_iff_ne, bne_iff_ne, bne_eq_false_iff_eq, ne_eq, Int.toNat_natCast] at *
          omega
        refine j_call0 ent19 rfl rfl rfl (fun w' hw' => dparse_con (prS (dB a b)) w' (by rw [hp]; have := chk_len hck; omega) (.inr ⟨dB a b, hck, hp.symm, Nat.le_trans hbig (by decide)⟩)) (fun u S2 hu => ?_)
        obtain ⟨d46, x46, e46, cO46, cI46, FI46, cS46, cA46, cV46, rfl, rfl, hO46, hor46⟩ := hu
        refine j_perm (S' := [(cV46 ++ (cA46 ++ (cS46 ++ (cI46 ++ (FI46 ++ cO46))))), [(g19, .cells (dcells (dB a b) (⟨.slice (some ⟨g10, 0, none⟩) 2 2, .slice (some ⟨g15, 0, none⟩) 1 1, nilv, nilv, .slice (some ⟨g17, 0, none⟩) 1 1, []⟩ : DV)).toArray 28 (0, 0))], [(g17, .cells (encO (⟨sOut, [], false, zHash⟩ : PO)).toArray 53 (0, 0))], [(g15, .cells (encV (⟨[118] ++ a, b⟩ : PV)).toArray 48 (0, 0))], [(g10, .cells [Value.string (bs b), Value.string (bs a)].toArray 9 (0, 0))], []]) (by simp) ?_
        have e46 : d46 = dB a b ∧ e46 = 0 := by
          rcases hor46 with ⟨h1, _, _, _, h4⟩ | ⟨_, _, _, h4⟩
          · exact ⟨h4 _ hck hp.symm, h1⟩
          · exact absurd hp.symm (h4 _ hck)
        obtain ⟨h46, h46b⟩ := e46
        subst h46 h46b
        refine j_q (qs_ext (vs := [dval (dB a b) x46, .int .i64 0]) rfl rfl) ?_
        refine j_q (qs_ext (vs := [dval (dB a b) x46, .int .i64 0]) rfl rfl) ?_
        refine j_alloc zero28d (fun g49 hg49 hs49 => ?_)
        refine j_storew (l := dcells pd0 dv0) (vs := dcells (dB a b) x46) 0 sz28 rfl rfl rfl hO46.one rfl rfl ?_
        refine j_draw ?_
        refine jq_q (qs_eql rfl rfl) ?_
        refine jq_g rfl (fun hb1 => qs_loadw (l := dcells (dB a b) x46) 0 Tryz.underlying28 rfl sz28 rfl rfl rfl) ?_
        refine jq_g rfl (fun hb1 => qs_call ent17 rfl rfl (args1 (gd_eq hb1)) (fun w' hw' => ltext_con (dB a b) x46 w' (hO46.dr (fun p hp => hw'.own p (by simp only [List.mem_append] at hp; rcases hp with ((((h | h) | h) | h) | h) | h <;> simp [h]))) hbig (fun y hy => by cases hy))) ?_
        refine jq_g rfl (fun hb1 => qs_loadw (l := dcells (dB a b) (⟨.slice (some ⟨g10, 0, none⟩) 2 2, .slice (some ⟨g15, 0, none⟩) 1 1, nilv, nilv, .slice (some ⟨g17, 0, none⟩) 1 1, []⟩ : DV)) 2 Tryz.underlying28 rfl sz28 rfl rfl rfl) ?_
        refine jq_g rfl (fun hb1 => qs_call ent17 rfl rfl (args1 (gd_eq hb1)) (fun w' hw' => ltext_con (dB a b) (⟨.slice (some ⟨g10, 0, none⟩) 2 2, .slice (some ⟨g15, 0, none⟩) 1 1, nilv, nilv, .slice (some ⟨g17, 0, none⟩) 1 1, []⟩ : DV) w' (hOB.dr (fun p hp => hw'.own p (by simp at hp; rcases hp with h | h | h <;> simp [h]))) hbig (fun y hy => by cases hy))) ?_
        refine jq_g rfl (fun hb => qs_seql (gd_eq hb) (gd_eq hb)) ?_
        refine jq_q (qs_and rfl rfl) ?_
        refine jq_g rfl (fun hb1 => qs_call ent18 rfl rfl rfl (fun w' hw' => known_con w')) ?_
        refine jq_q (qs_and rfl rfl) ?_
        refine jq_nil ?_
        refine j_ret_con (vs := [_]) (fun w' hw' => ⟨rfl, trivial⟩) ?_
        show Value.bool _ = Value.bool true
        simp
end Go.Proofs.YtfeabbeebkkhaaaGreat
