/- scan.begins: the table of paths by their digits. -/
import Derived.Test.YtkafaodhppikfaaDoorTa
import Derived.Test.YtkafaodhppikfaaDoorScan1
namespace Go.Proofs.YtkafaodhppikfaaDoor
open Go Go.Sx
set_option maxRecDepth 100000
set_option maxHeartbeats 4000000
set_option linter.unusedVariables false
set_option linter.unusedSimpArgs false
attribute [local irreducible] J JQ QS Con W opW
theorem ent12 : Sx.Enters Tryd.prog 12 := ⟨_, Tryd.func12, by kernel_rfl, by kernel_rfl⟩
theorem sb23 : (Tryd.prog.info? 23).map (fun i => (i.size, i.bytes)) = some (1, 16) := by kernel_rfl
theorem sz23 : (Tryd.prog.info? 23).map (·.size) = some 1 := by kernel_rfl
theorem sz85 : (Tryd.prog.info? 85).map (·.size) = some 1 := by kernel_rfl
theorem zero23 : zeroL Tryd.prog 23 = some ([.string (bs [])]) := by kernel_rfl
theorem zero88 : zeroL Tryd.prog 88 = some ([.map none, .map none]) := by kernel_rfl

open Go.MapKept Go.WideMaps Go.Maps
attribute [local irreducible] isName isPath spA spB spE allDig cp sortS rise dg
abbrev dgEnc : List UInt8 → Value := fun l => .agg (ints l).toArray
abbrev dgOk : List UInt8 → Prop := fun l => l.length = 32
/-- paths of some digits -/
def ofDig (d p : List UInt8) : Bool := isPath p && (p.take 32 == d)
structure Ent where
  d : List UInt8
  l : List (List UInt8)
  v : Value
  c : SH
/-- the table of paths: by their digits, each list in a row of its own -/
def PT (m : List (List UInt8 × Value)) (rows : SH) (ps : List (List UInt8)) : Prop :=
  ∃ tbl : List Ent, m = tbl.map (fun e => (e.d, e.v)) ∧ rows.Perm (tbl.map (·.c)).flatten ∧ (tbl.map (·.d)).Nodup ∧ (∀ e ∈ tbl, Sx.Own 23 1 (strs e.l) e.v e.c ∧ e.l = ps.filter (ofDig e.d)) ∧ ∀ p ∈ ps, isPath p = true → p.take 32 ∈ tbl.map (·.d)
theorem pt_nil : PT [] [] [] := ⟨[], rfl, by simp, by simp, by simp, by simp⟩
theorem pt_skip {m : List (List UInt8 × Value)} {rows : SH} {ps : List (List UInt8)} (h : PT m rows ps) {p : List UInt8} (hp : isPath p = false) : PT m rows (ps ++ [p]) := by
  obtain ⟨tbl, h1, h2, h3, h4, h5⟩ := h
  have hf : ∀ d, (ps ++ [p]).filter (ofDig d) = ps.filter (ofDig d) := fun d => by
    have : ofDig d p = false := by unfold ofDig; rw [hp]; rfl
    simp [List.filter_append, this]
  refine ⟨tbl, h1, h2, h3, fun e he => ⟨(h4 e he).1, by rw [hf]; exact (h4 e he).2⟩, fun q hq hqp => ?_⟩
  rcases List.mem_append.1 hq with hq | hq
  · exact h5 q hq hqp
  · rw [List.mem_singleton] at hq
    rw [hq, hp] at hqp
    cases hqp
theorem mlook_at {m : List (List UInt8 × Value)} {tbl : List Ent} (h1 : m = tbl.map (fun e => (e.d, e.v))) (h3 : (tbl.map (·.d)).Nodup) {e : Ent} (he : e ∈ tbl) : mlook m e.d = some e.v := by
  refine mlook_mem ?_ ?_
  · rw [h1, List.map_map]; exact h3
  · rw [h1]; exact List.mem_map_of_mem (f := fun e : Ent => (e.d, e.v)) he
theorem mlook_no {m : List (List UInt8 × Value)} {tbl : List Ent} (h1 : m = tbl.map (fun e => (e.d, e.v))) {d : List UInt8} (h : d ∉ tbl.map (·.d)) : mlook m d = none := by
  refine mlook_none.2 fun p hp e => h ?_
  rw [h1] at hp
  obtain ⟨x, hx, rfl⟩ := List.mem_map.1 hp
  rw [← e]
  exact List.mem_map_of_mem (f := fun e : Ent => e.d) hx
/-- the list of some digits, taken out -/
theorem pt_open {m : List (List UInt8 × Value)} {rows : SH} {ps : List (List UInt8)} (h : PT m rows ps) (d : List UInt8) :
    ∃ c0 rest v0, rows.Perm (c0 ++ rest) ∧ Sx.Own 23 1 (strs (ps.filter (ofDig d))) v0 c0 ∧ v0 = (mlook m d).getD (.slice none 0 0) ∧
      ∀ p v1 c1, isPath p = true → p.take 32 = d → Sx.Own 23 1 (strs (ps.filter (ofDig d) ++ [p])) v1 c1 → PT (mput (ment m d (.slice none 0 0)) d v1) (c1 ++ rest) (ps ++ [p]) := by
  obtain ⟨tbl, h1, h2, h3, h4, h5⟩ := h
  have hf : ∀ p d', isPath p = true → (ps ++ [p]).filter (ofDig d') = ps.filter (ofDig d') ++ (if p.take 32 = d' then [p] else []) := fun p d' hp => by
    rw [List.filter_append]
    congr 1
    have : ofDig d' p = (p.take 32 == d') := by unfold ofDig; rw [hp]; rfl
    by_cases hd : p.take 32 = d'
    · simp [this, hd]
    · simp [this, hd]
  by_cases hd : d ∈ tbl.map (·.d)
  · obtain ⟨e, he, rfl⟩ := List.mem_map.1 hd
    have hlook := mlook_at h1 h3 he
    obtain ⟨A, B, rfl⟩ := List.append_of_mem he
    obtain ⟨ho, hl⟩ := h4 e he
    refine ⟨e.c, ((A ++ B).map (·.c)).flatten, e.v, ?_, by rw [← hl]; exact ho, by rw [hlook]; rfl, fun p v1 c1 hp hpd ho1 => ?_⟩
    · refine h2.trans ?_
      simp only [List.map_append, List.map_cons, List.flatten_append, List.flatten_cons]
      exact List.perm_append_comm_assoc _ _ _
    · have hnA : ∀ x ∈ A, x.d ≠ e.d := fun x hx hxe => by
        rw [List.map_append, List.map_cons, List.nodup_append] at h3
        exact h3.2.2 _ (List.mem_map_of_mem (f := fun e : Ent => e.d) hx) _ (by simp) hxe
      have hnB : ∀ x ∈ B, x.d ≠ e.d := fun x hx hxe => by
        rw [List.map_append, List.map_cons, List.nodup_append, List.nodup_cons] at h3
        exact h3.2.1.1 (by rw [← hxe]; exact List.mem_map_of_mem (f := fun e : Ent => e.d) hx)
      have hment : ment m e.d (.slice none 0 0) = m := by unfold ment; rw [hlook]; rfl
      refine ⟨A ++ ⟨e.d, e.l ++ [p], v1, c1⟩ :: B, ?_, ?_, ?_, fun x hx => ?_, fun q hq hqp => ?_⟩
      · rw [hment, h1, mput, List.map_map, List.map_append, List.map_append, List.map_cons, List.map_cons]
        refine congr (congrArg _ (List.map_congr_left fun x hx => by simp [hnA x hx])) (congr (congrArg _ (by simp)) (List.map_congr_left fun x hx => by simp [hnB x hx]))
      · simp only [List.map_append, List.map_cons, List.flatten_append, List.flatten_cons]
        exact List.perm_append_comm_assoc _ _ _
      · simpa using h3
      · rw [List.mem_append, List.mem_cons] at hx
        rcases hx with hx | rfl | hx
        · obtain ⟨a1, a2⟩ := h4 x (by simp [hx])
          exact ⟨a1, by rw [hf p x.d hp, if_neg (fun h => hnA x hx (by rw [← hpd, h])), List.append_nil]; exact a2⟩
        · refine ⟨by rw [← hl] at ho1; exact ho1, ?_⟩
          rw [hf p e.d hp, if_pos hpd, ← hl]
        · obtain ⟨a1, a2⟩ := h4 x (by simp [hx])
          exact ⟨a1, by rw [hf p x.d hp, if_neg (fun h => hnB x hx (by rw [← hpd, h])), List.append_nil]; exact a2⟩
      · rcases List.mem_append.1 hq with hq | hq
        · have := h5 q hq hqp
          simpa using this
        · rw [List.mem_singleton] at hq
          rw [hq, hpd]
          simp
  · have hlook := mlook_no h1 hd
    have hnil : ps.filter (ofDig d) = [] := by
      rw [List.filter_eq_nil_iff]
      intro q hq hqd
      unfold ofDig at hqd
      simp only [Bool.and_eq_true, beq_iff_eq] at hqd
      exact hd (hqd.2 ▸ h5 q hq hqd.1)
    refine ⟨[], rows, _, by simp, by rw [hnil]; exact own_nil, by rw [hlook]; rfl, fun p v1 c1 hp hpd ho1 => ?_⟩
    have hment : ment m d (.slice none 0 0) = m ++ [(d, .slice none 0 0)] := by unfold ment; rw [hlook]; rfl
    have hne : ∀ x ∈ tbl, x.d ≠ d := fun x hx hxe => hd (by rw [← hxe]; exact List.mem_map_of_mem (f := fun e : Ent => e.d) hx)
    refine ⟨tbl ++ [⟨d, [p], v1, c1⟩], ?_, ?_, ?_, fun x hx => ?_, fun q hq hqp => ?_⟩
    · rw [hment, mput, List.map_append, List.map_append, h1, List.map_map]
      refine congr (congrArg _ (List.map_congr_left fun x hx => by simp [hne x hx])) (by simp)
    · rw [List.map_append, List.flatten_append]
      simp only [List.map_cons, List.map_nil, List.flatten_cons, List.flatten_nil, List.append_nil]
      exact List.perm_append_comm.trans (h2.append_right _)
    · rw [List.map_append, List.nodup_append]
      refine ⟨h3, by simp, fun a ha c hc => ?_⟩
      simp only [List.map_cons, List.map_nil, List.mem_singleton] at hc
      subst hc
      intro e
      exact hd (e ▸ ha)
    · rcases List.mem_append.1 hx with hx | hx
      · obtain ⟨a1, a2⟩ := h4 x hx
        exact ⟨a1, by rw [hf p x.d hp, if_neg (fun h => hne x hx (by rw [← hpd, h])), List.append_nil]; exact a2⟩
      · rw [List.mem_singleton] at hx
        subst hx
        rw [hnil, List.nil_append] at ho1
        exact ⟨ho1, by rw [hf p d hp, if_pos hpd, hnil]; rfl⟩
    · rcases List.mem_append.1 hq with hq | hq
      · have := h5 q hq hqp
        rw [List.map_append, List.mem_append]
        exact .inl this
      · rw [List.mem_singleton] at hq
        rw [hq, hpd]
        simp
theorem dg_path {p : List UInt8} (h : isPath p = true) : dg p = p.take 32 := by unfold dg; rw [if_pos h]
theorem path_take_len {p : List UInt8} (h : isPath p = true) : (p.take 32).length = 32 := by
  have := path_min h
  rw [List.length_take]
  omega
attribute [local irreducible] PT ofDig
theorem dgKey : KeyE Tryd.prog 40 dgEnc dgOk := bytes_key (e := 5) ⟨Tryd.underlying40, by kernel_rfl, by kernel_rfl, by kernel_rfl⟩ Tryd.underlying5 ⟨143, by kernel_rfl⟩
theorem zsl : (Tryd.prog.info? 55).bind (·.zero) = some (.slice none 0 0) := by kernel_rfl
/-- pantry.scan.begins -/
theorem begins_con (rs : List (List UInt8)) (v : Value) (w : World) (hv : StrSl w v rs) (hn : rs.length ≤ 90000) (hl : ∀ r ∈ rs, r.length ≤ 9223372036854775807) : Con Tryd.prog 33 [v] w [] fun u S' => ∃ gs g1 g2 es ck m1 rows, u = .pointer (some ⟨gs, 0, none⟩) ∧ S' = [[(gs, .cells [.map (some g1), .map (some g2)].toArray 88 (0, 0))], [(g2, .map #[] 0)], [(g1, .map es ck)], rows] ∧ MapOk dgEnc dgOk es ck m1 ∧ PT m1 rows rs := by
  refine con_of_tree mix Tryd.func33 T33_ok (by kernel_rfl) ?_
  unfold T33
  obtain ⟨A, cap, rfl, hcap⟩ := strsl_form hv
  refine j_q (qs_ac) ?_
  refine j_mkmap (fun g1 hg1 => ?_)
  refine j_mkmap (fun g2 hg2 => ?_)
  refine j_q (qs_build (places := [(0, 1), (1, 1)]) (offs := [(0, [.map (some g1)]), (1, [.map (some g2)])]) Tryd.underlying88 zero88 (by kernel_rfl) rfl (by rintro (_ | _ | j) p q hp hq <;> first | (simp at hp hq; subst hp hq; exact ⟨rfl, rfl, by simp⟩) | (simp at hp))) ?_
  refine j_box (l := [.map (some g1), .map (some g2)]) rfl (fun g4 hg4 hs4 => ?_)
  refine j_q (qs_lenl Tryd.underlying55 rfl) ?_
  refine j_q (qs_mc) ?_
  refine j_loop (fun m vs S' => ∃ (i : Nat) (es : Array MapEntry) (ck : Nat) (m1 : List (List UInt8 × Value)) (rows : SH), vs = [.int .i64 (i : Int)] ∧ S' = [[(g4, .cells [.map (some g1), .map (some g2)].toArray 88 (0, 0))], [(g2, .map #[] 0)], [(g1, .map es ck)], rows] ∧ MapOk dgEnc dgOk es ck m1 ∧ PT m1 rows (rs.take i) ∧ i ≤ rs.length ∧ m = rs.length - i) ⟨_, 0, #[], 0, [], [], rfl, rfl, mapOk_nil, pt_nil, Nat.zero_le _, rfl⟩ ?_
  rintro m vs S' hlen ⟨i, es, ck, m1, rows, rfl, rfl, hm, hpt, hin, rfl⟩
  refine j_q (qs_lss rfl rfl) ?_
  refine j_cond rfl (fun hc0 => ?_) (fun hc0 => ?_)
  · skip
    have hi : i < rs.length := by
      simp only [Bool.and_eq_true, Bool.or_eq_true, Bool.and_eq_false_iff, Bool.or_eq_false_iff, Bool.not_eq_true', Bool.not_eq_false', decide_eq_true_eq, decide_eq_false_iff_not, beq_iff_eq, beq_eq_false_iff_ne, bne_iff_ne, bne_eq_false_iff_eq, ne_eq, Int.toNat_natCast] at *
      omega
    obtain ⟨ga, off, rfl, hga, hcells⟩ := strsl_addr hv (by omega)
    refine j_q (qs_ixl0 Tryd.underlying55 sz23 rfl rfl ⟨(by first | omega | (simp only [Bool.and_eq_true, Bool.or_eq_true, Bool.and_eq_false_iff, Bool.or_eq_false_iff, Bool.not_eq_true', Bool.not_eq_false', decide_eq_true_eq, decide_eq_false_iff_not, beq_iff_eq, beq_eq_false_iff_ne, bne_iff_ne, bne_eq_false_iff_eq, ne_eq, Int.toNat_natCast] at *; omega)), (by first | omega | (simp only [Bool.and_eq_true, Bool.or_eq_true, Bool.and_eq_false_iff, Bool.or_eq_false_iff, Bool.not_eq_true', Bool.not_eq_false', decide_eq_true_eq, decide_eq_false_iff_not, beq_iff_eq, beq_eq_false_iff_ne, bne_iff_ne, bne_eq_false_iff_eq, ne_eq, Int.toNat_natCast] at *; omega))⟩) ?_
    refine j_q (qs_loadrs (rd_cells hcells (by simp)) Tryd.underlying23 rfl (by simp only [Int.toNat_natCast]; omega)) ?_
    simp only [Int.toNat_natCast]
    refine j_q (qs_call ent12 rfl rfl rfl (fun w' hw' => of_con (rs.getD i []) w' (by refine hl _ ?_; rw [List.getD_eq_getElem?_getD, List.getElem?_eq_getElem hi]; exact List.getElem_mem hi))) ?_
    refine j_q (qs_ext (vs := [.agg (ints (dg (rs.getD i []))).toArray, .bool (isPath (rs.getD i []))]) rfl rfl) ?_
    refine j_q (qs_ext (vs := [.agg (ints (dg (rs.getD i []))).toArray, .bool (isPath (rs.getD i []))]) rfl rfl) ?_
    refine j_alloc zero40 (fun g13 hg13 hs13 => ?_)
    first
      | refine j_storew 0 sz40 rfl rfl (by first | (rw [ints_length]; exact dg_length _) | rfl) ints_one rfl (by first | (rw [ints_length]; exact dg_length _) | rfl) ?_
      | refine j_storew 1 sz40 rfl rfl (by first | (rw [ints_length]; exact dg_length _) | rfl) ints_one rfl (by first | (rw [ints_length]; exact dg_length _) | rfl) ?_
      | refine j_storew 2 sz40 rfl rfl (by first | (rw [ints_length]; exact dg_length _) | rfl) ints_one rfl (by first | (rw [ints_length]; exact dg_length _) | rfl) ?_
    refine j_cond rfl (fun hc1 => ?_) (fun hc1 => ?_)
    · skip
      have hdg := dg_path hc1
      obtain ⟨c0, rest, v0, hperm, ho0, hv0, hnext⟩ := pt_open hpt ((rs.getD i []).take 32)
      have hfl : ((rs.take i).filter (ofDig ((rs.getD i []).take 32))).length ≤ i := Nat.le_trans (List.length_filter_le _ _) (by rw [List.length_take]; omega)
      refine j_perm (S' := [[(g13, .cells (ints (dg (rs.getD i []))).toArray 40 (0, 0))], [(g4, .cells [.map (some g1), .map (some g2)].toArray 88 (0, 0))], [(g2, .map #[] 0)], [(g1, .map es ck)], c0, rest]) (by simp; exact hperm) ?_
      refine j_mix [[(g13, .cells (ints (dg (rs.getD i []))).toArray 40 (0, 0))], [(g4, .cells [.map (some g1), .map (some g2)].toArray 88 (0, 0))]] (Le.of_sub (by repeat first | exact List.Sublist.refl _ | exact List.nil_sublist _ | apply List.Sublist.cons_cons | apply List.Sublist.cons)) ?_
      refine j_mq (qs_nil rfl) ?_
      refine j_mq (qs_field Tryd.underlying88 rfl sz85 (by decide) rfl) ?_
      first
        | refine j_mq (qs_load 0 Tryd.underlying85 rfl rfl rfl rfl) ?_
        | refine j_mq (qs_load 1 Tryd.underlying85 rfl rfl rfl rfl) ?_
        | refine j_mq (qs_load 2 Tryd.underlying85 rfl rfl rfl rfl) ?_
      first
        | refine j_mq (qs_loadw 0 Tryd.underlying40 rfl sz40 rfl rfl (by first | (rw [ints_length]; exact dg_length _) | rfl)) ?_
        | refine j_mq (qs_loadw 1 Tryd.underlying40 rfl sz40 rfl rfl (by first | (rw [ints_length]; exact dg_length _) | rfl)) ?_
        | refine j_mq (qs_loadw 2 Tryd.underlying40 rfl sz40 rfl rfl (by first | (rw [ints_length]; exact dg_length _) | rfl)) ?_
      refine j_lit (vs := [.string (bs _)]) Tryd.underlying55 sz23 zero23 rfl (by simp [oneV]) ⟨rfl, by decide⟩ (fun g19 v19 c19 hv19 hc19 ho19 => ?_)
      subst hv19 hc19
      refine j_mD0 (Le.of_sub (by repeat first | exact List.Sublist.refl _ | exact List.nil_sublist _ | apply List.Sublist.cons_cons | apply List.Sublist.cons)) ?_
      refine j_mapentry (z := .slice none 0 0) (key := (rs.getD i []).take 32) dgKey 4 Tryd.underlying85 zsl rfl (by show Value.agg (ints (dg (rs.getD i []))).toArray = _; rw [hdg]) rfl hm (path_take_len hc1) (fun es' ck' j e hm' hj hek => ?_)
      rw [← hv0]
      refine j_mD0 (Le.of_sub (by repeat first | exact List.Sublist.refl _ | exact List.nil_sublist _ | apply List.Sublist.cons_cons | apply List.Sublist.cons)) ?_
      refine j_mq (qs_ext (vs := [v0, .int .i64 (e.born : Int)]) rfl rfl) ?_
      refine j_mq (qs_ext (vs := [v0, .int .i64 (e.born : Int)]) rfl rfl) ?_
      refine j_append 5 Tryd.underlying55 Tryd.underlying55 (.inr ⟨_, rfl⟩) sb23 zero23 rfl ho0 rfl (.inl ⟨_, _, rfl, own_rd ho19 0 rfl, rfl⟩) (fun u hu => one_of hu) ⟨(by simp only [strs_length, List.length_cons, List.length_nil]; omega), (by decide)⟩ (fun v23 c23 ho23 => ?_)
      rw [show [Value.string (bs (rs.getD i []))] = strs [rs.getD i []] from rfl, ← strs_append] at ho23
      have hpt2 := hnext _ _ _ hc1 rfl ho23
      rw [← take_snoc hi] at hpt2
      refine j_mD0 (Le.of_sub (by repeat first | exact List.Sublist.refl _ | exact List.nil_sublist _ | apply List.Sublist.cons_cons | apply List.Sublist.cons)) ?_
      refine j_entrystore (key := (rs.getD i []).take 32) 4 dgKey.inj rfl rfl rfl rfl hm' hj hek (fun es2 ck2 hm2 => ?_)
      refine j_mD0 (Le.of_sub (by repeat first | exact List.Sublist.refl _ | exact List.nil_sublist _ | apply List.Sublist.cons_cons | apply List.Sublist.cons)) ?_
      refine j_mend ?_
      refine j_q (qs_add64 rfl rfl (by first | omega | (simp only [Bool.and_eq_true, Bool.or_eq_true, Bool.and_eq_false_iff, Bool.or_eq_false_iff, Bool.not_eq_true', Bool.not_eq_false', decide_eq_true_eq, decide_eq_false_iff_not, beq_iff_eq, beq_eq_false_iff_ne, bne_iff_ne, bne_eq_false_iff_eq, ne_eq, Int.toNat_natCast] at *; omega))) ?_
      refine j_subl (S' := [[(g4, .cells [.map (some g1), .map (some g2)].toArray 88 (0, 0))], [(g2, .map #[] 0)], [(g1, .map es2 ck2)], c23, rest]) (by repeat first | exact List.Sublist.refl _ | exact List.nil_sublist _ | apply List.Sublist.cons_cons | apply List.Sublist.cons) ?_
      refine j_perm (S' := [[(g4, .cells [.map (some g1), .map (some g2)].toArray 88 (0, 0))], [(g2, .map #[] 0)], [(g1, .map es2 ck2)], c23 ++ rest]) (by simp) ?_
      refine j_back rfl ?_
      exact ⟨rs.length - (i + 1), by omega, i + 1, es2, ck2, _, c23 ++ rest, rfl, rfl, hm2, hpt2, by omega, rfl⟩
    · skip
      refine j_q (qs_add64 rfl rfl (by first | omega | (simp only [Bool.and_eq_true, Bool.or_eq_true, Bool.and_eq_false_iff, Bool.or_eq_false_iff, Bool.not_eq_true', Bool.not_eq_false', decide_eq_true_eq, decide_eq_false_iff_not, beq_iff_eq, beq_eq_false_iff_ne, bne_iff_ne, bne_eq_false_iff_eq, ne_eq, Int.toNat_natCast] at *; omega))) ?_
      refine j_subl (S' := [[(g4, .cells [.map (some g1), .map (some g2)].toArray 88 (0, 0))], [(g2, .map #[] 0)], [(g1, .map es ck)], rows]) (by repeat first | exact List.Sublist.refl _ | exact List.nil_sublist _ | apply List.Sublist.cons_cons | apply List.Sublist.cons) ?_
      refine j_back rfl ?_
      exact ⟨rs.length - (i + 1), by omega, i + 1, es, ck, m1, rows, rfl, rfl, hm, by rw [take_snoc hi]; exact pt_skip hpt hc1, by omega, rfl⟩
  · skip
    obtain rfl : i = rs.length := by
      simp only [Bool.and_eq_true, Bool.or_eq_true, Bool.and_eq_false_iff, Bool.or_eq_false_iff, Bool.not_eq_true', Bool.not_eq_false', decide_eq_true_eq, decide_eq_false_iff_not, beq_iff_eq, beq_eq_false_iff_ne, bne_iff_ne, bne_eq_false_iff_eq, ne_eq, Int.toNat_natCast] at *
      omega
    rw [List.take_of_length_le (Nat.le_refl _)] at hpt
    refine j_ret_con (vs := [_]) (fun w' hw' => ⟨rfl, trivial⟩) ?_
    exact ⟨g4, g1, g2, es, ck, m1, rows, rfl, rfl, hm, hpt⟩
end Go.Proofs.YtkafaodhppikfaaDoor
