/- Locks by names, as the document has them: Leave. -/
import Derived.Test.YtlgfpoelhjlifaaTa
import Derived.Test.YtlgfpoelhjlifaaRk6
namespace Go.Proofs.Ytlgfpoelhjlifaa
open Go Go.Sx
set_option maxRecDepth 100000
set_option maxHeartbeats 4000000
set_option linter.unusedVariables false
set_option linter.unusedSimpArgs false
attribute [local irreducible] J JQ QS Con W opW
theorem sz50 : (Try.prog.info? 50).map (·.size) = some 1 := by kernel_rfl

/-- where a lock of a name stands -/
theorem rise_find {es : List RE} (h : RiseE es) {e : RE} (he : e ∈ es) : lockE es e.name = e ∧ ensureE es e.name = es ∧ findNE es e.name = some e := by
  obtain ⟨a, b, rfl⟩ := List.append_of_mem he
  unfold RiseE at h
  obtain ⟨ha, hb, hab⟩ := List.pairwise_append.1 h
  have hdw : (a ++ e :: b).dropWhile (lessN e.name) = e :: b := by
    rw [List.dropWhile_append_of_pos (p := lessN e.name) (fun x hx => hab x hx e (by simp)), List.dropWhile_cons_of_neg (by show ¬ Op.bytesLess e.name e.name = true; rw [bl_irr]; decide)]
  refine ⟨?_, ?_, ?_⟩
  · unfold lockE
    rw [hdw]
    simp only
    rw [if_pos trivial]
  · unfold ensureE
    rw [hdw]
    simp only
    rw [if_pos trivial]
  · unfold findNE
    rw [List.find?_append, List.find?_eq_none.2 (fun x hx => by
      have h1 := hab x hx e (by simp)
      simp only [beq_iff_eq]
      intro e2
      rw [e2, bl_irr] at h1
      cases h1), Option.none_or, List.find?_cons_of_pos (by simp)]
def leave1E (es : List RE) (t : Int) : List RE × List Int :=
  match findWE es t with
  | none => (es, [])
  | some e =>
    let g := goesH (e.row.filter (keepB t)) e.holds e.sh []
    (setE es ⟨e.name, g.1, g.2.1, g.2.2.1⟩, g.2.2.2)
def leaveStepE (t : Int) (s : List RE × List Int) (n : List UInt8) : List RE × List Int := if holdsE s.1 t n then ((giveE s.1 t n).1, s.2 ++ (giveE s.1 t n).2.1) else s
/-- Leave, as the document has it -/
def leaveE (es : List RE) (t : Int) : List RE × List Int := (es.map RE.name).foldl (leaveStepE t) (leave1E es t)
theorem names_set (es : List RE) (e : RE) : (setE es e).map RE.name = es.map RE.name := by
  unfold setE
  rw [List.map_map]
  refine List.map_congr_left fun x _ => ?_
  simp only [Function.comp]
  split <;> simp_all
theorem names_rise {es fs : List RE} (h : es.map RE.name = fs.map RE.name) (hr : RiseE fs) : RiseE es := by
  unfold RiseE at *
  have h1 : (es.map RE.name).Pairwise (fun a b => Op.bytesLess a b = true) := by
    rw [h, List.pairwise_map]
    exact hr
  rwa [List.pairwise_map] at h1
theorem names_give {es : List RE} (hr : RiseE es) {t : Int} {n : List UInt8} (h : holdsE es t n = true) : (giveE es t n).1.map RE.name = es.map RE.name := by
  obtain ⟨e, he, rfl⟩ : ∃ e ∈ es, e.name = n := by
    unfold holdsE at h
    cases hf : findNE es n with
    | none => rw [hf] at h; cases h
    | some e => exact ⟨e, List.mem_of_find?_eq_some hf, by simpa using List.find?_some hf⟩
  unfold giveE
  rw [if_pos h, (rise_find hr he).2.1]
  exact names_set _ _
/-- the row of the locks stands open at one of them -/
theorem RT.open4 {p : RT} {a b : List RL} {l : RL} (h : p.ls = a ++ l :: b) (oc : SH) : ([[(p.gt, p.tobj)], p.lc, (p.ls.map RL.heap).flatten, oc] : List SH).flatten.Perm ([[(p.gt, p.tobj)], p.lc, [(l.g, l.obj)], l.hc, l.rc, restR a b, oc] : List SH).flatten := by
  classical
  refine List.perm_iff_count.2 fun x => ?_
  simp only [RL.heap, restR, h, List.map_append, List.map_cons, List.flatten_append, List.flatten_cons, List.flatten_nil, List.append_nil, List.nil_append, List.cons_append, List.count_append, List.count_cons, List.count_nil] <;> omega
theorem RT.close4 {p : RT} {a b : List RL} {l : RL} (h : p.ls = a ++ l :: b) (oc : SH) : ([l.heap, [(p.gt, p.tobj)], p.lc, restR a b, oc] : List SH).flatten.Perm ([[(p.gt, p.tobj)], p.lc, (p.ls.map RL.heap).flatten, oc] : List SH).flatten := by
  classical
  refine List.perm_iff_count.2 fun x => ?_
  simp only [RL.heap, restR, h, List.map_append, List.map_cons, List.flatten_append, List.flatten_cons, List.flatten_nil, List.append_nil, List.nil_append, List.cons_append, List.count_append, List.count_cons, List.count_nil] <;> omega
theorem RT.lcload {b : Base} {S : List SH} {p : RT} {B : Nat} (hok : p.Ok B) {A : Option Addr} {cap gl : Nat} (hlv : p.lv = .slice A p.ls.length cap) (hA : 0 < p.ls.length → A = some ⟨gl, 0, none⟩) (k : Nat) (hk : S[k]? = some p.lc) (h0 : 0 < p.ls.length) : Rd b S ⟨gl, 0, none⟩ (p.ls.map ptrR) := by
  have h1 := hok.l
  rw [hlv, hA h0] at h1
  exact own_rd h1 k hk
theorem lsplit {ls : List RL} {i : Nat} (h : i < ls.length) : ls = ls.take i ++ ls.getD i RL0 :: ls.drop (i + 1) := by
  conv => lhs; rw [← List.take_append_drop (i + 1) ls, ltake h, List.append_assoc, List.singleton_append]
theorem nth_name {ls : List RL} {i : Nat} (h : i < ls.length) : (ls.map RL.name)[i]? = some (ls.getD i RL0).name := by
  rw [List.getElem?_map, lgetq h]
  rfl
/-- (*pantry.pantryref12.Table).Leave -/
theorem rleave_con (B : Nat) (hB : B < 1000) (p : RT) (t : Int) (w : World) (hok : p.Ok B) (hrise : RiseE (p.ls.map RL.e)) : Con Try.prog 30 [.pointer (some ⟨p.gt, 0, none⟩), .int .i64 t] w p.heap fun u S' => ∃ (p' : RT) (out : List Int) (oc : SH), S' = [p'.heap, oc] ∧ Sx.Own 3 1 (ks .i64 out) u oc ∧ p'.gt = p.gt ∧ p'.Ok B ∧ (p'.ls.map RL.e, out) = leaveE (p.ls.map RL.e) t ∧ out.length ≤ B * (B + 1) := by
  refine con_of_tree mix Try.func30 T30_ok (by kernel_rfl) ?_
  unfold T30
  refine j_q (qs_ac) ?_
  refine j_q (qs_ac) ?_
  refine j_q (qs_call ent48 rfl rfl rfl (fun w' hw' => rwaits_con B (by omega) p t w' (in_own hw' 0 rfl) hok)) ?_
  refine j_q (qs_pnnil Try.underlying110 rfl) ?_
  refine j_cond rfl (fun hc0 => ?_) (fun hc0 => ?_)
  · skip
    obtain ⟨l, hfw⟩ : ∃ l, findW p.ls t = some l := by
      cases h : findW p.ls t with
      | none => rw [h] at hc0; simp at hc0
      | some l => exact ⟨l, rfl⟩
    rw [hfw, Option.map_some]
    have hmem : l ∈ p.ls := List.mem_of_find?_eq_some hfw
    obtain ⟨a, b, hab⟩ := split_mem hmem
    have hlk := hok.each l hmem
    have hbk := hlk.b
    have hnd : NamesNd (a ++ l :: b) := by
      unfold NamesNd
      rw [← hab, ← names_e]
      exact rise_nd hrise
    obtain ⟨n1, A1, cap1, gr, ro, hrv, hn1, hcap1, hA1⟩ := row_first hlk.r
    subst hn1
    have hrow : l.row ≠ [] → OwnO 117 2 (askers l.row) (.slice (some ⟨gr, ro, none⟩) l.row.length cap1) l.rc := fun h => by
      rw [← hA1 h, ← hrv]
      exact hlk.r
    refine j_perm (S' := [[(p.gt, p.tobj)], p.lc, [(l.g, .cells [.string (bs l.name), .bool l.sh, l.hv, l.rv].toArray 115 (0, 0))], l.hc, l.rc, restR a b, []]) (by
      rw [List.flatten_cons, List.flatten_nil, List.append_nil]
      refine (RT.open_ hab).trans (List.Perm.of_eq ?_)
      simp [RL.heap]) ?_
    refine j_q (qs_ac) ?_
    refine j_q (qs_ac) ?_
    refine j_loop (fun m vs S' => ∃ (i : Nat) (nv : Value) (nc : SH), vs = [nv, .int .i64 (i : Int)] ∧ S' = [[(p.gt, p.tobj)], p.lc, [(l.g, .cells [.string (bs l.name), .bool l.sh, l.hv, l.rv].toArray 115 (0, 0))], l.hc, l.rc, restR a b, nc] ∧ OwnO 117 2 (askers ((l.row.take i).filter (keepB t))) nv nc ∧ i ≤ l.row.length ∧ m = l.row.length - i) ⟨_, 0, _, [], rfl, rfl, ownO_nil, Nat.zero_le _, rfl⟩ ?_
    rintro m vs S' hlen ⟨i, nv, nc, rfl, rfl, hn, hi, hmi⟩
    refine j_q (qs_nil rfl) ?_
    refine j_q (qs_field Try.underlying115 rfl sz113 (by decide) rfl) ?_
    refine j_q (qs_load (l := [.string (bs l.name), .bool l.sh, l.hv, l.rv]) 2 Try.underlying113 rfl rfl rfl rfl) ?_
    refine j_q (qs_lenl (n := l.row.length) (A := A1) (c := cap1) Try.underlying113 hrv) ?_
    refine j_q (qs_lss rfl rfl) ?_
    refine j_cond rfl (fun hc1 => ?_) (fun hc1 => ?_)
    · skip
      have hi1 : i < l.row.length := by
        simp only [Bool.and_eq_true, Bool.or_eq_true, Bool.and_eq_false_iff, Bool.or_eq_false_iff, Bool.not_eq_true', Bool.not_eq_false', decide_eq_true_eq, decide_eq_false_iff_not, beq_iff_eq, beq_eq_false_iff_ne, bne_iff_ne, bne_eq_false_iff_eq, ne_eq, Int.toNat_natCast] at *
        omega
      have hne : l.row ≠ [] := fun e => by rw [e] at hi1; simp at hi1
      have hflen := List.length_filter_le (keepB t) (l.row.take i)
      rw [List.length_take, Nat.min_eq_left (by omega)] at hflen
      have hft : (l.row.take (i + 1)).filter (keepB t) = (l.row.take i).filter (keepB t) ++ if (l.row.getD i (0, false)).1 = t then [] else [(l.row.getD i (0, false))] := by
        rw [take_succ_getD hi1, List.filter_append]
        congr 1
        by_cases he : (l.row.getD i (0, false)).1 = t
        · rw [if_pos he, List.filter_cons_of_neg (by simp only [keepB, he]; simp), List.filter_nil]
        · rw [if_neg he, List.filter_cons_of_pos (by simp only [keepB]; simpa using he), List.filter_nil]
      refine j_q (qs_nil rfl) ?_
      refine j_q (qs_field Try.underlying115 rfl sz113 (by decide) rfl) ?_
      refine j_q (qs_load (l := [.string (bs l.name), .bool l.sh, l.hv, l.rv]) 2 Try.underlying113 rfl rfl rfl rfl) ?_
      refine j_q (qs_ixn (g := gr) (off := ro) (n := l.row.length) (c := cap1) Try.underlying113 sz117 (hrv.trans (by rw [hA1 hne])) rfl hi1) ?_
      refine j_q (qs_field Try.underlying117 rfl sz3 (by decide) rfl) ?_
      refine j_q (qs_loadrec (d := (0, false)) (encA := fun x : Int × Bool => [.int .i64 x.1, .bool x.2]) (fun _ => rfl) (ownO_rd (hrow hne) 4 rfl) hi1 Try.underlying3 rfl rfl rfl) ?_
      refine j_q (qs_neq rfl rfl) ?_
      refine j_cond rfl (fun hc2 => ?_) (fun hc2 => ?_)
      · skip
        have hne2 : (l.row.getD i (0, false)).1 ≠ t := by simpa using hc2
        refine j_q (qs_nil rfl) ?_
        refine j_q (qs_field Try.underlying115 rfl sz113 (by decide) rfl) ?_
        refine j_q (qs_load (l := [.string (bs l.name), .bool l.sh, l.hv, l.rv]) 2 Try.underlying113 rfl rfl rfl rfl) ?_
        refine j_q (qs_ixn (g := gr) (off := ro) (n := l.row.length) (c := cap1) Try.underlying113 sz117 (hrv.trans (by rw [hA1 hne])) rfl hi1) ?_
        refine j_q (qs_loadrecw (d := (0, false)) (encA := fun x : Int × Bool => [.int .i64 x.1, .bool x.2]) (fun _ => rfl) (ownO_rd (hrow hne) 4 rfl) hi1 Try.underlying117 rfl sz117 rfl) ?_
        refine j_litw (vs := [.int .i64 (l.row.getD i (0, false)).1, .bool (l.row.getD i (0, false)).2]) Try.underlying113 sz117 zero117 rfl rfl ⟨rfl, by decide, by decide⟩ (fun g23 hg23 ho23 => ?_)
        refine j_appendO 7 Try.underlying113 Try.underlying113 (.inr ⟨_, rfl⟩) sb117 zero117 rfl hn rfl (.inl ⟨_, _, rfl, own_rd ho23 0 rfl, rfl⟩) (by intro u hu; simp at hu; rcases hu with rfl | rfl <;> rfl) ⟨(by rw [askers_length]; simp only [List.length_cons, List.length_nil]; omega), (by decide)⟩ (fun v24 c24 ho24 => ?_)
        have hn' : OwnO 117 2 (askers ((l.row.take (i + 1)).filter (keepB t))) v24 c24 := by
          rw [hft, if_neg hne2, askers_append]
          exact ho24
        refine j_subl (S' := [[(p.gt, p.tobj)], p.lc, [(l.g, .cells [.string (bs l.name), .bool l.sh, l.hv, l.rv].toArray 115 (0, 0))], l.hc, l.rc, restR a b, c24]) (by repeat first | exact List.Sublist.refl _ | exact List.nil_sublist _ | apply List.Sublist.cons_cons | apply List.Sublist.cons) ?_
        refine j_q (qs_add64 rfl rfl (by first | omega | (simp only [Bool.and_eq_true, Bool.or_eq_true, Bool.and_eq_false_iff, Bool.or_eq_false_iff, Bool.not_eq_true', Bool.not_eq_false', decide_eq_true_eq, decide_eq_false_iff_not, beq_iff_eq, beq_eq_false_iff_ne, bne_iff_ne, bne_eq_false_iff_eq, ne_eq, Int.toNat_natCast] at *; omega))) ?_
        refine j_back rfl ?_
        exact ⟨l.row.length - (i + 1), by omega, i + 1, _, c24, rfl, rfl, hn', by omega, rfl⟩
      · skip
        have hne2 : (l.row.getD i (0, false)).1 = t := by simpa using hc2
        rw [if_pos hne2, List.append_nil] at hft
        refine j_q (qs_add64 rfl rfl (by first | omega | (simp only [Bool.and_eq_true, Bool.or_eq_true, Bool.and_eq_false_iff, Bool.or_eq_false_iff, Bool.not_eq_true', Bool.not_eq_false', decide_eq_true_eq, decide_eq_false_iff_not, beq_iff_eq, beq_eq_false_iff_ne, bne_iff_ne, bne_eq_false_iff_eq, ne_eq, Int.toNat_natCast] at *; omega))) ?_
        refine j_back rfl ?_
        exact ⟨l.row.length - (i + 1), by omega, i + 1, nv, nc, rfl, rfl, by rw [hft]; exact hn, by omega, rfl⟩
    · skip
      obtain rfl : i = l.row.length := by
        simp only [Bool.and_eq_true, Bool.or_eq_true, Bool.and_eq_false_iff, Bool.or_eq_false_iff, Bool.not_eq_true', Bool.not_eq_false', decide_eq_true_eq, decide_eq_false_iff_not, beq_iff_eq, beq_eq_false_iff_ne, bne_iff_ne, bne_eq_false_iff_eq, ne_eq, Int.toNat_natCast] at *
        omega
      rw [List.take_of_length_le (Nat.le_refl _)] at hn
      refine j_q (qs_nil rfl) ?_
      refine j_q (qs_field Try.underlying115 rfl sz113 (by decide) rfl) ?_
      refine j_store (l := [.string (bs l.name), .bool l.sh, l.hv, l.rv]) 2 sz113 rfl rfl (by obtain ⟨n', A', cap', e', _⟩ := ownO_form hn; show oneV nv = true; rw [e']; rfl) rfl (by simp) (by simp) ?_
      have hl2 : RL.Ok B ({ l with row := l.row.filter (keepB t), rv := nv, rc := nc } : RL) := ⟨hlk.h, hn, hlk.n, by
        have h1 := List.length_filter_le (keepB t) l.row
        show l.holds.length + (l.row.filter (keepB t)).length ≤ B
        omega⟩
      refine j_subl (S' := [[(p.gt, p.tobj)], p.lc, [(l.g, .cells [.string (bs l.name), .bool l.sh, l.hv, nv].toArray 115 (0, 0))], l.hc, restR a b, nc]) (by repeat first | exact List.Sublist.refl _ | exact List.nil_sublist _ | apply List.Sublist.cons_cons | apply List.Sublist.cons) ?_
      refine j_perm (S' := [[(p.gt, p.tobj)], p.lc, RL.heap ({ l with row := l.row.filter (keepB t), rv := nv, rc := nc } : RL), restR a b]) (by
        classical
        refine List.perm_iff_count.2 fun x => ?_
        simp only [RL.heap, RL.obj, rlcells, List.flatten_cons, List.flatten_nil, List.append_nil, List.nil_append, List.cons_append, List.count_append, List.count_cons, List.count_nil] <;> omega) ?_
      refine j_call 2 ent53 rfl rfl rfl rfl (fun w' hw' => rgoes_con B (by omega) ({ l with row := l.row.filter (keepB t), rv := nv, rc := nc } : RL) w' hl2) (fun u S2 hu => ?_)
      obtain ⟨l1, out1, oc0, rfl, ho0, hl1B, hg1, hnl1, hgo1, hob1⟩ := hu
      refine j_perm (S' := [l1.heap, oc0, [(p.gt, p.tobj)], p.lc, restR a b, []]) (List.Perm.of_eq (by simp)) ?_
      refine j_append 5 Try.underlying36 Try.underlying36 (.inr ⟨_, rfl⟩) sb3 zero3 rfl own_nil rfl (own_srck ho0 1 rfl) ks_one ⟨(by simp only [ks_length, List.length_nil]; omega), (by decide)⟩ (fun v31 c31 ho31 => ?_)
      rw [List.nil_append] at ho31
      refine j_subl (S' := [l1.heap, [(p.gt, p.tobj)], p.lc, restR a b, c31]) (by repeat first | exact List.Sublist.refl _ | exact List.nil_sublist _ | apply List.Sublist.cons_cons | apply List.Sublist.cons) ?_
      obtain ⟨p1, hp1⟩ : ∃ p1, p1 = ({ p with ls := a ++ l1 :: b } : RT) := ⟨_, rfl⟩
      refine j_perm (S' := [[(p1.gt, p1.tobj)], p1.lc, (p1.ls.map RL.heap).flatten, c31]) (by
        classical
        rw [hp1]
        have h := RT.close4 (p := ({ p with ls := a ++ l1 :: b } : RT)) (l := l1) rfl c31
        refine List.perm_iff_count.2 fun x => ?_
        have h2 := List.perm_iff_count.1 h x
        simp only [List.flatten_cons, List.flatten_nil, List.append_nil, List.nil_append, List.cons_append, List.count_append, List.count_cons, List.count_nil, RT.tobj] at h2 ⊢
        omega) ?_
      have hgt1 : p1.gt = p.gt := by rw [hp1]
      have hok1 : p1.Ok B := by rw [hp1]; exact hok.put hab hg1 hl1B (Nat.le_refl _)
      have hen1 : p1.ls.map RL.e = setE (p.ls.map RL.e) l1.e := by
        have h := setE_split (l' := l1) hnd hnl1
        rw [← hab] at h
        rw [hp1]
        exact h
      have hnm1 : p1.ls.map RL.name = p.ls.map RL.name := by rw [← names_e, hen1, names_set, names_e]
      have hl1 : leave1E (p.ls.map RL.e) t = (p1.ls.map RL.e, out1) := by
        unfold leave1E
        rw [findW_e, hfw, hen1]
        show (setE _ (RE.mk l.name (goesH (l.row.filter (keepB t)) l.holds l.sh []).1 (goesH (l.row.filter (keepB t)) l.holds l.sh []).2.1 (goesH (l.row.filter (keepB t)) l.holds l.sh []).2.2.1), (goesH (l.row.filter (keepB t)) l.holds l.sh []).2.2.2) = _
        rw [show goesH (l.row.filter (keepB t)) l.holds l.sh [] = (l1.holds, l1.row, l1.sh, out1) from hgo1, show l.name = l1.name from hnl1.symm]
        rfl
      have ho1 := ho31
      refine j_q (qs_ac) ?_
      refine j_loop (fun m vs S' => ∃ (i : Nat) (pc : RT) (out : List Int) (ov : Value) (oc : SH), vs = [ov, .int .i64 (i : Int)] ∧ S' = [[(pc.gt, pc.tobj)], pc.lc, (pc.ls.map RL.heap).flatten, oc] ∧ Sx.Own 3 1 (ks .i64 out) ov oc ∧ pc.gt = p.gt ∧ pc.Ok B ∧ pc.ls.map RL.name = (p.ls.map RL.name) ∧ (pc.ls.map RL.e, out) = ((p.ls.map RL.name).take i).foldl (leaveStepE t) (p1.ls.map RL.e, out1) ∧ out.length ≤ B * (i + 1) ∧ i ≤ p.ls.length ∧ m = p.ls.length - i) ⟨_, 0, p1, out1, _, c31, rfl, rfl, ho1, hgt1, hok1, hnm1, rfl, by omega, Nat.zero_le _, rfl⟩ ?_
      rintro m vs S' hlen ⟨i, pc, out, ov, oc, rfl, rfl, ho, hgtc, hokc, hnmc, hfold, hob, hi, hmi⟩
      obtain ⟨A, cap, gl, hlv, hcap, hA⟩ := hokc.form
      have hlb := hokc.lb
      have hlen1 : pc.ls.length = p.ls.length := by
        have := congrArg List.length hnmc
        simpa using this
      rw [← hgtc]
      have hrc : RiseE (pc.ls.map RL.e) := names_rise (by rw [names_e, names_e, hnmc]) hrise
      refine j_q (qs_nil rfl) ?_
      refine j_q (qs_field Try.underlying50 rfl sz48 (by decide) rfl) ?_
      refine j_q (qs_load (l := [pc.lv]) 0 Try.underlying48 rfl rfl rfl rfl) ?_
      refine j_q (qs_lenl (n := pc.ls.length) (A := A) (c := cap) Try.underlying48 hlv) ?_
      refine j_q (qs_lss rfl rfl) ?_
      refine j_cond rfl (fun hc3 => ?_) (fun hc3 => ?_)
      · skip
        have hi1 : i < pc.ls.length := by
          simp only [Bool.and_eq_true, Bool.or_eq_true, Bool.and_eq_false_iff, Bool.or_eq_false_iff, Bool.not_eq_true', Bool.not_eq_false', decide_eq_true_eq, decide_eq_false_iff_not, beq_iff_eq, beq_eq_false_iff_ne, bne_iff_ne, bne_eq_false_iff_eq, ne_eq, Int.toNat_natCast] at *
          omega
        have hlk := hokc.each _ (lmem hi1)
        have hbk := hlk.b
        have hsp := lsplit hi1
        refine j_perm (S' := [[(pc.gt, pc.tobj)], pc.lc, [((pc.ls.getD i RL0).g, RL.obj (pc.ls.getD i RL0))], (pc.ls.getD i RL0).hc, (pc.ls.getD i RL0).rc, restR (pc.ls.take i) (pc.ls.drop (i + 1)), oc]) (RT.open4 hsp oc) ?_
        have htk : (p.ls.map RL.name).take (i + 1) = (p.ls.map RL.name).take i ++ [(pc.ls.getD i RL0).name] := by
          rw [List.take_add_one, ← hnmc, nth_name hi1]
          rfl
        have hBi : B * (i + 1) ≤ 1000000 * 1000001 := Nat.mul_le_mul (by omega) (by omega)
        have hst : ((p.ls.map RL.name).take (i + 1)).foldl (leaveStepE t) (p1.ls.map RL.e, out1) = leaveStepE t (pc.ls.map RL.e, out) (pc.ls.getD i RL0).name := by rw [htk, List.foldl_append, ← hfold]; rfl
        have hB2 : B * (i + 1) + B = B * (i + 1 + 1) := by rw [Nat.mul_add B (i + 1) 1, Nat.mul_one]
        have hmX : RL.e (pc.ls.getD i RL0) ∈ pc.ls.map RL.e := List.mem_map.2 ⟨(pc.ls.getD i RL0), lmem hi1, rfl⟩
        obtain ⟨hlE, heE, hfE⟩ := rise_find hrc hmX
        have hhE : holdsE (pc.ls.map RL.e) t (pc.ls.getD i RL0).name = hasI (pc.ls.getD i RL0).holds t := by
          unfold holdsE
          rw [show findNE (pc.ls.map RL.e) (pc.ls.getD i RL0).name = some (RL.e (pc.ls.getD i RL0)) from hfE]
          rfl
        refine j_q (qs_nil rfl) ?_
        refine j_q (qs_field Try.underlying50 rfl sz48 (by decide) rfl) ?_
        refine j_q (qs_load (l := [pc.lv]) 0 Try.underlying48 rfl rfl rfl rfl) ?_
        refine j_q (qs_ixn (g := gl) (off := 0) (n := pc.ls.length) (c := cap) Try.underlying48 sz110 (hlv.trans (by rw [hA (by omega)])) rfl hi1) ?_
        refine j_q (qs_loadR (v := ptrR (pc.ls.getD i RL0)) (a := ⟨gl, 0, none⟩) (i := i) (RT.lcload hokc hlv hA 1 rfl (by omega)) Try.underlying110 rfl (addz gl i) (lget hi1)) ?_
        refine j_q (qs_nil rfl) ?_
        refine j_q (qs_field Try.underlying115 rfl sz36 (by decide) rfl) ?_
        refine j_q (qs_load (l := [.string (bs (pc.ls.getD i RL0).name), .bool (pc.ls.getD i RL0).sh, (pc.ls.getD i RL0).hv, (pc.ls.getD i RL0).rv]) 2 Try.underlying36 rfl rfl rfl rfl) ?_
        refine j_q (qs_call ent58 rfl rfl rfl (fun w' hw' => rhas_con (pc.ls.getD i RL0).holds t _ w' (rsl_own hlk.h 3 rfl hw') (by omega))) ?_
        refine j_cond rfl (fun hc4 => ?_) (fun hc4 => ?_)
        · skip
          have hh : hasI (pc.ls.getD i RL0).holds t = true := hc4
          refine j_q (qs_nil rfl) ?_
          refine j_q (qs_field Try.underlying50 rfl sz48 (by decide) rfl) ?_
          refine j_q (qs_load (l := [pc.lv]) 0 Try.underlying48 rfl rfl rfl rfl) ?_
          refine j_q (qs_ixn (g := gl) (off := 0) (n := pc.ls.length) (c := cap) Try.underlying48 sz110 (hlv.trans (by rw [hA (by omega)])) rfl hi1) ?_
          refine j_q (qs_loadR (v := ptrR (pc.ls.getD i RL0)) (a := ⟨gl, 0, none⟩) (i := i) (RT.lcload hokc hlv hA 1 rfl (by omega)) Try.underlying110 rfl (addz gl i) (lget hi1)) ?_
          refine j_perm (S' := [[(pc.gt, pc.tobj)], pc.lc, RL.heap (pc.ls.getD i RL0), restR (pc.ls.take i) (pc.ls.drop (i + 1)), oc]) (by
            classical
            refine List.perm_iff_count.2 fun x => ?_
            simp only [RL.heap, List.flatten_cons, List.flatten_nil, List.append_nil, List.nil_append, List.cons_append, List.count_append, List.count_cons, List.count_nil] <;> omega) ?_
          refine j_call 2 ent52 rfl rfl rfl rfl (fun w' hw' => rgives_con B (by omega) (pc.ls.getD i RL0) t w' hlk) (fun u S2 hu => ?_)
          obtain ⟨l1, rfl, hl1B, hg1, hnl1, hs1, hr1, hh1⟩ := hu
          refine j_subl (S' := [l1.heap, [(pc.gt, pc.tobj)], pc.lc, restR (pc.ls.take i) (pc.ls.drop (i + 1)), oc]) (by repeat first | exact List.Sublist.refl _ | exact List.nil_sublist _ | apply List.Sublist.cons_cons | apply List.Sublist.cons) ?_
          refine j_q (qs_nil rfl) ?_
          refine j_q (qs_field Try.underlying50 rfl sz48 (by decide) rfl) ?_
          refine j_q (qs_load (l := [pc.lv]) 1 Try.underlying48 rfl rfl rfl rfl) ?_
          refine j_q (qs_ixn (g := gl) (off := 0) (n := pc.ls.length) (c := cap) Try.underlying48 sz110 (hlv.trans (by rw [hA (by omega)])) rfl hi1) ?_
          refine j_q (qs_loadR (v := ptrR (pc.ls.getD i RL0)) (a := ⟨gl, 0, none⟩) (i := i) (RT.lcload hokc hlv hA 2 rfl (by omega)) Try.underlying110 rfl (addz gl i) (lget hi1)) ?_
          rw [show ptrR (pc.ls.getD i RL0) = ptrR l1 by unfold ptrR; rw [hg1]]
          refine j_call 0 ent53 rfl rfl rfl rfl (fun w' hw' => rgoes_con B (by omega) l1 w' hl1B) (fun u S2 hu => ?_)
          obtain ⟨l2, out2, oc2, rfl, ho2, hl2B, hg2, hnl2, hgo, hol2⟩ := hu
          refine j_subl (S' := [l2.heap, oc2, [(pc.gt, pc.tobj)], pc.lc, restR (pc.ls.take i) (pc.ls.drop (i + 1)), oc]) (by repeat first | exact List.Sublist.refl _ | exact List.nil_sublist _ | apply List.Sublist.cons_cons | apply List.Sublist.cons) ?_
          refine j_append 5 Try.underlying36 Try.underlying36 (.inr ⟨_, rfl⟩) sb3 zero3 rfl ho rfl (own_srck ho2 1 rfl) ks_one ⟨(by simp only [ks_length]; omega), (by decide)⟩ (fun v59 c59 ho59 => ?_)
          have hoN : Sx.Own 3 1 (ks .i64 (out ++ out2)) v59 c59 := by
            have e : ks .i64 (out ++ out2) = ks .i64 out ++ ks .i64 out2 := by simp [ks]
            rw [e]
            exact ho59
          refine j_subl (S' := [l2.heap, [(pc.gt, pc.tobj)], pc.lc, restR (pc.ls.take i) (pc.ls.drop (i + 1)), c59]) (by repeat first | exact List.Sublist.refl _ | exact List.nil_sublist _ | apply List.Sublist.cons_cons | apply List.Sublist.cons) ?_
          have hokn : RT.Ok B ({ pc with ls := pc.ls.take i ++ l2 :: pc.ls.drop (i + 1) } : RT) := hokc.put hsp (hg2.trans hg1) hl2B (Nat.le_refl _)
          refine j_perm (S' := [[(({ pc with ls := pc.ls.take i ++ l2 :: pc.ls.drop (i + 1) } : RT).gt, RT.tobj ({ pc with ls := pc.ls.take i ++ l2 :: pc.ls.drop (i + 1) } : RT))], ({ pc with ls := pc.ls.take i ++ l2 :: pc.ls.drop (i + 1) } : RT).lc, (({ pc with ls := pc.ls.take i ++ l2 :: pc.ls.drop (i + 1) } : RT).ls.map RL.heap).flatten, c59]) (by
            classical
            have h := RT.close4 (p := ({ pc with ls := pc.ls.take i ++ l2 :: pc.ls.drop (i + 1) } : RT)) (l := l2) rfl c59
            refine List.perm_iff_count.2 fun x => ?_
            have h2 := List.perm_iff_count.1 h x
            simp only [List.flatten_cons, List.flatten_nil, List.append_nil, List.nil_append, List.cons_append, List.count_append, List.count_cons, List.count_nil, RT.tobj] at h2 ⊢
            omega) ?_
          have hndc : NamesNd (pc.ls.take i ++ (pc.ls.getD i RL0) :: pc.ls.drop (i + 1)) := by
            unfold NamesNd
            rw [← hsp, ← names_e]
            exact rise_nd hrc
          have hen : (RT.ls ({ pc with ls := pc.ls.take i ++ l2 :: pc.ls.drop (i + 1) } : RT)).map RL.e = setE (pc.ls.map RL.e) l2.e := by
            have h := setE_split (l' := l2) hndc (hnl2.trans hnl1)
            rw [← hsp] at h
            exact h
          have hgE : giveE (pc.ls.map RL.e) t (pc.ls.getD i RL0).name = ((RT.ls ({ pc with ls := pc.ls.take i ++ l2 :: pc.ls.drop (i + 1) } : RT)).map RL.e, out2, 0) := by
            unfold giveE
            rw [if_pos (by rw [hhE]; exact hh), show ensureE (pc.ls.map RL.e) (pc.ls.getD i RL0).name = _ from heE, show lockE (pc.ls.map RL.e) (pc.ls.getD i RL0).name = _ from hlE, show (RL.e (pc.ls.getD i RL0)).row = l1.row from hr1.symm, show outs t (RL.e (pc.ls.getD i RL0)).holds = l1.holds from hh1.symm, show (RL.e (pc.ls.getD i RL0)).sh = l1.sh from hs1.symm, hgo, hen]
            show (setE _ (RE.mk (pc.ls.getD i RL0).name l2.holds l2.row l2.sh), out2, (0 : Int)) = _
            rw [← hnl1, ← hnl2]
            rfl
          have hnmn : (RT.ls ({ pc with ls := pc.ls.take i ++ l2 :: pc.ls.drop (i + 1) } : RT)).map RL.name = (p.ls.map RL.name) := by
            rw [← names_e, hen, names_set, names_e, hnmc]
          refine j_q (qs_add64 rfl rfl (by first | omega | (simp only [Bool.and_eq_true, Bool.or_eq_true, Bool.and_eq_false_iff, Bool.or_eq_false_iff, Bool.not_eq_true', Bool.not_eq_false', decide_eq_true_eq, decide_eq_false_iff_not, beq_iff_eq, beq_eq_false_iff_ne, bne_iff_ne, bne_eq_false_iff_eq, ne_eq, Int.toNat_natCast] at *; omega))) ?_
          refine j_back rfl ?_
          exact ⟨p.ls.length - (i + 1), by omega, i + 1, ({ pc with ls := pc.ls.take i ++ l2 :: pc.ls.drop (i + 1) } : RT), out ++ out2, _, c59, rfl, rfl, hoN, rfl, hokn, hnmn, by
            rw [hst]
            unfold leaveStepE
            rw [if_pos (by rw [hhE]; exact hh), hgE], by rw [List.length_append]; omega, by omega, rfl⟩
        · skip
          have hh : hasI (pc.ls.getD i RL0).holds t = false := hc4
          refine j_perm (S' := [[(pc.gt, pc.tobj)], pc.lc, (pc.ls.map RL.heap).flatten, oc]) (RT.open4 hsp oc).symm ?_
          refine j_q (qs_add64 rfl rfl (by first | omega | (simp only [Bool.and_eq_true, Bool.or_eq_true, Bool.and_eq_false_iff, Bool.or_eq_false_iff, Bool.not_eq_true', Bool.not_eq_false', decide_eq_true_eq, decide_eq_false_iff_not, beq_iff_eq, beq_eq_false_iff_ne, bne_iff_ne, bne_eq_false_iff_eq, ne_eq, Int.toNat_natCast] at *; omega))) ?_
          refine j_back rfl ?_
          exact ⟨p.ls.length - (i + 1), by omega, i + 1, pc, out, _, oc, rfl, rfl, ho, rfl, hokc, hnmc, by
            rw [hst]
            unfold leaveStepE
            rw [if_neg (by rw [hhE, hh]; decide)], by omega, by omega, rfl⟩
      · skip
        obtain rfl : i = p.ls.length := by
          simp only [Bool.and_eq_true, Bool.or_eq_true, Bool.and_eq_false_iff, Bool.or_eq_false_iff, Bool.not_eq_true', Bool.not_eq_false', decide_eq_true_eq, decide_eq_false_iff_not, beq_iff_eq, beq_eq_false_iff_ne, bne_iff_ne, bne_eq_false_iff_eq, ne_eq, Int.toNat_natCast] at *
          omega
        rw [List.take_of_length_le (by rw [List.length_map]; exact Nat.le_refl _)] at hfold
        refine j_perm (S' := [pc.heap, oc]) (by simp [RT.heap]) ?_
        refine j_ret_con (vs := [_]) (fun w' hw' => ⟨rfl, trivial⟩) ?_
        refine ⟨pc, out, oc, rfl, ho, rfl, hokc, ?_, ?_⟩
        · rw [hfold]
          unfold leaveE
          rw [← hl1, names_e]
        · exact Nat.le_trans hob (Nat.mul_le_mul_left _ (by omega))
  · skip
    have hfw : findW p.ls t = none := by
      cases h : findW p.ls t with
      | none => rfl
      | some l => rw [h] at hc0; simp at hc0
    obtain ⟨p1, hp1⟩ : ∃ p1, p1 = p := ⟨p, rfl⟩
    obtain ⟨out1, hout1⟩ : ∃ o : List Int, o = [] := ⟨_, rfl⟩
    obtain ⟨oc1, hoc1⟩ : ∃ o : SH, o = [] := ⟨_, rfl⟩
    have ho1 : Sx.Own 3 1 (ks .i64 out1) (.slice none 0 0) oc1 := by rw [hout1, hoc1]; exact own_nil
    have hgt1 : p1.gt = p.gt := by rw [hp1]
    have hok1 : p1.Ok B := by rw [hp1]; exact hok
    have hnm1 : p1.ls.map RL.name = p.ls.map RL.name := by rw [hp1]
    have hl1 : leave1E (p.ls.map RL.e) t = (p1.ls.map RL.e, out1) := by
      unfold leave1E
      rw [findW_e, hfw, hp1, hout1]
      rfl
    have hob1 : out1.length ≤ B := by rw [hout1]; exact Nat.zero_le _
    refine j_perm (S' := [[(p1.gt, p1.tobj)], p1.lc, (p1.ls.map RL.heap).flatten, oc1]) (by rw [hp1, hoc1]; simp [RT.heap]) ?_
    refine j_q (qs_ac) ?_
    refine j_loop (fun m vs S' => ∃ (i : Nat) (pc : RT) (out : List Int) (ov : Value) (oc : SH), vs = [ov, .int .i64 (i : Int)] ∧ S' = [[(pc.gt, pc.tobj)], pc.lc, (pc.ls.map RL.heap).flatten, oc] ∧ Sx.Own 3 1 (ks .i64 out) ov oc ∧ pc.gt = p.gt ∧ pc.Ok B ∧ pc.ls.map RL.name = (p.ls.map RL.name) ∧ (pc.ls.map RL.e, out) = ((p.ls.map RL.name).take i).foldl (leaveStepE t) (p1.ls.map RL.e, out1) ∧ out.length ≤ B * (i + 1) ∧ i ≤ p.ls.length ∧ m = p.ls.length - i) ⟨_, 0, p1, out1, _, oc1, rfl, rfl, ho1, hgt1, hok1, hnm1, rfl, by omega, Nat.zero_le _, rfl⟩ ?_
    rintro m vs S' hlen ⟨i, pc, out, ov, oc, rfl, rfl, ho, hgtc, hokc, hnmc, hfold, hob, hi, hmi⟩
    obtain ⟨A, cap, gl, hlv, hcap, hA⟩ := hokc.form
    have hlb := hokc.lb
    have hlen1 : pc.ls.length = p.ls.length := by
      have := congrArg List.length hnmc
      simpa using this
    rw [← hgtc]
    have hrc : RiseE (pc.ls.map RL.e) := names_rise (by rw [names_e, names_e, hnmc]) hrise
    refine j_q (qs_nil rfl) ?_
    refine j_q (qs_field Try.underlying50 rfl sz48 (by decide) rfl) ?_
    refine j_q (qs_load (l := [pc.lv]) 0 Try.underlying48 rfl rfl rfl rfl) ?_
    refine j_q (qs_lenl (n := pc.ls.length) (A := A) (c := cap) Try.underlying48 hlv) ?_
    refine j_q (qs_lss rfl rfl) ?_
    refine j_cond rfl (fun hc5 => ?_) (fun hc5 => ?_)
    · skip
      have hi1 : i < pc.ls.length := by
        simp only [Bool.and_eq_true, Bool.or_eq_true, Bool.and_eq_false_iff, Bool.or_eq_false_iff, Bool.not_eq_true', Bool.not_eq_false', decide_eq_true_eq, decide_eq_false_iff_not, beq_iff_eq, beq_eq_false_iff_ne, bne_iff_ne, bne_eq_false_iff_eq, ne_eq, Int.toNat_natCast] at *
        omega
      have hlk := hokc.each _ (lmem hi1)
      have hbk := hlk.b
      have hsp := lsplit hi1
      refine j_perm (S' := [[(pc.gt, pc.tobj)], pc.lc, [((pc.ls.getD i RL0).g, RL.obj (pc.ls.getD i RL0))], (pc.ls.getD i RL0).hc, (pc.ls.getD i RL0).rc, restR (pc.ls.take i) (pc.ls.drop (i + 1)), oc]) (RT.open4 hsp oc) ?_
      have htk : (p.ls.map RL.name).take (i + 1) = (p.ls.map RL.name).take i ++ [(pc.ls.getD i RL0).name] := by
        rw [List.take_add_one, ← hnmc, nth_name hi1]
        rfl
      have hBi : B * (i + 1) ≤ 1000000 * 1000001 := Nat.mul_le_mul (by omega) (by omega)
      have hst : ((p.ls.map RL.name).take (i + 1)).foldl (leaveStepE t) (p1.ls.map RL.e, out1) = leaveStepE t (pc.ls.map RL.e, out) (pc.ls.getD i RL0).name := by rw [htk, List.foldl_append, ← hfold]; rfl
      have hB2 : B * (i + 1) + B = B * (i + 1 + 1) := by rw [Nat.mul_add B (i + 1) 1, Nat.mul_one]
      have hmX : RL.e (pc.ls.getD i RL0) ∈ pc.ls.map RL.e := List.mem_map.2 ⟨(pc.ls.getD i RL0), lmem hi1, rfl⟩
      obtain ⟨hlE, heE, hfE⟩ := rise_find hrc hmX
      have hhE : holdsE (pc.ls.map RL.e) t (pc.ls.getD i RL0).name = hasI (pc.ls.getD i RL0).holds t := by
        unfold holdsE
        rw [show findNE (pc.ls.map RL.e) (pc.ls.getD i RL0).name = some (RL.e (pc.ls.getD i RL0)) from hfE]
        rfl
      refine j_q (qs_nil rfl) ?_
      refine j_q (qs_field Try.underlying50 rfl sz48 (by decide) rfl) ?_
      refine j_q (qs_load (l := [pc.lv]) 0 Try.underlying48 rfl rfl rfl rfl) ?_
      refine j_q (qs_ixn (g := gl) (off := 0) (n := pc.ls.length) (c := cap) Try.underlying48 sz110 (hlv.trans (by rw [hA (by omega)])) rfl hi1) ?_
      refine j_q (qs_loadR (v := ptrR (pc.ls.getD i RL0)) (a := ⟨gl, 0, none⟩) (i := i) (RT.lcload hokc hlv hA 1 rfl (by omega)) Try.underlying110 rfl (addz gl i) (lget hi1)) ?_
      refine j_q (qs_nil rfl) ?_
      refine j_q (qs_field Try.underlying115 rfl sz36 (by decide) rfl) ?_
      refine j_q (qs_load (l := [.string (bs (pc.ls.getD i RL0).name), .bool (pc.ls.getD i RL0).sh, (pc.ls.getD i RL0).hv, (pc.ls.getD i RL0).rv]) 2 Try.underlying36 rfl rfl rfl rfl) ?_
      refine j_q (qs_call ent58 rfl rfl rfl (fun w' hw' => rhas_con (pc.ls.getD i RL0).holds t _ w' (rsl_own hlk.h 3 rfl hw') (by omega))) ?_
      refine j_cond rfl (fun hc6 => ?_) (fun hc6 => ?_)
      · skip
        have hh : hasI (pc.ls.getD i RL0).holds t = true := hc6
        refine j_q (qs_nil rfl) ?_
        refine j_q (qs_field Try.underlying50 rfl sz48 (by decide) rfl) ?_
        refine j_q (qs_load (l := [pc.lv]) 0 Try.underlying48 rfl rfl rfl rfl) ?_
        refine j_q (qs_ixn (g := gl) (off := 0) (n := pc.ls.length) (c := cap) Try.underlying48 sz110 (hlv.trans (by rw [hA (by omega)])) rfl hi1) ?_
        refine j_q (qs_loadR (v := ptrR (pc.ls.getD i RL0)) (a := ⟨gl, 0, none⟩) (i := i) (RT.lcload hokc hlv hA 1 rfl (by omega)) Try.underlying110 rfl (addz gl i) (lget hi1)) ?_
        refine j_perm (S' := [[(pc.gt, pc.tobj)], pc.lc, RL.heap (pc.ls.getD i RL0), restR (pc.ls.take i) (pc.ls.drop (i + 1)), oc]) (by
          classical
          refine List.perm_iff_count.2 fun x => ?_
          simp only [RL.heap, List.flatten_cons, List.flatten_nil, List.append_nil, List.nil_append, List.cons_append, List.count_append, List.count_cons, List.count_nil] <;> omega) ?_
        refine j_call 2 ent52 rfl rfl rfl rfl (fun w' hw' => rgives_con B (by omega) (pc.ls.getD i RL0) t w' hlk) (fun u S2 hu => ?_)
        obtain ⟨l1, rfl, hl1B, hg1, hnl1, hs1, hr1, hh1⟩ := hu
        refine j_subl (S' := [l1.heap, [(pc.gt, pc.tobj)], pc.lc, restR (pc.ls.take i) (pc.ls.drop (i + 1)), oc]) (by repeat first | exact List.Sublist.refl _ | exact List.nil_sublist _ | apply List.Sublist.cons_cons | apply List.Sublist.cons) ?_
        refine j_q (qs_nil rfl) ?_
        refine j_q (qs_field Try.underlying50 rfl sz48 (by decide) rfl) ?_
        refine j_q (qs_load (l := [pc.lv]) 1 Try.underlying48 rfl rfl rfl rfl) ?_
        refine j_q (qs_ixn (g := gl) (off := 0) (n := pc.ls.length) (c := cap) Try.underlying48 sz110 (hlv.trans (by rw [hA (by omega)])) rfl hi1) ?_
        refine j_q (qs_loadR (v := ptrR (pc.ls.getD i RL0)) (a := ⟨gl, 0, none⟩) (i := i) (RT.lcload hokc hlv hA 2 rfl (by omega)) Try.underlying110 rfl (addz gl i) (lget hi1)) ?_
        rw [show ptrR (pc.ls.getD i RL0) = ptrR l1 by unfold ptrR; rw [hg1]]
        refine j_call 0 ent53 rfl rfl rfl rfl (fun w' hw' => rgoes_con B (by omega) l1 w' hl1B) (fun u S2 hu => ?_)
        obtain ⟨l2, out2, oc2, rfl, ho2, hl2B, hg2, hnl2, hgo, hol2⟩ := hu
        refine j_subl (S' := [l2.heap, oc2, [(pc.gt, pc.tobj)], pc.lc, restR (pc.ls.take i) (pc.ls.drop (i + 1)), oc]) (by repeat first | exact List.Sublist.refl _ | exact List.nil_sublist _ | apply List.Sublist.cons_cons | apply List.Sublist.cons) ?_
        refine j_append 5 Try.underlying36 Try.underlying36 (.inr ⟨_, rfl⟩) sb3 zero3 rfl ho rfl (own_srck ho2 1 rfl) ks_one ⟨(by simp only [ks_length]; omega), (by decide)⟩ (fun v89 c89 ho89 => ?_)
        have hoN : Sx.Own 3 1 (ks .i64 (out ++ out2)) v89 c89 := by
          have e : ks .i64 (out ++ out2) = ks .i64 out ++ ks .i64 out2 := by simp [ks]
          rw [e]
          exact ho89
        refine j_subl (S' := [l2.heap, [(pc.gt, pc.tobj)], pc.lc, restR (pc.ls.take i) (pc.ls.drop (i + 1)), c89]) (by repeat first | exact List.Sublist.refl _ | exact List.nil_sublist _ | apply List.Sublist.cons_cons | apply List.Sublist.cons) ?_
        have hokn : RT.Ok B ({ pc with ls := pc.ls.take i ++ l2 :: pc.ls.drop (i + 1) } : RT) := hokc.put hsp (hg2.trans hg1) hl2B (Nat.le_refl _)
        refine j_perm (S' := [[(({ pc with ls := pc.ls.take i ++ l2 :: pc.ls.drop (i + 1) } : RT).gt, RT.tobj ({ pc with ls := pc.ls.take i ++ l2 :: pc.ls.drop (i + 1) } : RT))], ({ pc with ls := pc.ls.take i ++ l2 :: pc.ls.drop (i + 1) } : RT).lc, (({ pc with ls := pc.ls.take i ++ l2 :: pc.ls.drop (i + 1) } : RT).ls.map RL.heap).flatten, c89]) (by
          classical
          have h := RT.close4 (p := ({ pc with ls := pc.ls.take i ++ l2 :: pc.ls.drop (i + 1) } : RT)) (l := l2) rfl c89
          refine List.perm_iff_count.2 fun x => ?_
          have h2 := List.perm_iff_count.1 h x
          simp only [List.flatten_cons, List.flatten_nil, List.append_nil, List.nil_append, List.cons_append, List.count_append, List.count_cons, List.count_nil, RT.tobj] at h2 ⊢
          omega) ?_
        have hndc : NamesNd (pc.ls.take i ++ (pc.ls.getD i RL0) :: pc.ls.drop (i + 1)) := by
          unfold NamesNd
          rw [← hsp, ← names_e]
          exact rise_nd hrc
        have hen : (RT.ls ({ pc with ls := pc.ls.take i ++ l2 :: pc.ls.drop (i + 1) } : RT)).map RL.e = setE (pc.ls.map RL.e) l2.e := by
          have h := setE_split (l' := l2) hndc (hnl2.trans hnl1)
          rw [← hsp] at h
          exact h
        have hgE : giveE (pc.ls.map RL.e) t (pc.ls.getD i RL0).name = ((RT.ls ({ pc with ls := pc.ls.take i ++ l2 :: pc.ls.drop (i + 1) } : RT)).map RL.e, out2, 0) := by
          unfold giveE
          rw [if_pos (by rw [hhE]; exact hh), show ensureE (pc.ls.map RL.e) (pc.ls.getD i RL0).name = _ from heE, show lockE (pc.ls.map RL.e) (pc.ls.getD i RL0).name = _ from hlE, show (RL.e (pc.ls.getD i RL0)).row = l1.row from hr1.symm, show outs t (RL.e (pc.ls.getD i RL0)).holds = l1.holds from hh1.symm, show (RL.e (pc.ls.getD i RL0)).sh = l1.sh from hs1.symm, hgo, hen]
          show (setE _ (RE.mk (pc.ls.getD i RL0).name l2.holds l2.row l2.sh), out2, (0 : Int)) = _
          rw [← hnl1, ← hnl2]
          rfl
        have hnmn : (RT.ls ({ pc with ls := pc.ls.take i ++ l2 :: pc.ls.drop (i + 1) } : RT)).map RL.name = (p.ls.map RL.name) := by
          rw [← names_e, hen, names_set, names_e, hnmc]
        refine j_q (qs_add64 rfl rfl (by first | omega | (simp only [Bool.and_eq_true, Bool.or_eq_true, Bool.and_eq_false_iff, Bool.or_eq_false_iff, Bool.not_eq_true', Bool.not_eq_false', decide_eq_true_eq, decide_eq_false_iff_not, beq_iff_eq, beq_eq_false_iff_ne, bne_iff_ne, bne_eq_false_iff_eq, ne_eq, Int.toNat_natCast] at *; omega))) ?_
        refine j_back rfl ?_
        exact ⟨p.ls.length - (i + 1), by omega, i + 1, ({ pc with ls := pc.ls.take i ++ l2 :: pc.ls.drop (i + 1) } : RT), out ++ out2, _, c89, rfl, rfl, hoN, rfl, hokn, hnmn, by
          rw [hst]
          unfold leaveStepE
          rw [if_pos (by rw [hhE]; exact hh), hgE], by rw [List.length_append]; omega, by omega, rfl⟩
      · skip
        have hh : hasI (pc.ls.getD i RL0).holds t = false := hc6
        refine j_perm (S' := [[(pc.gt, pc.tobj)], pc.lc, (pc.ls.map RL.heap).flatten, oc]) (RT.open4 hsp oc).symm ?_
        refine j_q (qs_add64 rfl rfl (by first | omega | (simp only [Bool.and_eq_true, Bool.or_eq_true, Bool.and_eq_false_iff, Bool.or_eq_false_iff, Bool.not_eq_true', Bool.not_eq_false', decide_eq_true_eq, decide_eq_false_iff_not, beq_iff_eq, beq_eq_false_iff_ne, bne_iff_ne, bne_eq_false_iff_eq, ne_eq, Int.toNat_natCast] at *; omega))) ?_
        refine j_back rfl ?_
        exact ⟨p.ls.length - (i + 1), by omega, i + 1, pc, out, _, oc, rfl, rfl, ho, rfl, hokc, hnmc, by
          rw [hst]
          unfold leaveStepE
          rw [if_neg (by rw [hhE, hh]; decide)], by omega, by omega, rfl⟩
    · skip
      obtain rfl : i = p.ls.length := by
        simp only [Bool.and_eq_true, Bool.or_eq_true, Bool.and_eq_false_iff, Bool.or_eq_false_iff, Bool.not_eq_true', Bool.not_eq_false', decide_eq_true_eq, decide_eq_false_iff_not, beq_iff_eq, beq_eq_false_iff_ne, bne_iff_ne, bne_eq_false_iff_eq, ne_eq, Int.toNat_natCast] at *
        omega
      rw [List.take_of_length_le (by rw [List.length_map]; exact Nat.le_refl _)] at hfold
      refine j_perm (S' := [pc.heap, oc]) (by simp [RT.heap]) ?_
      refine j_ret_con (vs := [_]) (fun w' hw' => ⟨rfl, trivial⟩) ?_
      refine ⟨pc, out, oc, rfl, ho, rfl, hokc, ?_, ?_⟩
      · rw [hfold]
        unfold leaveE
        rw [← hl1, names_e]
      · exact Nat.le_trans hob (Nat.mul_le_mul_left _ (by omega))
end Go.Proofs.Ytlgfpoelhjlifaa
