/- Files that forget: one file under two names; the law FsOfNothing. -/
import Derived.Test.YtckpegkpdepokaaTa
import Derived.Test.YtckpegkpdepokaaFs10
namespace Go.Proofs.Ytckpegkpdepokaa
open Go Go.Sx
set_option maxRecDepth 100000
set_option maxHeartbeats 4000000
set_option linter.unusedVariables false
set_option linter.unusedSimpArgs false
attribute [local irreducible] J JQ QS Con W opW
theorem ent9 : Sx.Enters Try.prog 9 := ⟨_, Try.func9, by kernel_rfl, by kernel_rfl⟩
theorem ent10 : Sx.Enters Try.prog 10 := ⟨_, Try.func10, by kernel_rfl, by kernel_rfl⟩
theorem ent11 : Sx.Enters Try.prog 11 := ⟨_, Try.func11, by kernel_rfl, by kernel_rfl⟩
theorem ent12 : Sx.Enters Try.prog 12 := ⟨_, Try.func12, by kernel_rfl, by kernel_rfl⟩
theorem ent13 : Sx.Enters Try.prog 13 := ⟨_, Try.func13, by kernel_rfl, by kernel_rfl⟩
theorem ent14 : Sx.Enters Try.prog 14 := ⟨_, Try.func14, by kernel_rfl, by kernel_rfl⟩
theorem ent15 : Sx.Enters Try.prog 15 := ⟨_, Try.func15, by kernel_rfl, by kernel_rfl⟩
theorem ent16 : Sx.Enters Try.prog 16 := ⟨_, Try.func16, by kernel_rfl, by kernel_rfl⟩
theorem ent17 : Sx.Enters Try.prog 17 := ⟨_, Try.func17, by kernel_rfl, by kernel_rfl⟩
theorem ent18 : Sx.Enters Try.prog 18 := ⟨_, Try.func18, by kernel_rfl, by kernel_rfl⟩
theorem ent19 : Sx.Enters Try.prog 19 := ⟨_, Try.func19, by kernel_rfl, by kernel_rfl⟩
theorem ent20 : Sx.Enters Try.prog 20 := ⟨_, Try.func20, by kernel_rfl, by kernel_rfl⟩
theorem ent21 : Sx.Enters Try.prog 21 := ⟨_, Try.func21, by kernel_rfl, by kernel_rfl⟩
theorem ent25 : Sx.Enters Try.prog 25 := ⟨_, Try.func25, by kernel_rfl, by kernel_rfl⟩
theorem ent27 : Sx.Enters Try.prog 27 := ⟨_, Try.func27, by kernel_rfl, by kernel_rfl⟩
theorem ent28 : Sx.Enters Try.prog 28 := ⟨_, Try.func28, by kernel_rfl, by kernel_rfl⟩
theorem ent29 : Sx.Enters Try.prog 29 := ⟨_, Try.func29, by kernel_rfl, by kernel_rfl⟩

open Go.MapKept Go.WideMaps Go.Maps
theorem sep_head {b : Base} {g : Nat} {o : Obj} {H : SH} {S : List SH} {w : World} (hw : Sig b ([(g, o)] :: H :: S) w) {A : Nat} : ∀ (a : Addr) (m c : Nat), Value.slice (some ⟨g, 0, none⟩) A A = .slice (some a) m c → 0 < m → a.block ∉ dom H := fun a m c e _ hm => by
  injection e with e1
  injection e1 with e1
  have hnd := hw.nodup
  simp only [dom, List.flatten_cons, List.map_append, List.map_cons, List.map_nil, List.cons_append, List.nil_append, List.nodup_cons] at hnd
  rw [← e1] at hm
  exact hnd.1 (List.mem_append_left _ hm)
theorem br_lit {w : World} {g : Nat} {xs : List UInt8} {fz : Nat × Nat} (hg : w.heap[g]? = some (.cells (ints xs).toArray 5 fz)) : BR w (.slice (some ⟨g, 0, none⟩) xs.length xs.length) xs := .inr ⟨_, _, rfl, Nat.le_refl _, fun _ => lt_of_get hg, fun j u hu => by
  rw [add_off, Nat.zero_add, cell_of hg]
  exact hu⟩
/-- pantry.pantrylaw7.known -/
theorem known_con (w : World) : Con Try.prog 9 [] w [] fun v _ => v = .bool true := by
  refine con_of_tree mix Try.func9 T9_ok (by kernel_rfl) ?_
  unfold T9
  refine j_q (qs_ac) ?_
  refine j_call0 ent10 rfl rfl rfl (fun w' hw' => new_con 100 w' (by decide) (by decide)) (fun u S2 hu => ?_)
  obtain ⟨f0, rfl, rfl, hok0, hroom0, hfu0, hleft0, hP0, hts0, hml0, hfs0, hus0⟩ := hu
  refine j_subl (S' := [f0.heap]) (by repeat first | exact List.Sublist.refl _ | exact List.nil_sublist _ | apply List.Sublist.cons_cons | apply List.Sublist.cons) ?_
  refine j_q (qs_ext (vs := [f0.ptr, .int .i64 0]) rfl rfl) ?_
  refine j_q (qs_ext (vs := [f0.ptr, .int .i64 0]) rfl rfl) ?_
  refine j_q (qs_neq rfl rfl) ?_
  refine j_g rfl (fun hb => qs_mt rfl) ?_
  refine j_g rfl (fun hb => qs_pnil Try.underlying25 (gd_eq hb)) ?_
  refine j_q (qs_or rfl rfl) ?_
  refine j_g rfl (fun hb => qs_mt rfl) ?_
  refine j_ga rfl ?_
  refine j_lit (vs := [.int .u8 120]) Try.underlying23 sz5 zero5 rfl (by simp [oneV]) ⟨rfl, by decide⟩ (fun g9 v9 c9 hv9 hc9 ho9 => ?_)
  subst hv9 hc9
  refine j_ga rfl ?_
  refine j_convsl 0 Try.underlying23 Try.underlying5 rfl rfl ?_
  refine j_ga rfl ?_
  refine j_call 1 ent13 rfl rfl rfl rfl (fun w' hw' => write_con f0 0 (by decide) [97] _ [120] w' hok0 (by rw [hleft0]; decide) (by decide) (br_lit (xs := [120]) (fz := (1, 2)) (hw'.own (g9, .cells [.int .u8 120].toArray 5 (1, 2)) (by simp))) (sep_head hw') (by decide) (by rw [hfs0, hus0]; decide) (by rw [hus0]; decide) hfu0 (by rw [hus0, hroom0]; decide) (by decide) (by decide) 0 (by rw [hfs0]; intro x hx; cases hx) (by rw [hml0]; rfl) (by rw [hml0]; decide)) (fun u S2 hu => ?_)
  obtain ⟨rfl, s1, A2, _, more1, P1, t1, tv1, tc1, rfl, hrow1, ⟨es1, ck1, g1, hs1⟩, hraw1, ⟨cc1, hrv1⟩, _, hgs1⟩ := hu
  have hml1 : s1.ml = [([97], (g1, 0))] := by rw [hs1]; simp [writeM, givesM, newM, letsM, hml0, hfs0, bump, alook]
  have hfs1 : s1.fs = [⟨g1, 0, clipV [120] A2, [120], 1⟩] := by rw [hs1]; simp [writeM, givesM, newM, letsM, hml0, hfs0, bump, alook]
  have hus1 : s1.used = 1 := by rw [hs1]; simp [writeM, givesM, newM, letsM, hml0, hfs0, hus0, bump, alook]
  obtain ⟨f1, hf1⟩ : ∃ y : FM, y = doneF { f0 with more := more1, P := P1 } s1 P1 t1 tv1 tc1 := ⟨_, rfl⟩
  have hok1 : f1.Ok 1 := by
    rw [hf1]
    refine ⟨hrow1, ?_, hraw1, fun x hx => ?_, hok0.lpv⟩
    · show (f0.ts ++ [t1]).length ≤ 1
      rw [hts0]
      simp
    · have hx' : x ∈ s1.fs := hx
      rw [hfs1, List.mem_singleton] at hx'
      rw [hx']
      exact Vw.clip g1 hrv1 rfl
  have hn1 : f1.now = s1 := by rw [hf1]
  have hfu1 : f1.fused = false := by rw [hf1]; exact hfu0
  have hl1 : f1.left = 0 := by
    rw [hf1]
    show (if f0.fused then f0.left - 1 else f0.left) = 0
    rw [hfu0]
    exact hleft0
  have hroom1 : f1.room = 100 := by rw [hf1]; exact hroom0
  have hp1 : f0.ptr = f1.ptr := by rw [hf1]
  have hts1 : f1.ts.length = 1 := by
    rw [hf1]
    show (f0.ts ++ [t1]).length = 1
    rw [hts0]
    rfl
  rw [← hn1] at hml1 hfs1 hus1
  refine j_subl (S' := [f1.heap]) (by rw [hf1]; exact (by repeat first | exact List.Sublist.refl _ | exact List.nil_sublist _ | apply List.Sublist.cons_cons | apply List.Sublist.cons)) ?_
  rw [hp1]
  refine j_g rfl (fun hb => qs_neq (gd_eq hb) rfl) ?_
  refine j_q (qs_or rfl rfl) ?_
  refine j_g rfl (fun hb => qs_mt rfl) ?_
  refine j_ga rfl ?_
  refine j_call 0 ent15 rfl rfl rfl rfl (fun w' hw' => link_con f1 1 (by decide) [97] [98] w' hok1 (by rw [hl1]; decide) (by decide) (by decide) hfu1 (by decide) (by decide) (⟨g1, 0, clipV [120] A2, [120], 1⟩ : FL) (by rw [hfs1]; simp) (by rw [hml1]; rfl) (by show (1 : Int) + 1 ≤ 1000000; decide) (by rw [hml1]; rfl) (by rw [hml1]; simp)) (fun u S2 hu => ?_)
  obtain ⟨rfl, s2, more2, t2, tv2, tc2, rfl, hrow2, ⟨es2, ck2, hs2⟩, hraw2⟩ := hu
  have hml2 : s2.ml = [([97], (g1, 0)), ([98], (g1, 0))] := by rw [hs2]; simp [givesM, letsM, hml1, hfs1, bump, alook]
  have hfs2 : s2.fs = [⟨g1, 0, clipV [120] A2, [120], 2⟩] := by rw [hs2]; simp [givesM, letsM, hml1, hfs1, bump, alook]
  have hus2 : s2.used = 1 := by rw [hs2]; simp [givesM, letsM, hml1, hfs1, hus1, bump, alook]
  obtain ⟨f2, hf2⟩ : ∃ y : FM, y = doneF { f1 with more := more2 } s2 f1.P t2 tv2 tc2 := ⟨_, rfl⟩
  have hok2 : f2.Ok 2 := by
    rw [hf2]
    refine ⟨hrow2, ?_, hraw2, fun x hx => ?_, hok1.lpv⟩
    · show (f1.ts ++ [t2]).length ≤ 2
      rw [List.length_append, hts1]
      simp
    · have hx' : x ∈ s2.fs := hx
      rw [hfs2, List.mem_singleton] at hx'
      rw [hx']
      exact hok1.vw (⟨g1, 0, clipV [120] A2, [120], 1⟩ : FL) (by rw [hfs1]; simp)
  have hn2 : f2.now = s2 := by rw [hf2]
  have hfu2 : f2.fused = false := by rw [hf2]; exact hfu1
  have hl2 : f2.left = 0 := by
    rw [hf2]
    show (if f1.fused then f1.left - 1 else f1.left) = 0
    rw [hfu1]
    exact hl1
  have hroom2 : f2.room = 100 := by rw [hf2]; exact hroom1
  have hp2 : f1.ptr = f2.ptr := by rw [hf2]
  have hts2 : f2.ts.length = 2 := by
    rw [hf2]
    show (f1.ts ++ [t2]).length = 2
    rw [List.length_append, hts1]
    rfl
  rw [← hn2] at hml2 hfs2 hus2
  refine j_subl (S' := [f2.heap]) (by rw [hf2]; exact (by repeat first | exact List.Sublist.refl _ | exact List.nil_sublist _ | apply List.Sublist.cons_cons | apply List.Sublist.cons)) ?_
  rw [hp2]
  refine j_g rfl (fun hb => qs_neq (gd_eq hb) rfl) ?_
  refine j_q (qs_or rfl rfl) ?_
  refine j_g rfl (fun hb => qs_mt rfl) ?_
  refine j_ga rfl ?_
  refine j_lit (vs := [.int .u8 121]) Try.underlying23 sz5 zero5 rfl (by simp [oneV]) ⟨rfl, by decide⟩ (fun g19 v19 c19 hv19 hc19 ho19 => ?_)
  subst hv19 hc19
  refine j_ga rfl ?_
  refine j_convsl 0 Try.underlying23 Try.underlying5 rfl rfl ?_
  refine j_ga rfl ?_
  refine j_call 1 ent16 rfl rfl rfl rfl (fun w' hw' => append_con f2 2 (by decide) [98] _ [121] w' hok2 (by rw [hl2]; decide) (by decide) (br_lit (xs := [121]) (fz := (1, 2)) (hw'.own (g19, .cells [.int .u8 121].toArray 5 (1, 2)) (by simp))) (sep_head hw') (by decide) (by rw [hfs2, hus2]; simp [tot]) (by rw [hus2]; decide) hfu2 (by rw [hus2, hroom2]; decide) (by decide) (by decide) (⟨g1, 0, clipV [120] A2, [120], 2⟩ : FL) (by rw [hfs2]; simp) (by rw [hml2]; rfl) (by simp)) (fun u S2 hu => ?_)
  obtain ⟨rfl, v3, more3, P3, t3, tv3, tc3, rfl, hrow3, hraw3, hvw3⟩ := hu
  have hfs3 : (appM f2.now 0 v3 [121]).fs = [⟨g1, 0, v3, [120, 121], 2⟩] := by simp [appM, hfs2, app1]
  obtain ⟨f3, hf3⟩ : ∃ y : FM, y = doneF { f2 with more := more3, P := P3 } (appM f2.now 0 v3 [121]) P3 t3 tv3 tc3 := ⟨_, rfl⟩
  have hok3 : f3.Ok 3 := by
    rw [hf3]
    refine ⟨hrow3, ?_, hraw3, hvw3, hok2.lpv⟩
    show (f2.ts ++ [t3]).length ≤ 3
    rw [List.length_append, hts2]
    simp
  have hn3 : f3.now = appM f2.now 0 v3 [121] := by rw [hf3]
  have hml3 : f3.now.ml = [([97], (g1, 0)), ([98], (g1, 0))] := by rw [hn3]; exact hml2
  have hp3 : f2.ptr = f3.ptr := by rw [hf3]
  rw [← hn3] at hfs3
  refine j_subl (S' := [f3.heap]) (by rw [hf3]; exact (by repeat first | exact List.Sublist.refl _ | exact List.nil_sublist _ | apply List.Sublist.cons_cons | apply List.Sublist.cons)) ?_
  rw [hp3]
  refine j_g rfl (fun hb => qs_neq (gd_eq hb) rfl) ?_
  refine j_q (qs_or rfl rfl) ?_
  refine j_cond rfl (fun hc0 => ?_) (fun hc0 => ?_)
  · skip
    simp [gd] at hc0
  · skip
    refine j_call0 ent11 rfl rfl rfl (fun w' hw' => read_con f3 3 [97] w' (in_own hw' 0 rfl) hok3 (by decide) (⟨g1, 0, v3, [120, 121], 2⟩ : FL) (by rw [hfs3]; simp) (by rw [hml3]; rfl)) (fun u S2 hu => ?_)
    obtain ⟨vr, Q, rfl, rfl, hrvr⟩ := hu
    refine j_subl (S' := [ph Q, f3.heap]) (by repeat first | exact List.Sublist.refl _ | exact List.nil_sublist _ | apply List.Sublist.cons_cons | apply List.Sublist.cons) ?_
    refine j_q (qs_ext (vs := [vr, .int .i64 0]) rfl rfl) ?_
    refine j_q (qs_ext (vs := [vr, .int .i64 0]) rfl rfl) ?_
    refine j_call0 ent17 rfl rfl rfl (fun w' hw' => node_con f3 3 [98] w' (in_own hw' 1 rfl) hok3 (by decide) (⟨g1, 0, v3, [120, 121], 2⟩ : FL) (by rw [hfs3]; simp) (by rw [hml3]; rfl) (by rw [hml3]; simp)) (fun u S2 hu => ?_)
    obtain ⟨first, rfl, _, hfirst⟩ := hu
    obtain ⟨i, hi, hfe, hfl, hfa⟩ := hfirst (by simp)
    rw [hml3] at hi hfe hfl hfa
    have hso : sortS (List.map Prod.fst [(([97] : List UInt8), (g1, 0)), ([98], (g1, 0))]) = [[97], [98]] := sortAB
    rw [hso] at hi hfe hfa
    obtain rfl : i = 0 := by
      rcases Nat.eq_zero_or_pos i with h | h
      · exact h
      · exact absurd rfl (hfa 0 h)
    obtain rfl : first = [97] := hfe
    refine j_subl (S' := [ph Q, f3.heap]) (List.sublist_append_right _ _) ?_
    refine j_q (qs_ext (vs := [.string (bs [97]), .int .i64 2]) rfl rfl) ?_
    refine j_q (qs_ext (vs := [.string (bs [97]), .int .i64 2]) rfl rfl) ?_
    refine j_q (qs_eql rfl rfl) ?_
    refine j_g rfl (fun hb => qs_mt rfl) ?_
    refine j_ga rfl ?_
    refine j_lit (vs := [.int .u8 120, .int .u8 121]) Try.underlying23 sz5 zero5 rfl (by simp [oneV]) ⟨rfl, by decide⟩ (fun g33 v33 c33 hv33 hc33 ho33 => ?_)
    subst hv33 hc33
    refine j_ga rfl ?_
    refine j_convsl 0 Try.underlying23 Try.underlying5 rfl rfl ?_
    refine j_gt rfl (qs_call ent14 rfl rfl rfl (fun w' hw' => same_con [120, 121] [120, 121] _ _ w' (br_rv hrvr (in_own hw' 1 rfl)) (br_lit (xs := [120, 121]) (fz := (2, 3)) (hw'.own (g33, .cells [Value.int .u8 120, Value.int .u8 121].toArray 5 (2, 3)) (by simp))) (by decide))) ?_
    refine j_q (qs_and rfl rfl) ?_
    refine j_g rfl (fun hb => qs_mt rfl) ?_
    refine j_g rfl (fun hb => qs_seql (gd_eq hb) rfl) ?_
    refine j_q (qs_and rfl rfl) ?_
    refine j_g rfl (fun hb => qs_mt rfl) ?_
    refine j_g rfl (fun hb => qs_eql (gd_eq hb) rfl) ?_
    refine j_q (qs_and rfl rfl) ?_
    refine j_ret_con (vs := [_]) (fun w' hw' => ⟨rfl, trivial⟩) ?_
    rfl
/-- pantry.pantrylaw7.FsOfNothing -/
theorem fsOfNothing_con (n : List UInt8) (xs : List UInt8) (bv : Value) (k : Int) (w : World) (hn : n.length ≤ 140737488355328) (hrs : RSl w bv (ints xs)) (hxs : xs.length ≤ 140737488355328) : Con Try.prog 8 [.string (bs n), bv, .int .i64 k] w [] fun v _ => v = .bool true := by
  refine con_of_tree mix Try.func8 T8_ok (by kernel_rfl) ?_
  unfold T8
  have hbr := br_rsl hrs
  obtain ⟨A, cap, hbv, hcap⟩ := br_form hbr
  refine j_q (qs_ac) ?_
  refine j_q (qs_lens Try.underlying9 rfl) ?_
  refine j_q (qs_lenl (n := xs.length) (A := A) (c := cap) Try.underlying23 hbv) ?_
  refine j_q (qs_add64 rfl rfl (by first | omega | (simp only [Bool.and_eq_true, Bool.or_eq_true, Bool.and_eq_false_iff, Bool.or_eq_false_iff, Bool.not_eq_true', Bool.not_eq_false', decide_eq_true_eq, decide_eq_false_iff_not, beq_iff_eq, beq_eq_false_iff_ne, bne_iff_ne, bne_eq_false_iff_eq, ne_eq, Int.toNat_natCast] at *; omega))) ?_
  refine j_q (qs_gtr rfl rfl) ?_
  refine j_cond rfl (fun hc0 => ?_) (fun hc0 => ?_)
  · skip
    refine j_q (qs_ac) ?_
    refine j_ret_con (vs := [_]) (fun w' hw' => ⟨rfl, trivial⟩) ?_
    rfl
  · skip
    refine j_q (qs_ac) ?_
    refine j_q (qs_call ent18 rfl rfl rfl (fun w' hw' => fuseN_con w' k)) ?_
    refine j_q (qs_call ent21 rfl rfl rfl (fun w' hw' => crashN_con w' k)) ?_
    refine j_q (qs_call ent11 rfl rfl rfl (fun w' hw' => readN_con w' n)) ?_
    refine j_q (qs_ext (vs := [.slice none 0 0, .int .i64 7]) rfl rfl) ?_
    refine j_q (qs_ext (vs := [.slice none 0 0, .int .i64 7]) rfl rfl) ?_
    refine j_q (qs_call ent17 rfl rfl rfl (fun w' hw' => nodeN_con w' n)) ?_
    refine j_q (qs_ext (vs := [.string (bs []), .int .i64 0]) rfl rfl) ?_
    refine j_q (qs_ext (vs := [.string (bs []), .int .i64 0]) rfl rfl) ?_
    refine j_q (qs_call ent13 rfl rfl rfl (fun w' hw' => writeN_con w' n bv xs (br_keep (Fp := []) hbr (fun a m c e _ => by simp [dom]) hw'))) ?_
    refine j_q (qs_eql rfl rfl) ?_
    refine j_g rfl (fun hb => qs_mt rfl) ?_
    refine j_g rfl (fun hb => qs_mt rfl) ?_
    refine j_g rfl (fun hb => qs_mt rfl) ?_
    refine j_g rfl (fun hb => qs_call ent16 rfl rfl (args3 (gd_eq hb) (gd_eq hb) (gd_eq hb)) (fun w' hw' => appendN_con w' n bv xs (br_keep (Fp := []) hbr (fun a m c e _ => by simp [dom]) hw'))) ?_
    refine j_g rfl (fun hb => qs_eql (gd_eq hb) rfl) ?_
    refine j_q (qs_and rfl rfl) ?_
    refine j_g rfl (fun hb => qs_mt rfl) ?_
    refine j_g rfl (fun hb => qs_mt rfl) ?_
    refine j_g rfl (fun hb => qs_mt rfl) ?_
    refine j_g rfl (fun hb => qs_call ent15 rfl rfl (args3 (gd_eq hb) (gd_eq hb) (gd_eq hb)) (fun w' hw' => linkN_con w' n n)) ?_
    refine j_g rfl (fun hb => qs_eql (gd_eq hb) rfl) ?_
    refine j_q (qs_and rfl rfl) ?_
    refine j_g rfl (fun hb => qs_mt rfl) ?_
    refine j_g rfl (fun hb => qs_mt rfl) ?_
    refine j_g rfl (fun hb => qs_mt rfl) ?_
    refine j_g rfl (fun hb => qs_call ent27 rfl rfl (args3 (gd_eq hb) (gd_eq hb) (gd_eq hb)) (fun w' hw' => renameN_con w' n n)) ?_
    refine j_g rfl (fun hb => qs_eql (gd_eq hb) rfl) ?_
    refine j_q (qs_and rfl rfl) ?_
    refine j_g rfl (fun hb => qs_mt rfl) ?_
    refine j_g rfl (fun hb => qs_mt rfl) ?_
    refine j_g rfl (fun hb => qs_call ent28 rfl rfl (args2 (gd_eq hb) (gd_eq hb)) (fun w' hw' => removeN_con w' n)) ?_
    refine j_g rfl (fun hb => qs_eql (gd_eq hb) rfl) ?_
    refine j_q (qs_and rfl rfl) ?_
    refine j_g rfl (fun hb => qs_mt rfl) ?_
    refine j_g rfl (fun hb => qs_call ent20 rfl rfl (args1 (gd_eq hb)) (fun w' hw' => syncN_con w')) ?_
    refine j_g rfl (fun hb => qs_eql (gd_eq hb) rfl) ?_
    refine j_q (qs_and rfl rfl) ?_
    refine j_g rfl (fun hb => qs_mt rfl) ?_
    refine j_g rfl (fun hb => qs_lenl Try.underlying23 (gd_eq hb)) ?_
    refine j_g rfl (fun hb => qs_eql (gd_eq hb) rfl) ?_
    refine j_q (qs_and rfl rfl) ?_
    refine j_g rfl (fun hb => qs_mt rfl) ?_
    refine j_g rfl (fun hb => qs_eql (gd_eq hb) rfl) ?_
    refine j_q (qs_and rfl rfl) ?_
    refine j_g rfl (fun hb => qs_mt rfl) ?_
    refine j_g rfl (fun hb => qs_seql (gd_eq hb) rfl) ?_
    refine j_q (qs_and rfl rfl) ?_
    refine j_g rfl (fun hb => qs_mt rfl) ?_
    refine j_g rfl (fun hb => qs_mt rfl) ?_
    refine j_g rfl (fun hb => qs_call ent25 rfl rfl (args1 (gd_eq hb)) (fun w' hw' => pendN_con w')) ?_
    refine j_g rfl (fun hb => qs_add64 (gd_eq hb) (gd_eq hb) (by first | omega | (simp only [Bool.and_eq_true, Bool.or_eq_true, Bool.and_eq_false_iff, Bool.or_eq_false_iff, Bool.not_eq_true', Bool.not_eq_false', decide_eq_true_eq, decide_eq_false_iff_not, beq_iff_eq, beq_eq_false_iff_ne, bne_iff_ne, bne_eq_false_iff_eq, ne_eq, Int.toNat_natCast] at *; omega))) ?_
    refine j_g rfl (fun hb => qs_mt rfl) ?_
    refine j_g rfl (fun hb => qs_call ent12 rfl rfl (args1 (gd_eq hb)) (fun w' hw' => usedN_con w')) ?_
    refine j_g rfl (fun hb => qs_add64 (gd_eq hb) (gd_eq hb) (by first | omega | (simp only [Bool.and_eq_true, Bool.or_eq_true, Bool.and_eq_false_iff, Bool.or_eq_false_iff, Bool.not_eq_true', Bool.not_eq_false', decide_eq_true_eq, decide_eq_false_iff_not, beq_iff_eq, beq_eq_false_iff_ne, bne_iff_ne, bne_eq_false_iff_eq, ne_eq, Int.toNat_natCast] at *; omega))) ?_
    refine j_g rfl (fun hb => qs_mt rfl) ?_
    refine j_g rfl (fun hb => qs_call ent19 rfl rfl (args2 (gd_eq hb) rfl) (fun w' hw' => namesN_con w' [])) ?_
    refine j_g rfl (fun hb => qs_lenl Try.underlying41 (gd_eq hb)) ?_
    refine j_g rfl (fun hb => qs_add64 (gd_eq hb) (gd_eq hb) (by first | omega | (simp only [Bool.and_eq_true, Bool.or_eq_true, Bool.and_eq_false_iff, Bool.or_eq_false_iff, Bool.not_eq_true', Bool.not_eq_false', decide_eq_true_eq, decide_eq_false_iff_not, beq_iff_eq, beq_eq_false_iff_ne, bne_iff_ne, bne_eq_false_iff_eq, ne_eq, Int.toNat_natCast] at *; omega))) ?_
    refine j_g rfl (fun hb => qs_eql (gd_eq hb) rfl) ?_
    refine j_q (qs_and rfl rfl) ?_
    refine j_g rfl (fun hb => qs_mt rfl) ?_
    refine j_g rfl (fun hb => qs_call ent29 rfl rfl (args1 (gd_eq hb)) (fun w' hw' => copyN_con w')) ?_
    refine j_g rfl (fun hb => qs_pnil Try.underlying25 (gd_eq hb)) ?_
    refine j_q (qs_and rfl rfl) ?_
    refine j_g rfl (fun hb => qs_call ent9 rfl rfl (args0) (fun w' hw' => known_con w')) ?_
    refine j_q (qs_and rfl rfl) ?_
    refine j_ret_con (vs := [_]) (fun w' hw' => ⟨rfl, trivial⟩) ?_
    rfl
end Go.Proofs.Ytckpegkpdepokaa
