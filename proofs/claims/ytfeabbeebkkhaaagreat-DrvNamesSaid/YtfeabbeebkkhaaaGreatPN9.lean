/- Part 9. -/
import Derived.Test.YtfeabbeebkkhaaaGreatPN3
import Derived.Test.YtfeabbeebkkhaaaGreatPN4
import Derived.Test.YtfeabbeebkkhaaaGreatPN8
import Derived.Test.YtfeabbeebkkhaaaGreatPN6
/-! Dv31 -/
namespace Go.Proofs.YtfeabbeebkkhaaaGreat
open Go Go.Sx
set_option maxRecDepth 100000
set_option maxHeartbeats 4000000
set_option linter.unusedVariables false
set_option linter.unusedSimpArgs false
attribute [local irreducible] J JQ QS Con W opW
open Go.MapKept Go.WideMaps Go.Maps
abbrev hent (p : Bs × Hsh) : Bs × Value := (p.1, .agg (ints p.2.1).toArray)
abbrev HMR (w : World) (v : Value) (M : HM) : Prop := MapR strEnc strOk w v (M.map hent)
theorem hlook_m (M : HM) (k : Bs) : mlook (M.map hent) k = (hlook M k).map fun h => .agg (ints h.1).toArray := by
 unfold mlook hlook
 rw [List.find?_map]
 simp only [Option.map_map]
 rfl
structure DOwnE (d : PD) (x : DV) (cO cI FI cS cA cV : SH) : Prop where
 o : Sx.Own 53 35 ((d.outs.map encO).flatten) x.vo cO
 i : Sx.Own 68 2 ((x.mi.map encI).flatten) x.vi cI
 io : Mine x.mi FI
 im : d.ins = x.mi.map MI.pi
 s : Sx.Own 49 1 (strs d.srcs) x.vs cS
 a : Sx.Own 9 1 (strs d.args) x.va cA
 e : Sx.Own 48 2 ((d.env.map encV).flatten) x.ve cV
theorem DOwnE.dr {d : PD} {x : DV} {cO cI FI cS cA cV : SH} {w : World} (h : DOwnE d x cO cI FI cS cA cV) (hw : ∀ p ∈ cO ++ cI ++ FI ++ cS ++ cA ++ cV, w.heap[p.1]? = some p.2) : DR w d x where
 o := rsln_ownw h.o (by decide) (flat_len encO_len _) (fun p hp => hw p (by simp [hp]))
 i := rsln_ownw h.i (by decide) (flat_len encI_len _) (fun p hp => hw p (by simp [hp]))
 e := rsln_ownw h.e (by decide) (flat_len encV_len _) (fun p hp => hw p (by simp [hp]))
 s := strz_ownw h.s (fun p hp => hw p (by simp [hp]))
 a := strz_ownw h.a (fun p hp => hw p (by simp [hp]))
 im := h.im
 io := fun m hm => by
  obtain ⟨c, h1, h2⟩ := h.io m hm
  exact strz_ownw h1 (fun p hp => hw p (by simp [h2 p hp]))
theorem own_one {e : TypeId} {sz : Nat} {xs : List Value} {v : Value} {c : SH} (h : Sx.Own e sz xs v c) : oneV v = true := by
 rcases h with ⟨rfl, _⟩ | ⟨g, n, cap, rest, fz, rfl, _⟩ <;> rfl
theorem DOwnE.one {d : PD} {x : DV} {cO cI FI cS cA cV : SH} (h : DOwnE d x cO cI FI cS cA cV) : ∀ u ∈ dcells d x, oneV u = true := fun u hu => by
 simp only [dcells, List.mem_cons, List.not_mem_nil, or_false] at hu
 rcases hu with rfl | rfl | rfl | rfl | rfl | rfl | rfl | rfl
 ·rfl
 ·rfl
 ·rfl
 ·exact own_one h.a
 ·exact own_one h.e
 ·exact own_one h.i
 ·exact own_one h.s
 ·exact own_one h.o
theorem strz_none {w : World} {n cap : Nat} {rs : List Bs} (h : StrZ w (.slice none n cap) rs) : rs = [] ∧ n = 0 ∧ cap = 0 := by
 obtain ⟨A, c, e, h1, h2, h3⟩ := h
 injection e with e1 e2 e3
 subst e1 e2 e3
 cases rs with
 | nil => exact ⟨rfl, rfl, h3 rfl⟩
 | cons a l =>
  obtain ⟨g, off, h4, _⟩ := h2 (by simp)
  cases h4
theorem rsln_none {n : Nat} {w : World} {k cap : Nat} {vs : List Value} {len : Nat} (h : RSlN n w (.slice none k cap) vs len) : vs = [] ∧ k = 0 ∧ cap = 0 := by
 rcases h with ⟨h0, ⟨e, rfl⟩ | ⟨g, off, cap', e, _⟩⟩
 ·injection e with e1 e2 e3
  subst e2 e3
  exact ⟨List.eq_nil_of_length_eq_zero (by rw [h0]; simp), rfl, rfl⟩
 ·injection e with e1
  cases e1
theorem news_get {mi l : List MI} {i : Nat} (h : mi.length = i) (hi : i < l.length) : (mi ++ l.drop i).getD i m0 = l.getD i m0 := by
 rw [List.getD_eq_getElem?_getD, List.getD_eq_getElem?_getD, List.getElem?_append_right (by omega), h, Nat.sub_self, List.getElem?_drop, Nat.add_zero]
theorem set_news {mi l : List MI} {i : Nat} (h : mi.length = i) (hi : i < l.length) {a : MI} : (mi ++ l.drop i).set i a = (mi ++ [a]) ++ l.drop (i + 1) := by
 rw [List.set_append_right _ _ (by omega), h, Nat.sub_self, List.drop_eq_getElem_cons hi, List.set_cons_zero, List.append_assoc]
 rfl
attribute [local irreducible] es qt cms hex Tbl Half lst isName isPath isDrvP leB chkO chkOuts chkN chkI chkIns firstE spA spB spE chkS chkV dtext chk chk0 tTs
theorem cloneS_con (l : List Bs) (v : Value) (w : World) (hv : StrZ w v l) (hn : l.length ≤ 1000000) : Con Tryz.prog 94 [v] w [] fun u S' => ∃ c, S' = [c] ∧ Sx.Own 9 1 (strs l) u c := by
 refine con_of_tree mix Tryz.func94 T94_ok (by kernel_rfl) ?_
 unfold T94
 obtain ⟨A, cap, rfl, hcap⟩ := strz_form hv
 refine j_q (qs_ac) ?_
 refine j_q (qs_slnil U22 rfl) ?_
 refine j_cond rfl (fun hc0 => ?_) (fun hc0 => ?_)
 ·skip
  have hA0 : A = none := by cases A <;> simp_all
  subst hA0
  have h0 := strz_none hv
  obtain ⟨rfl, h01, rfl⟩ := h0
  refine j_q (qs_ac) ?_
  refine j_subl (S' := [[]]) (by repeat first | exact slR _ | exact slN _ | apply slC | apply slD) ?_
  refine j_ret_con (vs := [_]) (fun w' hw' => ⟨rfl, trivial⟩) ?_
  exact ⟨[], rfl, own_nil⟩
 ·skip
  refine j_lit (vs := []) U22 sz9 zero9 rfl (by simp [oneV]) ⟨rfl, by decide⟩ (fun g3 v3 c3 hv3 hc3 ho3 => ?_)
  subst hv3 hc3
  refine j_append 0 U22 U22 (.inr ⟨_, rfl⟩) sb9 zero9 rfl ho3 rfl (src_strz hv) (strs_one _) ⟨(by simp only [List.length_nil, strs_length]; omega), (by decide)⟩ (fun v4 c4 ho4 => ?_)
  rw [List.nil_append] at ho4
  refine j_subl (S' := [c4]) (by repeat first | exact slR _ | exact slN _ | apply slC | apply slD) ?_
  refine j_ret_con (vs := [_]) (fun w' hw' => ⟨rfl, trivial⟩) ?_
  exact ⟨c4, rfl, ho4⟩
theorem cloneP_con (l : List Bs) (v : Value) (w : World) (hv : StrZ w v l) (hn : l.length ≤ 1000000) : Con Tryz.prog 96 [v] w [] fun u S' => ∃ c, S' = [c] ∧ Sx.Own 49 1 (strs l) u c := by
 refine con_of_tree mix Tryz.func96 T96_ok (by kernel_rfl) ?_
 unfold T96
 obtain ⟨A, cap, rfl, hcap⟩ := strz_form hv
 refine j_q (qs_ac) ?_
 refine j_q (qs_slnil U25 rfl) ?_
 refine j_cond rfl (fun hc0 => ?_) (fun hc0 => ?_)
 ·skip
  have hA0 : A = none := by cases A <;> simp_all
  subst hA0
  have h0 := strz_none hv
  obtain ⟨rfl, h01, rfl⟩ := h0
  refine j_q (qs_ac) ?_
  refine j_subl (S' := [[]]) (by repeat first | exact slR _ | exact slN _ | apply slC | apply slD) ?_
  refine j_ret_con (vs := [_]) (fun w' hw' => ⟨rfl, trivial⟩) ?_
  exact ⟨[], rfl, own_nil⟩
 ·skip
  refine j_lit (vs := []) U25 sz49 zero49 rfl (by simp [oneV]) ⟨rfl, by decide⟩ (fun g3 v3 c3 hv3 hc3 ho3 => ?_)
  subst hv3 hc3
  refine j_append 0 U25 U25 (.inr ⟨_, rfl⟩) sb49 zero49 rfl ho3 rfl (src_strz hv) (strs_one _) ⟨(by simp only [List.length_nil, strs_length]; omega), (by decide)⟩ (fun v4 c4 ho4 => ?_)
  rw [List.nil_append] at ho4
  refine j_subl (S' := [c4]) (by repeat first | exact slR _ | exact slN _ | apply slC | apply slD) ?_
  refine j_ret_con (vs := [_]) (fun w' hw' => ⟨rfl, trivial⟩) ?_
  exact ⟨c4, rfl, ho4⟩
theorem cloneV_con (l : List PV) (v : Value) (w : World) (hv : RSlN 2 w v ((l.map encV).flatten) l.length) (hn : l.length ≤ 1000000) : Con Tryz.prog 95 [v] w [] fun u S' => ∃ c, S' = [c] ∧ Sx.Own 48 2 ((l.map encV).flatten) u c := by
 refine con_of_tree mix Tryz.func95 T95_ok (by kernel_rfl) ?_
 unfold T95
 obtain ⟨A, cap, ga, off, rfl, hcap, hA⟩ := rsln_form hv
 refine j_q (qs_ac) ?_
 refine j_q (qs_slnil U23 rfl) ?_
 refine j_cond rfl (fun hc0 => ?_) (fun hc0 => ?_)
 ·skip
  have hA0 : A = none := by cases A <;> simp_all
  subst hA0
  obtain ⟨h00, h01, rfl⟩ := rsln_none hv
  refine j_q (qs_ac) ?_
  refine j_subl (S' := [[]]) (by repeat first | exact slR _ | exact slN _ | apply slC | apply slD) ?_
  refine j_ret_con (vs := [_]) (fun w' hw' => ⟨rfl, trivial⟩) ?_
  exact ⟨[], rfl, (by rw [h00]; exact own_nil)⟩
 ·skip
  refine j_lit0 U23 sz48 (fun g3 hg3 ho3 => ?_)
  refine j_append 0 U23 U23 (.inr ⟨_, rfl⟩) sb48 zero48 rfl ho3 rfl (src_rsln hv) (flat_one (fun y _ => encV_one y)) ⟨(by simp only [List.length_nil, flat_len encV_len]; omega), (by decide)⟩ (fun v4 c4 ho4 => ?_)
  rw [List.nil_append] at ho4
  refine j_subl (S' := [c4]) (by repeat first | exact slR _ | exact slN _ | apply slC | apply slD) ?_
  refine j_ret_con (vs := [_]) (fun w' hw' => ⟨rfl, trivial⟩) ?_
  exact ⟨c4, rfl, ho4⟩
theorem cloneO_con (l : List PO) (v : Value) (w : World) (hv : RSlN 35 w v ((l.map encO).flatten) l.length) (hn : l.length ≤ 1000000) : Con Tryz.prog 97 [v] w [] fun u S' => ∃ c, S' = [c] ∧ Sx.Own 53 35 ((l.map encO).flatten) u c := by
 refine con_of_tree mix Tryz.func97 T97_ok (by kernel_rfl) ?_
 unfold T97
 obtain ⟨A, cap, ga, off, rfl, hcap, hA⟩ := rsln_form hv
 refine j_q (qs_ac) ?_
 refine j_q (qs_slnil U26 rfl) ?_
 refine j_cond rfl (fun hc0 => ?_) (fun hc0 => ?_)
 ·skip
  have hA0 : A = none := by cases A <;> simp_all
  subst hA0
  obtain ⟨h00, h01, rfl⟩ := rsln_none hv
  refine j_q (qs_ac) ?_
  refine j_subl (S' := [[]]) (by repeat first | exact slR _ | exact slN _ | apply slC | apply slD) ?_
  refine j_ret_con (vs := [_]) (fun w' hw' => ⟨rfl, trivial⟩) ?_
  exact ⟨[], rfl, (by rw [h00]; exact own_nil)⟩
 ·skip
  refine j_lit0 U26 sz53 (fun g3 hg3 ho3 => ?_)
  refine j_append 0 U26 U26 (.inr ⟨_, rfl⟩) sb53 zero53 rfl ho3 rfl (src_rsln hv) (flat_one (fun y _ => encO_one y)) ⟨(by simp only [List.length_nil, flat_len encO_len]; omega), (by decide)⟩ (fun v4 c4 ho4 => ?_)
  rw [List.nil_append] at ho4
  refine j_subl (S' := [c4]) (by repeat first | exact slR _ | exact slN _ | apply slC | apply slD) ?_
  refine j_ret_con (vs := [_]) (fun w' hw' => ⟨rfl, trivial⟩) ?_
  exact ⟨c4, rfl, ho4⟩
theorem cloneI_con (l : List MI) (v : Value) (w : World) (hv : RSlN 2 w v ((l.map encI).flatten) l.length) (hone : ∀ m ∈ l, ∀ u ∈ encI m, oneV u = true) (hn : l.length ≤ 1000000) : Con Tryz.prog 98 [v] w [] fun u S' => ∃ c, S' = [c] ∧ Sx.Own 68 2 ((l.map encI).flatten) u c := by
 refine con_of_tree mix Tryz.func98 T98_ok (by kernel_rfl) ?_
 unfold T98
 obtain ⟨A, cap, ga, off, rfl, hcap, hA⟩ := rsln_form hv
 refine j_q (qs_ac) ?_
 refine j_q (qs_slnil U24 rfl) ?_
 refine j_cond rfl (fun hc0 => ?_) (fun hc0 => ?_)
 ·skip
  have hA0 : A = none := by cases A <;> simp_all
  subst hA0
  obtain ⟨h00, h01, rfl⟩ := rsln_none hv
  refine j_q (qs_ac) ?_
  refine j_subl (S' := [[]]) (by repeat first | exact slR _ | exact slN _ | apply slC | apply slD) ?_
  refine j_ret_con (vs := [_]) (fun w' hw' => ⟨rfl, trivial⟩) ?_
  exact ⟨[], rfl, (by rw [h00]; exact own_nil)⟩
 ·skip
  refine j_lit0 U24 sz68 (fun g3 hg3 ho3 => ?_)
  refine j_append 0 U24 U24 (.inr ⟨_, rfl⟩) sb68 zero68 rfl ho3 rfl (src_rsln hv) (flat_one hone) ⟨(by simp only [List.length_nil, flat_len encI_len]; omega), (by decide)⟩ (fun v4 c4 ho4 => ?_)
  rw [List.nil_append] at ho4
  refine j_subl (S' := [c4]) (by repeat first | exact slR _ | exact slN _ | apply slC | apply slD) ?_
  refine j_ret_con (vs := [_]) (fun w' hw' => ⟨rfl, trivial⟩) ?_
  exact ⟨c4, rfl, ho4⟩
theorem own_con (d : PD) (x : DV) (w : World) (h : DR w d x) (hb : big2 d ≤ 200000) : Con Tryz.prog 50 [dval d x] w [] fun v S' => ∃ x' cO cI FI cS cA cV, v = dval d x' ∧ S' = [cI, FI, cO, cS, cV, cA] ∧ DOwnE d x' cO cI FI cS cA cV := by
 refine con_of_tree mix Tryz.func50 T50_ok (by kernel_rfl) ?_
 unfold T50
 have few := few_of hb
 have few4 := few.la
 have few5 := few.le
 have few6 := few.li
 have few7 := few.lo
 have few8 := few.ls
 have hni : d.ins.length = x.mi.length := by rw [h.im, List.length_map]
 have hmem : ∀ m ∈ x.mi, m.pi ∈ d.ins := fun m hm => by rw [h.im]; exact List.mem_map_of_mem hm
 refine j_box (l := [.string (bs d.name), .string (bs d.sys), .string (bs d.bld), x.va, x.ve, x.vi, x.vs, x.vo]) rfl (fun g0 hg0 hs0 => ?_)
 refine j_alloc zero28 (fun g1 hg1 hs1 => ?_)
 refine j_mix _ (.refl _) ?_
 refine j_mq (qs_field U28 rfl sz22 (by decide) rfl) ?_
 refine j_mq (qs_load 1 U22 rfl rfl rfl rfl) ?_
 refine j_mq (qs_field U28 rfl sz23 (by decide) rfl) ?_
 refine j_mq (qs_load 1 U23 rfl rfl rfl rfl) ?_
 refine j_call0 ent94 rfl rfl rfl (fun w' hw' => cloneS_con _ _ w' (strz_keep h.a hw') (by omega)) (fun u S2 hu => ?_)
 obtain ⟨cA, rfl, hoA⟩ := hu
 obtain ⟨nA, AA, capA, rfl, hnA⟩ := own_form hoA (by decide)
 refine j_mD0 (Le.of_sub (by repeat first | exact slR _ | exact slN _ | apply slC | apply slD)) ?_
 refine j_mq (qs_field U28 rfl sz22 (by decide) rfl) ?_
 refine j_call0 ent95 rfl rfl rfl (fun w' hw' => cloneV_con _ _ w' (rsln_keep h.e hw') (by omega)) (fun u S2 hu => ?_)
 obtain ⟨cE, rfl, hoE⟩ := hu
 obtain ⟨nE, AE, capE, rfl, hnE⟩ := own_form hoE (by decide)
 refine j_mD0 (Le.of_sub (by repeat first | exact slR _ | exact slN _ | apply slC | apply slD)) ?_
 refine j_store (g := g0) (i := 3) (l := [.string (bs d.name), .string (bs d.sys), .string (bs d.bld), x.va, x.ve, x.vi, x.vs, x.vo]) (v := .slice AA nA capA) 3 sz22 rfl rfl rfl rfl (by simp) (by simp) ?_
 refine j_mR _ (.refl _) ?_
 refine j_mq (qs_field U28 rfl sz23 (by decide) rfl) ?_
 refine j_store (g := g0) (i := 4) (l := [.string (bs d.name), .string (bs d.sys), .string (bs d.bld), .slice AA nA capA, x.ve, x.vi, x.vs, x.vo]) (v := .slice AE nE capE) 3 sz23 rfl rfl rfl rfl (by simp) (by simp) ?_
 refine j_mR _ (.refl _) ?_
 refine j_mend ?_
 refine j_mix _ (.refl _) ?_
 refine j_mq (qs_field U28 rfl sz25 (by decide) rfl) ?_
 refine j_mq (qs_load 3 U25 rfl rfl rfl rfl) ?_
 refine j_mq (qs_field U28 rfl sz26 (by decide) rfl) ?_
 refine j_mq (qs_load 3 U26 rfl rfl rfl rfl) ?_
 refine j_mq (qs_field U28 rfl sz24 (by decide) rfl) ?_
 refine j_mq (qs_load 3 U24 rfl rfl rfl rfl) ?_
 refine j_call0 ent96 rfl rfl rfl (fun w' hw' => cloneP_con _ _ w' (strz_keep h.s hw') (by omega)) (fun u S2 hu => ?_)
 obtain ⟨cS, rfl, hoS⟩ := hu
 obtain ⟨nS, AS, capS, rfl, hnS⟩ := own_form hoS (by decide)
 refine j_mD0 (Le.of_sub (by repeat first | exact slR _ | exact slN _ | apply slC | apply slD)) ?_
 refine j_mq (qs_field U28 rfl sz25 (by decide) rfl) ?_
 refine j_call0 ent97 rfl rfl rfl (fun w' hw' => cloneO_con _ _ w' (rsln_keep h.o hw') (by omega)) (fun u S2 hu => ?_)
 obtain ⟨cO, rfl, hoO⟩ := hu
 obtain ⟨nO, AO, capO, rfl, hnO⟩ := own_form hoO (by decide)
 refine j_mD0 (Le.of_sub (by repeat first | exact slR _ | exact slN _ | apply slC | apply slD)) ?_
 refine j_call0 ent98 rfl rfl rfl (fun w' hw' => cloneI_con _ _ w' (rsln_keep h.i hw') (fun m hm => MI.one (h.io m hm)) (by omega)) (fun u S2 hu => ?_)
 obtain ⟨cI, rfl, hoI⟩ := hu
 obtain ⟨nI, AI, capI, rfl, hnI⟩ := own_form hoI (by decide)
 refine j_mD0 (Le.of_sub (by repeat first | exact slR _ | exact slN _ | apply slC | apply slD)) ?_
 refine j_store (g := g0) (i := 6) (l := [.string (bs d.name), .string (bs d.sys), .string (bs d.bld), .slice AA nA capA, .slice AE nE capE, x.vi, x.vs, x.vo]) (v := .slice AS nS capS) 6 sz25 rfl rfl rfl rfl (by simp) (by simp) ?_
 refine j_mR _ (.refl _) ?_
 refine j_mq (qs_field U28 rfl sz26 (by decide) rfl) ?_
 refine j_store (g := g0) (i := 7) (l := [.string (bs d.name), .string (bs d.sys), .string (bs d.bld), .slice AA nA capA, .slice AE nE capE, x.vi, .slice AS nS capS, x.vo]) (v := .slice AO nO capO) 6 sz26 rfl rfl rfl rfl (by simp) (by simp) ?_
 refine j_mR _ (.refl _) ?_
 refine j_mq (qs_field U28 rfl sz24 (by decide) rfl) ?_
 refine j_store (g := g0) (i := 5) (l := [.string (bs d.name), .string (bs d.sys), .string (bs d.bld), .slice AA nA capA, .slice AE nE capE, x.vi, .slice AS nS capS, .slice AO nO capO]) (v := .slice AI nI capI) 6 sz24 rfl rfl rfl rfl (by simp) (by simp) ?_
 refine j_mR _ (.refl _) ?_
 refine j_mend ?_
 refine j_q (qs_field U28 rfl sz24 (by decide) rfl) ?_
 refine j_q (qs_load 6 U24 rfl rfl rfl rfl) ?_
 refine j_q (qs_lenl U24 rfl) ?_
 refine j_q (qs_mc) ?_
 refine j_perm (S' := [cI, [], cO, cS, cE, cA, [(g1, .cells ([.string (bs []), .string (bs []), .string (bs []), .slice none 0 0, .slice none 0 0, .slice none 0 0, .slice none 0 0, .slice none 0 0] : List Value).toArray 28 (0, 0))], [(g0, .cells ([.string (bs d.name), .string (bs d.sys), .string (bs d.bld), .slice AA nA capA, .slice AE nE capE, .slice AI nI capI, .slice AS nS capS, .slice AO nO capO] : List Value).toArray 28 (0, 0))], []]) (by classical exact List.perm_iff_count.2 fun a => by simp only [List.set_cons_succ, List.set_cons_zero, List.flatten_cons, List.flatten_nil, List.append_nil, List.nil_append, List.cons_append, List.count_append, List.count_cons, List.count_nil] <;> omega) ?_
 have hnI2 : nI = x.mi.length := by
  rw [flat_len encI_len] at hnI
  omega
 subst hnI2
 refine j_loop (fun m vs S' => ∃ (i : Nat) (ci F : SH) (mi : List MI), vs = [.int .i64 (i : Int)] ∧ S' = [ci, F, cO, cS, cE, cA, [(g1, .cells ([.string (bs []), .string (bs []), .string (bs []), .slice none 0 0, .slice none 0 0, .slice none 0 0, .slice none 0 0, .slice none 0 0] : List Value).toArray 28 (0, 0))], [(g0, .cells ([.string (bs d.name), .string (bs d.sys), .string (bs d.bld), .slice AA nA capA, .slice AE nE capE, .slice AI x.mi.length capI, .slice AS nS capS, .slice AO nO capO] : List Value).toArray 28 (0, 0))], []] ∧ Sx.Own 68 2 (((mi ++ x.mi.drop i).map encI).flatten) (.slice AI x.mi.length capI) ci ∧ Mine mi F ∧ mi.map MI.pi = (x.mi.take i).map MI.pi ∧ mi.length = i ∧ i ≤ x.mi.length ∧ m = x.mi.length - i) ⟨_, 0, cI, [], [], rfl, rfl, hoI, mine_nil, rfl, rfl, Nat.zero_le _, rfl⟩ ?_
 rintro m vs S' hlen ⟨i, ci, F, mi, rfl, rfl, hoi, hmine, hmi, hml, hin, rfl⟩
 refine j_q (qs_lss rfl rfl) ?_
 refine j_cond rfl (fun hc0 => ?_) (fun hc0 => ?_)
 ·skip
  have hi : i < x.mi.length := by
   simp only [bnA] at *
   omega
  have hi2 : i < (mi ++ x.mi.drop i).length := by rw [List.length_append, List.length_drop]; omega
  have hgi : (mi ++ x.mi.drop i).getD i m0 = (x.mi.getD i m0) := news_get hml hi
  have hoi2 := hoi
  obtain ⟨gI, nI', capI', hAI⟩ := own_some hoi2 (by intro e; have := congrArg List.length e; rw [flat_len encI_len] at this; simp at this; omega)
  injection hAI with hAI _ _
  subst hAI
  have hip := few.ip _ (hmem _ (getD_mem (d := m0) hi))
  simp only [MI.pi] at hip
  refine j_mix _ (.refl _) ?_
  refine j_mq (qs_field U28 rfl sz24 (by decide) rfl) ?_
  refine j_mq (qs_load (l := [.string (bs d.name), .string (bs d.sys), .string (bs d.bld), .slice AA nA capA, .slice AE nE capE, .slice (some ⟨gI, 0, none⟩) x.mi.length capI, .slice AS nS capS, .slice AO nO capO]) (v := .slice (some ⟨gI, 0, none⟩) x.mi.length capI) 7 U24 rfl rfl rfl rfl) ?_
  refine j_mq (qs_field U28 rfl sz24 (by decide) rfl) ?_
  refine j_mq (qs_load (l := [.string (bs d.name), .string (bs d.sys), .string (bs d.bld), .slice AA nA capA, .slice AE nE capE, .slice (some ⟨gI, 0, none⟩) x.mi.length capI, .slice AS nS capS, .slice AO nO capO]) (v := .slice (some ⟨gI, 0, none⟩) x.mi.length capI) 7 U24 rfl rfl rfl rfl) ?_
  refine j_mq (qs_ixn (g := gI) (off := 0) (i := i) U24 sz68 rfl rfl (by omega)) ?_
  refine j_mq (qs_field U68 rfl sz22 (by decide) rfl) ?_
  refine j_mq (qs_loadrec (v := (x.mi.getD i m0).v) (encA := encI) (rs := mi ++ x.mi.drop i) (d := m0) (i := i) (fo := 1) encI_len (own_rd hoi2 0 rfl) hi2 U22 rfl rfl (by rw [hgi]; rfl)) ?_
  refine j_call0 ent94 rfl rfl rfl (fun w' hw' => cloneS_con (x.mi.getD i m0).outs _ w' (strz_keep (h.io _ (getD_mem (d := m0) hi)) hw') (by omega)) (fun u S2 hu => ?_)
  obtain ⟨c39, rfl, ho39⟩ := hu
  obtain ⟨n39, A39, cap39, rfl, hn39⟩ := own_form ho39 (by decide)
  refine j_mD0 (Le.of_sub (by repeat first | exact slR _ | exact slN _ | apply slC | apply slD)) ?_
  refine j_mq (qs_ixn (g := gI) (off := 0) (i := i) U24 sz68 rfl rfl (by omega)) ?_
  refine j_mq (qs_field U68 rfl sz22 (by decide) rfl) ?_
  refine j_storerec (g := gI) (i := i) (fo := 1) (rs := mi ++ x.mi.drop i) (d := m0) (MI.mk (x.mi.getD i m0).drv (x.mi.getD i m0).outs (.slice A39 n39 cap39)) 1 encI_len hoi2 rfl hi2 sz22 rfl rfl rfl (by decide) (by rw [hgi]; rfl) (fun ci2 hoi3 => ?_)
  refine j_mR _ (.refl _) ?_
  refine j_mend ?_
  refine j_q (qs_add64 rfl rfl (by omega)) ?_
  refine j_perm (S' := [ci2, (c39 ++ F), cO, cS, cE, cA, [(g1, .cells ([.string (bs []), .string (bs []), .string (bs []), .slice none 0 0, .slice none 0 0, .slice none 0 0, .slice none 0 0, .slice none 0 0] : List Value).toArray 28 (0, 0))], [(g0, .cells ([.string (bs d.name), .string (bs d.sys), .string (bs d.bld), .slice AA nA capA, .slice AE nE capE, .slice (some ⟨gI, 0, none⟩) x.mi.length capI, .slice AS nS capS, .slice AO nO capO] : List Value).toArray 28 (0, 0))], []]) (by classical exact List.perm_iff_count.2 fun a => by simp only [List.set_cons_succ, List.set_cons_zero, List.flatten_cons, List.flatten_nil, List.append_nil, List.nil_append, List.cons_append, List.count_append, List.count_cons, List.count_nil] <;> omega) ?_
  refine j_back rfl ?_
  rw [set_news hml hi] at hoi3
  exact ⟨x.mi.length - (i + 1), by omega, i + 1, ci2, c39 ++ F, mi ++ [(MI.mk (x.mi.getD i m0).drv (x.mi.getD i m0).outs (.slice A39 n39 cap39))], rfl, rfl, hoi3, mine_snoc hmine ho39, ins_take hmi hi _, by rw [List.length_append]; simp; omega, by omega, rfl⟩
 ·skip
  obtain rfl : i = x.mi.length := by
   simp only [bnA] at *
   omega
  rw [List.take_length] at hmi
  rw [List.drop_length, List.append_nil] at hoi
  refine j_q (qs_loadw 7 U28 rfl sz28 rfl rfl rfl) ?_
  refine j_storew (l := [.string (bs []), .string (bs []), .string (bs []), .slice none 0 0, .slice none 0 0, .slice none 0 0, .slice none 0 0, .slice none 0 0]) (vs := [.string (bs d.name), .string (bs d.sys), .string (bs d.bld), .slice AA nA capA, .slice AE nE capE, .slice AI x.mi.length capI, .slice AS nS capS, .slice AO nO capO]) 6 sz28 rfl rfl rfl (by intro u hu; simp only [List.mem_cons, List.not_mem_nil, or_false] at hu; rcases hu with rfl | rfl | rfl | rfl | rfl | rfl | rfl | rfl <;> rfl) rfl rfl ?_
  -- no @RET
  refine j_ret_sub [ci, F, cO, cS, cE, cA] (by repeat first | exact slR _ | exact slN _ | apply slC | apply slD) (vs := [_]) (fun w' hw' => ⟨rv_agg (g := g1) (l := [.string (bs d.name), .string (bs d.sys), .string (bs d.bld), .slice AA nA capA, .slice AE nE capE, .slice AI x.mi.length capI, .slice AS nS capS, .slice AO nO capO]) 6 U28 rfl sz28 rfl rfl rfl hw', trivial⟩) ?_
  exact ⟨(⟨.slice AA nA capA, .slice AE nE capE, .slice AI x.mi.length capI, .slice AS nS capS, .slice AO nO capO, mi⟩ : DV), cO, ci, F, cS, cA, cE, rfl, rfl, ⟨hoO, hoi, hmine, by rw [h.im, hmi], hoS, hoA, hoE⟩⟩
end Go.Proofs.YtfeabbeebkkhaaaGreat
/-! Dv32 -/
namespace Go.Proofs.YtfeabbeebkkhaaaGreat
open Go Go.Sx
set_option maxRecDepth 100000
set_option maxHeartbeats 4000000
set_option linter.unusedVariables false
set_option linter.unusedSimpArgs false
attribute [local irreducible] J JQ QS Con W opW
open Go.MapKept Go.WideMaps Go.Maps
theorem pk49 : KeyE Tryz.prog 49 strEnc strOk := str_key U49
theorem pk9 : KeyE Tryz.prog 9 strEnc strOk := str_key U9
theorem zv51 : (Tryz.prog.info? 51).bind (·.zero) = some (.agg (ints (List.replicate 32 0)).toArray) := by kernel_rfl
theorem zv4 : (Tryz.prog.info? 4).bind (·.zero) = some (.bool false) := by kernel_rfl
def mMI (M : HM) (m : MI) : MI := ⟨mIv M m.drv, m.outs, m.v⟩
theorem mMI_pi (M : HM) (l : List MI) : (l.map (mMI M)).map MI.pi = (l.map MI.pi).map (mI M) := by
 rw [List.map_map, List.map_map]
 rfl
theorem mine_one {mi : List MI} {F : SH} (h : Mine mi F) {m : MI} (hm : m ∈ mi) : ∀ u ∈ encI m, oneV u = true := fun u hu => by
 obtain ⟨c, h1, _⟩ := h m hm
 simp only [encI, List.mem_cons, List.not_mem_nil, or_false] at hu
 rcases hu with rfl | rfl
 ·rfl
 ·exact own_one h1
theorem mine_mMI {M : HM} {mi : List MI} {F : SH} (h : Mine mi F) : Mine (mi.map (mMI M)) F := fun m hm => by
 obtain ⟨y, hy, rfl⟩ := List.mem_map.1 hm
 exact h y hy
def hget (M : HM) (k : Bs) : Hsh := (hlook M k).getD zHash
theorem look_val (M : HM) (k : Bs) : ((hlook M k).map fun h => Value.agg (ints h.1).toArray).getD (.agg (ints (List.replicate 32 0)).toArray) = .agg (ints (hget M k).1).toArray := by
 unfold hget
 cases hlook M k <;> rfl
theorem mIv_some {M : HM} {k : Bs} (h : (hlook M k).isSome = true) : mIv M k = hex (hget M k).1 := by
 unfold mIv hget
 cases hx : hlook M k with
 | none => rw [hx] at h; cases h
 | some y => rfl
theorem allIn_no {M : HM} {l : List MI} {i : Nat} (hi : i < l.length) (h : (hlook M (l.getD i m0).drv).isSome = false) : allIn M (l.map MI.pi) = false := by
 unfold allIn
 rw [List.all_eq_false]
 refine ⟨(l.getD i m0).pi, List.mem_map_of_mem (getD_mem hi), ?_⟩
 show ¬ (hlook M (l.getD i m0).drv).isSome = true
 rw [h]
 decide
theorem allIn_yes {M : HM} {l : List MI} (h : ∀ j < l.length, (hlook M (l.getD j m0).drv).isSome = true) : allIn M (l.map MI.pi) = true := by
 unfold allIn
 rw [List.all_eq_true]
 intro x hx
 obtain ⟨y, hy, rfl⟩ := List.mem_map.1 hx
 obtain ⟨j, hj, rfl⟩ := List.getElem_of_mem hy
 have := h j hj
 rw [List.getD_eq_getElem?_getD, List.getElem?_eq_getElem hj] at this
 exact this
def NM (m : List (Bs × Value)) (l : List PO) : Prop := ∀ n, mlook m n = if isOutN l n then some (.bool true) else none
theorem nm_nil : NM [] [] := fun n => rfl
theorem nm_step {m : List (Bs × Value)} {l : List PO} {i : Nat} (h : NM m (l.take i)) (hi : i < l.length) : NM (mset m (l.getD i o0).name (.bool true)) (l.take (i + 1)) := fun n => by
 rw [mlook_mset, h n]
 have e : isOutN (l.take (i + 1)) n = (isOutN (l.take i) n || decide ((l.getD i o0).name = n)) := by
  unfold isOutN
  rw [List.take_succ_eq_append_getElem hi, List.any_append, List.getD_eq_getElem?_getD, List.getElem?_eq_getElem hi]
  simp
 rw [e]
 by_cases hn : n = (l.getD i o0).name
 ·rw [if_pos hn, if_pos (by rw [hn]; simp)]
 ·rw [if_neg hn]
  have : decide ((l.getD i o0).name = n) = false := by simpa using fun h => hn h.symm
  rw [this, Bool.or_false]
theorem nm_get {m : List (Bs × Value)} {l : List PO} (h : NM m l) (n : Bs) : (mlook m n).getD (.bool false) = .bool (isOutN l n) := by
 rw [h n]
 cases isOutN l n <;> rfl
section
variable {M : HM} {d : PD}
theorem modE_1 (h : chk d ≠ 0) : modE M d = chk d ∧ (modH M d).1 = List.replicate 32 0 := by
 have h1 : modE M d = chk d := by unfold modE orE; rw [if_neg h]
 refine ⟨h1, ?_⟩
 unfold modH
 rw [if_neg (by rw [h1]; exact h)]
theorem modE_2 (h : chk d = 0) (hf : isFix d = true) : modE M d = 0 ∧ (modH M d).1 = sum (fixT d) := by
 have h1 : modE M d = 0 := by unfold modE orE; rw [if_pos h, if_pos hf]
 refine ⟨h1, ?_⟩
 unfold modH
 rw [if_pos h1, if_pos hf]
 rfl
theorem modE_3 (h : chk d = 0) (hf : isFix d = false) (ha : allIn M d.ins = false) : modE M d = 11 ∧ (modH M d).1 = List.replicate 32 0 := by
 have h1 : modE M d = 11 := by unfold modE orE; rw [if_pos h, if_neg (by rw [hf]; decide), if_neg (by rw [ha]; decide)]
 refine ⟨h1, ?_⟩
 unfold modH
 rw [if_neg (by rw [h1]; decide)]
theorem modE_4 (h : chk d = 0) (hf : isFix d = false) (ha : allIn M d.ins = true) : modE M d = 0 ∧ (modH M d).1 = sum (dtext (masked M d)) := by
 have h1 : modE M d = 0 := by unfold modE orE; rw [if_pos h, if_neg (by rw [hf]; decide), if_pos ha]
 refine ⟨h1, ?_⟩
 unfold modH
 rw [if_pos h1, if_neg (by rw [hf]; decide)]
 rfl
end
theorem mod_val {M : HM} {d : PD} {l : Bs} {e : Int} (h : modE M d = e ∧ (modH M d).1 = l) : (Value.tuple #[.agg (ints l).toArray, .int .i64 e]) = .tuple #[.agg (ints (modH M d).1).toArray, .int .i64 (modE M d)] := by rw [h.1, h.2]
theorem own_at {e : TypeId} {sz : Nat} {xs : List Value} {A : Option Addr} {n cap : Nat} {c : SH} (h : Sx.Own e sz xs (.slice A n cap) c) (h0 : 0 < xs.length) : ∃ g, A = some ⟨g, 0, none⟩ := by
 rcases h with ⟨_, rfl, _⟩ | ⟨g, n', cap', rest, fz, e1, _⟩
 ·simp at h0
 ·injection e1 with e1
  exact ⟨g, e1⟩
theorem fl_pos {α : Type} {enc : α → List Value} {n : Nat} (hl : ∀ a, (enc a).length = n) (h0 : 0 < n) {l : List α} (h : 0 < l.length) : 0 < ((l.map enc).flatten).length := by
 rw [flat_len hl]
 exact Nat.mul_pos h h0
attribute [local irreducible] es qt cms hex sum Tbl Half lst isName isPath isDrvP leB chkO chkOuts chkN chkI chkIns firstE spA spB spE chkS chkV dtext chk chk0 tTs modE modH fixT isFix hget mIv
theorem modulo_con (d : PD) (x : DV) (M : HM) (v : Value) (w : World) (h : DR w d x) (hm : HMR w v M) (hb : big2 d ≤ 200000) (hou : ∀ y ∈ d.ins, ∀ o ∈ y.outs, o.length ≤ 9223372036854775807) (htb : chk d = 0 → TB (masked M d)) : Con Tryz.prog 22 [dval d x, v] w [] fun u _ => u = .tuple #[.agg (ints (modH M d).1).toArray, .int .i64 (modE M d)] := by
 refine con_of_tree mix Tryz.func22 T22_ok (by kernel_rfl) ?_
 unfold T22
 have few := few_of hb
 have few1 := few.nm
 have few4 := few.la
 have few5 := few.le
 have few6 := few.li
 have few7 := few.lo
 have few8 := few.ls
 obtain ⟨Ao, capo, go, offo, hvo, hcapo, hAo⟩ := rsln_form h.o
 refine j_box (l := dcells d x) rfl (fun g0 hg0 hs0 => ?_)
 refine j_alloc zero51 (fun g1 hg1 hs1 => ?_)
 refine j_q (qs_ac) ?_
 refine j_q (qs_loadw 1 U28 rfl sz28 rfl rfl (by first | (rw [ints_length]; exact sum_length _) | (rw [ints_length]; exact (hget M _).2) | rfl)) ?_
 refine j_q (qs_call ent15 rfl rfl rfl (fun w' hw' => dcheck_con d x w' (h.keep hw') hb hou)) ?_
 refine j_q (qs_neq rfl rfl) ?_
 refine j_cond rfl (fun hc0 => ?_) (fun hc0 => ?_)
 ·skip
  have hck : chk d ≠ 0 := by simpa using hc0
  refine j_q (qs_run (v := .agg (ints (List.replicate 32 0)).toArray) (fun w => by kernel_rfl)) ?_
  refine j_storew 0 sz51 rfl rfl (by first | (rw [ints_length]; exact sum_length _) | (rw [ints_length]; exact (hget M _).2) | rfl) ints_one rfl (by first | (rw [ints_length]; exact sum_length _) | (rw [ints_length]; exact (hget M _).2) | rfl) ?_
  refine j_ret_con (vs := [_, _]) (fun w' hw' => ⟨rv_agg 0 U51 rfl sz51 rfl rfl (by first | (rw [ints_length]; exact sum_length _) | (rw [ints_length]; exact (hget M _).2) | rfl) hw', rfl, trivial⟩) ?_
  exact mod_val (modE_1 hck)
 ·skip
  have hck : chk d = 0 := by simpa using hc0
  have h16 := outs16 (chk0_parts (chk_zero hck)).2.2.1
  obtain ⟨rfl, hgo, hcells⟩ := hAo (by omega)
  refine j_q (qs_field U28 rfl sz26 (by decide) rfl) ?_
  refine j_q (qs_load (l := dcells d x) (v := .slice (some ⟨go, offo, none⟩) d.outs.length capo) 1 U26 rfl rfl rfl (congrArg some hvo)) ?_
  refine j_q (qs_ixn (g := go) (off := offo) (i := 0) U26 sz53 rfl rfl (by omega)) ?_
  refine j_q (qs_loadrecw (encA := encO) (rs := d.outs) (d := o0) (i := 0) encO_len (rd_cells hcells (by simp)) (by omega) U53 rfl sz53 rfl) ?_
  refine j_alloc zero53 (fun g12 hg12 hs12 => ?_)
  refine j_storew (vs := encO (d.outs.getD 0 o0)) 0 sz53 rfl rfl (encO_len _) (encO_one _) rfl rfl ?_
  refine j_q (qs_field U53 rfl sz4 (by decide) rfl) ?_
  refine j_q (qs_load (l := encO (d.outs.getD 0 o0)) (v := .bool (isFix d)) 0 U4 rfl rfl rfl (by unfold isFix; rfl)) ?_
  refine j_cond rfl (fun hc1 => ?_) (fun hc1 => ?_)
  ·skip
   refine j_mix _ (.refl _) ?_
   refine j_mq (qs_field U53 rfl sz51 (by decide) rfl) ?_
   refine j_mq (qs_loada (i := 3) (n := 32) (l := encO (d.outs.getD 0 o0)) 0 U51 rfl sz51 rfl rfl (by rw [encO_len]; omega)) ?_
   rw [show ((encO (d.outs.getD 0 o0)).drop 3).take 32 = ints (d.outs.getD 0 o0).hash.1 by show (ints _).take 32 = _; rw [List.take_of_length_le (by rw [ints_length, (d.outs.getD 0 o0).hash.2]; omega)]]
   refine j_mq (qs_field U28 rfl sz9 (by decide) rfl) ?_
   refine j_mq (qs_load (l := dcells d x) (v := .string (bs d.name)) 2 U9 rfl rfl rfl rfl) ?_
   refine j_q (qs_call ent54 rfl rfl rfl (fun w' hw' => hex_con (d.outs.getD 0 o0).hash.1 w' (d.outs.getD 0 o0).hash.2)) ?_
   refine j_mD0 (Le.of_sub (by repeat first | exact slR _ | exact slN _ | apply slC | apply slD)) ?_
   refine j_mq (qs_sadd (l := sFix) (l' := hex (d.outs.getD 0 o0).hash.1) rfl rfl (by simp only [sFix, List.length_cons, List.length_nil, hexL]; omega)) ?_
   refine j_mq (qs_sadd (l' := [58]) rfl rfl (by simp only [sFix, List.length_append, List.length_cons, List.length_nil, hexL]; omega)) ?_
   refine j_mq (qs_sadd (l' := d.name) rfl rfl (by simp only [sFix, List.length_append, List.length_cons, List.length_nil, hexL]; omega)) ?_
   have efix : sFix ++ hex (d.outs.getD 0 o0).hash.1 ++ [58] ++ d.name = fixT d := by unfold fixT; rfl
   rw [efix]
   have hfl : (fixT d).length = 75 + d.name.length := by rw [← efix]; simp only [sFix, List.length_append, List.length_cons, List.length_nil, hexL]
   refine j_bytes U9 U46 U5 rfl (fun v24 c24 ho24 hv24 => ?_)
   obtain ⟨g24, cap24, rfl⟩ := hv24
   obtain ⟨row, fz, hrow, hl1, hl2, hl3, hl4⟩ := own_row ho24
   refine j_mR _ (.refl _) ?_
   refine j_q (qs_call ent53 rfl rfl rfl (fun w' hw' => sum_con (fixT d) _ _ w' (by rw [hfl]; omega) hl3 (rd_w (own_rd ho24 0 rfl) hw'))) ?_
   refine j_mR _ (.refl _) ?_
   refine j_storew 2 sz51 rfl rfl (by first | (rw [ints_length]; exact sum_length _) | (rw [ints_length]; exact (hget M _).2) | rfl) ints_one rfl (by first | (rw [ints_length]; exact sum_length _) | (rw [ints_length]; exact (hget M _).2) | rfl) ?_
   refine j_mR _ (.refl _) ?_
   refine j_mq (qs_ac) ?_
   refine j_mend ?_
   refine j_ret_con (vs := [_, _]) (fun w' hw' => ⟨rv_agg 2 U51 rfl sz51 rfl rfl (by first | (rw [ints_length]; exact sum_length _) | (rw [ints_length]; exact (hget M _).2) | rfl) hw', rfl, trivial⟩) ?_
   exact mod_val (modE_2 hck hc1)
  ·skip
   refine j_q (qs_loadw (l := dcells d x) 2 U28 rfl sz28 rfl rfl rfl) ?_
   refine j_call0 ent50 rfl rfl rfl (fun w' hw' => own_con d x w' (h.keep hw') hb) (fun u S2 hu => ?_)
   obtain ⟨x2, cO, cI, FI, cS, cA, cV, rfl, rfl, ho⟩ := hu
   refine j_storew (l := dcells d x) (vs := dcells d x2) 8 sz28 rfl rfl rfl ho.one rfl rfl ?_
   have hml2 : x2.mi.length ≤ 200000 := by
    have := congrArg List.length ho.im
    rw [List.length_map] at this
    omega
   have hoi0 := ho.i
   have hoo0 := ho.o
   have hov0 := ho.e
   obtain ⟨nI, AI, capI, hvi, hnI⟩ := own_form ho.i (by decide)
   have hlI : nI = x2.mi.length := by
    rw [flat_len encI_len] at hnI
    omega
   rw [hlI] at hvi
   clear hnI
   subst hlI
   obtain ⟨nO, AO, capO, hvo2, hnO⟩ := own_form ho.o (by decide)
   have hlO : nO = d.outs.length := by
    rw [flat_len encO_len] at hnO
    omega
   rw [hlO] at hvo2
   clear hnO
   subst hlO
   obtain ⟨nV, AV, capV, hve2, hnV⟩ := own_form ho.e (by decide)
   have hlV : nV = d.env.length := by
    rw [flat_len encV_len] at hnV
    omega
   rw [hlV] at hve2
   clear hnV
   subst hlV
   rw [hvi] at hoi0
   rw [hvo2] at hoo0
   rw [hve2] at hov0
   refine j_q (qs_field U28 rfl sz24 (by decide) rfl) ?_
   refine j_q (qs_load (l := dcells d x2) (v := .slice AI x2.mi.length capI) 8 U24 rfl rfl rfl (congrArg some hvi)) ?_
   refine j_q (qs_lenl U24 rfl) ?_
   refine j_q (qs_mc) ?_
   refine j_loop (fun m vs S' => ∃ (i : Nat) (ci : SH), vs = [.int .i64 (i : Int)] ∧ S' = [ci, FI, cO, cS, cV, cA, [(g12, .cells (encO (d.outs.getD 0 o0)).toArray 53 (0, 0))], [(g1, .cells (ints (List.replicate 32 0)).toArray 51 (0, 0))], [(g0, .cells (dcells d x2).toArray 28 (0, 0))], []] ∧ Sx.Own 68 2 (((upd (mMI M) x2.mi i).map encI).flatten) (.slice AI x2.mi.length capI) ci ∧ (∀ j < i, (hlook M (x2.mi.getD j m0).drv).isSome = true) ∧ i ≤ x2.mi.length ∧ m = x2.mi.length - i) ⟨_, 0, cI, rfl, rfl, (by rw [upd_zero]; exact hoi0), (fun j hj => absurd hj (Nat.not_lt_zero _)), Nat.zero_le _, rfl⟩ ?_
   rintro m vs S' hlen ⟨i, ci, rfl, rfl, hoi, hz, hin, rfl⟩
   refine j_q (qs_lss rfl rfl) ?_
   refine j_cond rfl (fun hc2 => ?_) (fun hc2 => ?_)
   ·skip
    have hi : i < x2.mi.length := by
     simp only [bnA] at *
     omega
    obtain ⟨gI, rfl⟩ := own_at hoi (fl_pos encI_len (by decide) (by rw [upd_len]; omega))
    have hip : (x2.mi.getD i m0).drv.length ≤ 200000 := by
     have := few.ip (x2.mi.getD i m0).pi (by rw [ho.im]; exact List.mem_map_of_mem (getD_mem hi))
     simp only [MI.pi] at this
     omega
    refine j_q (qs_ixn (g := gI) (off := 0) (i := i) U24 sz68 rfl rfl (by omega)) ?_
    refine j_q (qs_loadrecw (encA := encI) (rs := upd (mMI M) x2.mi i) (d := m0) (i := i) encI_len (own_rd hoi 0 rfl) (by rw [upd_len]; exact hi) U68 rfl sz68 rfl) ?_
    rw [upd_get _ m0 hi]
    refine j_alloc zero68 (fun g38 hg38 hs38 => ?_)
    refine j_storew (vs := encI (x2.mi.getD i m0)) 0 sz68 rfl rfl (encI_len _) (mine_one ho.io (getD_mem (d := m0) hi)) rfl rfl ?_
    refine j_q (qs_field U68 rfl sz49 (by decide) rfl) ?_
    refine j_q (qs_load 0 U49 rfl rfl rfl rfl) ?_
    refine j_q (qs_lookup2M pk49 (mapr_rd hm) U55 zv51 (key := (x2.mi.getD i m0).drv) rfl rfl (by unfold strOk; omega)) ?_
    rw [hlook_m, look_val, Option.isSome_map]
    refine j_q (qs_ext rfl rfl) ?_
    refine j_q (qs_ext rfl rfl) ?_
    refine j_alloc zero51 (fun g45 hg45 hs45 => ?_)
    refine j_storew (l := ints (List.replicate 32 0)) (vs := ints (hget M (x2.mi.getD i m0).drv).1) 0 sz51 rfl rfl (by rw [ints_length]; exact (hget M _).2) ints_one rfl rfl ?_
    refine j_q (qs_not rfl) ?_
    refine j_cond rfl (fun hc3 => ?_) (fun hc3 => ?_)
    ·skip
     have hno : (hlook M (x2.mi.getD i m0).drv).isSome = false := by simpa using hc3
     refine j_q (qs_run (v := .agg (ints (List.replicate 32 0)).toArray) (fun w => by kernel_rfl)) ?_
     refine j_storew (g := g1) (l := ints (List.replicate 32 0)) (vs := ints (List.replicate 32 0)) 9 sz51 rfl rfl rfl ints_one rfl rfl ?_
     refine j_q (qs_ac) ?_
     -- no @RET
     refine j_ret_con (vs := [_, _]) (fun w' hw' => ⟨rv_agg (g := g1) (l := ints (List.replicate 32 0)) 9 U51 rfl sz51 rfl rfl rfl hw', rfl, trivial⟩) ?_
     exact mod_val (modE_3 hck hc1 (by rw [ho.im]; exact allIn_no hi hno))
    ·skip
     have hc3' : (hlook M (x2.mi.getD i m0).drv).isSome = true := by simpa using hc3
     refine j_mix _ (.refl _) ?_
     refine j_mq (qs_field U28 rfl sz24 (by decide) rfl) ?_
     refine j_mq (qs_load (l := dcells d x2) (v := .slice (some ⟨gI, 0, none⟩) x2.mi.length capI) 10 U24 rfl rfl rfl (congrArg some hvi)) ?_
     refine j_mq (qs_loadw (l := ints (hget M (x2.mi.getD i m0).drv).1) 0 U51 rfl sz51 rfl rfl (by rw [ints_length]; exact (hget M _).2)) ?_
     refine j_q (qs_call ent54 rfl rfl rfl (fun w' hw' => hex_con (hget M (x2.mi.getD i m0).drv).1 w' (hget M _).2)) ?_
     refine j_mD0 (Le.of_sub (by repeat first | exact slR _ | exact slN _ | apply slC | apply slD)) ?_
     refine j_mq (qs_ixn (g := gI) (off := 0) (i := i) U24 sz68 rfl rfl (by omega)) ?_
     refine j_mq (qs_field U68 rfl sz49 (by decide) rfl) ?_
     refine j_storerec (g := gI) (i := i) (fo := 0) (rs := upd (mMI M) x2.mi i) (d := m0) (mMI M (x2.mi.getD i m0)) 2 encI_len hoi rfl (by rw [upd_len]; exact hi) sz49 rfl rfl rfl (by decide) (by rw [upd_get _ m0 hi]; show [Value.string (bs (mIv M (x2.mi.getD i m0).drv)), _] = _; rw [mIv_some hc3']; rfl) (fun ci2 hoi2 => ?_)
     rw [upd_set _ m0 hi] at hoi2
     refine j_subl (S' := [ci2, FI, cO, cS, cV, cA, [(g12, .cells (encO (d.outs.getD 0 o0)).toArray 53 (0, 0))], [(g1, .cells (ints (List.replicate 32 0)).toArray 51 (0, 0))], [(g0, .cells (dcells d x2).toArray 28 (0, 0))], []]) (by repeat first | exact slR _ | exact slN _ | apply slC | apply slD) ?_
     refine j_mR _ (.refl _) ?_
     refine j_mend ?_
     refine j_q (qs_add64 rfl rfl (by omega)) ?_
     refine j_back rfl ?_
     exact ⟨x2.mi.length - (i + 1), by omega, i + 1, ci2, rfl, rfl, hoi2, fun j hj => by rcases Nat.lt_or_ge j i with h | h; exact hz j h; rw [show j = i by omega]; exact hc3', by omega, rfl⟩
   ·skip
    obtain rfl : i = x2.mi.length := by
     simp only [bnA] at *
     omega
    rw [upd_all] at hoi
    have hall : allIn M d.ins = true := by
     rw [ho.im]
     exact allIn_yes hz
    refine j_mkmap (fun g59 hg59 => ?_)
    refine j_q (qs_field U28 rfl sz26 (by decide) rfl) ?_
    refine j_q (qs_load (l := dcells d x2) (v := .slice AO d.outs.length capO) 9 U26 rfl rfl rfl (congrArg some hvo2)) ?_
    refine j_q (qs_lenl U26 rfl) ?_
    refine j_q (qs_mc) ?_
    refine j_loop (fun m vs S' => ∃ (i : Nat) (co : SH) (es : Array MapEntry) (clock : Nat) (mm : List (Bs × Value)), vs = [.int .i64 (i : Int)] ∧ S' = [[(g59, .map es clock)], ci, FI, co, cS, cV, cA, [(g12, .cells (encO (d.outs.getD 0 o0)).toArray 53 (0, 0))], [(g1, .cells (ints (List.replicate 32 0)).toArray 51 (0, 0))], [(g0, .cells (dcells d x2).toArray 28 (0, 0))], []] ∧ Sx.Own 53 35 (((upd mO d.outs i).map encO).flatten) (.slice AO d.outs.length capO) co ∧ MapOk strEnc strOk es clock mm ∧ NM mm (d.outs.take i) ∧ i ≤ d.outs.length ∧ m = d.outs.length - i) ⟨_, 0, cO, #[], 0, [], rfl, rfl, (by rw [upd_zero]; exact hoo0), mapOk_nil, nm_nil, Nat.zero_le _, rfl⟩ ?_
    rintro m vs S' hlen ⟨i, co, es, clock, mm, rfl, rfl, hoo, hmap, hnm, hin, rfl⟩
    refine j_q (qs_lss rfl rfl) ?_
    refine j_cond rfl (fun hc4 => ?_) (fun hc4 => ?_)
    ·skip
     have hi : i < d.outs.length := by
      simp only [bnA] at *
      omega
     obtain ⟨gO, rfl⟩ := own_at hoo (fl_pos encO_len (by decide) (by rw [upd_len]; omega))
     have hol := few.ou _ (getD_mem (d := o0) hi)
     refine j_q (qs_ixn (g := gO) (off := 0) (i := i) U26 sz53 rfl rfl (by omega)) ?_
     refine j_q (qs_loadrecw (encA := encO) (rs := upd mO d.outs i) (d := o0) (i := i) encO_len (own_rd hoo 3 rfl) (by rw [upd_len]; exact hi) U53 rfl sz53 rfl) ?_
     rw [upd_get _ o0 hi]
     refine j_alloc zero53 (fun g67 hg67 hs67 => ?_)
     refine j_storew (vs := encO (d.outs.getD i o0)) 0 sz53 rfl rfl (encO_len _) (encO_one _) rfl rfl ?_
     refine j_q (qs_field U53 rfl sz9 (by decide) rfl) ?_
     refine j_q (qs_load (l := encO (d.outs.getD i o0)) (v := .string (bs (d.outs.getD i o0).name)) 0 U9 rfl rfl rfl rfl) ?_
     refine j_mapset pk9 1 U104 rfl (key := (d.outs.getD i o0).name) rfl rfl rfl hmap (by unfold strOk; omega) (fun es2 cl2 hmap2 => ?_)
     refine j_q (qs_field U28 rfl sz26 (by decide) rfl) ?_
     refine j_q (qs_load (l := dcells d x2) (v := .slice (some ⟨gO, 0, none⟩) d.outs.length capO) 10 U26 rfl rfl rfl (congrArg some hvo2)) ?_
     refine j_q (qs_ixn (g := gO) (off := 0) (i := i) U26 sz53 rfl rfl (by omega)) ?_
     refine j_q (qs_field U53 rfl sz49 (by decide) rfl) ?_
     refine j_storerec (g := gO) (i := i) (fo := 1) (rs := upd mO d.outs i) (d := o0) (mO (d.outs.getD i o0)) 4 encO_len hoo rfl (by rw [upd_len]; exact hi) sz49 rfl rfl rfl (by decide) (by rw [upd_get _ o0 hi]; rfl) (fun co2 hoo2 => ?_)
     rw [upd_set _ o0 hi] at hoo2
     refine j_subl (S' := [[(g59, .map es2 cl2)], ci, FI, co2, cS, cV, cA, [(g12, .cells (encO (d.outs.getD 0 o0)).toArray 53 (0, 0))], [(g1, .cells (ints (List.replicate 32 0)).toArray 51 (0, 0))], [(g0, .cells (dcells d x2).toArray 28 (0, 0))], []]) (by repeat first | exact slR _ | exact slN _ | apply slC | apply slD) ?_
     refine j_q (qs_add64 rfl rfl (by omega)) ?_
     refine j_back rfl ?_
     exact ⟨d.outs.length - (i + 1), by omega, i + 1, co2, es2, cl2, _, rfl, rfl, hoo2, hmap2, nm_step hnm hi, by omega, rfl⟩
    ·skip
     obtain rfl : i = d.outs.length := by
      simp only [bnA] at *
      omega
     rw [upd_all] at hoo
     rw [List.take_length] at hnm
     refine j_q (qs_field U28 rfl sz23 (by decide) rfl) ?_
     refine j_q (qs_load (l := dcells d x2) (v := .slice AV d.env.length capV) 9 U23 rfl rfl rfl (congrArg some hve2)) ?_
     refine j_q (qs_lenl U23 rfl) ?_
     refine j_q (qs_mc) ?_
     refine j_loop (fun m vs S' => ∃ (i : Nat) (cv : SH), vs = [.int .i64 (i : Int)] ∧ S' = [[(g59, .map es clock)], ci, FI, co, cS, cv, cA, [(g12, .cells (encO (d.outs.getD 0 o0)).toArray 53 (0, 0))], [(g1, .cells (ints (List.replicate 32 0)).toArray 51 (0, 0))], [(g0, .cells (dcells d x2).toArray 28 (0, 0))], []] ∧ Sx.Own 48 2 (((upd (mV d.outs) d.env i).map encV).flatten) (.slice AV d.env.length capV) cv ∧ i ≤ d.env.length ∧ m = d.env.length - i) ⟨_, 0, cV, rfl, rfl, (by rw [upd_zero]; exact hov0), Nat.zero_le _, rfl⟩ ?_
     rintro m vs S' hlen ⟨i, cv, rfl, rfl, hov, hin, rfl⟩
     refine j_q (qs_lss rfl rfl) ?_
     refine j_cond rfl (fun hc5 => ?_) (fun hc5 => ?_)
     ·skip
      have hi : i < d.env.length := by
       simp only [bnA] at *
       omega
      obtain ⟨gV, rfl⟩ := own_at hov (fl_pos encV_len (by decide) (by rw [upd_len]; omega))
      have hel := few.ev _ (getD_mem (d := v0) hi)
      refine j_q (qs_ixn (g := gV) (off := 0) (i := i) U23 sz48 rfl rfl (by omega)) ?_
      refine j_q (qs_loadrecw (encA := encV) (rs := upd (mV d.outs) d.env i) (d := v0) (i := i) encV_len (own_rd hov 5 rfl) (by rw [upd_len]; exact hi) U48 rfl sz48 rfl) ?_
      rw [upd_get _ v0 hi]
      refine j_alloc zero48 (fun g85 hg85 hs85 => ?_)
      refine j_storew (vs := encV (d.env.getD i v0)) 0 sz48 rfl rfl (encV_len _) (encV_one _) rfl rfl ?_
      refine j_q (qs_field U48 rfl sz9 (by decide) rfl) ?_
      refine j_q (qs_load (l := encV (d.env.getD i v0)) (v := .string (bs (d.env.getD i v0).name)) 0 U9 rfl rfl rfl rfl) ?_
      refine j_q (qs_lookup pk9 1 U104 zv4 (key := (d.env.getD i v0).name) rfl rfl rfl hmap (by unfold strOk; omega)) ?_
      rw [nm_get hnm]
      refine j_cond rfl (fun hc6 => ?_) (fun hc6 => ?_)
      ·skip
       refine j_q (qs_field U28 rfl sz23 (by decide) rfl) ?_
       refine j_q (qs_load (l := dcells d x2) (v := .slice (some ⟨gV, 0, none⟩) d.env.length capV) 10 U23 rfl rfl rfl (congrArg some hve2)) ?_
       refine j_q (qs_ixn (g := gV) (off := 0) (i := i) U23 sz48 rfl rfl (by omega)) ?_
       refine j_q (qs_field U48 rfl sz9 (by decide) rfl) ?_
       refine j_storerec (g := gV) (i := i) (fo := 1) (rs := upd (mV d.outs) d.env i) (d := v0) (mV d.outs (d.env.getD i v0)) 6 encV_len hov rfl (by rw [upd_len]; exact hi) sz9 rfl rfl rfl (by decide) (by rw [upd_get _ v0 hi]; show [_, Value.string (bs (if isOutN d.outs (d.env.getD i v0).name = true then [] else _))] = _; rw [if_pos hc6]; rfl) (fun cv2 hov2 => ?_)
       rw [upd_set _ v0 hi] at hov2
       refine j_subl (S' := [[(g59, .map es clock)], ci, FI, co, cS, cv2, cA, [(g12, .cells (encO (d.outs.getD 0 o0)).toArray 53 (0, 0))], [(g1, .cells (ints (List.replicate 32 0)).toArray 51 (0, 0))], [(g0, .cells (dcells d x2).toArray 28 (0, 0))], []]) (by repeat first | exact slR _ | exact slN _ | apply slC | apply slD) ?_
       refine j_q (qs_add64 rfl rfl (by omega)) ?_
       refine j_back rfl ?_
       exact ⟨d.env.length - (i + 1), by omega, i + 1, cv2, rfl, rfl, hov2, by omega, rfl⟩
      ·skip
       have hsame : mV d.outs (d.env.getD i v0) = d.env.getD i v0 := by
        unfold mV
        rw [if_neg (by rw [hc6]; decide)]
       rw [← upd_same _ v0 hi hsame] at hov
       refine j_subl (S' := [[(g59, .map es clock)], ci, FI, co, cS, cv, cA, [(g12, .cells (encO (d.outs.getD 0 o0)).toArray 53 (0, 0))], [(g1, .cells (ints (List.replicate 32 0)).toArray 51 (0, 0))], [(g0, .cells (dcells d x2).toArray 28 (0, 0))], []]) (by repeat first | exact slR _ | exact slN _ | apply slC | apply slD) ?_
       refine j_q (qs_add64 rfl rfl (by omega)) ?_
       refine j_back rfl ?_
       exact ⟨d.env.length - (i + 1), by omega, i + 1, cv, rfl, rfl, hov, by omega, rfl⟩
     ·skip
      obtain rfl : i = d.env.length := by
       simp only [bnA] at *
       omega
      rw [upd_all] at hov
      refine j_q (qs_loadw (l := dcells d x2) 9 U28 rfl sz28 rfl rfl rfl) ?_
      have hoM : DOwnE (masked M d) (⟨x2.va, x2.ve, x2.vi, x2.vs, x2.vo, x2.mi.map (mMI M)⟩ : DV) co ci FI cS cA cv := by
       refine ⟨?_, ?_, mine_mMI ho.io, ?_, ho.s, ho.a, ?_⟩
       ·rw [hvo2]; exact hoo
       ·rw [hvi]; exact hoi
       ·show d.ins.map (mI M) = _
        rw [mMI_pi, ← ho.im]
       ·rw [hve2]; exact hov
      refine j_q (qs_call ent36 rfl rfl rfl (fun w' hw' => dtext_con (masked M d) (⟨x2.va, x2.ve, x2.vi, x2.vs, x2.vo, x2.mi.map (mMI M)⟩ : DV) w' (DOwnE.dr hoM (fun p hp => hw'.own p (by simp only [List.mem_append] at hp; rcases hp with ((((h | h) | h) | h) | h) | h <;> simp [h]))) (htb hck))) ?_
      have hdl := dtext_le (htb hck)
      refine j_bytes U9 U46 U5 rfl (fun v99 c99 ho99 hv99 => ?_)
      obtain ⟨g99, cap99, rfl⟩ := hv99
      obtain ⟨row, fz, hrow, hl1, hl2, hl3, hl4⟩ := own_row ho99
      refine j_q (qs_call ent53 rfl rfl rfl (fun w' hw' => sum_con (dtext (masked M d)) _ _ w' (by omega) hl3 (rd_w (own_rd ho99 0 rfl) hw'))) ?_
      refine j_storew (g := g1) (l := ints (List.replicate 32 0)) (vs := ints (sum (dtext (masked M d)))) 9 sz51 rfl rfl (by rw [ints_length]; exact sum_length _) ints_one rfl rfl ?_
      refine j_q (qs_ac) ?_
      -- no @RET
      refine j_ret_con (vs := [_, _]) (fun w' hw' => ⟨rv_agg (g := g1) (l := ints (sum (dtext (masked M d)))) 9 U51 rfl sz51 rfl rfl (by rw [ints_length]; exact sum_length _) hw', rfl, trivial⟩) ?_
      exact mod_val (modE_4 hck hc1 hall)
end Go.Proofs.YtfeabbeebkkhaaaGreat
/-! Dv33 -/
namespace Go.Proofs.YtfeabbeebkkhaaaGreat
open Go Go.Sx
set_option maxRecDepth 100000
set_option maxHeartbeats 4000000
set_option linter.unusedVariables false
set_option linter.unusedSimpArgs false
attribute [local irreducible] J JQ QS Con W opW
open Go.MapKept Go.WideMaps Go.Maps
abbrev dvZ : DV := ⟨.slice none 0 0, .slice none 0 0, .slice none 0 0, .slice none 0 0, .slice none 0 0, []⟩
theorem zero28z : zeroL Tryz.prog 28 = some (dcells pdZ dvZ) := by kernel_rfl
theorem dZ_one : ∀ u ∈ dcells pdZ dvZ, oneV u = true := by
 intro u hu
 simp only [dcells, List.mem_cons, List.not_mem_nil, or_false] at hu
 rcases hu with rfl | rfl | rfl | rfl | rfl | rfl | rfl | rfl <;> rfl
theorem dZ_own : DOwnE pdZ dvZ [] [] [] [] [] [] := ⟨own_nil, own_nil, mine_nil, rfl, own_nil, own_nil, own_nil⟩
theorem zv49 : (Tryz.prog.info? 49).bind (·.zero) = some (.string (bs [])) := by kernel_rfl
def PM (m : List (Bs × Value)) (l : List PO) : Prop := ∀ n, mlook m n = (l.reverse.find? (fun o => decide (o.name = n))).map fun o => Value.string (bs o.path)
theorem pm_nil : PM [] [] := fun n => rfl
theorem pm_step {m : List (Bs × Value)} {l : List PO} {f : PO → PO} (hf : ∀ o, (f o).name = o.name) {i : Nat} (h : PM m ((l.take i).map f)) (hi : i < l.length) : PM (mset m (l.getD i o0).name (.string (bs (f (l.getD i o0)).path))) ((l.take (i + 1)).map f) := fun n => by
 rw [mlook_mset, h n, List.take_succ_eq_append_getElem hi, List.map_append, List.reverse_append]
 have e : l[i] = l.getD i o0 := by rw [List.getD_eq_getElem?_getD, List.getElem?_eq_getElem hi]; rfl
 rw [e]
 simp only [List.map_cons, List.map_nil, List.reverse_cons, List.reverse_nil, List.nil_append, List.cons_append, List.find?_cons, hf]
 by_cases hn : n = (l.getD i o0).name
 ·rw [if_pos hn, decide_eq_true hn.symm]
  rfl
 ·rw [if_neg hn, decide_eq_false (fun h => hn h.symm)]
theorem pm_get {m : List (Bs × Value)} {l : List PO} (h : PM m l) (n z : Bs) : (mlook m n).isSome = (l.reverse.find? (fun o => decide (o.name = n))).isSome ∧ (mlook m n).getD (.string (bs [])) = .string (bs (fVv l n [])) := by
 rw [h n]
 unfold fVv
 cases l.reverse.find? (fun o => decide (o.name = n)) <;> exact ⟨rfl, rfl⟩
theorem fVv_yes {l : List PO} {n z : Bs} (h : (l.reverse.find? (fun o => decide (o.name = n))).isSome = true) : fVv l n z = fVv l n [] := by
 unfold fVv
 cases hx : l.reverse.find? (fun o => decide (o.name = n)) with
 | none => rw [hx] at h; cases h
 | some y => rfl
theorem fVv_no {l : List PO} {n z : Bs} (h : (l.reverse.find? (fun o => decide (o.name = n))).isSome = false) : fVv l n z = z := by
 unfold fVv
 cases hx : l.reverse.find? (fun o => decide (o.name = n)) with
 | none => rfl
 | some y => rw [hx] at h; cases h
section
variable {M : HM} {d : PD}
theorem fill_1 (h : modE M d ≠ 0) : fillE M d = modE M d ∧ fillR M d = pdZ := by
 have h1 : fillE M d = modE M d := by unfold fillE orE; rw [if_neg h]
 refine ⟨h1, ?_⟩
 unfold fillR
 rw [if_neg (by rw [h1]; exact h)]
theorem fill_2 {i : Nat} {e : Int} (h : modE M d = 0) (hz : ∀ j < i, oE d.name (d.outs.getD j o0) = 0) (hi : i < d.outs.length) (he : oE d.name (d.outs.getD i o0) = e) (hne : e ≠ 0) : fillE M d = e ∧ fillR M d = pdZ := by
 have h1 : fillE M d = e := by
  unfold fillE orE outsE
  rw [if_pos h, firstE_at hz hi (by rw [he]; exact hne), he]
 refine ⟨h1, ?_⟩
 unfold fillR
 rw [if_neg (by rw [h1]; exact hne)]
theorem fill_3 (h : modE M d = 0) (hz : ∀ j < d.outs.length, oE d.name (d.outs.getD j o0) = 0) : fillE M d = 0 ∧ fillR M d = fillD M d := by
 have h1 : fillE M d = 0 := by
  unfold fillE orE outsE
  rw [if_pos h, firstE_zero hz]
 refine ⟨h1, ?_⟩
 unfold fillR
 rw [if_pos h1]
end
theorem oE_fix {nm : Bs} {o : PO} (h : o.fixed = true) : oE nm o = mkE nm := by unfold oE; rw [if_pos h]
theorem oE_out {nm : Bs} {o : PO} (h : o.fixed = false) : oE nm o = outE o.name nm := by unfold oE; rw [if_neg (by rw [h]; decide)]
theorem oP_fix {h0 : Hsh} {nm : Bs} {o : PO} (h : o.fixed = true) : oP h0 nm o = mkP kFixed o.hash.1 nm := by unfold oP; rw [if_pos h]
theorem oP_out {h0 : Hsh} {nm : Bs} {o : PO} (h : o.fixed = false) : oP h0 nm o = outP h0.1 o.name nm := by unfold oP; rw [if_neg (by rw [h]; decide)]
def FillPost (r : PD) (e : Int) (u : Value) (S' : List SH) : Prop := ∃ (x' : DV) (cO cI FI cS cA cV : SH), u = .tuple #[dval r x', .int .i64 e] ∧ S' = [cI, FI, cO, cS, cV, cA] ∧ DOwnE r x' cO cI FI cS cA cV
theorem fill_bad {r : PD} {e e' : Int} (h : e = e' ∧ r = pdZ) : FillPost r e (.tuple #[dval pdZ dvZ, .int .i64 e']) [[], [], [], [], [], []] := by
 obtain ⟨rfl, rfl⟩ := h
 exact ⟨dvZ, [], [], [], [], [], [], rfl, rfl, dZ_own⟩
attribute [local irreducible] es qt cms hex sum Tbl Half lst isName isPath isDrvP leB chkO chkOuts chkN chkI chkIns firstE spA spB spE chkS chkV dtext chk chk0 tTs modE modH fixT isFix hget mIv mkP mkE outP outE oP oE fVv
theorem fill_con (d : PD) (x : DV) (M : HM) (v : Value) (w : World) (h : DR w d x) (hm : HMR w v M) (hb : big2 d ≤ 200000) (hou : ∀ y ∈ d.ins, ∀ o ∈ y.outs, o.length ≤ 9223372036854775807) (htb : chk d = 0 → TB (masked M d)) : Con Tryz.prog 21 [dval d x, v] w [] fun u S' => FillPost (fillR M d) (fillE M d) u S' := by
 refine con_of_tree mix Tryz.func21 T21_ok (by kernel_rfl) ?_
 unfold T21
 have few := few_of hb
 have few1 := few.nm
 have few4 := few.la
 have few5 := few.le
 have few6 := few.li
 have few7 := few.lo
 have few8 := few.ls
 refine j_box (l := dcells d x) rfl (fun g0 hg0 hs0 => ?_)
 refine j_alloc zero28z (fun g1 hg1 hs1 => ?_)
 refine j_q (qs_ac) ?_
 refine j_q (qs_loadw 1 U28 rfl sz28 rfl rfl (by first | (rw [ints_length]; exact (modH _ _).2) | rfl)) ?_
 refine j_q (qs_call ent22 rfl rfl rfl (fun w' hw' => modulo_con d x M v w' (h.keep hw') (mapr_keep hm hw') hb hou htb)) ?_
 refine j_q (qs_ext (vs := [.agg (ints (modH M d).1).toArray, .int .i64 (modE M d)]) rfl rfl) ?_
 refine j_q (qs_ext (vs := [.agg (ints (modH M d).1).toArray, .int .i64 (modE M d)]) rfl rfl) ?_
 refine j_alloc zero51 (fun g7 hg7 hs7 => ?_)
 refine j_storew 0 sz51 rfl rfl (by first | (rw [ints_length]; exact (modH _ _).2) | rfl) ints_one rfl (by first | (rw [ints_length]; exact (modH _ _).2) | rfl) ?_
 refine j_q (qs_neq rfl rfl) ?_
 refine j_cond rfl (fun hc0 => ?_) (fun hc0 => ?_)
 ·skip
  have hme : modE M d ≠ 0 := by simpa using hc0
  refine j_q (qs_run (v := .agg (dcells pdZ dvZ).toArray) (fun w => by kernel_rfl)) ?_
  refine j_storew (g := g1) (l := dcells pdZ dvZ) (vs := dcells pdZ dvZ) 1 sz28 rfl rfl rfl dZ_one rfl rfl ?_
  -- no @RET
  refine j_ret_fl [[], [], [], [], [], []] (by simp) (vs := [_, _]) (fun w' hw' => ⟨rv_agg (g := g1) (l := dcells pdZ dvZ) 1 U28 rfl sz28 rfl rfl rfl hw', rfl, trivial⟩) ?_
  exact fill_bad (fill_1 hme)
 ·skip
  have hme : modE M d = 0 := by simpa using hc0
  refine j_q (qs_loadw (l := dcells d x) 2 U28 rfl sz28 rfl rfl rfl) ?_
  refine j_call0 ent50 rfl rfl rfl (fun w' hw' => own_con d x w' (h.keep hw') hb) (fun u S2 hu => ?_)
  obtain ⟨x2, cO, cI, FI, cS, cA, cV, rfl, rfl, ho⟩ := hu
  refine j_storew (l := dcells d x) (vs := dcells d x2) 8 sz28 rfl rfl rfl ho.one rfl rfl ?_
  have hoo0 := ho.o
  have hov0 := ho.e
  obtain ⟨nO, AO, capO, hvo2, hnO⟩ := own_form ho.o (by decide)
  have hlO : nO = d.outs.length := by
   rw [flat_len encO_len] at hnO
   omega
  rw [hlO] at hvo2
  clear hnO
  subst hlO
  obtain ⟨nV, AV, capV, hve2, hnV⟩ := own_form ho.e (by decide)
  have hlV : nV = d.env.length := by
   rw [flat_len encV_len] at hnV
   omega
  rw [hlV] at hve2
  clear hnV
  subst hlV
  rw [hvo2] at hoo0
  rw [hve2] at hov0
  refine j_mkmap (fun g15 hg15 => ?_)
  refine j_q (qs_field U28 rfl sz26 (by decide) rfl) ?_
  refine j_q (qs_load (l := dcells d x2) (v := .slice AO d.outs.length capO) 9 U26 rfl rfl rfl (congrArg some hvo2)) ?_
  refine j_q (qs_lenl U26 rfl) ?_
  refine j_q (qs_mc) ?_
  refine j_loop (fun m vs S' => ∃ (i : Nat) (co : SH) (es : Array MapEntry) (clock : Nat) (mm : List (Bs × Value)), vs = [.int .i64 (i : Int)] ∧ S' = [[(g15, .map es clock)], cI, FI, co, cS, cV, cA, [(g7, .cells (ints (modH M d).1).toArray 51 (0, 0))], [(g1, .cells (dcells pdZ dvZ).toArray 28 (0, 0))], [(g0, .cells (dcells d x2).toArray 28 (0, 0))], []] ∧ Sx.Own 53 35 (((upd (fO (modH M d) d.name) d.outs i).map encO).flatten) (.slice AO d.outs.length capO) co ∧ MapOk strEnc strOk es clock mm ∧ PM mm ((d.outs.take i).map (fO (modH M d) d.name)) ∧ (∀ j < i, oE d.name (d.outs.getD j o0) = 0) ∧ i ≤ d.outs.length ∧ m = d.outs.length - i) ⟨_, 0, cO, #[], 0, [], rfl, rfl, (by rw [upd_zero]; exact hoo0), mapOk_nil, pm_nil, (fun j hj => absurd hj (Nat.not_lt_zero _)), Nat.zero_le _, rfl⟩ ?_
  rintro m vs S' hlen ⟨i, co, es, clock, mm, rfl, rfl, hoo, hmap, hpm, hz, hin, rfl⟩
  refine j_q (qs_lss rfl rfl) ?_
  refine j_cond rfl (fun hc1 => ?_) (fun hc1 => ?_)
  ·skip
   have hi : i < d.outs.length := by
    simp only [bnA] at *
    omega
   obtain ⟨gO, rfl⟩ := own_at hoo (fl_pos encO_len (by decide) (by rw [upd_len]; omega))
   have hol := few.ou _ (getD_mem (d := o0) hi)
   refine j_q (qs_ixn (g := gO) (off := 0) (i := i) U26 sz53 rfl rfl (by omega)) ?_
   refine j_q (qs_loadrecw (encA := encO) (rs := upd (fO (modH M d) d.name) d.outs i) (d := o0) (i := i) encO_len (own_rd hoo 3 rfl) (by rw [upd_len]; exact hi) U53 rfl sz53 rfl) ?_
   rw [upd_get _ o0 hi]
   refine j_alloc zero53 (fun g23 hg23 hs23 => ?_)
   refine j_storew (vs := encO (d.outs.getD i o0)) 0 sz53 rfl rfl (encO_len _) (encO_one _) rfl rfl ?_
   refine j_q (qs_loadw (l := ints (modH M d).1) 8 U51 rfl sz51 rfl rfl (by first | (rw [ints_length]; exact (modH _ _).2) | rfl)) ?_
   refine j_q (qs_field U53 rfl sz9 (by decide) rfl) ?_
   refine j_q (qs_load (l := encO (d.outs.getD i o0)) (v := .string (bs (d.outs.getD i o0).name)) 0 U9 rfl rfl rfl rfl) ?_
   refine j_q (qs_field U28 rfl sz9 (by decide) rfl) ?_
   refine j_q (qs_load (l := dcells d x2) (v := .string (bs d.name)) 10 U9 rfl rfl rfl rfl) ?_
   refine j_q (qs_call ent51 rfl rfl rfl (fun w' hw' => output_con (modH M d).1 (d.outs.getD i o0).name d.name w' (modH M d).2 (by omega) (by omega))) ?_
   refine j_q (qs_ext (vs := [.string (bs (outP (modH M d).1 (d.outs.getD i o0).name d.name)), .int .i64 (outE (d.outs.getD i o0).name d.name)]) rfl rfl) ?_
   refine j_q (qs_ext (vs := [.string (bs (outP (modH M d).1 (d.outs.getD i o0).name d.name)), .int .i64 (outE (d.outs.getD i o0).name d.name)]) rfl rfl) ?_
   refine j_q (qs_field U53 rfl sz4 (by decide) rfl) ?_
   refine j_q (qs_load (l := encO (d.outs.getD i o0)) (v := .bool (d.outs.getD i o0).fixed) 0 U4 rfl rfl rfl rfl) ?_
   refine j_cond rfl (fun hc2 => ?_) (fun hc2 => ?_)
   ·skip
    refine j_q (qs_field U53 rfl sz51 (by decide) rfl) ?_
    refine j_q (qs_loada (i := 3) (n := 32) (l := encO (d.outs.getD i o0)) 0 U51 rfl sz51 rfl rfl (by rw [encO_len]; omega)) ?_
    rw [show ((encO (d.outs.getD i o0)).drop 3).take 32 = ints (d.outs.getD i o0).hash.1 by show (ints _).take 32 = _; rw [List.take_of_length_le (by rw [ints_length, (d.outs.getD i o0).hash.2]; omega)]]
    refine j_q (qs_field U28 rfl sz9 (by decide) rfl) ?_
    refine j_q (qs_load (l := dcells d x2) (v := .string (bs d.name)) 10 U9 rfl rfl rfl rfl) ?_
    refine j_q (qs_call ent52 rfl rfl rfl (fun w' hw' => fixed_con (d.outs.getD i o0).hash.1 d.name w' (d.outs.getD i o0).hash.2 (by omega))) ?_
    refine j_q (qs_ext (vs := [.string (bs (mkP kFixed (d.outs.getD i o0).hash.1 d.name)), .int .i64 (mkE d.name)]) rfl rfl) ?_
    refine j_q (qs_ext (vs := [.string (bs (mkP kFixed (d.outs.getD i o0).hash.1 d.name)), .int .i64 (mkE d.name)]) rfl rfl) ?_
    refine j_q (qs_neq rfl rfl) ?_
    refine j_cond rfl (fun hc3 => ?_) (fun hc3 => ?_)
    ·skip
     have hoe : oE d.name (d.outs.getD i o0) ≠ 0 := by rw [oE_fix hc2]; simpa using hc3
     refine j_q (qs_run (v := .agg (dcells pdZ dvZ).toArray) (fun w => by kernel_rfl)) ?_
     refine j_storew (g := g1) (l := dcells pdZ dvZ) (vs := dcells pdZ dvZ) 9 sz28 rfl rfl rfl dZ_one rfl rfl ?_
     -- no @RET
     refine j_ret_fl [[], [], [], [], [], []] (by simp) (vs := [_, _]) (fun w' hw' => ⟨rv_agg (g := g1) (l := dcells pdZ dvZ) 9 U28 rfl sz28 rfl rfl rfl hw', rfl, trivial⟩) ?_
     exact fill_bad (fill_2 hme hz hi (oE_fix hc2) (by rw [← oE_fix hc2]; exact hoe))
    ·skip
     have hoe : oE d.name (d.outs.getD i o0) = 0 := by rw [oE_fix hc2]; simpa using hc3
     refine j_q (qs_field U28 rfl sz26 (by decide) rfl) ?_
     refine j_q (qs_load (l := dcells d x2) (v := .slice (some ⟨gO, 0, none⟩) d.outs.length capO) 10 U26 rfl rfl rfl (congrArg some hvo2)) ?_
     refine j_q (qs_ixn (g := gO) (off := 0) (i := i) U26 sz53 rfl rfl (by omega)) ?_
     refine j_q (qs_field U53 rfl sz49 (by decide) rfl) ?_
     refine j_storerec (g := gO) (i := i) (fo := 1) (rs := upd (fO (modH M d) d.name) d.outs i) (d := o0) (fO (modH M d) d.name (d.outs.getD i o0)) 4 encO_len hoo rfl (by rw [upd_len]; exact hi) sz49 rfl rfl rfl (by decide) (by rw [upd_get _ o0 hi]; show (Value.string (bs (d.outs.getD i o0).name) :: Value.string (bs (oP (modH M d) d.name (d.outs.getD i o0))) :: _) = _; rw [oP_fix hc2]; rfl) (fun co2 hoo2 => ?_)
     rw [upd_set _ o0 hi] at hoo2
     refine j_q (qs_field U53 rfl sz9 (by decide) rfl) ?_
     refine j_q (qs_load (l := encO (d.outs.getD i o0)) (v := .string (bs (d.outs.getD i o0).name)) 0 U9 rfl rfl rfl rfl) ?_
     refine j_mapset pk9 1 U97 rfl (key := (d.outs.getD i o0).name) (val := .string (bs (oP (modH M d) d.name (d.outs.getD i o0)))) rfl (congrArg (fun b => Value.string (bs b)) (oP_fix hc2).symm) rfl hmap (by unfold strOk; omega) (fun es2 cl2 hmap2 => ?_)
     refine j_subl (S' := [[(g15, .map es2 cl2)], cI, FI, co2, cS, cV, cA, [(g7, .cells (ints (modH M d).1).toArray 51 (0, 0))], [(g1, .cells (dcells pdZ dvZ).toArray 28 (0, 0))], [(g0, .cells (dcells d x2).toArray 28 (0, 0))], []]) (by repeat first | exact slR _ | exact slN _ | apply slC | apply slD) ?_
     refine j_q (qs_add64 rfl rfl (by omega)) ?_
     refine j_back rfl ?_
     exact ⟨d.outs.length - (i + 1), by omega, i + 1, co2, es2, cl2, _, rfl, rfl, hoo2, hmap2, pm_step (f := fO (modH M d) d.name) (fun _ => rfl) hpm hi, fun j hj => by rcases Nat.lt_or_ge j i with h | h; exact hz j h; rw [show j = i by omega]; exact hoe, by omega, rfl⟩
   ·skip
    refine j_q (qs_neq rfl rfl) ?_
    refine j_cond rfl (fun hc4 => ?_) (fun hc4 => ?_)
    ·skip
     have hoe : oE d.name (d.outs.getD i o0) ≠ 0 := by rw [oE_out hc2]; simpa using hc4
     refine j_q (qs_run (v := .agg (dcells pdZ dvZ).toArray) (fun w => by kernel_rfl)) ?_
     refine j_storew (g := g1) (l := dcells pdZ dvZ) (vs := dcells pdZ dvZ) 9 sz28 rfl rfl rfl dZ_one rfl rfl ?_
     -- no @RET
     refine j_ret_fl [[], [], [], [], [], []] (by simp) (vs := [_, _]) (fun w' hw' => ⟨rv_agg (g := g1) (l := dcells pdZ dvZ) 9 U28 rfl sz28 rfl rfl rfl hw', rfl, trivial⟩) ?_
     exact fill_bad (fill_2 hme hz hi (oE_out hc2) (by rw [← oE_out hc2]; exact hoe))
    ·skip
     have hoe : oE d.name (d.outs.getD i o0) = 0 := by rw [oE_out hc2]; simpa using hc4
     refine j_q (qs_field U28 rfl sz26 (by decide) rfl) ?_
     refine j_q (qs_load (l := dcells d x2) (v := .slice (some ⟨gO, 0, none⟩) d.outs.length capO) 10 U26 rfl rfl rfl (congrArg some hvo2)) ?_
     refine j_q (qs_ixn (g := gO) (off := 0) (i := i) U26 sz53 rfl rfl (by omega)) ?_
     refine j_q (qs_field U53 rfl sz49 (by decide) rfl) ?_
     refine j_storerec (g := gO) (i := i) (fo := 1) (rs := upd (fO (modH M d) d.name) d.outs i) (d := o0) (fO (modH M d) d.name (d.outs.getD i o0)) 4 encO_len hoo rfl (by rw [upd_len]; exact hi) sz49 rfl rfl rfl (by decide) (by rw [upd_get _ o0 hi]; show (Value.string (bs (d.outs.getD i o0).name) :: Value.string (bs (oP (modH M d) d.name (d.outs.getD i o0))) :: _) = _; rw [oP_out hc2]; rfl) (fun co2 hoo2 => ?_)
     rw [upd_set _ o0 hi] at hoo2
     refine j_q (qs_field U53 rfl sz9 (by decide) rfl) ?_
     refine j_q (qs_load (l := encO (d.outs.getD i o0)) (v := .string (bs (d.outs.getD i o0).name)) 0 U9 rfl rfl rfl rfl) ?_
     refine j_mapset pk9 1 U97 rfl (key := (d.outs.getD i o0).name) (val := .string (bs (oP (modH M d) d.name (d.outs.getD i o0)))) rfl (congrArg (fun b => Value.string (bs b)) (oP_out hc2).symm) rfl hmap (by unfold strOk; omega) (fun es2 cl2 hmap2 => ?_)
     refine j_subl (S' := [[(g15, .map es2 cl2)], cI, FI, co2, cS, cV, cA, [(g7, .cells (ints (modH M d).1).toArray 51 (0, 0))], [(g1, .cells (dcells pdZ dvZ).toArray 28 (0, 0))], [(g0, .cells (dcells d x2).toArray 28 (0, 0))], []]) (by repeat first | exact slR _ | exact slN _ | apply slC | apply slD) ?_
     refine j_q (qs_add64 rfl rfl (by omega)) ?_
     refine j_back rfl ?_
     exact ⟨d.outs.length - (i + 1), by omega, i + 1, co2, es2, cl2, _, rfl, rfl, hoo2, hmap2, pm_step (f := fO (modH M d) d.name) (fun _ => rfl) hpm hi, fun j hj => by rcases Nat.lt_or_ge j i with h | h; exact hz j h; rw [show j = i by omega]; exact hoe, by omega, rfl⟩
  ·skip
   obtain rfl : i = d.outs.length := by
    simp only [bnA] at *
    omega
   rw [upd_all] at hoo
   rw [List.take_length] at hpm
   have hpm : PM mm (fillOs M d) := hpm
   refine j_q (qs_field U28 rfl sz23 (by decide) rfl) ?_
   refine j_q (qs_load (l := dcells d x2) (v := .slice AV d.env.length capV) 9 U23 rfl rfl rfl (congrArg some hve2)) ?_
   refine j_q (qs_lenl U23 rfl) ?_
   refine j_q (qs_mc) ?_
   refine j_loop (fun m vs S' => ∃ (i : Nat) (cv : SH), vs = [.int .i64 (i : Int)] ∧ S' = [[(g15, .map es clock)], cI, FI, co, cS, cv, cA, [(g7, .cells (ints (modH M d).1).toArray 51 (0, 0))], [(g1, .cells (dcells pdZ dvZ).toArray 28 (0, 0))], [(g0, .cells (dcells d x2).toArray 28 (0, 0))], []] ∧ Sx.Own 48 2 (((upd (fV (fillOs M d)) d.env i).map encV).flatten) (.slice AV d.env.length capV) cv ∧ i ≤ d.env.length ∧ m = d.env.length - i) ⟨_, 0, cV, rfl, rfl, (by rw [upd_zero]; exact hov0), Nat.zero_le _, rfl⟩ ?_
   rintro m vs S' hlen ⟨i, cv, rfl, rfl, hov, hin, rfl⟩
   refine j_q (qs_lss rfl rfl) ?_
   refine j_cond rfl (fun hc5 => ?_) (fun hc5 => ?_)
   ·skip
    have hi : i < d.env.length := by
     simp only [bnA] at *
     omega
    obtain ⟨gV, rfl⟩ := own_at hov (fl_pos encV_len (by decide) (by rw [upd_len]; omega))
    have hel := few.ev _ (getD_mem (d := v0) hi)
    refine j_q (qs_ixn (g := gV) (off := 0) (i := i) U23 sz48 rfl rfl (by omega)) ?_
    refine j_q (qs_loadrecw (encA := encV) (rs := upd (fV (fillOs M d)) d.env i) (d := v0) (i := i) encV_len (own_rd hov 5 rfl) (by rw [upd_len]; exact hi) U48 rfl sz48 rfl) ?_
    rw [upd_get _ v0 hi]
    refine j_alloc zero48 (fun g73 hg73 hs73 => ?_)
    refine j_storew (vs := encV (d.env.getD i v0)) 0 sz48 rfl rfl (encV_len _) (encV_one _) rfl rfl ?_
    refine j_q (qs_field U48 rfl sz9 (by decide) rfl) ?_
    refine j_q (qs_load (l := encV (d.env.getD i v0)) (v := .string (bs (d.env.getD i v0).name)) 0 U9 rfl rfl rfl rfl) ?_
    refine j_q (qs_lookup2 pk9 1 U97 zv49 (key := (d.env.getD i v0).name) rfl rfl rfl hmap (by unfold strOk; omega)) ?_
    rw [(pm_get hpm _ []).1, (pm_get hpm _ []).2]
    refine j_q (qs_ext (vs := [.string (bs (fVv (fillOs M d) (d.env.getD i v0).name [])), .bool ((fillOs M d).reverse.find? (fun o => decide (o.name = (d.env.getD i v0).name))).isSome]) rfl rfl) ?_
    refine j_q (qs_ext (vs := [.string (bs (fVv (fillOs M d) (d.env.getD i v0).name [])), .bool ((fillOs M d).reverse.find? (fun o => decide (o.name = (d.env.getD i v0).name))).isSome]) rfl rfl) ?_
    refine j_cond rfl (fun hc6 => ?_) (fun hc6 => ?_)
    ·skip
     refine j_q (qs_field U28 rfl sz23 (by decide) rfl) ?_
     refine j_q (qs_load (l := dcells d x2) (v := .slice (some ⟨gV, 0, none⟩) d.env.length capV) 10 U23 rfl rfl rfl (congrArg some hve2)) ?_
     refine j_q (qs_ixn (g := gV) (off := 0) (i := i) U23 sz48 rfl rfl (by omega)) ?_
     refine j_q (qs_field U48 rfl sz9 (by decide) rfl) ?_
     refine j_storerec (g := gV) (i := i) (fo := 1) (rs := upd (fV (fillOs M d)) d.env i) (d := v0) (fV (fillOs M d) (d.env.getD i v0)) 6 encV_len hov rfl (by rw [upd_len]; exact hi) sz9 rfl rfl rfl (by decide) (by rw [upd_get _ v0 hi]; show [_, Value.string (bs (fVv (fillOs M d) (d.env.getD i v0).name _))] = _; rw [fVv_yes hc6]; rfl) (fun cv2 hov2 => ?_)
     rw [upd_set _ v0 hi] at hov2
     refine j_subl (S' := [[(g15, .map es clock)], cI, FI, co, cS, cv2, cA, [(g7, .cells (ints (modH M d).1).toArray 51 (0, 0))], [(g1, .cells (dcells pdZ dvZ).toArray 28 (0, 0))], [(g0, .cells (dcells d x2).toArray 28 (0, 0))], []]) (by repeat first | exact slR _ | exact slN _ | apply slC | apply slD) ?_
     refine j_q (qs_add64 rfl rfl (by omega)) ?_
     refine j_back rfl ?_
     exact ⟨d.env.length - (i + 1), by omega, i + 1, cv2, rfl, rfl, hov2, by omega, rfl⟩
    ·skip
     have hsame : fV (fillOs M d) (d.env.getD i v0) = d.env.getD i v0 := by
      unfold fV
      rw [fVv_no hc6]
     rw [← upd_same _ v0 hi hsame] at hov
     refine j_subl (S' := [[(g15, .map es clock)], cI, FI, co, cS, cv, cA, [(g7, .cells (ints (modH M d).1).toArray 51 (0, 0))], [(g1, .cells (dcells pdZ dvZ).toArray 28 (0, 0))], [(g0, .cells (dcells d x2).toArray 28 (0, 0))], []]) (by repeat first | exact slR _ | exact slN _ | apply slC | apply slD) ?_
     refine j_q (qs_add64 rfl rfl (by omega)) ?_
     refine j_back rfl ?_
     exact ⟨d.env.length - (i + 1), by omega, i + 1, cv, rfl, rfl, hov, by omega, rfl⟩
   ·skip
    obtain rfl : i = d.env.length := by
     simp only [bnA] at *
     omega
    rw [upd_all] at hov
    refine j_q (qs_loadw (l := dcells d x2) 9 U28 rfl sz28 rfl rfl rfl) ?_
    refine j_storew (g := g1) (l := dcells pdZ dvZ) (vs := dcells d x2) 8 sz28 rfl rfl rfl ho.one rfl rfl ?_
    refine j_q (qs_ac) ?_
    -- no @RET
    refine j_ret_sub [cI, FI, co, cS, cv, cA] (by repeat first | exact slR _ | exact slN _ | apply slC | apply slD) (vs := [_, _]) (fun w' hw' => ⟨rv_agg (g := g1) (l := dcells d x2) 8 U28 rfl sz28 rfl rfl rfl hw', rfl, trivial⟩) ?_
    rw [(fill_3 hme hz).1, (fill_3 hme hz).2]
    exact ⟨x2, co, cI, FI, cS, cA, cv, rfl, rfl, ⟨by rw [hvo2]; exact hoo, ho.i, ho.io, ho.im, ho.s, ho.a, by rw [hve2]; exact hov⟩⟩
end Go.Proofs.YtfeabbeebkkhaaaGreat
/-! Dv8 -/
namespace Go.Proofs.YtfeabbeebkkhaaaGreat
open Go Go.Sx
set_option maxRecDepth 100000
set_option maxHeartbeats 4000000
set_option linter.unusedVariables false
set_option linter.unusedSimpArgs false
attribute [local irreducible] J JQ QS Con W opW
theorem byte_is {c d : UInt8} (h : ((c.toNat : Int) == (d.toNat : Int)) = true) : c = d := by
 rw [beq_iff_eq] at h
 exact UInt8.toNat_inj.1 (by omega)
theorem byte_not {c d : UInt8} (h : ((c.toNat : Int) == (d.toNat : Int)) = false) : c ≠ d := fun e => by
 rw [e, beq_self_eq_true] at h
 cases h
theorem esc34 {c : UInt8} (h : ((c.toNat : Int) == 34) = true) : esc c = [92, c] := by rw [byte_is (d := 34) h]; rfl
theorem esc92 {c : UInt8} (h : ((c.toNat : Int) == 92) = true) : esc c = [92, c] := by rw [byte_is (d := 92) h]; rfl
theorem esc10 {c : UInt8} (h : ((c.toNat : Int) == 10) = true) : esc c = [92, 110] := by rw [byte_is (d := 10) h]; rfl
theorem esc13 {c : UInt8} (h : ((c.toNat : Int) == 13) = true) : esc c = [92, 114] := by rw [byte_is (d := 13) h]; rfl
theorem esc09 {c : UInt8} (h : ((c.toNat : Int) == 9) = true) : esc c = [92, 116] := by rw [byte_is (d := 9) h]; rfl
theorem esc00 {c : UInt8} (h1 : ((c.toNat : Int) == 34) = false) (h2 : ((c.toNat : Int) == 92) = false) (h3 : ((c.toNat : Int) == 10) = false) (h4 : ((c.toNat : Int) == 13) = false) (h5 : ((c.toNat : Int) == 9) = false) : esc c = [c] := by
 unfold esc
 rw [if_neg (byte_not (d := 34) h1), if_neg (byte_not (d := 92) h2), if_neg (byte_not (d := 10) h3), if_neg (byte_not (d := 13) h4), if_neg (byte_not (d := 9) h5)]
theorem bools2 {v v' : Value} {a a' : Int} (h1 : v = v') (h2 : a = a') : [v, Value.int .i64 a] = [v', .int .i64 a'] := by rw [h1, h2]
theorem own_new {w w' : World} {S : List SH} (hw : Sig ⟨w, dom []⟩ S w') {c : SH} (k : Nat) (hk : S[k]? = some c) : ∀ q ∈ dom c, w.heap.size ≤ q := fun q hq => by
 have hm : q ∈ dom S.flatten := by
  obtain ⟨p, hp, rfl⟩ := List.mem_map.1 hq
  exact List.mem_map_of_mem (mem_flatten_of hk hp)
 rcases hw.dom_ q hm with h | h
 ·simp at h
 ·exact h
attribute [local irreducible] es qt cms hex Tbl Half lst isName isPath isDrvP leB chkO chkOuts chkN chkI chkIns firstE spA spB spE chkS chkV dtext chk chk0
theorem rquote_con (b : Bs) (bv : Value) (c : SH) (ho : Sx.Own 5 1 (ints b) bv c) (s : Bs) (hb : b.length ≤ 1099511627776) (hs : s.length ≤ 1099511627776) (w : World) : Con Tryz.prog 76 [bv, .string (bs s)] w c fun v S' => ∃ c', S' = [c'] ∧ Sx.Own 5 1 (ints (b ++ qt s)) v c' := by
 refine con_of_tree mix Tryz.func76 T76_ok (by kernel_rfl) ?_
 unfold T76
 have hel := es_len s
 refine j_q (qs_ac) ?_
 refine j_lit (vs := [.int .u8 _]) U46 sz5 zero5 rfl (by simp [oneV]) ⟨rfl, by decide⟩ (fun g1 v1 c1 hv1 hc1 ho1 => ?_)
 subst hv1 hc1
 refine j_append 1 U46 U46 (.inr ⟨_, rfl⟩) sb5 zero5 rfl ho rfl (.inl ⟨_, _, rfl, rd_own (off := 0) (n := 1) 0 rfl rfl, rfl⟩) (by simp [oneV]) ⟨(by simp only [ints_length, List.drop_zero, List.take_succ_cons, List.take_zero, List.length_append, List.length_cons, List.length_nil]; omega), (by decide)⟩ (fun v2 c2 ho2 => ?_)
 have ho2 : Sx.Own 5 1 (ints (b ++ [34])) v2 c2 := by
  rw [ints_append]
  exact ho2
 refine j_subl (S' := [c2]) (by repeat first | exact slR _ | exact slN _ | apply slC | apply slD) ?_
 refine j_q (qs_ac) ?_
 refine j_loop (fun m vs S' => ∃ (i : Nat) (bv : Value) (cb : SH), vs = [bv, .int .i64 (i : Int)] ∧ S' = [cb] ∧ Sx.Own 5 1 (ints (b ++ [34] ++ es (s.take i))) bv cb ∧ i ≤ s.length ∧ m = s.length - i) ⟨_, 0, v2, c2, rfl, rfl, by rw [List.take_zero, show es [] = [] by unfold es; rfl, List.append_nil]; exact ho2, Nat.zero_le _, rfl⟩ ?_
 rintro m vs S' hlen ⟨i, bv, cb, rfl, rfl, hob, hin, rfl⟩
 refine j_q (qs_lens U9 rfl) ?_
 refine j_q (qs_lss rfl rfl) ?_
 refine j_cond rfl (fun hc0 => ?_) (fun hc0 => ?_)
 ·skip
  have hi : i < s.length := by
   simp only [bnA] at *
   omega
  have hst := es_take hi
  have hpre := es_pre s i
  refine j_q (qs_idx U9 rfl rfl ⟨(by omega), (by omega)⟩) ?_
  simp only [Int.toNat_natCast]
  refine j_q (qs_eql rfl rfl) ?_
  refine j_cond rfl (fun hc1 => ?_) (fun hc1 => ?_)
  ·skip
   refine j_cond rfl (fun hc2 => ?_) (fun hc2 => ?_)
   ·skip
    refine j_q (qs_idx U9 rfl rfl ⟨(by omega), (by omega)⟩) ?_
    simp only [Int.toNat_natCast]
    refine j_lit (vs := [.int .u8 _, .int .u8 _]) U46 sz5 zero5 rfl (by simp [oneV]) ⟨rfl, by decide⟩ (fun g9 v9 c9 hv9 hc9 ho9 => ?_)
    subst hv9 hc9
    refine j_append 1 U46 U46 (.inr ⟨_, rfl⟩) sb5 zero5 rfl hob rfl (.inl ⟨_, _, rfl, rd_own (off := 0) (n := 2) 0 rfl rfl, rfl⟩) (by simp [oneV]) ⟨(by simp only [ints_length, List.drop_zero, List.take_succ_cons, List.take_zero, List.length_append, List.length_cons, List.length_nil]; omega), (by decide)⟩ (fun v10 c10 ho10 => ?_)
    have ho10 : Sx.Own 5 1 (ints (b ++ [34] ++ es (s.take (i + 1)))) v10 c10 := by
     rw [hst, esc34 hc1, ← List.append_assoc, ints_append]
     exact ho10
    refine j_subl (S' := [c10]) (by repeat first | exact slR _ | exact slN _ | apply slC | apply slD) ?_
    refine j_q (qs_add64 rfl rfl (by omega)) ?_
    refine j_back rfl ?_
    exact ⟨s.length - (i + 1), by omega, i + 1, v10, c10, bools2 rfl (by omega), rfl, ho10, by omega, rfl⟩
   ·skip
    rw [hc1] at hc2
    cases hc2
  ·skip
   refine j_q (qs_eql rfl rfl) ?_
   refine j_cond rfl (fun hc6 => ?_) (fun hc6 => ?_)
   ·skip
    refine j_q (qs_idx U9 rfl rfl ⟨(by omega), (by omega)⟩) ?_
    simp only [Int.toNat_natCast]
    refine j_lit (vs := [.int .u8 _, .int .u8 _]) U46 sz5 zero5 rfl (by simp [oneV]) ⟨rfl, by decide⟩ (fun g30 v30 c30 hv30 hc30 ho30 => ?_)
    subst hv30 hc30
    refine j_append 1 U46 U46 (.inr ⟨_, rfl⟩) sb5 zero5 rfl hob rfl (.inl ⟨_, _, rfl, rd_own (off := 0) (n := 2) 0 rfl rfl, rfl⟩) (by simp [oneV]) ⟨(by simp only [ints_length, List.drop_zero, List.take_succ_cons, List.take_zero, List.length_append, List.length_cons, List.length_nil]; omega), (by decide)⟩ (fun v31 c31 ho31 => ?_)
    have ho31 : Sx.Own 5 1 (ints (b ++ [34] ++ es (s.take (i + 1)))) v31 c31 := by
     rw [hst, esc92 hc6, ← List.append_assoc, ints_append]
     exact ho31
    refine j_subl (S' := [c31]) (by repeat first | exact slR _ | exact slN _ | apply slC | apply slD) ?_
    refine j_q (qs_add64 rfl rfl (by omega)) ?_
    refine j_back rfl ?_
    exact ⟨s.length - (i + 1), by omega, i + 1, v31, c31, bools2 rfl (by omega), rfl, ho31, by omega, rfl⟩
   ·skip
    refine j_q (qs_eql rfl rfl) ?_
    refine j_cond rfl (fun hc7 => ?_) (fun hc7 => ?_)
    ·skip
     refine j_lit (vs := [.int .u8 _, .int .u8 _]) U46 sz5 zero5 rfl (by simp [oneV]) ⟨rfl, by decide⟩ (fun g34 v34 c34 hv34 hc34 ho34 => ?_)
     subst hv34 hc34
     refine j_append 1 U46 U46 (.inr ⟨_, rfl⟩) sb5 zero5 rfl hob rfl (.inl ⟨_, _, rfl, rd_own (off := 0) (n := 2) 0 rfl rfl, rfl⟩) (by simp [oneV]) ⟨(by simp only [ints_length, List.drop_zero, List.take_succ_cons, List.take_zero, List.length_append, List.length_cons, List.length_nil]; omega), (by decide)⟩ (fun v35 c35 ho35 => ?_)
     have ho35 : Sx.Own 5 1 (ints (b ++ [34] ++ es (s.take (i + 1)))) v35 c35 := by
      rw [hst, esc10 hc7, ← List.append_assoc, ints_append]
      exact ho35
     refine j_subl (S' := [c35]) (by repeat first | exact slR _ | exact slN _ | apply slC | apply slD) ?_
     refine j_q (qs_add64 rfl rfl (by omega)) ?_
     refine j_back rfl ?_
     exact ⟨s.length - (i + 1), by omega, i + 1, v35, c35, bools2 rfl (by omega), rfl, ho35, by omega, rfl⟩
    ·skip
     refine j_q (qs_eql rfl rfl) ?_
     refine j_cond rfl (fun hc8 => ?_) (fun hc8 => ?_)
     ·skip
      refine j_lit (vs := [.int .u8 _, .int .u8 _]) U46 sz5 zero5 rfl (by simp [oneV]) ⟨rfl, by decide⟩ (fun g38 v38 c38 hv38 hc38 ho38 => ?_)
      subst hv38 hc38
      refine j_append 1 U46 U46 (.inr ⟨_, rfl⟩) sb5 zero5 rfl hob rfl (.inl ⟨_, _, rfl, rd_own (off := 0) (n := 2) 0 rfl rfl, rfl⟩) (by simp [oneV]) ⟨(by simp only [ints_length, List.drop_zero, List.take_succ_cons, List.take_zero, List.length_append, List.length_cons, List.length_nil]; omega), (by decide)⟩ (fun v39 c39 ho39 => ?_)
      have ho39 : Sx.Own 5 1 (ints (b ++ [34] ++ es (s.take (i + 1)))) v39 c39 := by
       rw [hst, esc13 hc8, ← List.append_assoc, ints_append]
       exact ho39
      refine j_subl (S' := [c39]) (by repeat first | exact slR _ | exact slN _ | apply slC | apply slD) ?_
      refine j_q (qs_add64 rfl rfl (by omega)) ?_
      refine j_back rfl ?_
      exact ⟨s.length - (i + 1), by omega, i + 1, v39, c39, bools2 rfl (by omega), rfl, ho39, by omega, rfl⟩
     ·skip
      refine j_q (qs_eql rfl rfl) ?_
      refine j_cond rfl (fun hc9 => ?_) (fun hc9 => ?_)
      ·skip
       refine j_lit (vs := [.int .u8 _, .int .u8 _]) U46 sz5 zero5 rfl (by simp [oneV]) ⟨rfl, by decide⟩ (fun g42 v42 c42 hv42 hc42 ho42 => ?_)
       subst hv42 hc42
       refine j_append 1 U46 U46 (.inr ⟨_, rfl⟩) sb5 zero5 rfl hob rfl (.inl ⟨_, _, rfl, rd_own (off := 0) (n := 2) 0 rfl rfl, rfl⟩) (by simp [oneV]) ⟨(by simp only [ints_length, List.drop_zero, List.take_succ_cons, List.take_zero, List.length_append, List.length_cons, List.length_nil]; omega), (by decide)⟩ (fun v43 c43 ho43 => ?_)
       have ho43 : Sx.Own 5 1 (ints (b ++ [34] ++ es (s.take (i + 1)))) v43 c43 := by
        rw [hst, esc09 hc9, ← List.append_assoc, ints_append]
        exact ho43
       refine j_subl (S' := [c43]) (by repeat first | exact slR _ | exact slN _ | apply slC | apply slD) ?_
       refine j_q (qs_add64 rfl rfl (by omega)) ?_
       refine j_back rfl ?_
       exact ⟨s.length - (i + 1), by omega, i + 1, v43, c43, bools2 rfl (by omega), rfl, ho43, by omega, rfl⟩
      ·skip
       refine j_q (qs_idx U9 rfl rfl ⟨(by omega), (by omega)⟩) ?_
       simp only [Int.toNat_natCast]
       refine j_lit (vs := [.int .u8 _]) U46 sz5 zero5 rfl (by simp [oneV]) ⟨rfl, by decide⟩ (fun g46 v46 c46 hv46 hc46 ho46 => ?_)
       subst hv46 hc46
       refine j_append 1 U46 U46 (.inr ⟨_, rfl⟩) sb5 zero5 rfl hob rfl (.inl ⟨_, _, rfl, rd_own (off := 0) (n := 1) 0 rfl rfl, rfl⟩) (by simp [oneV]) ⟨(by simp only [ints_length, List.drop_zero, List.take_succ_cons, List.take_zero, List.length_append, List.length_cons, List.length_nil]; omega), (by decide)⟩ (fun v47 c47 ho47 => ?_)
       have ho47 : Sx.Own 5 1 (ints (b ++ [34] ++ es (s.take (i + 1)))) v47 c47 := by
        rw [hst, esc00 hc1 hc6 hc7 hc8 hc9, ← List.append_assoc, ints_append]
        exact ho47
       refine j_subl (S' := [c47]) (by repeat first | exact slR _ | exact slN _ | apply slC | apply slD) ?_
       refine j_q (qs_add64 rfl rfl (by omega)) ?_
       refine j_back rfl ?_
       exact ⟨s.length - (i + 1), by omega, i + 1, v47, c47, bools2 rfl (by omega), rfl, ho47, by omega, rfl⟩
 ·skip
  obtain rfl : i = s.length := by
   simp only [bnA] at *
   omega
  rw [List.take_length] at hob
  refine j_lit (vs := [.int .u8 _]) U46 sz5 zero5 rfl (by simp [oneV]) ⟨rfl, by decide⟩ (fun g49 v49 c49 hv49 hc49 ho49 => ?_)
  subst hv49 hc49
  refine j_append 1 U46 U46 (.inr ⟨_, rfl⟩) sb5 zero5 rfl hob rfl (.inl ⟨_, _, rfl, rd_own (off := 0) (n := 1) 0 rfl rfl, rfl⟩) (by simp [oneV]) ⟨(by simp only [ints_length, List.drop_zero, List.take_succ_cons, List.take_zero, List.length_append, List.length_cons, List.length_nil]; omega), (by decide)⟩ (fun v50 c50 ho50 => ?_)
  have ho50 : Sx.Own 5 1 (ints (b ++ qt s)) v50 c50 := by
   have e : b ++ qt s = b ++ [34] ++ es s ++ [34] := by unfold qt; simp
   rw [e, ints_append]
   exact ho50
  refine j_subl (S' := [c50]) (by repeat first | exact slR _ | exact slN _ | apply slC | apply slD) ?_
  refine j_ret_con (vs := [_]) (fun w' hw' => ⟨rfl, trivial⟩) ?_
  exact ⟨c50, rfl, ho50⟩
theorem rlist_con (b : Bs) (bv : Value) (c : SH) (ho : Sx.Own 5 1 (ints b) bv c) (l : List Bs) (v : Value) (w : World) (hv : StrZ w v l) (hsep : ∀ a n k, v = .slice (some a) n k → 0 < n → a.block ∉ dom c) (hb : b.length ≤ 500000000000) (hm : ∀ x ∈ l, x.length ≤ 1099511627776) (hn : l.length ≤ 1000000) (hl : (tTs l).length ≤ 500000000000) : Con Tryz.prog 77 [bv, v] w c fun v S' => ∃ c', S' = [c'] ∧ Sx.Own 5 1 (ints (b ++ tTs l)) v c' := by
 refine con_of_tree mix Tryz.func77 T77_ok (by kernel_rfl) ?_
 unfold T77
 obtain ⟨A, cap, rfl, hcap⟩ := strz_form hv
 have hcl := cms_take_le qt l
 have hlen2 := hl
 simp only [tTs, lst, List.length_append] at hlen2
 refine j_q (qs_ac) ?_
 refine j_lit (vs := [.int .u8 _]) U46 sz5 zero5 rfl (by simp [oneV]) ⟨rfl, by decide⟩ (fun g1 v1 c1 hv1 hc1 ho1 => ?_)
 subst hv1 hc1
 refine j_append 1 U46 U46 (.inr ⟨_, rfl⟩) sb5 zero5 rfl ho rfl (.inl ⟨_, _, rfl, rd_own (off := 0) (n := 1) 0 rfl rfl, rfl⟩) (by simp [oneV]) ⟨(by simp only [ints_length, List.drop_zero, List.take_succ_cons, List.take_zero, List.length_append, List.length_cons, List.length_nil]; omega), (by decide)⟩ (fun v2 c2 ho2 => ?_)
 have ho2 : Sx.Own 5 1 (ints (b ++ [91])) v2 c2 := by
  rw [ints_append]
  exact ho2
 refine j_subl (S' := [c2]) (by repeat first | exact slR _ | exact slN _ | apply slC | apply slD) ?_
 refine j_q (qs_ac) ?_
 refine j_loop (fun m vs S' => ∃ (i : Nat) (bv : Value) (cb : SH), vs = [bv, .int .i64 (i : Int)] ∧ S' = [cb] ∧ Sx.Own 5 1 (ints (b ++ [91] ++ cms ((l.take i).map qt))) bv cb ∧ i ≤ l.length ∧ m = l.length - i) ⟨_, 0, v2, c2, rfl, rfl, by rw [List.take_zero, show cms (([] : List Bs).map qt) = [] by unfold cms; rfl, List.append_nil]; exact ho2, Nat.zero_le _, rfl⟩ ?_
 rintro m vs S' hlen ⟨i, bv, cb, rfl, rfl, hob, hin, rfl⟩
 refine j_q (qs_lenl U22 rfl) ?_
 refine j_q (qs_lss rfl rfl) ?_
 refine j_cond rfl (fun hc0 => ?_) (fun hc0 => ?_)
 ·skip
  have hi : i < l.length := by
   simp only [bnA] at *
   omega
  obtain ⟨ga, off, rfl, hga, hcells⟩ := strz_addr hv (by omega)
  have hci := hcl i
  have hci1 := hcl (i + 1)
  refine j_q (qs_gtr rfl rfl) ?_
  refine j_cond rfl (fun hc1 => ?_) (fun hc1 => ?_)
  ·skip
   have h0 : ¬ i = 0 := by
    simp only [bnA] at *
    omega
   have hstep := cms_step qt (d := []) hi
   rw [if_neg h0] at hstep
   rw [hstep] at hci1
   simp only [List.length_append, List.length_cons] at hci1
   refine j_lit (vs := [.int .u8 _]) U46 sz5 zero5 rfl (by simp [oneV]) ⟨rfl, by decide⟩ (fun g7 v7 c7 hv7 hc7 ho7 => ?_)
   subst hv7 hc7
   refine j_append 1 U46 U46 (.inr ⟨_, rfl⟩) sb5 zero5 rfl hob rfl (.inl ⟨_, _, rfl, rd_own (off := 0) (n := 1) 0 rfl rfl, rfl⟩) (by simp [oneV]) ⟨(by simp only [ints_length, List.drop_zero, List.take_succ_cons, List.take_zero, List.length_append, List.length_cons, List.length_nil]; omega), (by decide)⟩ (fun v8 c8 ho8 => ?_)
   have ho8 : Sx.Own 5 1 (ints ((b ++ [91] ++ cms ((l.take i).map qt)) ++ [44])) v8 c8 := by
    rw [ints_append]
    exact ho8
   refine j_subl (S' := [c8]) (by repeat first | exact slR _ | exact slN _ | apply slC | apply slD) ?_
   refine j_q (qs_ixl0 U22 sz9 rfl rfl (by omega)) ?_
   refine j_q (qs_loadrs (rd_cells hcells (hsep _ _ _ rfl (by omega))) U9 rfl (by simp only [Int.toNat_natCast]; omega)) ?_
   simp only [Int.toNat_natCast]
   refine j_call 0 ent76 rfl rfl rfl rfl (fun w' hw' => rquote_con _ _ _ ho8 _ (by simp only [ints_length, List.drop_zero, List.take_succ_cons, List.take_zero, List.length_append, List.length_cons, List.length_nil]; omega) (by have := hm _ (getD_mem (d := []) hi); omega) w') (fun u S2 hu => ?_)
   obtain ⟨c11, rfl, ho11⟩ := hu
   have ho11 : Sx.Own 5 1 (ints (b ++ [91] ++ cms ((l.take (i + 1)).map qt))) u c11 := by
    rw [hstep]
    simp only [List.append_assoc, List.cons_append, List.nil_append] at ho11 ⊢
    exact ho11
   refine j_subl (S' := [c11]) (by repeat first | exact slR _ | exact slN _ | apply slC | apply slD) ?_
   refine j_q (qs_add64 rfl rfl (by omega)) ?_
   refine j_back rfl ?_
   exact ⟨l.length - (i + 1), by omega, i + 1, u, c11, bools2 rfl (by omega), rfl, ho11, by omega, rfl⟩
  ·skip
   have h0 : i = 0 := by
    simp only [bnA] at *
    omega
   have hstep := cms_step qt (d := []) hi
   rw [if_pos h0] at hstep
   rw [hstep] at hci1
   have hcm0 : cms ((l.take i).map qt) = [] := by
    rw [h0, List.take_zero]
    unfold cms
    rfl
   refine j_q (qs_ixl0 U22 sz9 rfl rfl (by omega)) ?_
   refine j_q (qs_loadrs (rd_cells hcells (hsep _ _ _ rfl (by omega))) U9 rfl (by simp only [Int.toNat_natCast]; omega)) ?_
   simp only [Int.toNat_natCast]
   refine j_call 0 ent76 rfl rfl rfl rfl (fun w' hw' => rquote_con _ _ _ hob _ (by simp only [ints_length, List.drop_zero, List.take_succ_cons, List.take_zero, List.length_append, List.length_cons, List.length_nil]; omega) (by have := hm _ (getD_mem (d := []) hi); omega) w') (fun u S2 hu => ?_)
   obtain ⟨c15, rfl, ho15⟩ := hu
   have ho15 : Sx.Own 5 1 (ints (b ++ [91] ++ cms ((l.take (i + 1)).map qt))) u c15 := by
    rw [hstep]
    rw [hcm0, List.append_nil] at ho15
    exact ho15
   refine j_subl (S' := [c15]) (by repeat first | exact slR _ | exact slN _ | apply slC | apply slD) ?_
   refine j_q (qs_add64 rfl rfl (by omega)) ?_
   refine j_back rfl ?_
   exact ⟨l.length - (i + 1), by omega, i + 1, u, c15, bools2 rfl (by omega), rfl, ho15, by omega, rfl⟩
 ·skip
  obtain rfl : i = l.length := by
   simp only [bnA] at *
   omega
  rw [List.take_length] at hob
  refine j_lit (vs := [.int .u8 _]) U46 sz5 zero5 rfl (by simp [oneV]) ⟨rfl, by decide⟩ (fun g17 v17 c17 hv17 hc17 ho17 => ?_)
  subst hv17 hc17
  refine j_append 1 U46 U46 (.inr ⟨_, rfl⟩) sb5 zero5 rfl hob rfl (.inl ⟨_, _, rfl, rd_own (off := 0) (n := 1) 0 rfl rfl, rfl⟩) (by simp [oneV]) ⟨(by simp only [ints_length, List.drop_zero, List.take_succ_cons, List.take_zero, List.length_append, List.length_cons, List.length_nil]; omega), (by decide)⟩ (fun v18 c18 ho18 => ?_)
  have ho18 : Sx.Own 5 1 (ints (b ++ tTs l)) v18 c18 := by
   have e : b ++ tTs l = b ++ [91] ++ cms (l.map qt) ++ [93] := by unfold tTs lst; simp
   rw [e, ints_append]
   exact ho18
  refine j_subl (S' := [c18]) (by repeat first | exact slR _ | exact slN _ | apply slC | apply slD) ?_
  refine j_ret_con (vs := [_]) (fun w' hw' => ⟨rfl, trivial⟩) ?_
  exact ⟨c18, rfl, ho18⟩
theorem risDrv_con (p : Bs) (w : World) (hp : p.length ≤ 9223372036854775807) : Con Tryz.prog 80 [.string (bs p)] w [] fun v _ => v = .bool (isDrvP p) := by
 refine con_of_tree mix Tryz.func80 T80_ok (by kernel_rfl) ?_
 unfold T80
 have hspl : (spB p).length ≤ p.length := by unfold spB; split <;> simp
 refine j_q (qs_ac) ?_
 refine j_q (qs_call ent29 rfl rfl rfl (fun w' hw' => rsplit_con p w' hp)) ?_
 unfold spl
 refine j_q (qs_ext (vs := [.string (bs (spA p)), .string (bs (spB p)), .int .i64 (spE p)]) rfl rfl) ?_
 refine j_q (qs_ext (vs := [.string (bs (spA p)), .string (bs (spB p)), .int .i64 (spE p)]) rfl rfl) ?_
 refine j_q (qs_ext (vs := [.string (bs (spA p)), .string (bs (spB p)), .int .i64 (spE p)]) rfl rfl) ?_
 refine j_q (qs_eql rfl rfl) ?_
 refine j_g rfl (fun hb => qs_mt rfl) ?_
 refine j_g rfl (fun hb => qs_lens U9 (gd_eq hb)) ?_
 refine j_g rfl (fun hb => qs_gtr (gd_eq hb) rfl) ?_
 refine j_q (qs_and rfl rfl) ?_
 refine j_g rfl (fun hb => qs_mt rfl) ?_
 refine j_g rfl (fun hb => qs_mt rfl) ?_
 refine j_g rfl (fun hb => qs_lens U9 (gd_eq hb)) ?_
 refine j_g rfl (fun hb => qs_sub64 (gd_eq hb) rfl (by omega)) ?_
 refine j_g rfl (fun hb => qs_cuts (a := (spB p).length - 4) (z := (spB p).length) U9 (gd_eq hb) ⟨.i64, (gd_eq hb).trans (congrArg (Value.int .i64) (by simp only [bnA] at *; omega))⟩ rfl (by omega) (by omega)) ?_
 rw [List.take_length]
 refine j_g rfl (fun hb => qs_seql (l' := sDrv) (gd_eq hb) rfl) ?_
 refine j_q (qs_and rfl rfl) ?_
 refine j_ret_con (vs := [_]) (fun w' hw' => ⟨rfl, trivial⟩) ?_
 show Value.bool _ = _
 congr 1
 unfold spE spB isDrvP
 cases hp : isPath p
 ·rfl
 ·rw [if_pos rfl, if_pos rfl]
  have h : decide (((p.drop 33).length : Int) > 4) = decide (4 < (p.drop 33).length) := by
   rw [Bool.eq_iff_iff, decide_eq_true_eq, decide_eq_true_eq]
   omega
  rw [h]
  rfl
end Go.Proofs.YtfeabbeebkkhaaaGreat
