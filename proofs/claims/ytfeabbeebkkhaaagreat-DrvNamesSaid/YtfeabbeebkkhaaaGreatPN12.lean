/- Part 12. -/
import Derived.Test.YtfeabbeebkkhaaaGreatPN3
import Derived.Test.YtfeabbeebkkhaaaGreatPN4
import Derived.Test.YtfeabbeebkkhaaaGreatPN11
import Derived.Test.YtfeabbeebkkhaaaGreatPN7
import Derived.Test.YtfeabbeebkkhaaaGreatPN8
import Derived.Lib.SmallJoins
import Derived.SizedLaws
import Derived.OpenShut
import Derived.SliceStrings
import Derived.Test.YtfeabbeebkkhaaaGreatPN9
import Derived.WideKeyElems2
import Derived.Test.YtfeabbeebkkhaaaGreatRows
import Derived.ProofKit
import Derived.Carry
/-! Dv40 -/
namespace Go.Proofs.YtfeabbeebkkhaaaGreat
open Go Go.Sx
set_option maxRecDepth 100000
set_option maxHeartbeats 4000000
set_option linter.unusedVariables false
set_option linter.unusedSimpArgs false
attribute [local irreducible] J JQ QS Con W opW
def pP (d : PD) : Bs := if chk d = 0 then withP kText (sum (dtext d)) (refsP d) (d.name ++ sDrv) else []
def pE (d : PD) : Int := if chk d = 0 then withE (refsP d) (d.name ++ sDrv) else chk d
theorem pathV_eq (d : PD) : pathV d = .tuple #[.string (bs (pP d)), .int .i64 (pE d)] := by
 unfold pathV pP pE withV
 split <;> rfl
theorem fillR_ok {M : HM} {d : PD} (h1 : big1 d ≤ 4000) (h2 : big2 d ≤ 16000) : big2 (fillR M d) ≤ 200000 ∧ ∀ y ∈ (fillR M d).ins, ∀ o ∈ y.outs, o.length ≤ 80 := by
 by_cases h : fillE M d = 0
 ·obtain ⟨hck, _, _⟩ := fillE_parts h
  rw [fill_ok h]
  exact ⟨fill_big (chk_zero hck) h1 h2, (outs3 hck : ∀ y ∈ d.ins, ∀ o ∈ y.outs, o.length ≤ 80)⟩
 ·unfold fillR
  rw [if_neg h]
  exact ⟨by decide, fun y hy => by cases hy⟩
attribute [local irreducible] es qt cms hex sum Tbl Half lst isName isPath isDrvP leB chkO chkOuts chkN chkI chkIns firstE spA spB spE chkS chkV dtext chk chk0 tTs modE modH fixT isFix hget mIv mkP mkE outP outE oP oE fVv dshow big1 big2 heavyP fillE fillR fillD rise sortS cp withP withE refsP prS pP pE
theorem drvNames_con (d : PD) (x : DV) (M : HM) (v : Value) (w : World) (h : DR w d x) (sz : Szd d) (hm : HMR w v M) : Con Tryz.prog 10 [dval d x, v] w [] fun u _ => u = .bool true := by
 refine con_of_tree mix Tryz.func10 T10_ok (by kernel_rfl) ?_
 unfold T10
 refine j_box (l := dcells d x) rfl (fun g0 hg0 hs0 => ?_)
 refine j_q (qs_ac) ?_
 refine j_q (qs_loadw (g := g0) (l := dcells d x) 0 U28 rfl sz28 rfl rfl rfl) ?_
 refine j_q (qs_call ent11 rfl rfl rfl (fun w' hw' => heavy_con d x w' (h.keep hw') sz)) ?_
 refine j_g rfl (fun hb => qs_mt rfl) ?_
 refine j_g rfl (fun hb => qs_maplenM (mapr_rd hm) U55 (gd_eq hb)) ?_
 refine j_g rfl (fun hb => qs_gtr (gd_eq hb) rfl) ?_
 refine j_q (qs_or rfl rfl) ?_
 refine j_cond rfl (fun hc0 => ?_) (fun hc0 => ?_)
 ·skip
  refine j_q (qs_ac) ?_
  refine j_ret_con (vs := [_]) (fun w' hw' => ⟨rfl, trivial⟩) ?_
  rfl
 ·skip
  have hb := heavy4_no hc0
  have fok := fillR_ok (M := M) hb.1 hb.2
  have hrl := refsP_len d
  have hrb := refs_big (d := d) (Nat.le_trans hb.2 (by decide))
  refine j_q (qs_loadw (g := g0) (l := dcells d x) 0 U28 rfl sz28 rfl rfl rfl) ?_
  refine j_call0 ent12 rfl rfl rfl (fun w' hw' => dclone2_con d x w' (h.keep hw') hb.2) (fun u S2 hu => ?_)
  obtain ⟨y, cO, cI, FI, cS, cA, cV, rfl, rfl, ho⟩ := hu
  refine j_perm (S' := [cI, FI, cO, cS, cV, cA, [(g0, .cells (dcells d x).toArray 28 (0, 0))], []]) (by simp) ?_
  refine j_alloc zero28z (fun g11 hg11 hs11 => ?_)
  refine j_storew (l := dcells pdZ dvZ) (vs := dcells d y) 0 sz28 rfl rfl rfl ho.one rfl rfl ?_
  refine j_q (qs_loadw (g := g11) (l := dcells d y) 0 U28 rfl sz28 rfl rfl rfl) ?_
  refine j_q (qs_call ent22 rfl rfl rfl (fun w' hw' => modulo_con d y M v w' (DOwnE.dr ho (fun p hp => hw'.own p (by simp only [List.mem_append] at hp; rcases hp with ((((h | h) | h) | h) | h) | h <;> simp [h]))) (mapr_keep hm hw') (Nat.le_trans hb.2 (by decide)) sz.outs2 (tb_mask hb.2))) ?_
  refine j_q (qs_ext (vs := [.agg (ints (modH M d).1).toArray, .int .i64 (modE M d)]) rfl rfl) ?_
  refine j_q (qs_ext (vs := [.agg (ints (modH M d).1).toArray, .int .i64 (modE M d)]) rfl rfl) ?_
  refine j_alloc zero51 (fun g17 hg17 hs17 => ?_)
  refine j_storew (l := ints (List.replicate 32 0)) (vs := ints (modH M d).1) 0 sz51 rfl rfl (by rw [ints_length]; exact (modH _ _).2) ints_one rfl rfl ?_
  refine j_q (qs_loadw (g := g0) (l := dcells d x) 8 U28 rfl sz28 rfl rfl rfl) ?_
  refine j_q (qs_call ent32 rfl rfl rfl (fun w' hw' => rmodulo_con d x M v w' (h.keep hw') (mapr_keep hm hw') hb.2 sz.outs2)) ?_
  refine j_q (qs_ext (vs := [.agg (ints (modH M d).1).toArray, .int .i64 (modE M d)]) rfl rfl) ?_
  refine j_q (qs_ext (vs := [.agg (ints (modH M d).1).toArray, .int .i64 (modE M d)]) rfl rfl) ?_
  refine j_alloc zero51 (fun g23 hg23 hs23 => ?_)
  refine j_storew (l := ints (List.replicate 32 0)) (vs := ints (modH M d).1) 0 sz51 rfl rfl (by rw [ints_length]; exact (modH _ _).2) ints_one rfl rfl ?_
  refine j_q (qs_loadw (g := g11) (l := dcells d y) 2 U28 rfl sz28 rfl rfl rfl) ?_
  refine j_call0 ent21 rfl rfl rfl (fun w' hw' => fill_con d y M v w' (DOwnE.dr ho (fun p hp => hw'.own p (by simp only [List.mem_append] at hp; rcases hp with ((((h | h) | h) | h) | h) | h <;> simp [h]))) (mapr_keep hm hw') (Nat.le_trans hb.2 (by decide)) sz.outs2 (tb_mask hb.2)) (fun u S2 hu => ?_)
  unfold FillPost at hu
  obtain ⟨x26, cO26, cI26, FI26, cS26, cA26, cV26, rfl, rfl, ho26⟩ := hu
  refine j_q (qs_ext (vs := [dval (fillR M d) x26, .int .i64 (fillE M d)]) rfl rfl) ?_
  refine j_q (qs_ext (vs := [dval (fillR M d) x26, .int .i64 (fillE M d)]) rfl rfl) ?_
  refine j_alloc zero28z (fun g29 hg29 hs29 => ?_)
  refine j_storew (l := dcells pdZ dvZ) (vs := dcells (fillR M d) x26) 0 sz28 rfl rfl rfl ho26.one rfl rfl ?_
  refine j_q (qs_loadw (g := g0) (l := dcells d x) 16 U28 rfl sz28 rfl rfl rfl) ?_
  refine j_call0 ent33 rfl rfl rfl (fun w' hw' => rfill_con d x M v w' (h.keep hw') (mapr_keep hm hw') hb.2 sz.outs2) (fun u S2 hu => ?_)
  unfold FillPost at hu
  obtain ⟨x32, cO32, cI32, FI32, cS32, cA32, cV32, rfl, rfl, ho32⟩ := hu
  refine j_q (qs_ext (vs := [dval (fillR M d) x32, .int .i64 (fillE M d)]) rfl rfl) ?_
  refine j_q (qs_ext (vs := [dval (fillR M d) x32, .int .i64 (fillE M d)]) rfl rfl) ?_
  refine j_alloc zero28z (fun g35 hg35 hs35 => ?_)
  refine j_storew (l := dcells pdZ dvZ) (vs := dcells (fillR M d) x32) 0 sz28 rfl rfl rfl ho32.one rfl rfl ?_
  refine j_q (qs_loadw (g := g11) (l := dcells d y) 16 U28 rfl sz28 rfl rfl rfl) ?_
  refine j_q (qs_call ent28 rfl rfl rfl (fun w' hw' => dpath_con d y w' (DOwnE.dr ho (fun p hp => hw'.own p (by simp only [List.mem_append] at hp; rcases hp with ((((h | h) | h) | h) | h) | h <;> simp [h]))) (Nat.le_trans hb.2 (by decide)) sz.outs2)) ?_
  rw [pathV_eq]
  refine j_q (qs_ext (vs := [.string (bs (pP d)), .int .i64 (pE d)]) rfl rfl) ?_
  refine j_q (qs_ext (vs := [.string (bs (pP d)), .int .i64 (pE d)]) rfl rfl) ?_
  refine j_q (qs_loadw (g := g0) (l := dcells d x) 23 U28 rfl sz28 rfl rfl rfl) ?_
  refine j_q (qs_call ent34 rfl rfl rfl (fun w' hw' => rdpath_con d x w' (h.keep hw') (Nat.le_trans hb.2 (by decide)) sz.outs2)) ?_
  rw [pathV_eq]
  refine j_q (qs_ext (vs := [.string (bs (pP d)), .int .i64 (pE d)]) rfl rfl) ?_
  refine j_q (qs_ext (vs := [.string (bs (pP d)), .int .i64 (pE d)]) rfl rfl) ?_
  refine j_mix _ (.refl _) ?_
  refine j_mq (qs_loadw (g := g17) (l := ints (modH M d).1) 15 U51 rfl sz51 rfl rfl (by rw [ints_length]; exact (modH _ _).2)) ?_
  refine j_mq (qs_loadw (g := g23) (l := ints (modH M d).1) 14 U51 rfl sz51 rfl rfl (by rw [ints_length]; exact (modH _ _).2)) ?_
  refine j_mq (qs_aeq (l := (modH M d).1) (m := (modH M d).1) U51 U5 (by kernel_rfl) (by kernel_rfl) (by kernel_rfl) rfl rfl (modH M d).2 (modH M d).2) ?_
  simp only [beq_self_eq_true, Bool.and_self, Bool.true_and]
  refine j_mg rfl (fun hb => qs_mt rfl) ?_
  refine j_mg rfl (fun hb => qs_mt rfl) ?_
  refine j_mg rfl (fun hb => qs_eql (gd_eq hb) (gd_eq hb)) ?_
  refine j_mq (qs_and rfl rfl) ?_
  simp only [beq_self_eq_true, Bool.and_self, Bool.true_and]
  refine j_mg rfl (fun hb1 => qs_loadw (g := g29) (l := dcells (fillR M d) x26) 7 U28 rfl sz28 rfl rfl rfl) ?_
  refine j_mg rfl (fun hb1 => qs_loadw (g := g35) (l := dcells (fillR M d) x32) 0 U28 rfl sz28 rfl rfl rfl) ?_
  refine j_g rfl (fun hb1 => qs_call ent17 rfl rfl (args1 (gd_eq hb1)) (fun w' hw' => ltext_con (fillR M d) x26 w' (DOwnE.dr ho26 (fun p hp => hw'.own p (by simp only [List.mem_append] at hp; rcases hp with ((((h | h) | h) | h) | h) | h <;> simp [h]))) fok.1 (fun y hy o ho => Nat.le_trans (fok.2 y hy o ho) (by decide)) (.inr (fun y hy o ho => Nat.le_trans (fok.2 y hy o ho) (by decide))))) ?_
  refine j_mD0 (Le.of_sub (by repeat first | exact slR _ | exact slN _ | apply slC | apply slD)) ?_
  refine j_g rfl (fun hb1 => qs_call ent17 rfl rfl (args1 (gd_eq hb1)) (fun w' hw' => ltext_con (fillR M d) x32 w' (DOwnE.dr ho32 (fun p hp => hw'.own p (by simp only [List.mem_append] at hp; rcases hp with ((((h | h) | h) | h) | h) | h <;> simp [h]))) fok.1 (fun y hy o ho => Nat.le_trans (fok.2 y hy o ho) (by decide)) (.inr (fun y hy o ho => Nat.le_trans (fok.2 y hy o ho) (by decide))))) ?_
  refine j_mR _ (.refl _) ?_
  refine j_mg rfl (fun hb => qs_seql (gd_eq hb) (gd_eq hb)) ?_
  refine j_mq (qs_and rfl rfl) ?_
  simp only [beq_self_eq_true, Bool.and_self, Bool.true_and]
  refine j_mg rfl (fun hb => qs_mt rfl) ?_
  refine j_mg rfl (fun hb => qs_mt rfl) ?_
  refine j_mg rfl (fun hb => qs_eql (gd_eq hb) (gd_eq hb)) ?_
  refine j_mq (qs_and rfl rfl) ?_
  simp only [beq_self_eq_true, Bool.and_self, Bool.true_and]
  refine j_mg rfl (fun hb => qs_mt rfl) ?_
  refine j_mg rfl (fun hb => qs_mt rfl) ?_
  refine j_mg rfl (fun hb => qs_seql (gd_eq hb) (gd_eq hb)) ?_
  refine j_mq (qs_and rfl rfl) ?_
  simp only [beq_self_eq_true, Bool.and_self, Bool.true_and]
  refine j_mg rfl (fun hb => qs_mt rfl) ?_
  refine j_mg rfl (fun hb => qs_mt rfl) ?_
  refine j_mg rfl (fun hb => qs_eql (gd_eq hb) (gd_eq hb)) ?_
  refine j_mq (qs_and rfl rfl) ?_
  simp only [beq_self_eq_true, Bool.and_self, Bool.true_and]
  refine j_mg rfl (fun hb1 => qs_loadw (g := g11) (l := dcells d y) 16 U28 rfl sz28 rfl rfl rfl) ?_
  refine j_mg rfl (fun hb1 => qs_loadw (g := g0) (l := dcells d x) 23 U28 rfl sz28 rfl rfl rfl) ?_
  refine j_ga rfl ?_
  refine j_call0 ent26 rfl rfl rfl (fun w' hw' => dref_con d y w' (DOwnE.dr ho (fun p hp => hw'.own p (by simp only [List.mem_append] at hp; rcases hp with ((((h | h) | h) | h) | h) | h <;> simp [h]))) (Nat.le_trans hb.2 (by decide)) sz.outs2) (fun u S2 hu => ?_)
  obtain ⟨c72, rfl, ho72⟩ := hu
  refine j_mD0 (Le.of_sub (by repeat first | exact slR _ | exact slN _ | apply slC | apply slD)) ?_
  refine j_ga rfl ?_
  refine j_call0 ent35 rfl rfl rfl (fun w' hw' => rref_con d x w' (h.keep hw') (Nat.le_trans hb.2 (by decide)) sz.outs2) (fun u S2 hu => ?_)
  obtain ⟨c73, rfl, ho73⟩ := hu
  refine j_mR _ (.refl _) ?_
  refine j_gt rfl (qs_call ent30 rfl rfl rfl (fun w' hw' => paths_con (refsP d) _ _ w' (strsl_own ho72 1 rfl hw') (strsl_own ho73 0 rfl hw') (by omega))) ?_
  refine j_mR _ (.refl _) ?_
  refine j_mq (qs_and rfl rfl) ?_
  refine j_mg rfl (fun hb1 => qs_loadw (g := g11) (l := dcells d y) 18 U28 rfl sz28 rfl rfl rfl) ?_
  refine j_mg rfl (fun hb1 => qs_loadw (g := g0) (l := dcells d x) 25 U28 rfl sz28 rfl rfl rfl) ?_
  refine j_g rfl (fun hb1 => qs_call ent17 rfl rfl (args1 (gd_eq hb1)) (fun w' hw' => ltext_con d y w' (DOwnE.dr ho (fun p hp => hw'.own p (by simp only [List.mem_append] at hp; rcases hp with ((((h | h) | h) | h) | h) | h <;> simp [h]))) (Nat.le_trans hb.2 (by decide)) sz.outs (.inl hb.2))) ?_
  refine j_mD0 (Le.of_sub (by repeat first | exact slR _ | exact slN _ | apply slC | apply slD)) ?_
  refine j_g rfl (fun hb1 => qs_call ent17 rfl rfl (args1 (gd_eq hb1)) (fun w' hw' => ltext_con d x w' (h.keep hw') (Nat.le_trans hb.2 (by decide)) sz.outs (.inl hb.2))) ?_
  refine j_mR _ (.refl _) ?_
  refine j_mg rfl (fun hb => qs_seql (gd_eq hb) (gd_eq hb)) ?_
  refine j_mq (qs_and rfl rfl) ?_
  simp only [beq_self_eq_true, Bool.and_self, Bool.true_and]
  refine j_g rfl (fun hb1 => qs_call ent18 rfl rfl rfl (fun w' hw' => known_con w')) ?_
  refine j_mR _ (.refl _) ?_
  refine j_mq (qs_and rfl rfl) ?_
  refine j_mend ?_
  refine j_ret_con (vs := [_]) (fun w' hw' => ⟨rfl, trivial⟩) ?_
  show Value.bool _ = Value.bool true
  simp [gd]
end Go.Proofs.YtfeabbeebkkhaaaGreat
/-! Arg14 -/
namespace Go.Proofs.YtfeabbeebkkhaaaGreat
open Go Go.Sx Go.ChangeShapes Go.WideShapes Go.ChangeAt Go.RowKit
set_option linter.unusedVariables false
set_option maxRecDepth 100000
theorem weights_at {H : Type} {P : Program} {ts : List TypeId} {ds : List (DataW H)} (h : (DataW.weightsEach P ts ds).all (· ≤ reachBytes) = true) {j : Nat} {t : TypeId} {d : DataW H} (ht : ts[j]? = some t) (hd : ds[j]? = some d) : (d.weights P t).all (· ≤ reachBytes) = true :=
 List.all_eq_true.2 fun n hn => List.all_eq_true.1 h n (DataW.weights_mem_each ht hd n hn)
theorem weights_all {H : Type} {P : Program} {e : TypeId} : ∀ (l : List (DataW H)), (DataW.weightsAll P e l).all (· ≤ reachBytes) = true → ∀ d ∈ l, (d.weights P e).all (· ≤ reachBytes) = true
 | [], _, d, hd => by cases hd
 | d :: l, hh, d', hd' => by
  unfold DataW.weightsAll at hh
  rw [List.all_append, Bool.and_eq_true] at hh
  rcases List.mem_cons.1 hd' with rfl | hd'
  ·exact hh.1
  ·exact weights_all l hh.2 d' hd'
theorem cell_spot {w : World} {a : Addr} {v : Value} (h : w.cell? a = some v) : a.spot = none ∧ a.block < w.heap.size := by
 unfold World.cell? at h
 split at h
 ·rename_i hh
  refine ⟨?_, (Array.getElem?_eq_some_iff.1 hh).1⟩
  cases hs : a.spot with
  | none => rfl
  | some s => rw [hs] at h; simp at h
 ·cases h
section
variable {H : Type} {enc : TypeId × Value → H} {w : World} {b0 : Nat} {sp : Nat → Bool} {held : Bool}
theorem str_weight {s : Bs} {t : TypeId} (ht : Tryz.prog.underlying t = some .string) (hw : ((DataW.lit (.string s) : DataW H).weights Tryz.prog t).all (· ≤ reachBytes) = true) : s.length ≤ 140737488351232 := by
 have hreach : reachBytes = 140737488351232 := rfl
 unfold DataW.weights at hw
 simp only [List.all_cons, List.all_nil, Bool.and_eq_true, decide_eq_true_eq] at hw
 omega
theorem strz_trod {t e : TypeId} (ht : Tryz.prog.underlying t = some (.slice e)) (he : Tryz.prog.underlying e = some .string) (hc : Tryz.prog.cellsOf e = 1) (hb16 : Tryz.prog.bytesOf e = 16) (fuel : Nat) (cs : List Value) (y : DataW H × List MemPlace) (h : DataW.trod enc Tryz.prog w b0 sp held fuel t cs = some y) (hw : (y.1.weights Tryz.prog t).all (· ≤ reachBytes) = true) :
  ∃ v rs, cs = [v] ∧ StrZ w v rs ∧ rs.length ≤ 140737488351232 ∧ ∀ o ∈ rs, o.length ≤ 140737488351232 := by
 rcases open_strings ht he hc h with ⟨hcs, _⟩ | ⟨a, len, cap, ss, hcs, hb, hl, hm, hz, hx, hcell, hsz⟩
 ·exact ⟨_, [], hcs, strz_nil, Nat.zero_le _, fun o ho => by cases ho⟩
 ·have hlen : len ≤ ss.length := by rw [hz]; split <;> omega
  have hll : ((ss.take len).map fun s => s.data.toList).length = len := by simp [Nat.min_eq_left hlen]
  have hreach : reachBytes = 140737488351232 := rfl
  rw [hx] at hw
  unfold DataW.weights at hw
  simp only [ht, List.all_cons, Bool.and_eq_true, decide_eq_true_eq, List.all_append] at hw
  obtain ⟨hw1, hw2, _⟩ := hw
  have hl1 : (Go.ChangeShapes.strs (ss.take len) : List (DataW H)).length = len := by simp [Go.ChangeShapes.strs, Nat.min_eq_left hlen]
  rw [hb16, hl1] at hw1
  refine ⟨_, (ss.take len).map fun s => s.data.toList, hcs, ⟨some a, cap, by rw [hll], by rw [hll]; exact hl, fun h0 => ?_, fun e => by cases e⟩, by rw [hll]; omega, fun o ho => ?_⟩
  ·rw [hll] at h0
   have h1 := cell_spot (hcell 0 (by omega))
   obtain ⟨g, off, spot⟩ := a
   obtain ⟨h2, h3⟩ := h1
   have h4 : spot = none := h2
   subst h4
   refine ⟨g, off, rfl, h3, fun j u hu => ?_⟩
   simp only [Sx.strs, List.map_map, List.getElem?_map] at hu
   cases hj : (ss.take len)[j]? with
   | none => rw [hj] at hu; simp at hu
   | some s =>
    rw [hj] at hu
    simp only [Option.map_some, Option.some.injEq, Function.comp] at hu
    subst hu
    have hj2 : ss[j]? = some s := by
     rw [List.getElem?_take] at hj
     split at hj
     ·exact hj
     ·cases hj
    have hlt := (List.getElem?_eq_some_iff.1 hj2).1
    have h5 := hcell j hlt
    rw [h5, ← bs_of]
    simp [List.getD_eq_getElem?_getD, hj2]
  ·obtain ⟨s, hs, rfl⟩ := List.mem_map.1 ho
   exact str_weight he (weights_all _ hw2 (.lit (.string s.data.toList)) (by unfold Go.ChangeShapes.strs; exact List.mem_map.2 ⟨s, hs, rfl⟩))
def okV (x : PV) : Prop := x.name.length ≤ 140737488351232 ∧ x.val.length ≤ 140737488351232
theorem env_trod (fuel : Nat) (cs : List Value) (y : DataW H × List MemPlace) (h : DataW.trod enc Tryz.prog w b0 sp held fuel 48 cs = some y) (hw : (y.1.weights Tryz.prog 48).all (· ≤ reachBytes) = true) : ∃ a : PV, okV a ∧ cs = encV a := by
 obtain ⟨y0, y1, n, rfl, hl, h0, h1⟩ := trod_struct2 U48 h
 have hc : Tryz.prog.cellsOf 48 = 2 := by kernel_rfl
 have e9 : Tryz.prog.cellsOf 9 = 1 := by kernel_rfl
 rw [hc] at hl
 match cs, hl with
 | [c0, c1], _ =>
  simp only [e9, List.drop_zero, List.take_succ_cons, List.take_zero, List.drop_succ_cons] at h0 h1
  obtain ⟨s0, hs0, e0, w0⟩ := DataW.trod_string U9 h0
  obtain ⟨s1, hs1, e1, w1⟩ := DataW.trod_string U9 h1
  injection hs0 with hs0
  injection hs1 with hs1
  subst hs0 hs1 e0 e1
  unfold DataW.weights at hw
  rw [U48] at hw
  simp only [List.map_cons, List.map_nil, DataW.weightsEach, List.all_append, List.all_nil, Bool.and_eq_true] at hw
  exact ⟨⟨s0.data.toList, s1.data.toList⟩, ⟨str_weight U9 hw.1, str_weight U9 hw.2.1⟩, by unfold encV; simp only [← bs_of]⟩
def okMI (w : World) (x : MI) : Prop := StrZ w x.v x.outs ∧ x.drv.length ≤ 140737488351232 ∧ x.outs.length ≤ 140737488351232 ∧ ∀ o ∈ x.outs, o.length ≤ 140737488351232
theorem ins_trod (fuel : Nat) (cs : List Value) (y : DataW H × List MemPlace) (h : DataW.trod enc Tryz.prog w b0 sp held fuel 68 cs = some y) (hw : (y.1.weights Tryz.prog 68).all (· ≤ reachBytes) = true) : ∃ a : MI, okMI w a ∧ cs = encI a := by
 obtain ⟨y0, y1, n, rfl, hl, h0, h1⟩ := trod_struct2 U68 h
 have hc : Tryz.prog.cellsOf 68 = 2 := by kernel_rfl
 have e49 : Tryz.prog.cellsOf 49 = 1 := by kernel_rfl
 have e22 : Tryz.prog.cellsOf 22 = 1 := by kernel_rfl
 rw [hc] at hl
 match cs, hl with
 | [c0, c1], _ =>
  simp only [e49, e22, List.drop_zero, List.take_succ_cons, List.take_zero, List.drop_succ_cons] at h0 h1
  obtain ⟨s0, hs0, e0, w0⟩ := DataW.trod_string U49 h0
  injection hs0 with hs0
  subst hs0 e0
  unfold DataW.weights at hw
  rw [U68] at hw
  simp only [List.map_cons, List.map_nil, DataW.weightsEach, List.all_append, List.all_nil, Bool.and_eq_true] at hw
  obtain ⟨v, rs, hv, hz, hn, ho⟩ := strz_trod U22 U9 (by kernel_rfl) (by kernel_rfl) _ _ _ h1 hw.2.1
  injection hv with hv
  subst hv
  exact ⟨⟨s0.data.toList, rs, c1⟩, ⟨hz, str_weight U49 hw.1, hn, ho⟩, by unfold encI; simp only [← bs_of]⟩
theorem split35 {cs : List Value} (h : cs.length = 35) : cs = cs.take 1 ++ ((cs.drop 1).take 1 ++ ((cs.drop 2).take 1 ++ (cs.drop 3).take 32)) := by
 have h3 : (cs.drop 3).take 32 = cs.drop 3 := List.take_of_length_le (by simp; omega)
 have e2 : (cs.drop 2).take 1 ++ cs.drop 3 = cs.drop 2 := by
  have := List.take_append_drop 1 (cs.drop 2)
  rwa [List.drop_drop] at this
 have e1 : (cs.drop 1).take 1 ++ cs.drop 2 = cs.drop 1 := by
  have := List.take_append_drop 1 (cs.drop 1)
  rwa [List.drop_drop] at this
 rw [h3, e2, e1, List.take_append_drop]
theorem hash_trod {n : Nat} {cs : List Value} {y : DataW H × List MemPlace} (hl : cs.length = 32) (h : DataW.trod enc Tryz.prog w b0 sp held n 51 cs = some y) : ∃ l : Hsh, cs = ints l.1 := by
 obtain ⟨xs, m, _, _, _, hxl, hel⟩ := DataW.trod_array U51 h
 have e5 : Tryz.prog.cellsOf 5 = 1 := by kernel_rfl
 have each : ∀ i, i < 32 → ∃ k : Int, cs[i]? = some (.int .u8 k) ∧ 0 ≤ k ∧ k ≤ 255 := fun i hi => by
  have h1 := hel i hi
  obtain ⟨z, hz⟩ : ∃ z, xs[i]? = some z := ⟨_, List.getElem?_eq_getElem (by omega)⟩
  rw [hz, e5, Nat.mul_one] at h1
  obtain ⟨k, hk, _, hwf⟩ := DataW.trod_int U5 h1
  have h2 : cs[i]? = some (.int .u8 k) := by
   have := congrArg (fun l => l[0]?) hk
   simp only [List.getElem?_take, List.getElem?_drop, List.getElem?_cons_zero, Nat.add_zero] at this
   simpa using this
  have h3 : IntKind.u8.min = 0 := rfl
  have h4 : IntKind.u8.max = 255 := rfl
  simp only [Lit.wf, h3, h4, Bool.and_eq_true, decide_eq_true_eq] at hwf
  exact ⟨k, h2, hwf.1, hwf.2⟩
 refine ⟨⟨cs.map (fun v => match v with | .int _ m => by8 m | _ => 0), by rw [List.length_map, hl]⟩, ?_⟩
 apply List.ext_getElem?
 intro i
 by_cases hi : i < 32
 ·obtain ⟨k, h1, h2, h3⟩ := each i hi
  have hw : IntKind.u8.wrap k = k := by rw [IntKind.wrap_u8]; omega
  rw [ints_get, List.getElem?_map, h1]
  simp only [Option.map_some]
  rw [← wrap_by8, hw]
 ·rw [List.getElem?_eq_none (by omega), List.getElem?_eq_none (by rw [ints_length, List.length_map]; omega)]
def okO (x : PO) : Prop := x.name.length ≤ 140737488351232 ∧ x.path.length ≤ 140737488351232
theorem outs_trod (fuel : Nat) (cs : List Value) (y : DataW H × List MemPlace) (h : DataW.trod enc Tryz.prog w b0 sp held fuel 53 cs = some y) (hw : (y.1.weights Tryz.prog 53).all (· ≤ reachBytes) = true) : ∃ a : PO, okO a ∧ cs = encO a := by
 obtain ⟨y0, y1, y2, y3, n, rfl, hl, h0, h1, h2, h3⟩ := Go.Joins.trod_struct4 U53 h
 have hc : Tryz.prog.cellsOf 53 = 35 := by kernel_rfl
 have e9 : Tryz.prog.cellsOf 9 = 1 := by kernel_rfl
 have e49 : Tryz.prog.cellsOf 49 = 1 := by kernel_rfl
 have e4 : Tryz.prog.cellsOf 4 = 1 := by kernel_rfl
 have e51 : Tryz.prog.cellsOf 51 = 32 := by kernel_rfl
 rw [hc] at hl
 simp only [e9, e49, e4, e51, List.drop_zero] at h0 h1 h2 h3
 obtain ⟨s0, hs0, e0, w0⟩ := DataW.trod_string U9 h0
 obtain ⟨s1, hs1, e1, w1⟩ := DataW.trod_string U49 h1
 obtain ⟨b2, hb2, _⟩ := DataW.trod_bool U4 h2
 obtain ⟨l, hl3⟩ := hash_trod (by simp; omega) h3
 subst e0 e1
 unfold DataW.weights at hw
 rw [U53] at hw
 simp only [List.map_cons, List.map_nil, DataW.weightsEach, List.all_append, List.all_nil, Bool.and_eq_true] at hw
 refine ⟨⟨s0.data.toList, s1.data.toList, b2, l⟩, ⟨str_weight U9 hw.1, str_weight U49 hw.2.1⟩, ?_⟩
 rw [split35 hl, hs0, hs1, hb2, hl3]
 unfold encO
 simp only [← bs_of]
 rfl
theorem trod_struct8 {P : Program} {t : TypeId} {f0 f1 f2 f3 f4 f5 f6 f7 : Field} {fuel : Nat} {cs : List Value} {x : DataW H × List MemPlace} (ht : P.underlying t = some (.struct #[f0, f1, f2, f3, f4, f5, f6, f7])) (h : DataW.trod enc P w b0 sp held fuel t cs = some x) :
  ∃ (y0 y1 y2 y3 y4 y5 y6 y7 : DataW H × List MemPlace) (n : Nat), x.1 = .agg [y0.1, y1.1, y2.1, y3.1, y4.1, y5.1, y6.1, y7.1] ∧ cs.length = P.cellsOf t ∧ DataW.trod enc P w b0 sp held n f0.type ((cs.drop f0.offset).take (P.cellsOf f0.type)) = some y0 ∧
   DataW.trod enc P w b0 sp held n f1.type ((cs.drop f1.offset).take (P.cellsOf f1.type)) = some y1 ∧ DataW.trod enc P w b0 sp held n f2.type ((cs.drop f2.offset).take (P.cellsOf f2.type)) = some y2 ∧
   DataW.trod enc P w b0 sp held n f3.type ((cs.drop f3.offset).take (P.cellsOf f3.type)) = some y3 ∧ DataW.trod enc P w b0 sp held n f4.type ((cs.drop f4.offset).take (P.cellsOf f4.type)) = some y4 ∧
   DataW.trod enc P w b0 sp held n f5.type ((cs.drop f5.offset).take (P.cellsOf f5.type)) = some y5 ∧ DataW.trod enc P w b0 sp held n f6.type ((cs.drop f6.offset).take (P.cellsOf f6.type)) = some y6 ∧
   DataW.trod enc P w b0 sp held n f7.type ((cs.drop f7.offset).take (P.cellsOf f7.type)) = some y7 := by
 obtain ⟨xs, n, _, rfl, hl, hlen, hf⟩ := DataW.trod_struct ht h
 match xs, hlen with
 | [y0, y1, y2, y3, y4, y5, y6, y7], _ => exact ⟨y0, y1, y2, y3, y4, y5, y6, y7, n, by simp, hl, by simpa using hf 0 f0 rfl, by simpa using hf 1 f1 rfl, by simpa using hf 2 f2 rfl, by simpa using hf 3 f3 rfl, by simpa using hf 4 f4 rfl, by simpa using hf 5 f5 rfl, by simpa using hf 6 f6 rfl, by simpa using hf 7 f7 rfl⟩
theorem list8 {cs : List Value} (h : cs.length = 8) : ∃ c0 c1 c2 c3 c4 c5 c6 c7, cs = [c0, c1, c2, c3, c4, c5, c6, c7] := by
 match cs, h with
 | [c0, c1, c2, c3, c4, c5, c6, c7], _ => exact ⟨c0, c1, c2, c3, c4, c5, c6, c7, rfl⟩
end
theorem open_drv {H : Type} {enc : TypeId × Value → H} {w : World} {r : Go.Reach} {base b0 : Nat} {sp : Nat → Bool} {held : Bool} {v : Value} {x : DataW H × List MemPlace} (hv : Value.okWide Tryz.prog w r base 28 v)
  (h : ∃ fuel, DataW.trod enc Tryz.prog w b0 sp held fuel 28 v.cells.toList = some x) (hw : (x.1.weights Tryz.prog 28).all (· ≤ reachBytes) = true) : ∃ d dv, v = dval d dv ∧ DR w d dv ∧ Szd d := by
 obtain ⟨fuel, hf⟩ := h
 have hvO := hv
 unfold Value.okWide at hvO
 simp only [U28] at hvO
 obtain ⟨cs, rfl, hsz, ts, hts, _, hall⟩ := hvO
 have hct : Tryz.prog.cellTypes Tryz.prog.depth 28 = some [9, 9, 9, 22, 23, 24, 25, 26] := by kernel_rfl
 rw [hct] at hts
 injection hts with hts
 subst hts
 have hcells : (Value.agg cs).cells.toList = cs.toList := rfl
 rw [hcells] at hf
 obtain ⟨y0, y1, y2, y3, y4, y5, y6, y7, n, hx, hl, h0, h1, h2, h3, h4, h5, h6, h7⟩ := trod_struct8 U28 hf
 have e28 : Tryz.prog.cellsOf 28 = 8 := by kernel_rfl
 have e9 : Tryz.prog.cellsOf 9 = 1 := by kernel_rfl
 have e22 : Tryz.prog.cellsOf 22 = 1 := by kernel_rfl
 have e23 : Tryz.prog.cellsOf 23 = 1 := by kernel_rfl
 have e24 : Tryz.prog.cellsOf 24 = 1 := by kernel_rfl
 have e25 : Tryz.prog.cellsOf 25 = 1 := by kernel_rfl
 have e26 : Tryz.prog.cellsOf 26 = 1 := by kernel_rfl
 rw [e28] at hl
 obtain ⟨c0, c1, c2, c3, c4, c5, c6, c7, hcs⟩ := list8 hl
 have hcsA : cs = #[c0, c1, c2, c3, c4, c5, c6, c7] := by apply Array.ext'; exact hcs
 subst hcsA
 clear hcs
 simp only [e9, e22, e23, e24, e25, e26, List.drop_zero, List.take_succ_cons, List.take_zero, List.drop_succ_cons] at h0 h1 h2 h3 h4 h5 h6 h7
 obtain ⟨s0, hs0, q0, w0⟩ := DataW.trod_string U9 h0
 obtain ⟨s1, hs1, q1, w1⟩ := DataW.trod_string U9 h1
 obtain ⟨s2, hs2, q2, w2⟩ := DataW.trod_string U9 h2
 injection hs0 with hs0
 injection hs1 with hs1
 injection hs2 with hs2
 subst hs0 hs1 hs2 q0 q1 q2
 rw [hx] at hw
 unfold DataW.weights at hw
 rw [U28] at hw
 simp only [List.map_cons, List.map_nil, DataW.weightsEach, List.all_append, List.all_nil, Bool.and_eq_true] at hw
 obtain ⟨k0, k1, k2, k3, k4, k5, k6, k7, _⟩ := hw
 have okv : ∀ (i : Nat) (t : TypeId) (c : Value) (e : TypeId), (#[Value.string s0, .string s1, .string s2, c3, c4, c5, c6, c7] : Array Value)[i]? = some c → ([9, 9, 9, 22, 23, 24, 25, 26] : List TypeId)[i % 8]? = some t → Tryz.prog.underlying t = some (.slice e) → Value.okWide Tryz.prog w r base t c := fun i t c e hi ht hu => by
  obtain ⟨u, hu1, hu2⟩ := hall i c hi
  have : ([9, 9, 9, 22, 23, 24, 25, 26] : List TypeId).length = 8 := rfl
  rw [this, ht] at hu1
  injection hu1 with hu1
  subst hu1
  unfold Value.okWide
  simp only [hu]
  exact hu2
 obtain ⟨va, args, hva, hza, hna, hoa⟩ := strz_trod U22 U9 (by kernel_rfl) (by kernel_rfl) _ _ _ h3 k3
 injection hva with hva
 subst hva
 obtain ⟨vs, srcs, hvs, hzs, hns, hos⟩ := strz_trod U25 U49 (by kernel_rfl) (by kernel_rfl) _ _ _ h6 k6
 injection hvs with hvs
 subst hvs
 have okv4 := okv 4 23 c4 48 rfl rfl U23
 have okv5 := okv 5 24 c5 68 rfl rfl U24
 have okv7 := okv 7 26 c7 53 rfl rfl U26
 have cl : ∀ (i : Nat) (t : TypeId) (c : Value) (e : TypeId), Value.okWide Tryz.prog w r base t c → Tryz.prog.underlying t = some (.slice e) → c.cells.toList = [c] := fun i t c e ho hu => by
  obtain ⟨a, l, cap, rfl⟩ := okWide_slice hu ho
  rfl
 obtain ⟨env, he1, he2, he3⟩ := open_sln (α := PV) encV okV encV_len (by decide) U23 (by kernel_rfl) okv4 env_trod ⟨n, by rw [cl 4 23 c4 48 okv4 U23]; exact h4⟩ k4
 obtain ⟨mi, hi1, hi2, hi3⟩ := open_sln (α := MI) encI (okMI w) encI_len (by decide) U24 (by kernel_rfl) okv5 ins_trod ⟨n, by rw [cl 5 24 c5 68 okv5 U24]; exact h5⟩ k5
 obtain ⟨outs, ho1, ho2, ho3⟩ := open_sln (α := PO) encO okO encO_len (by decide) U26 (by kernel_rfl) okv7 outs_trod ⟨n, by rw [cl 7 26 c7 53 okv7 U26]; exact h7⟩ k7
 have b48 : Tryz.prog.bytesOf 48 = 32 := by kernel_rfl
 have b68 : Tryz.prog.bytesOf 68 = 40 := by kernel_rfl
 have b53 : Tryz.prog.bytesOf 53 = 72 := by kernel_rfl
 have hreach : reachBytes = 140737488351232 := rfl
 rw [b48] at he3
 rw [b68] at hi3
 rw [b53] at ho3
 refine ⟨⟨s0.data.toList, s1.data.toList, s2.data.toList, args, env, mi.map MI.pi, srcs, outs⟩, ⟨c3, c4, c5, c6, c7, mi⟩, by unfold dval dcells; simp only [← bs_of], ⟨hza, he1, hi1, fun m hm => (hi2 m hm).1, rfl, hzs, ho1⟩, ?_⟩
 have a0 := str_weight U9 k0
 have a1 := str_weight U9 k1
 have a2 := str_weight U9 k2
 refine ⟨by show s0.data.toList.length ≤ _; omega, by show s1.data.toList.length ≤ _; omega, by show s2.data.toList.length ≤ _; omega, fun y hy => by have := hoa y hy; omega, fun y hy => by have := he2 y hy; unfold okV at this; omega, fun y hy => ?_, fun y hy => by have := ho2 y hy; unfold okO at this; omega, fun y hy => by have := hos y hy; omega, by show args.length ≤ _; omega, by show env.length ≤ _; omega, by show (mi.map MI.pi).length ≤ _; rw [List.length_map]; omega, by show outs.length ≤ _; omega, by show srcs.length ≤ _; omega⟩
 obtain ⟨m, hm, rfl⟩ := List.mem_map.1 hy
 obtain ⟨_, g1, g2, g3⟩ := hi2 m hm
 exact ⟨by show m.drv.length ≤ _; omega, by show m.outs.length ≤ _; omega, fun o ho => by have := g3 o ho; omega⟩
end Go.Proofs.YtfeabbeebkkhaaaGreat
/-! Arg30 -/
namespace Go.Proofs.YtfeabbeebkkhaaaGreat
open Go Go.Sx Go.ChangeShapes Go.WideShapes Go.ChangeAt Go.RowKit
set_option linter.unusedVariables false
set_option maxRecDepth 100000
theorem hmap_entry {H : Type} {enc : TypeId × Value → H} {w : World} {b0 n : Nat} {sp : Nat → Bool} {held : Bool} {x : MapEntry} {y : Lit × DataW H} (h : WideElems.rd Tryz.prog 49 (WideElems.elemAt enc Tryz.prog w b0 sp held n 51) x = some y) :
  ∃ p : Bs × Hsh, x.key = strEnc p.1 ∧ x.val = (hent p).2 ∧ strOk p.1 := by
 have hk := WideElems.rd_key h
 obtain ⟨z, hz, _⟩ := WideElems.rd_val h
 have h49 : Tryz.prog.underlying 49 = some .string := U49
 unfold keyOf at hk
 rw [h49] at hk
 simp only at hk
 unfold mapKey at hk
 rw [h49] at hk
 unfold WideElems.elemAt at hz
 split at hz
 ·rename_i hf
  have h51 := U51
  unfold Value.formed at hf
  have hc51 : Tryz.prog.cellsOf 51 = 32 := by kernel_rfl
  cases hv : x.val with
  | agg cs =>
   rw [hv] at hf hz
   simp only [h51, hc51, beq_iff_eq] at hf
   obtain ⟨l, hl⟩ := hash_trod (cs := cs.toList) (by simpa using hf) (by simpa [Value.cells] using hz)
   cases hkv : x.key with
   | string s =>
    rw [hkv] at hk
    simp only at hk
    split at hk
    ·rename_i hs
     refine ⟨(s.data.toList, l), ?_, ?_, hs⟩
     ·show _ = Value.string (bs s.data.toList)
      rw [← bs_of]
     ·show _ = Value.agg (ints l.1).toArray
      rw [← hl]
    ·cases hk
   | _ => rw [hkv] at hk; simp at hk
  | _ => rw [hv] at hf; simp [h51] at hf
 ·cases hz
theorem open_hmap {H : Type} {enc : TypeId × Value → H} {w : World} {r : Go.Reach} {base b0 : Nat} {sp : Nat → Bool} {held : Bool} {v : Value} {x : DataW H × List MemPlace} (hv : Value.okWide Tryz.prog w r base 55 v)
  (h : ∃ fuel, DataW.trod enc Tryz.prog w b0 sp held fuel 55 v.cells.toList = some x) : ∃ M : HM, HMR w v M := by
 obtain ⟨fuel, hf⟩ := h
 obtain ⟨a, rfl⟩ := okWide_map U55 hv
 rcases WideElems.open_map U55 hf with ⟨hcs, _⟩ | ⟨b, es, clock, n, _, hcs, hb, _, F, _⟩
 ·have : a = none := by simpa [Value.cells] using hcs
  subst this
  exact ⟨[], .inl ⟨rfl, rfl⟩⟩
 ·have : a = some b := by simpa [Value.cells] using hcs
  subst this
  have hex : ∀ l : List MapEntry, (∀ e ∈ l, e ∈ es.toList) → ∃ M : HM, l.map (fun e => (e.key, e.val)) = (M.map hent).map (fun p => (strEnc p.1, p.2)) ∧ ∀ p ∈ M, strOk p.1 := fun l => by
   induction l with
   | nil => exact fun _ => ⟨[], rfl, by simp⟩
   | cons e l ih =>
    intro hl
    obtain ⟨M, h1, h2⟩ := ih fun e he => hl e (by simp [he])
    obtain ⟨y, hy⟩ := F.reads e (hl e (by simp))
    obtain ⟨p, q1, q2, q3⟩ := hmap_entry hy
    refine ⟨p :: M, ?_, fun q hq => ?_⟩
    ·simp only [List.map_cons, h1, q1, q2]
    ·rcases List.mem_cons.1 hq with rfl | hq
     ·exact q3
     ·exact h2 q hq
  obtain ⟨M, h1, h2⟩ := hex es.toList (fun _ h => h)
  refine ⟨M, .inr ⟨b, es, clock, rfl, hb, ⟨h1, F.stamped, fun p hp => ?_⟩⟩⟩
  obtain ⟨q, hq, rfl⟩ := List.mem_map.1 hp
  exact h2 q hq
end Go.Proofs.YtfeabbeebkkhaaaGreat
/-! SxT -/
namespace Go.Sx
open Go Go.ChangeShapes Go.WideShapes Go.ChangeAt Go.RowKit
set_option linter.unusedVariables false
end Go.Sx
/-! RowD -/
namespace Go.Proofs.YtfeabbeebkkhaaaGreat
open Go Go.Sx Go.ChangeShapes Go.WideShapes Go.ChangeAt Go.RowKit
set_option linter.unusedVariables false
theorem own_drvNames : ownKnob Tryz.prog.godebug = none := by kernel_rfl
theorem laid_drvNames : laidOutB Tryz.prog = true := by kernel_rfl
set_option maxRecDepth 100000 in
theorem drvNames_lifted (os : Os) (started : os.Started) (H : Type) (enc : TypeId × Value → H) :
  ReturnsInHanded {} Tryz.checked os 10 .any (Rows.drvNamesSpec.pre6 enc Tryz.prog Tryz.f10 Rows.drvNamesRow.domain false) (Rows.drvNamesSpec.post enc Tryz.prog Tryz.f10 false true false false) := by
 refine returnsInHanded_of_change_sized (C := Tryz.checked) own_drvNames started (by kernel_rfl) Tryz.func10
  (ChangeSpec.witness6 (enc := enc) (C := Tryz.checked) false ⟨#[], #[.agg #[.string ⟨#[]⟩, .string ⟨#[]⟩, .string ⟨#[]⟩, .slice none 0 0, .slice none 0 0, .slice none 0 0, .slice none 0 0, .slice none 0 0], .map none], []⟩ 8 (by kernel_rfl) (by kernel_rfl) (by kernel_rfl) (by kernel_rfl)) ?_
 intro W base args ds gs before hval0 hW hcnd hsz0 _
 have hsz : (DataW.weightsEach Tryz.prog (Tryz.f10.params.toList ++ Rows.drvNamesSpec.plain.varTypes Tryz.prog) (ds ++ gs)).all (· ≤ reachBytes) = true := hsz0
 have hreach : reachBytes = 140737488351232 := rfl
 have hval : ∀ (j : Nat) t v, Tryz.f10.params[j]? = some t → args[j]? = some v → Value.okWide Tryz.prog W .any base t v := hval0
 have hW' := hW
 obtain ⟨p, q, hA0, hV, rfl, hfz, hnd⟩ := hW
 have hA : DataW.TrodAll enc Tryz.prog W 0 (fun _ => true) true Tryz.f10.params.toList args.toList ds p := hA0
 rw [Tryz.params10] at hA hval
 obtain ⟨v0, v1, d0, d1, p0, p1, rfl, rfl, rfl, h0, h1⟩ := trodAll_two hA
 obtain ⟨rfl, rfl⟩ := trodVars_none hV
 obtain ⟨a0, x0, rfl, wa0, sz0⟩ := open_drv (hval 0 28 v0 rfl rfl) h0 (weights_at hsz (j := 0) (t := 28) (by rw [Tryz.params10]; rfl) rfl)
 obtain ⟨a1, wa1⟩ := open_hmap (hval 1 55 v1 rfl rfl) h1
 clear hA0 hval0
 have hc := drvNames_con a0 x0 a1 v1 W wa0 sz0 wa1 (by simp) (by simp)
 refine hc.mono fun e W' h => ?_
 obtain ⟨v, S', rfl, rfl, hS⟩ := h
 exact ⟨_, rfl, post_law hW' rfl rfl laid_drvNames (by decide +kernel) rfl U4 (below_of_sig hS)⟩
theorem drvNames_holds : Rows.DrvNamesSaid :=
 OpenClaim.holds_of_wide 10 Tryz.f10 rfl rfl rfl rfl rfl rfl rfl ⟨rfl, rfl, rfl, rfl, rfl⟩ rfl rfl rfl rfl rfl (by kernel_rfl) Tryz.func10 (by kernel_rfl)
  (of_decide_eq_true (by kernel_rfl)) (by unfold Func.isWrapper; first | (rw [if_pos (by decide +kernel)]; kernel_rfl) | (rw [if_neg (by decide +kernel)]; exact ⟨rfl, rfl⟩))
  (fun os started H enc _ => drvNames_lifted os started H enc)
end Go.Proofs.YtfeabbeebkkhaaaGreat
