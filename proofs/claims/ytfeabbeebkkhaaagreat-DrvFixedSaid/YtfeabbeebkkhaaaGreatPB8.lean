/- Part 8. -/
import Derived.Test.YtfeabbeebkkhaaaGreatPB2
import Derived.Test.YtfeabbeebkkhaaaGreatPB3
import Derived.Test.YtfeabbeebkkhaaaGreatPB7
import Derived.Test.YtfeabbeebkkhaaaGreatPB5
import Derived.Lib.SmallJoins
import Derived.SizedLaws
import Derived.OpenShut
import Derived.SliceStrings
import Derived.Test.YtfeabbeebkkhaaaGreatRows
import Derived.ProofKit
import Derived.Carry
/-! Dv32 -/
namespace Go.Proofs.YtfeabbeebkkhaaaGreat
open Go Go.Sx
set_option maxRecDepth 100000
set_option maxHeartbeats 4000000
set_option linter.unusedVariables false
set_option linter.unusedSimpArgs false
attribute [local irreducible] J JQ QS Con W opW
open Go.MapKept Go.WideMaps Go.Maps
theorem pk49 : KeyE Tryz.prog 49 strEnc strOk := str_key Tryz.underlying49
theorem pk9 : KeyE Tryz.prog 9 strEnc strOk := str_key Tryz.underlying9
theorem zv51 : (Tryz.prog.info? 51).bind (·.zero) = some (.agg (ints (List.replicate 32 0)).toArray) := by kernel_rfl
theorem zv4 : (Tryz.prog.info? 4).bind (·.zero) = some (.bool false) := by kernel_rfl
def mMI (M : HM) (m : MI) : MI := ⟨mIv M m.drv, m.outs, m.v⟩
theorem mMI_pi (M : HM) (l : List MI) : (l.map (mMI M)).map MI.pi = (l.map MI.pi).map (mI M) := by
  rw [List.map_map, List.map_map]
  rfl
theorem mine_one {mi : List MI} {F : SH} (h : Mine mi F) {m : MI} (hm : m ∈ mi) : ∀ u ∈ encI m, oneV u = true := fun u hu => by
  obtain ⟨c, h1, _⟩ := h m hm
  simp only [encI, List.mem_cons, List.not_mem_nil, or_false] at hu
  rcases hu with rfl | rfl
  · rfl
  · exact own_one h1
theorem mine_mMI {M : HM} {mi : List MI} {F : SH} (h : Mine mi F) : Mine (mi.map (mMI M)) F := fun m hm => by
  obtain ⟨y, hy, rfl⟩ := List.mem_map.1 hm
  exact h y hy
def hget (M : HM) (k : Bs) : Hsh := (hlook M k).getD zHash
theorem look_val (M : HM) (k : Bs) : ((hlook M k).map fun h => Value.agg (ints h.1).toArray).getD (.agg (ints (List.replicate 32 0)).toArray) = .agg (ints (hget M k).1).toArray := by
  unfold hget
  cases hlook M k <;> rfl
theorem mIv_some {M : HM} {k : Bs} (h : (hlook M k).isSome = true) : mIv M k = hex (hget M k).1 := by
  unfold mIv hget
  cases hx : hlook M k with
  | none => rw [hx] at h; cases h
  | some y => rfl
theorem allIn_no {M : HM} {l : List MI} {i : Nat} (hi : i < l.length) (h : (hlook M (l.getD i m0).drv).isSome = false) : allIn M (l.map MI.pi) = false := by
  unfold allIn
  rw [List.all_eq_false]
  refine ⟨(l.getD i m0).pi, List.mem_map_of_mem (getD_mem hi), ?_⟩
  show ¬ (hlook M (l.getD i m0).drv).isSome = true
  rw [h]
  decide
theorem allIn_yes {M : HM} {l : List MI} (h : ∀ j < l.length, (hlook M (l.getD j m0).drv).isSome = true) : allIn M (l.map MI.pi) = true := by
  unfold allIn
  rw [List.all_eq_true]
  intro x hx
  obtain ⟨y, hy, rfl⟩ := List.mem_map.1 hx
  obtain ⟨j, hj, rfl⟩ := List.getElem_of_mem hy
  have := h j hj
  rw [List.getD_eq_getElem?_getD, List.getElem?_eq_getElem hj] at this
  exact this
def NM (m : List (Bs × Value)) (l : List PO) : Prop := ∀ n, mlook m n = if isOutN l n then some (.bool true) else none
theorem nm_nil : NM [] [] := fun n => rfl
theorem nm_step {m : List (Bs × Value)} {l : List PO} {i : Nat} (h : NM m (l.take i)) (hi : i < l.length) : NM (mset m (l.getD i o0).name (.bool true)) (l.take (i + 1)) := fun n => by
  rw [mlook_mset, h n]
  have e : isOutN (l.take (i + 1)) n = (isOutN (l.take i) n || decide ((l.getD i o0).name = n)) := by
    unfold isOutN
    rw [List.take_succ_eq_append_getElem hi, List.any_append, List.getD_eq_getElem?_getD, List.getElem?_eq_getElem hi]
    simp
  rw [e]
  by_cases hn : n = (l.getD i o0).name
  · rw [if_pos hn, if_pos (by rw [hn]; simp)]
  · rw [if_neg hn]
    have : decide ((l.getD i o0).name = n) = false := by simpa using fun h => hn h.symm
    rw [this, Bool.or_false]
theorem nm_get {m : List (Bs × Value)} {l : List PO} (h : NM m l) (n : Bs) : (mlook m n).getD (.bool false) = .bool (isOutN l n) := by
  rw [h n]
  cases isOutN l n <;> rfl
section
variable {M : HM} {d : PD}
theorem modE_1 (h : chk d ≠ 0) : modE M d = chk d ∧ (modH M d).1 = List.replicate 32 0 := by
  have h1 : modE M d = chk d := by unfold modE orE; rw [if_neg h]
  refine ⟨h1, ?_⟩
  unfold modH
  rw [if_neg (by rw [h1]; exact h)]
theorem modE_2 (h : chk d = 0) (hf : isFix d = true) : modE M d = 0 ∧ (modH M d).1 = sum (fixT d) := by
  have h1 : modE M d = 0 := by unfold modE orE; rw [if_pos h, if_pos hf]
  refine ⟨h1, ?_⟩
  unfold modH
  rw [if_pos h1, if_pos hf]
  rfl
theorem modE_3 (h : chk d = 0) (hf : isFix d = false) (ha : allIn M d.ins = false) : modE M d = 11 ∧ (modH M d).1 = List.replicate 32 0 := by
  have h1 : modE M d = 11 := by unfold modE orE; rw [if_pos h, if_neg (by rw [hf]; decide), if_neg (by rw [ha]; decide)]
  refine ⟨h1, ?_⟩
  unfold modH
  rw [if_neg (by rw [h1]; decide)]
theorem modE_4 (h : chk d = 0) (hf : isFix d = false) (ha : allIn M d.ins = true) : modE M d = 0 ∧ (modH M d).1 = sum (dtext (masked M d)) := by
  have h1 : modE M d = 0 := by unfold modE orE; rw [if_pos h, if_neg (by rw [hf]; decide), if_pos ha]
  refine ⟨h1, ?_⟩
  unfold modH
  rw [if_pos h1, if_neg (by rw [hf]; decide)]
  rfl
end
theorem mod_val {M : HM} {d : PD} {l : Bs} {e : Int} (h : modE M d = e ∧ (modH M d).1 = l) : (Value.tuple #[.agg (ints l).toArray, .int .i64 e]) = .tuple #[.agg (ints (modH M d).1).toArray, .int .i64 (modE M d)] := by rw [h.1, h.2]
theorem own_at {e : TypeId} {sz : Nat} {xs : List Value} {A : Option Addr} {n cap : Nat} {c : SH} (h : Sx.Own e sz xs (.slice A n cap) c) (h0 : 0 < xs.length) : ∃ g, A = some ⟨g, 0, none⟩ := by
  rcases h with ⟨_, rfl, _⟩ | ⟨g, n', cap', rest, fz, e1, _⟩
  · simp at h0
  · injection e1 with e1
    exact ⟨g, e1⟩
theorem fl_pos {α : Type} {enc : α → List Value} {n : Nat} (hl : ∀ a, (enc a).length = n) (h0 : 0 < n) {l : List α} (h : 0 < l.length) : 0 < ((l.map enc).flatten).length := by
  rw [flat_len hl]
  exact Nat.mul_pos h h0
attribute [local irreducible] es qt cms hex sum Tbl Half lst isName isPath isDrvP leB chkO chkOuts chkN chkI chkIns firstE spA spB spE chkS chkV dtext chk chk0 tTs modE modH fixT isFix hget mIv
theorem modulo_con (d : PD) (x : DV) (M : HM) (v : Value) (w : World) (h : DR w d x) (hm : HMR w v M) (hb : big2 d ≤ 200000) (hou : ∀ y ∈ d.ins, ∀ o ∈ y.outs, o.length ≤ 9223372036854775807) (htb : chk d = 0 → TB (masked M d)) : Con Tryz.prog 22 [dval d x, v] w [] fun u _ => u = .tuple #[.agg (ints (modH M d).1).toArray, .int .i64 (modE M d)] := by
  refine con_of_tree mix Tryz.func22 T22_ok (by kernel_rfl) ?_
  unfold T22
  have few := few_of hb
  have few1 := few.nm
  have few4 := few.la
  have few5 := few.le
  have few6 := few.li
  have few7 := few.lo
  have few8 := few.ls
  obtain ⟨Ao, capo, go, offo, hvo, hcapo, hAo⟩ := rsln_form h.o
  refine j_box (l := dcells d x) rfl (fun g0 hg0 hs0 => ?_)
  refine j_alloc zero51 (fun g1 hg1 hs1 => ?_)
  refine j_q (qs_ac) ?_
  refine j_q (qs_loadw 1 Tryz.underlying28 rfl sz28 rfl rfl (by first | (rw [ints_length]; exact sum_length _) | (rw [ints_length]; exact (hget M _).2) | rfl)) ?_
  refine j_q (qs_call ent15 rfl rfl rfl (fun w' hw' => dcheck_con d x w' (h.keep hw') hb hou)) ?_
  refine j_q (qs_neq rfl rfl) ?_
  refine j_cond rfl (fun hc0 => ?_) (fun hc0 => ?_)
  · skip
    have hck : chk d ≠ 0 := by simpa using hc0
    refine j_q (qs_run (v := .agg (ints (List.replicate 32 0)).toArray) (fun w => by kernel_rfl)) ?_
    refine j_storew 0 sz51 rfl rfl (by first | (rw [ints_length]; exact sum_length _) | (rw [ints_length]; exact (hget M _).2) | rfl) ints_one rfl (by first | (rw [ints_length]; exact sum_length _) | (rw [ints_length]; exact (hget M _).2) | rfl) ?_
    refine j_ret_con (vs := [_, _]) (fun w' hw' => ⟨rv_agg 0 Tryz.underlying51 rfl sz51 rfl rfl (by first | (rw [ints_length]; exact sum_length _) | (rw [ints_length]; exact (hget M _).2) | rfl) hw', rfl, trivial⟩) ?_
    exact mod_val (modE_1 hck)
  · skip
    have hck : chk d = 0 := by simpa using hc0
    have h16 := outs16 (chk0_parts (chk_zero hck)).2.2.1
    obtain ⟨rfl, hgo, hcells⟩ := hAo (by omega)
    refine j_q (qs_field Tryz.underlying28 rfl sz26 (by decide) rfl) ?_
    refine j_q (qs_load (l := dcells d x) (v := .slice (some ⟨go, offo, none⟩) d.outs.length capo) 1 Tryz.underlying26 rfl rfl rfl (congrArg some hvo)) ?_
    refine j_q (qs_ixn (g := go) (off := offo) (i := 0) Tryz.underlying26 sz53 rfl rfl (by omega)) ?_
    refine j_q (qs_loadrecw (encA := encO) (rs := d.outs) (d := o0) (i := 0) encO_len (rd_cells hcells (by simp)) (by omega) Tryz.underlying53 rfl sz53 rfl) ?_
    refine j_alloc zero53 (fun g12 hg12 hs12 => ?_)
    refine j_storew (vs := encO (d.outs.getD 0 o0)) 0 sz53 rfl rfl (encO_len _) (encO_one _) rfl rfl ?_
    refine j_q (qs_field Tryz.underlying53 rfl sz4 (by decide) rfl) ?_
    refine j_q (qs_load (l := encO (d.outs.getD 0 o0)) (v := .bool (isFix d)) 0 Tryz.underlying4 rfl rfl rfl (by unfold isFix; rfl)) ?_
    refine j_cond rfl (fun hc1 => ?_) (fun hc1 => ?_)
    · skip
      refine j_mix _ (.refl _) ?_
      refine j_mq (qs_field Tryz.underlying53 rfl sz51 (by decide) rfl) ?_
      refine j_mq (qs_loada (i := 3) (n := 32) (l := encO (d.outs.getD 0 o0)) 0 Tryz.underlying51 rfl sz51 rfl rfl (by rw [encO_len]; omega)) ?_
      rw [show ((encO (d.outs.getD 0 o0)).drop 3).take 32 = ints (d.outs.getD 0 o0).hash.1 by show (ints _).take 32 = _; rw [List.take_of_length_le (by rw [ints_length, (d.outs.getD 0 o0).hash.2]; omega)]]
      refine j_mq (qs_field Tryz.underlying28 rfl sz9 (by decide) rfl) ?_
      refine j_mq (qs_load (l := dcells d x) (v := .string (bs d.name)) 2 Tryz.underlying9 rfl rfl rfl rfl) ?_
      refine j_q (qs_call ent54 rfl rfl rfl (fun w' hw' => hex_con (d.outs.getD 0 o0).hash.1 w' (d.outs.getD 0 o0).hash.2)) ?_
      refine j_mD0 (Le.of_sub (by repeat first | exact slR _ | exact slN _ | apply slC | apply slD)) ?_
      refine j_mq (qs_sadd (l := sFix) (l' := hex (d.outs.getD 0 o0).hash.1) rfl rfl (by simp only [sFix, List.length_cons, List.length_nil, hexL]; omega)) ?_
      refine j_mq (qs_sadd (l' := [58]) rfl rfl (by simp only [sFix, List.length_append, List.length_cons, List.length_nil, hexL]; omega)) ?_
      refine j_mq (qs_sadd (l' := d.name) rfl rfl (by simp only [sFix, List.length_append, List.length_cons, List.length_nil, hexL]; omega)) ?_
      have efix : sFix ++ hex (d.outs.getD 0 o0).hash.1 ++ [58] ++ d.name = fixT d := by unfold fixT; rfl
      rw [efix]
      have hfl : (fixT d).length = 75 + d.name.length := by rw [← efix]; simp only [sFix, List.length_append, List.length_cons, List.length_nil, hexL]
      refine j_bytes Tryz.underlying9 Tryz.underlying46 Tryz.underlying5 rfl (fun v24 c24 ho24 hv24 => ?_)
      obtain ⟨g24, cap24, rfl⟩ := hv24
      obtain ⟨row, fz, hrow, hl1, hl2, hl3, hl4⟩ := own_row ho24
      refine j_mR _ (.refl _) ?_
      refine j_q (qs_call ent53 rfl rfl rfl (fun w' hw' => sum_con (fixT d) _ _ w' (by rw [hfl]; omega) hl3 (rd_w (own_rd ho24 0 rfl) hw'))) ?_
      refine j_mR _ (.refl _) ?_
      refine j_storew 2 sz51 rfl rfl (by first | (rw [ints_length]; exact sum_length _) | (rw [ints_length]; exact (hget M _).2) | rfl) ints_one rfl (by first | (rw [ints_length]; exact sum_length _) | (rw [ints_length]; exact (hget M _).2) | rfl) ?_
      refine j_mR _ (.refl _) ?_
      refine j_mq (qs_ac) ?_
      refine j_mend ?_
      refine j_ret_con (vs := [_, _]) (fun w' hw' => ⟨rv_agg 2 Tryz.underlying51 rfl sz51 rfl rfl (by first | (rw [ints_length]; exact sum_length _) | (rw [ints_length]; exact (hget M _).2) | rfl) hw', rfl, trivial⟩) ?_
      exact mod_val (modE_2 hck hc1)
    · skip
      refine j_q (qs_loadw (l := dcells d x) 2 Tryz.underlying28 rfl sz28 rfl rfl rfl) ?_
      refine j_call0 ent50 rfl rfl rfl (fun w' hw' => own_con d x w' (h.keep hw') hb) (fun u S2 hu => ?_)
      obtain ⟨x2, cO, cI, FI, cS, cA, cV, rfl, rfl, ho⟩ := hu
      refine j_storew (l := dcells d x) (vs := dcells d x2) 8 sz28 rfl rfl rfl ho.one rfl rfl ?_
      have hml2 : x2.mi.length ≤ 200000 := by
        have := congrArg List.length ho.im
        rw [List.length_map] at this
        omega
      have hoi0 := ho.i
      have hoo0 := ho.o
      have hov0 := ho.e
      obtain ⟨nI, AI, capI, hvi, hnI⟩ := own_form ho.i (by decide)
      have hlI : nI = x2.mi.length := by
        rw [flat_len encI_len] at hnI
        omega
      rw [hlI] at hvi
      clear hnI
      subst hlI
      obtain ⟨nO, AO, capO, hvo2, hnO⟩ := own_form ho.o (by decide)
      have hlO : nO = d.outs.length := by
        rw [flat_len encO_len] at hnO
        omega
      rw [hlO] at hvo2
      clear hnO
      subst hlO
      obtain ⟨nV, AV, capV, hve2, hnV⟩ := own_form ho.e (by decide)
      have hlV : nV = d.env.length := by
        rw [flat_len encV_len] at hnV
        omega
      rw [hlV] at hve2
      clear hnV
      subst hlV
      rw [hvi] at hoi0
      rw [hvo2] at hoo0
      rw [hve2] at hov0
      refine j_q (qs_field Tryz.underlying28 rfl sz24 (by decide) rfl) ?_
      refine j_q (qs_load (l := dcells d x2) (v := .slice AI x2.mi.length capI) 8 Tryz.underlying24 rfl rfl rfl (congrArg some hvi)) ?_
      refine j_q (qs_lenl Tryz.underlying24 rfl) ?_
      refine j_q (qs_mc) ?_
      refine j_loop (fun m vs S' => ∃ (i : Nat) (ci : SH), vs = [.int .i64 (i : Int)] ∧ S' = [ci, FI, cO, cS, cV, cA, [(g12, .cells (encO (d.outs.getD 0 o0)).toArray 53 (0, 0))], [(g1, .cells (ints (List.replicate 32 0)).toArray 51 (0, 0))], [(g0, .cells (dcells d x2).toArray 28 (0, 0))], []] ∧ Sx.Own 68 2 (((upd (mMI M) x2.mi i).map encI).flatten) (.slice AI x2.mi.length capI) ci ∧ (∀ j < i, (hlook M (x2.mi.getD j m0).drv).isSome = true) ∧ i ≤ x2.mi.length ∧ m = x2.mi.length - i) ⟨_, 0, cI, rfl, rfl, (by rw [upd_zero]; exact hoi0), (fun j hj => absurd hj (Nat.not_lt_zero _)), Nat.zero_le _, rfl⟩ ?_
      rintro m vs S' hlen ⟨i, ci, rfl, rfl, hoi, hz, hin, rfl⟩
      refine j_q (qs_lss rfl rfl) ?_
      refine j_cond rfl (fun hc2 => ?_) (fun hc2 => ?_)
      · skip
        have hi : i < x2.mi.length := by
          simp only [bnA] at *
          omega
        obtain ⟨gI, rfl⟩ := own_at hoi (fl_pos encI_len (by decide) (by rw [upd_len]; omega))
        have hip : (x2.mi.getD i m0).drv.length ≤ 200000 := by
          have := few.ip (x2.mi.getD i m0).pi (by rw [ho.im]; exact List.mem_map_of_mem (getD_mem hi))
          simp only [MI.pi] at this
          omega
        refine j_q (qs_ixn (g := gI) (off := 0) (i := i) Tryz.underlying24 sz68 rfl rfl (by omega)) ?_
        refine j_q (qs_loadrecw (encA := encI) (rs := upd (mMI M) x2.mi i) (d := m0) (i := i) encI_len (own_rd hoi 0 rfl) (by rw [upd_len]; exact hi) Tryz.underlying68 rfl sz68 rfl) ?_
        rw [upd_get _ m0 hi]
        refine j_alloc zero68 (fun g38 hg38 hs38 => ?_)
        refine j_storew (vs := encI (x2.mi.getD i m0)) 0 sz68 rfl rfl (encI_len _) (mine_one ho.io (getD_mem (d := m0) hi)) rfl rfl ?_
        refine j_q (qs_field Tryz.underlying68 rfl sz49 (by decide) rfl) ?_
        refine j_q (qs_load 0 Tryz.underlying49 rfl rfl rfl rfl) ?_
        refine j_q (qs_lookup2M pk49 (mapr_rd hm) Tryz.underlying55 zv51 (key := (x2.mi.getD i m0).drv) rfl rfl (by unfold strOk; omega)) ?_
        rw [hlook_m, look_val, Option.isSome_map]
        refine j_q (qs_ext rfl rfl) ?_
        refine j_q (qs_ext rfl rfl) ?_
        refine j_alloc zero51 (fun g45 hg45 hs45 => ?_)
        refine j_storew (l := ints (List.replicate 32 0)) (vs := ints (hget M (x2.mi.getD i m0).drv).1) 0 sz51 rfl rfl (by rw [ints_length]; exact (hget M _).2) ints_one rfl rfl ?_
        refine j_q (qs_not rfl) ?_
        refine j_cond rfl (fun hc3 => ?_) (fun hc3 => ?_)
        · skip
          have hno : (hlook M (x2.mi.getD i m0).drv).isSome = false := by simpa using hc3
          refine j_q (qs_run (v := .agg (ints (List.replicate 32 0)).toArray) (fun w => by kernel_rfl)) ?_
          refine j_storew (g := g1) (l := ints (List.replicate 32 0)) (vs := ints (List.replicate 32 0)) 9 sz51 rfl rfl rfl ints_one rfl rfl ?_
          refine j_q (qs_ac) ?_
          -- no @RET
          refine j_ret_con (vs := [_, _]) (fun w' hw' => ⟨rv_agg (g := g1) (l := ints (List.replicate 32 0)) 9 Tryz.underlying51 rfl sz51 rfl rfl rfl hw', rfl, trivial⟩) ?_
          exact mod_val (modE_3 hck hc1 (by rw [ho.im]; exact allIn_no hi hno))
        · skip
          have hc3' : (hlook M (x2.mi.getD i m0).drv).isSome = true := by simpa using hc3
          refine j_mix _ (.refl _) ?_
          refine j_mq (qs_field Tryz.underlying28 rfl sz24 (by decide) rfl) ?_
          refine j_mq (qs_load (l := dcells d x2) (v := .slice (some ⟨gI, 0, none⟩) x2.mi.length capI) 10 Tryz.underlying24 rfl rfl rfl (congrArg some hvi)) ?_
          refine j_mq (qs_loadw (l := ints (hget M (x2.mi.getD i m0).drv).1) 0 Tryz.underlying51 rfl sz51 rfl rfl (by rw [ints_length]; exact (hget M _).2)) ?_
          refine j_q (qs_call ent54 rfl rfl rfl (fun w' hw' => hex_con (hget M (x2.mi.getD i m0).drv).1 w' (hget M _).2)) ?_
          refine j_mD0 (Le.of_sub (by repeat first | exact slR _ | exact slN _ | apply slC | apply slD)) ?_
          refine j_mq (qs_ixn (g := gI) (off := 0) (i := i) Tryz.underlying24 sz68 rfl rfl (by omega)) ?_
          refine j_mq (qs_field Tryz.underlying68 rfl sz49 (by decide) rfl) ?_
          refine j_storerec (g := gI) (i := i) (fo := 0) (rs := upd (mMI M) x2.mi i) (d := m0) (mMI M (x2.mi.getD i m0)) 2 encI_len hoi rfl (by rw [upd_len]; exact hi) sz49 rfl rfl rfl (by decide) (by rw [upd_get _ m0 hi]; show [Value.string (bs (mIv M (x2.mi.getD i m0).drv)), _] = _; rw [mIv_some hc3']; rfl) (fun ci2 hoi2 => ?_)
          rw [upd_set _ m0 hi] at hoi2
          refine j_subl (S' := [ci2, FI, cO, cS, cV, cA, [(g12, .cells (encO (d.outs.getD 0 o0)).toArray 53 (0, 0))], [(g1, .cells (ints (List.replicate 32 0)).toArray 51 (0, 0))], [(g0, .cells (dcells d x2).toArray 28 (0, 0))], []]) (by repeat first | exact slR _ | exact slN _ | apply slC | apply slD) ?_
          refine j_mR _ (.refl _) ?_
          refine j_mend ?_
          refine j_q (qs_add64 rfl rfl (by omega)) ?_
          refine j_back rfl ?_
          exact ⟨x2.mi.length - (i + 1), by omega, i + 1, ci2, rfl, rfl, hoi2, fun j hj => by rcases Nat.lt_or_ge j i with h | h; exact hz j h; rw [show j = i by omega]; exact hc3', by omega, rfl⟩
      · skip
        obtain rfl : i = x2.mi.length := by
          simp only [bnA] at *
          omega
        rw [upd_all] at hoi
        have hall : allIn M d.ins = true := by
          rw [ho.im]
          exact allIn_yes hz
        refine j_mkmap (fun g59 hg59 => ?_)
        refine j_q (qs_field Tryz.underlying28 rfl sz26 (by decide) rfl) ?_
        refine j_q (qs_load (l := dcells d x2) (v := .slice AO d.outs.length capO) 9 Tryz.underlying26 rfl rfl rfl (congrArg some hvo2)) ?_
        refine j_q (qs_lenl Tryz.underlying26 rfl) ?_
        refine j_q (qs_mc) ?_
        refine j_loop (fun m vs S' => ∃ (i : Nat) (co : SH) (es : Array MapEntry) (clock : Nat) (mm : List (Bs × Value)), vs = [.int .i64 (i : Int)] ∧ S' = [[(g59, .map es clock)], ci, FI, co, cS, cV, cA, [(g12, .cells (encO (d.outs.getD 0 o0)).toArray 53 (0, 0))], [(g1, .cells (ints (List.replicate 32 0)).toArray 51 (0, 0))], [(g0, .cells (dcells d x2).toArray 28 (0, 0))], []] ∧ Sx.Own 53 35 (((upd mO d.outs i).map encO).flatten) (.slice AO d.outs.length capO) co ∧ MapOk strEnc strOk es clock mm ∧ NM mm (d.outs.take i) ∧ i ≤ d.outs.length ∧ m = d.outs.length - i) ⟨_, 0, cO, #[], 0, [], rfl, rfl, (by rw [upd_zero]; exact hoo0), mapOk_nil, nm_nil, Nat.zero_le _, rfl⟩ ?_
        rintro m vs S' hlen ⟨i, co, es, clock, mm, rfl, rfl, hoo, hmap, hnm, hin, rfl⟩
        refine j_q (qs_lss rfl rfl) ?_
        refine j_cond rfl (fun hc4 => ?_) (fun hc4 => ?_)
        · skip
          have hi : i < d.outs.length := by
            simp only [bnA] at *
            omega
          obtain ⟨gO, rfl⟩ := own_at hoo (fl_pos encO_len (by decide) (by rw [upd_len]; omega))
          have hol := few.ou _ (getD_mem (d := o0) hi)
          refine j_q (qs_ixn (g := gO) (off := 0) (i := i) Tryz.underlying26 sz53 rfl rfl (by omega)) ?_
          refine j_q (qs_loadrecw (encA := encO) (rs := upd mO d.outs i) (d := o0) (i := i) encO_len (own_rd hoo 3 rfl) (by rw [upd_len]; exact hi) Tryz.underlying53 rfl sz53 rfl) ?_
          rw [upd_get _ o0 hi]
          refine j_alloc zero53 (fun g67 hg67 hs67 => ?_)
          refine j_storew (vs := encO (d.outs.getD i o0)) 0 sz53 rfl rfl (encO_len _) (encO_one _) rfl rfl ?_
          refine j_q (qs_field Tryz.underlying53 rfl sz9 (by decide) rfl) ?_
          refine j_q (qs_load (l := encO (d.outs.getD i o0)) (v := .string (bs (d.outs.getD i o0).name)) 0 Tryz.underlying9 rfl rfl rfl rfl) ?_
          refine j_mapset pk9 1 Tryz.underlying104 rfl (key := (d.outs.getD i o0).name) rfl rfl rfl hmap (by unfold strOk; omega) (fun es2 cl2 hmap2 => ?_)
          refine j_q (qs_field Tryz.underlying28 rfl sz26 (by decide) rfl) ?_
          refine j_q (qs_load (l := dcells d x2) (v := .slice (some ⟨gO, 0, none⟩) d.outs.length capO) 10 Tryz.underlying26 rfl rfl rfl (congrArg some hvo2)) ?_
          refine j_q (qs_ixn (g := gO) (off := 0) (i := i) Tryz.underlying26 sz53 rfl rfl (by omega)) ?_
          refine j_q (qs_field Tryz.underlying53 rfl sz49 (by decide) rfl) ?_
          refine j_storerec (g := gO) (i := i) (fo := 1) (rs := upd mO d.outs i) (d := o0) (mO (d.outs.getD i o0)) 4 encO_len hoo rfl (by rw [upd_len]; exact hi) sz49 rfl rfl rfl (by decide) (by rw [upd_get _ o0 hi]; rfl) (fun co2 hoo2 => ?_)
          rw [upd_set _ o0 hi] at hoo2
          refine j_subl (S' := [[(g59, .map es2 cl2)], ci, FI, co2, cS, cV, cA, [(g12, .cells (encO (d.outs.getD 0 o0)).toArray 53 (0, 0))], [(g1, .cells (ints (List.replicate 32 0)).toArray 51 (0, 0))], [(g0, .cells (dcells d x2).toArray 28 (0, 0))], []]) (by repeat first | exact slR _ | exact slN _ | apply slC | apply slD) ?_
          refine j_q (qs_add64 rfl rfl (by omega)) ?_
          refine j_back rfl ?_
          exact ⟨d.outs.length - (i + 1), by omega, i + 1, co2, es2, cl2, _, rfl, rfl, hoo2, hmap2, nm_step hnm hi, by omega, rfl⟩
        · skip
          obtain rfl : i = d.outs.length := by
            simp only [bnA] at *
            omega
          rw [upd_all] at hoo
          rw [List.take_length] at hnm
          refine j_q (qs_field Tryz.underlying28 rfl sz23 (by decide) rfl) ?_
          refine j_q (qs_load (l := dcells d x2) (v := .slice AV d.env.length capV) 9 Tryz.underlying23 rfl rfl rfl (congrArg some hve2)) ?_
          refine j_q (qs_lenl Tryz.underlying23 rfl) ?_
          refine j_q (qs_mc) ?_
          refine j_loop (fun m vs S' => ∃ (i : Nat) (cv : SH), vs = [.int .i64 (i : Int)] ∧ S' = [[(g59, .map es clock)], ci, FI, co, cS, cv, cA, [(g12, .cells (encO (d.outs.getD 0 o0)).toArray 53 (0, 0))], [(g1, .cells (ints (List.replicate 32 0)).toArray 51 (0, 0))], [(g0, .cells (dcells d x2).toArray 28 (0, 0))], []] ∧ Sx.Own 48 2 (((upd (mV d.outs) d.env i).map encV).flatten) (.slice AV d.env.length capV) cv ∧ i ≤ d.env.length ∧ m = d.env.length - i) ⟨_, 0, cV, rfl, rfl, (by rw [upd_zero]; exact hov0), Nat.zero_le _, rfl⟩ ?_
          rintro m vs S' hlen ⟨i, cv, rfl, rfl, hov, hin, rfl⟩
          refine j_q (qs_lss rfl rfl) ?_
          refine j_cond rfl (fun hc5 => ?_) (fun hc5 => ?_)
          · skip
            have hi : i < d.env.length := by
              simp only [bnA] at *
              omega
            obtain ⟨gV, rfl⟩ := own_at hov (fl_pos encV_len (by decide) (by rw [upd_len]; omega))
            have hel := few.ev _ (getD_mem (d := v0) hi)
            refine j_q (qs_ixn (g := gV) (off := 0) (i := i) Tryz.underlying23 sz48 rfl rfl (by omega)) ?_
            refine j_q (qs_loadrecw (encA := encV) (rs := upd (mV d.outs) d.env i) (d := v0) (i := i) encV_len (own_rd hov 5 rfl) (by rw [upd_len]; exact hi) Tryz.underlying48 rfl sz48 rfl) ?_
            rw [upd_get _ v0 hi]
            refine j_alloc zero48 (fun g85 hg85 hs85 => ?_)
            refine j_storew (vs := encV (d.env.getD i v0)) 0 sz48 rfl rfl (encV_len _) (encV_one _) rfl rfl ?_
            refine j_q (qs_field Tryz.underlying48 rfl sz9 (by decide) rfl) ?_
            refine j_q (qs_load (l := encV (d.env.getD i v0)) (v := .string (bs (d.env.getD i v0).name)) 0 Tryz.underlying9 rfl rfl rfl rfl) ?_
            refine j_q (qs_lookup pk9 1 Tryz.underlying104 zv4 (key := (d.env.getD i v0).name) rfl rfl rfl hmap (by unfold strOk; omega)) ?_
            rw [nm_get hnm]
            refine j_cond rfl (fun hc6 => ?_) (fun hc6 => ?_)
            · skip
              refine j_q (qs_field Tryz.underlying28 rfl sz23 (by decide) rfl) ?_
              refine j_q (qs_load (l := dcells d x2) (v := .slice (some ⟨gV, 0, none⟩) d.env.length capV) 10 Tryz.underlying23 rfl rfl rfl (congrArg some hve2)) ?_
              refine j_q (qs_ixn (g := gV) (off := 0) (i := i) Tryz.underlying23 sz48 rfl rfl (by omega)) ?_
              refine j_q (qs_field Tryz.underlying48 rfl sz9 (by decide) rfl) ?_
              refine j_storerec (g := gV) (i := i) (fo := 1) (rs := upd (mV d.outs) d.env i) (d := v0) (mV d.outs (d.env.getD i v0)) 6 encV_len hov rfl (by rw [upd_len]; exact hi) sz9 rfl rfl rfl (by decide) (by rw [upd_get _ v0 hi]; show [_, Value.string (bs (if isOutN d.outs (d.env.getD i v0).name = true then [] else _))] = _; rw [if_pos hc6]; rfl) (fun cv2 hov2 => ?_)
              rw [upd_set _ v0 hi] at hov2
              refine j_subl (S' := [[(g59, .map es clock)], ci, FI, co, cS, cv2, cA, [(g12, .cells (encO (d.outs.getD 0 o0)).toArray 53 (0, 0))], [(g1, .cells (ints (List.replicate 32 0)).toArray 51 (0, 0))], [(g0, .cells (dcells d x2).toArray 28 (0, 0))], []]) (by repeat first | exact slR _ | exact slN _ | apply slC | apply slD) ?_
              refine j_q (qs_add64 rfl rfl (by omega)) ?_
              refine j_back rfl ?_
              exact ⟨d.env.length - (i + 1), by omega, i + 1, cv2, rfl, rfl, hov2, by omega, rfl⟩
            · skip
              have hsame : mV d.outs (d.env.getD i v0) = d.env.getD i v0 := by
                unfold mV
                rw [if_neg (by rw [hc6]; decide)]
              rw [← upd_same _ v0 hi hsame] at hov
              refine j_subl (S' := [[(g59, .map es clock)], ci, FI, co, cS, cv, cA, [(g12, .cells (encO (d.outs.getD 0 o0)).toArray 53 (0, 0))], [(g1, .cells (ints (List.replicate 32 0)).toArray 51 (0, 0))], [(g0, .cells (dcells d x2).toArray 28 (0, 0))], []]) (by repeat first | exact slR _ | exact slN _ | apply slC | apply slD) ?_
              refine j_q (qs_add64 rfl rfl (by omega)) ?_
              refine j_back rfl ?_
              exact ⟨d.env.length - (i + 1), by omega, i + 1, cv, rfl, rfl, hov, by omega, rfl⟩
          · skip
            obtain rfl : i = d.env.length := by
              simp only [bnA] at *
              omega
            rw [upd_all] at hov
            refine j_q (qs_loadw (l := dcells d x2) 9 Tryz.underlying28 rfl sz28 rfl rfl rfl) ?_
            have hoM : DOwnE (masked M d) (⟨x2.va, x2.ve, x2.vi, x2.vs, x2.vo, x2.mi.map (mMI M)⟩ : DV) co ci FI cS cA cv := by
              refine ⟨?_, ?_, mine_mMI ho.io, ?_, ho.s, ho.a, ?_⟩
              · rw [hvo2]; exact hoo
              · rw [hvi]; exact hoi
              · show d.ins.map (mI M) = _
                rw [mMI_pi, ← ho.im]
              · rw [hve2]; exact hov
            refine j_q (qs_call ent36 rfl rfl rfl (fun w' hw' => dtext_con (masked M d) (⟨x2.va, x2.ve, x2.vi, x2.vs, x2.vo, x2.mi.map (mMI M)⟩ : DV) w' (DOwnE.dr hoM (fun p hp => hw'.own p (by simp only [List.mem_append] at hp; rcases hp with ((((h | h) | h) | h) | h) | h <;> simp [h]))) (htb hck))) ?_
            have hdl := dtext_le (htb hck)
            refine j_bytes Tryz.underlying9 Tryz.underlying46 Tryz.underlying5 rfl (fun v99 c99 ho99 hv99 => ?_)
            obtain ⟨g99, cap99, rfl⟩ := hv99
            obtain ⟨row, fz, hrow, hl1, hl2, hl3, hl4⟩ := own_row ho99
            refine j_q (qs_call ent53 rfl rfl rfl (fun w' hw' => sum_con (dtext (masked M d)) _ _ w' (by omega) hl3 (rd_w (own_rd ho99 0 rfl) hw'))) ?_
            refine j_storew (g := g1) (l := ints (List.replicate 32 0)) (vs := ints (sum (dtext (masked M d)))) 9 sz51 rfl rfl (by rw [ints_length]; exact sum_length _) ints_one rfl rfl ?_
            refine j_q (qs_ac) ?_
            -- no @RET
            refine j_ret_con (vs := [_, _]) (fun w' hw' => ⟨rv_agg (g := g1) (l := ints (sum (dtext (masked M d)))) 9 Tryz.underlying51 rfl sz51 rfl rfl (by rw [ints_length]; exact sum_length _) hw', rfl, trivial⟩) ?_
            exact mod_val (modE_4 hck hc1 hall)
end Go.Proofs.YtfeabbeebkkhaaaGreat
/-! Dv33 -/
namespace Go.Proofs.YtfeabbeebkkhaaaGreat
open Go Go.Sx
set_option maxRecDepth 100000
set_option maxHeartbeats 4000000
set_option linter.unusedVariables false
set_option linter.unusedSimpArgs false
attribute [local irreducible] J JQ QS Con W opW
open Go.MapKept Go.WideMaps Go.Maps
abbrev dvZ : DV := ⟨.slice none 0 0, .slice none 0 0, .slice none 0 0, .slice none 0 0, .slice none 0 0, []⟩
theorem zero28z : zeroL Tryz.prog 28 = some (dcells pdZ dvZ) := by kernel_rfl
theorem dZ_one : ∀ u ∈ dcells pdZ dvZ, oneV u = true := by
  intro u hu
  simp only [dcells, List.mem_cons, List.not_mem_nil, or_false] at hu
  rcases hu with rfl | rfl | rfl | rfl | rfl | rfl | rfl | rfl <;> rfl
theorem dZ_own : DOwnE pdZ dvZ [] [] [] [] [] [] := ⟨own_nil, own_nil, mine_nil, rfl, own_nil, own_nil, own_nil⟩
theorem zv49 : (Tryz.prog.info? 49).bind (·.zero) = some (.string (bs [])) := by kernel_rfl
def PM (m : List (Bs × Value)) (l : List PO) : Prop := ∀ n, mlook m n = (l.reverse.find? (fun o => decide (o.name = n))).map fun o => Value.string (bs o.path)
theorem pm_nil : PM [] [] := fun n => rfl
theorem pm_step {m : List (Bs × Value)} {l : List PO} {f : PO → PO} (hf : ∀ o, (f o).name = o.name) {i : Nat} (h : PM m ((l.take i).map f)) (hi : i < l.length) : PM (mset m (l.getD i o0).name (.string (bs (f (l.getD i o0)).path))) ((l.take (i + 1)).map f) := fun n => by
  rw [mlook_mset, h n, List.take_succ_eq_append_getElem hi, List.map_append, List.reverse_append]
  have e : l[i] = l.getD i o0 := by rw [List.getD_eq_getElem?_getD, List.getElem?_eq_getElem hi]; rfl
  rw [e]
  simp only [List.map_cons, List.map_nil, List.reverse_cons, List.reverse_nil, List.nil_append, List.cons_append, List.find?_cons, hf]
  by_cases hn : n = (l.getD i o0).name
  · rw [if_pos hn, decide_eq_true hn.symm]
    rfl
  · rw [if_neg hn, decide_eq_false (fun h => hn h.symm)]
theorem pm_get {m : List (Bs × Value)} {l : List PO} (h : PM m l) (n z : Bs) : (mlook m n).isSome = (l.reverse.find? (fun o => decide (o.name = n))).isSome ∧ (mlook m n).getD (.string (bs [])) = .string (bs (fVv l n [])) := by
  rw [h n]
  unfold fVv
  cases l.reverse.find? (fun o => decide (o.name = n)) <;> exact ⟨rfl, rfl⟩
theorem fVv_yes {l : List PO} {n z : Bs} (h : (l.reverse.find? (fun o => decide (o.name = n))).isSome = true) : fVv l n z = fVv l n [] := by
  unfold fVv
  cases hx : l.reverse.find? (fun o => decide (o.name = n)) with
  | none => rw [hx] at h; cases h
  | some y => rfl
theorem fVv_no {l : List PO} {n z : Bs} (h : (l.reverse.find? (fun o => decide (o.name = n))).isSome = false) : fVv l n z = z := by
  unfold fVv
  cases hx : l.reverse.find? (fun o => decide (o.name = n)) with
  | none => rfl
  | some y => rw [hx] at h; cases h
section
variable {M : HM} {d : PD}
theorem fill_1 (h : modE M d ≠ 0) : fillE M d = modE M d ∧ fillR M d = pdZ := by
  have h1 : fillE M d = modE M d := by unfold fillE orE; rw [if_neg h]
  refine ⟨h1, ?_⟩
  unfold fillR
  rw [if_neg (by rw [h1]; exact h)]
theorem fill_2 {i : Nat} {e : Int} (h : modE M d = 0) (hz : ∀ j < i, oE d.name (d.outs.getD j o0) = 0) (hi : i < d.outs.length) (he : oE d.name (d.outs.getD i o0) = e) (hne : e ≠ 0) : fillE M d = e ∧ fillR M d = pdZ := by
  have h1 : fillE M d = e := by
    unfold fillE orE outsE
    rw [if_pos h, firstE_at hz hi (by rw [he]; exact hne), he]
  refine ⟨h1, ?_⟩
  unfold fillR
  rw [if_neg (by rw [h1]; exact hne)]
theorem fill_3 (h : modE M d = 0) (hz : ∀ j < d.outs.length, oE d.name (d.outs.getD j o0) = 0) : fillE M d = 0 ∧ fillR M d = fillD M d := by
  have h1 : fillE M d = 0 := by
    unfold fillE orE outsE
    rw [if_pos h, firstE_zero hz]
  refine ⟨h1, ?_⟩
  unfold fillR
  rw [if_pos h1]
end
theorem oE_fix {nm : Bs} {o : PO} (h : o.fixed = true) : oE nm o = mkE nm := by unfold oE; rw [if_pos h]
theorem oE_out {nm : Bs} {o : PO} (h : o.fixed = false) : oE nm o = outE o.name nm := by unfold oE; rw [if_neg (by rw [h]; decide)]
theorem oP_fix {h0 : Hsh} {nm : Bs} {o : PO} (h : o.fixed = true) : oP h0 nm o = mkP kFixed o.hash.1 nm := by unfold oP; rw [if_pos h]
theorem oP_out {h0 : Hsh} {nm : Bs} {o : PO} (h : o.fixed = false) : oP h0 nm o = outP h0.1 o.name nm := by unfold oP; rw [if_neg (by rw [h]; decide)]
def FillPost (r : PD) (e : Int) (u : Value) (S' : List SH) : Prop := ∃ (x' : DV) (cO cI FI cS cA cV : SH), u = .tuple #[dval r x', .int .i64 e] ∧ S' = [cI, FI, cO, cS, cV, cA] ∧ DOwnE r x' cO cI FI cS cA cV
theorem fill_bad {r : PD} {e e' : Int} (h : e = e' ∧ r = pdZ) : FillPost r e (.tuple #[dval pdZ dvZ, .int .i64 e']) [[], [], [], [], [], []] := by
  obtain ⟨rfl, rfl⟩ := h
  exact ⟨dvZ, [], [], [], [], [], [], rfl, rfl, dZ_own⟩
attribute [local irreducible] es qt cms hex sum Tbl Half lst isName isPath isDrvP leB chkO chkOuts chkN chkI chkIns firstE spA spB spE chkS chkV dtext chk chk0 tTs modE modH fixT isFix hget mIv mkP mkE outP outE oP oE fVv
theorem fill_con (d : PD) (x : DV) (M : HM) (v : Value) (w : World) (h : DR w d x) (hm : HMR w v M) (hb : big2 d ≤ 200000) (hou : ∀ y ∈ d.ins, ∀ o ∈ y.outs, o.length ≤ 9223372036854775807) (htb : chk d = 0 → TB (masked M d)) : Con Tryz.prog 21 [dval d x, v] w [] fun u S' => FillPost (fillR M d) (fillE M d) u S' := by
  refine con_of_tree mix Tryz.func21 T21_ok (by kernel_rfl) ?_
  unfold T21
  have few := few_of hb
  have few1 := few.nm
  have few4 := few.la
  have few5 := few.le
  have few6 := few.li
  have few7 := few.lo
  have few8 := few.ls
  refine j_box (l := dcells d x) rfl (fun g0 hg0 hs0 => ?_)
  refine j_alloc zero28z (fun g1 hg1 hs1 => ?_)
  refine j_q (qs_ac) ?_
  refine j_q (qs_loadw 1 Tryz.underlying28 rfl sz28 rfl rfl (by first | (rw [ints_length]; exact (modH _ _).2) | rfl)) ?_
  refine j_q (qs_call ent22 rfl rfl rfl (fun w' hw' => modulo_con d x M v w' (h.keep hw') (mapr_keep hm hw') hb hou htb)) ?_
  refine j_q (qs_ext (vs := [.agg (ints (modH M d).1).toArray, .int .i64 (modE M d)]) rfl rfl) ?_
  refine j_q (qs_ext (vs := [.agg (ints (modH M d).1).toArray, .int .i64 (modE M d)]) rfl rfl) ?_
  refine j_alloc zero51 (fun g7 hg7 hs7 => ?_)
  refine j_storew 0 sz51 rfl rfl (by first | (rw [ints_length]; exact (modH _ _).2) | rfl) ints_one rfl (by first | (rw [ints_length]; exact (modH _ _).2) | rfl) ?_
  refine j_q (qs_neq rfl rfl) ?_
  refine j_cond rfl (fun hc0 => ?_) (fun hc0 => ?_)
  · skip
    have hme : modE M d ≠ 0 := by simpa using hc0
    refine j_q (qs_run (v := .agg (dcells pdZ dvZ).toArray) (fun w => by kernel_rfl)) ?_
    refine j_storew (g := g1) (l := dcells pdZ dvZ) (vs := dcells pdZ dvZ) 1 sz28 rfl rfl rfl dZ_one rfl rfl ?_
    -- no @RET
    refine j_ret_fl [[], [], [], [], [], []] (by simp) (vs := [_, _]) (fun w' hw' => ⟨rv_agg (g := g1) (l := dcells pdZ dvZ) 1 Tryz.underlying28 rfl sz28 rfl rfl rfl hw', rfl, trivial⟩) ?_
    exact fill_bad (fill_1 hme)
  · skip
    have hme : modE M d = 0 := by simpa using hc0
    refine j_q (qs_loadw (l := dcells d x) 2 Tryz.underlying28 rfl sz28 rfl rfl rfl) ?_
    refine j_call0 ent50 rfl rfl rfl (fun w' hw' => own_con d x w' (h.keep hw') hb) (fun u S2 hu => ?_)
    obtain ⟨x2, cO, cI, FI, cS, cA, cV, rfl, rfl, ho⟩ := hu
    refine j_storew (l := dcells d x) (vs := dcells d x2) 8 sz28 rfl rfl rfl ho.one rfl rfl ?_
    have hoo0 := ho.o
    have hov0 := ho.e
    obtain ⟨nO, AO, capO, hvo2, hnO⟩ := own_form ho.o (by decide)
    have hlO : nO = d.outs.length := by
      rw [flat_len encO_len] at hnO
      omega
    rw [hlO] at hvo2
    clear hnO
    subst hlO
    obtain ⟨nV, AV, capV, hve2, hnV⟩ := own_form ho.e (by decide)
    have hlV : nV = d.env.length := by
      rw [flat_len encV_len] at hnV
      omega
    rw [hlV] at hve2
    clear hnV
    subst hlV
    rw [hvo2] at hoo0
    rw [hve2] at hov0
    refine j_mkmap (fun g15 hg15 => ?_)
    refine j_q (qs_field Tryz.underlying28 rfl sz26 (by decide) rfl) ?_
    refine j_q (qs_load (l := dcells d x2) (v := .slice AO d.outs.length capO) 9 Tryz.underlying26 rfl rfl rfl (congrArg some hvo2)) ?_
    refine j_q (qs_lenl Tryz.underlying26 rfl) ?_
    refine j_q (qs_mc) ?_
    refine j_loop (fun m vs S' => ∃ (i : Nat) (co : SH) (es : Array MapEntry) (clock : Nat) (mm : List (Bs × Value)), vs = [.int .i64 (i : Int)] ∧ S' = [[(g15, .map es clock)], cI, FI, co, cS, cV, cA, [(g7, .cells (ints (modH M d).1).toArray 51 (0, 0))], [(g1, .cells (dcells pdZ dvZ).toArray 28 (0, 0))], [(g0, .cells (dcells d x2).toArray 28 (0, 0))], []] ∧ Sx.Own 53 35 (((upd (fO (modH M d) d.name) d.outs i).map encO).flatten) (.slice AO d.outs.length capO) co ∧ MapOk strEnc strOk es clock mm ∧ PM mm ((d.outs.take i).map (fO (modH M d) d.name)) ∧ (∀ j < i, oE d.name (d.outs.getD j o0) = 0) ∧ i ≤ d.outs.length ∧ m = d.outs.length - i) ⟨_, 0, cO, #[], 0, [], rfl, rfl, (by rw [upd_zero]; exact hoo0), mapOk_nil, pm_nil, (fun j hj => absurd hj (Nat.not_lt_zero _)), Nat.zero_le _, rfl⟩ ?_
    rintro m vs S' hlen ⟨i, co, es, clock, mm, rfl, rfl, hoo, hmap, hpm, hz, hin, rfl⟩
    refine j_q (qs_lss rfl rfl) ?_
    refine j_cond rfl (fun hc1 => ?_) (fun hc1 => ?_)
    · skip
      have hi : i < d.outs.length := by
        simp only [bnA] at *
        omega
      obtain ⟨gO, rfl⟩ := own_at hoo (fl_pos encO_len (by decide) (by rw [upd_len]; omega))
      have hol := few.ou _ (getD_mem (d := o0) hi)
      refine j_q (qs_ixn (g := gO) (off := 0) (i := i) Tryz.underlying26 sz53 rfl rfl (by omega)) ?_
      refine j_q (qs_loadrecw (encA := encO) (rs := upd (fO (modH M d) d.name) d.outs i) (d := o0) (i := i) encO_len (own_rd hoo 3 rfl) (by rw [upd_len]; exact hi) Tryz.underlying53 rfl sz53 rfl) ?_
      rw [upd_get _ o0 hi]
      refine j_alloc zero53 (fun g23 hg23 hs23 => ?_)
      refine j_storew (vs := encO (d.outs.getD i o0)) 0 sz53 rfl rfl (encO_len _) (encO_one _) rfl rfl ?_
      refine j_q (qs_loadw (l := ints (modH M d).1) 8 Tryz.underlying51 rfl sz51 rfl rfl (by first | (rw [ints_length]; exact (modH _ _).2) | rfl)) ?_
      refine j_q (qs_field Tryz.underlying53 rfl sz9 (by decide) rfl) ?_
      refine j_q (qs_load (l := encO (d.outs.getD i o0)) (v := .string (bs (d.outs.getD i o0).name)) 0 Tryz.underlying9 rfl rfl rfl rfl) ?_
      refine j_q (qs_field Tryz.underlying28 rfl sz9 (by decide) rfl) ?_
      refine j_q (qs_load (l := dcells d x2) (v := .string (bs d.name)) 10 Tryz.underlying9 rfl rfl rfl rfl) ?_
      refine j_q (qs_call ent51 rfl rfl rfl (fun w' hw' => output_con (modH M d).1 (d.outs.getD i o0).name d.name w' (modH M d).2 (by omega) (by omega))) ?_
      refine j_q (qs_ext (vs := [.string (bs (outP (modH M d).1 (d.outs.getD i o0).name d.name)), .int .i64 (outE (d.outs.getD i o0).name d.name)]) rfl rfl) ?_
      refine j_q (qs_ext (vs := [.string (bs (outP (modH M d).1 (d.outs.getD i o0).name d.name)), .int .i64 (outE (d.outs.getD i o0).name d.name)]) rfl rfl) ?_
      refine j_q (qs_field Tryz.underlying53 rfl sz4 (by decide) rfl) ?_
      refine j_q (qs_load (l := encO (d.outs.getD i o0)) (v := .bool (d.outs.getD i o0).fixed) 0 Tryz.underlying4 rfl rfl rfl rfl) ?_
      refine j_cond rfl (fun hc2 => ?_) (fun hc2 => ?_)
      · skip
        refine j_q (qs_field Tryz.underlying53 rfl sz51 (by decide) rfl) ?_
        refine j_q (qs_loada (i := 3) (n := 32) (l := encO (d.outs.getD i o0)) 0 Tryz.underlying51 rfl sz51 rfl rfl (by rw [encO_len]; omega)) ?_
        rw [show ((encO (d.outs.getD i o0)).drop 3).take 32 = ints (d.outs.getD i o0).hash.1 by show (ints _).take 32 = _; rw [List.take_of_length_le (by rw [ints_length, (d.outs.getD i o0).hash.2]; omega)]]
        refine j_q (qs_field Tryz.underlying28 rfl sz9 (by decide) rfl) ?_
        refine j_q (qs_load (l := dcells d x2) (v := .string (bs d.name)) 10 Tryz.underlying9 rfl rfl rfl rfl) ?_
        refine j_q (qs_call ent52 rfl rfl rfl (fun w' hw' => fixed_con (d.outs.getD i o0).hash.1 d.name w' (d.outs.getD i o0).hash.2 (by omega))) ?_
        refine j_q (qs_ext (vs := [.string (bs (mkP kFixed (d.outs.getD i o0).hash.1 d.name)), .int .i64 (mkE d.name)]) rfl rfl) ?_
        refine j_q (qs_ext (vs := [.string (bs (mkP kFixed (d.outs.getD i o0).hash.1 d.name)), .int .i64 (mkE d.name)]) rfl rfl) ?_
        refine j_q (qs_neq rfl rfl) ?_
        refine j_cond rfl (fun hc3 => ?_) (fun hc3 => ?_)
        · skip
          have hoe : oE d.name (d.outs.getD i o0) ≠ 0 := by rw [oE_fix hc2]; simpa using hc3
          refine j_q (qs_run (v := .agg (dcells pdZ dvZ).toArray) (fun w => by kernel_rfl)) ?_
          refine j_storew (g := g1) (l := dcells pdZ dvZ) (vs := dcells pdZ dvZ) 9 sz28 rfl rfl rfl dZ_one rfl rfl ?_
          -- no @RET
          refine j_ret_fl [[], [], [], [], [], []] (by simp) (vs := [_, _]) (fun w' hw' => ⟨rv_agg (g := g1) (l := dcells pdZ dvZ) 9 Tryz.underlying28 rfl sz28 rfl rfl rfl hw', rfl, trivial⟩) ?_
          exact fill_bad (fill_2 hme hz hi (oE_fix hc2) (by rw [← oE_fix hc2]; exact hoe))
        · skip
          have hoe : oE d.name (d.outs.getD i o0) = 0 := by rw [oE_fix hc2]; simpa using hc3
          refine j_q (qs_field Tryz.underlying28 rfl sz26 (by decide) rfl) ?_
          refine j_q (qs_load (l := dcells d x2) (v := .slice (some ⟨gO, 0, none⟩) d.outs.length capO) 10 Tryz.underlying26 rfl rfl rfl (congrArg some hvo2)) ?_
          refine j_q (qs_ixn (g := gO) (off := 0) (i := i) Tryz.underlying26 sz53 rfl rfl (by omega)) ?_
          refine j_q (qs_field Tryz.underlying53 rfl sz49 (by decide) rfl) ?_
          refine j_storerec (g := gO) (i := i) (fo := 1) (rs := upd (fO (modH M d) d.name) d.outs i) (d := o0) (fO (modH M d) d.name (d.outs.getD i o0)) 4 encO_len hoo rfl (by rw [upd_len]; exact hi) sz49 rfl rfl rfl (by decide) (by rw [upd_get _ o0 hi]; show (Value.string (bs (d.outs.getD i o0).name) :: Value.string (bs (oP (modH M d) d.name (d.outs.getD i o0))) :: _) = _; rw [oP_fix hc2]; rfl) (fun co2 hoo2 => ?_)
          rw [upd_set _ o0 hi] at hoo2
          refine j_q (qs_field Tryz.underlying53 rfl sz9 (by decide) rfl) ?_
          refine j_q (qs_load (l := encO (d.outs.getD i o0)) (v := .string (bs (d.outs.getD i o0).name)) 0 Tryz.underlying9 rfl rfl rfl rfl) ?_
          refine j_mapset pk9 1 Tryz.underlying97 rfl (key := (d.outs.getD i o0).name) (val := .string (bs (oP (modH M d) d.name (d.outs.getD i o0)))) rfl (congrArg (fun b => Value.string (bs b)) (oP_fix hc2).symm) rfl hmap (by unfold strOk; omega) (fun es2 cl2 hmap2 => ?_)
          refine j_subl (S' := [[(g15, .map es2 cl2)], cI, FI, co2, cS, cV, cA, [(g7, .cells (ints (modH M d).1).toArray 51 (0, 0))], [(g1, .cells (dcells pdZ dvZ).toArray 28 (0, 0))], [(g0, .cells (dcells d x2).toArray 28 (0, 0))], []]) (by repeat first | exact slR _ | exact slN _ | apply slC | apply slD) ?_
          refine j_q (qs_add64 rfl rfl (by omega)) ?_
          refine j_back rfl ?_
          exact ⟨d.outs.length - (i + 1), by omega, i + 1, co2, es2, cl2, _, rfl, rfl, hoo2, hmap2, pm_step (f := fO (modH M d) d.name) (fun _ => rfl) hpm hi, fun j hj => by rcases Nat.lt_or_ge j i with h | h; exact hz j h; rw [show j = i by omega]; exact hoe, by omega, rfl⟩
      · skip
        refine j_q (qs_neq rfl rfl) ?_
        refine j_cond rfl (fun hc4 => ?_) (fun hc4 => ?_)
        · skip
          have hoe : oE d.name (d.outs.getD i o0) ≠ 0 := by rw [oE_out hc2]; simpa using hc4
          refine j_q (qs_run (v := .agg (dcells pdZ dvZ).toArray) (fun w => by kernel_rfl)) ?_
          refine j_storew (g := g1) (l := dcells pdZ dvZ) (vs := dcells pdZ dvZ) 9 sz28 rfl rfl rfl dZ_one rfl rfl ?_
          -- no @RET
          refine j_ret_fl [[], [], [], [], [], []] (by simp) (vs := [_, _]) (fun w' hw' => ⟨rv_agg (g := g1) (l := dcells pdZ dvZ) 9 Tryz.underlying28 rfl sz28 rfl rfl rfl hw', rfl, trivial⟩) ?_
          exact fill_bad (fill_2 hme hz hi (oE_out hc2) (by rw [← oE_out hc2]; exact hoe))
        · skip
          have hoe : oE d.name (d.outs.getD i o0) = 0 := by rw [oE_out hc2]; simpa using hc4
          refine j_q (qs_field Tryz.underlying28 rfl sz26 (by decide) rfl) ?_
          refine j_q (qs_load (l := dcells d x2) (v := .slice (some ⟨gO, 0, none⟩) d.outs.length capO) 10 Tryz.underlying26 rfl rfl rfl (congrArg some hvo2)) ?_
          refine j_q (qs_ixn (g := gO) (off := 0) (i := i) Tryz.underlying26 sz53 rfl rfl (by omega)) ?_
          refine j_q (qs_field Tryz.underlying53 rfl sz49 (by decide) rfl) ?_
          refine j_storerec (g := gO) (i := i) (fo := 1) (rs := upd (fO (modH M d) d.name) d.outs i) (d := o0) (fO (modH M d) d.name (d.outs.getD i o0)) 4 encO_len hoo rfl (by rw [upd_len]; exact hi) sz49 rfl rfl rfl (by decide) (by rw [upd_get _ o0 hi]; show (Value.string (bs (d.outs.getD i o0).name) :: Value.string (bs (oP (modH M d) d.name (d.outs.getD i o0))) :: _) = _; rw [oP_out hc2]; rfl) (fun co2 hoo2 => ?_)
          rw [upd_set _ o0 hi] at hoo2
          refine j_q (qs_field Tryz.underlying53 rfl sz9 (by decide) rfl) ?_
          refine j_q (qs_load (l := encO (d.outs.getD i o0)) (v := .string (bs (d.outs.getD i o0).name)) 0 Tryz.underlying9 rfl rfl rfl rfl) ?_
          refine j_mapset pk9 1 Tryz.underlying97 rfl (key := (d.outs.getD i o0).name) (val := .string (bs (oP (modH M d) d.name (d.outs.getD i o0)))) rfl (congrArg (fun b => Value.string (bs b)) (oP_out hc2).symm) rfl hmap (by unfold strOk; omega) (fun es2 cl2 hmap2 => ?_)
          refine j_subl (S' := [[(g15, .map es2 cl2)], cI, FI, co2, cS, cV, cA, [(g7, .cells (ints (modH M d).1).toArray 51 (0, 0))], [(g1, .cells (dcells pdZ dvZ).toArray 28 (0, 0))], [(g0, .cells (dcells d x2).toArray 28 (0, 0))], []]) (by repeat first | exact slR _ | exact slN _ | apply slC | apply slD) ?_
          refine j_q (qs_add64 rfl rfl (by omega)) ?_
          refine j_back rfl ?_
          exact ⟨d.outs.length - (i + 1), by omega, i + 1, co2, es2, cl2, _, rfl, rfl, hoo2, hmap2, pm_step (f := fO (modH M d) d.name) (fun _ => rfl) hpm hi, fun j hj => by rcases Nat.lt_or_ge j i with h | h; exact hz j h; rw [show j = i by omega]; exact hoe, by omega, rfl⟩
    · skip
      obtain rfl : i = d.outs.length := by
        simp only [bnA] at *
        omega
      rw [upd_all] at hoo
      rw [List.take_length] at hpm
      have hpm : PM mm (fillOs M d) := hpm
      refine j_q (qs_field Tryz.underlying28 rfl sz23 (by decide) rfl) ?_
      refine j_q (qs_load (l := dcells d x2) (v := .slice AV d.env.length capV) 9 Tryz.underlying23 rfl rfl rfl (congrArg some hve2)) ?_
      refine j_q (qs_lenl Tryz.underlying23 rfl) ?_
      refine j_q (qs_mc) ?_
      refine j_loop (fun m vs S' => ∃ (i : Nat) (cv : SH), vs = [.int .i64 (i : Int)] ∧ S' = [[(g15, .map es clock)], cI, FI, co, cS, cv, cA, [(g7, .cells (ints (modH M d).1).toArray 51 (0, 0))], [(g1, .cells (dcells pdZ dvZ).toArray 28 (0, 0))], [(g0, .cells (dcells d x2).toArray 28 (0, 0))], []] ∧ Sx.Own 48 2 (((upd (fV (fillOs M d)) d.env i).map encV).flatten) (.slice AV d.env.length capV) cv ∧ i ≤ d.env.length ∧ m = d.env.length - i) ⟨_, 0, cV, rfl, rfl, (by rw [upd_zero]; exact hov0), Nat.zero_le _, rfl⟩ ?_
      rintro m vs S' hlen ⟨i, cv, rfl, rfl, hov, hin, rfl⟩
      refine j_q (qs_lss rfl rfl) ?_
      refine j_cond rfl (fun hc5 => ?_) (fun hc5 => ?_)
      · skip
        have hi : i < d.env.length := by
          simp only [bnA] at *
          omega
        obtain ⟨gV, rfl⟩ := own_at hov (fl_pos encV_len (by decide) (by rw [upd_len]; omega))
        have hel := few.ev _ (getD_mem (d := v0) hi)
        refine j_q (qs_ixn (g := gV) (off := 0) (i := i) Tryz.underlying23 sz48 rfl rfl (by omega)) ?_
        refine j_q (qs_loadrecw (encA := encV) (rs := upd (fV (fillOs M d)) d.env i) (d := v0) (i := i) encV_len (own_rd hov 5 rfl) (by rw [upd_len]; exact hi) Tryz.underlying48 rfl sz48 rfl) ?_
        rw [upd_get _ v0 hi]
        refine j_alloc zero48 (fun g73 hg73 hs73 => ?_)
        refine j_storew (vs := encV (d.env.getD i v0)) 0 sz48 rfl rfl (encV_len _) (encV_one _) rfl rfl ?_
        refine j_q (qs_field Tryz.underlying48 rfl sz9 (by decide) rfl) ?_
        refine j_q (qs_load (l := encV (d.env.getD i v0)) (v := .string (bs (d.env.getD i v0).name)) 0 Tryz.underlying9 rfl rfl rfl rfl) ?_
        refine j_q (qs_lookup2 pk9 1 Tryz.underlying97 zv49 (key := (d.env.getD i v0).name) rfl rfl rfl hmap (by unfold strOk; omega)) ?_
        rw [(pm_get hpm _ []).1, (pm_get hpm _ []).2]
        refine j_q (qs_ext (vs := [.string (bs (fVv (fillOs M d) (d.env.getD i v0).name [])), .bool ((fillOs M d).reverse.find? (fun o => decide (o.name = (d.env.getD i v0).name))).isSome]) rfl rfl) ?_
        refine j_q (qs_ext (vs := [.string (bs (fVv (fillOs M d) (d.env.getD i v0).name [])), .bool ((fillOs M d).reverse.find? (fun o => decide (o.name = (d.env.getD i v0).name))).isSome]) rfl rfl) ?_
        refine j_cond rfl (fun hc6 => ?_) (fun hc6 => ?_)
        · skip
          refine j_q (qs_field Tryz.underlying28 rfl sz23 (by decide) rfl) ?_
          refine j_q (qs_load (l := dcells d x2) (v := .slice (some ⟨gV, 0, none⟩) d.env.length capV) 10 Tryz.underlying23 rfl rfl rfl (congrArg some hve2)) ?_
          refine j_q (qs_ixn (g := gV) (off := 0) (i := i) Tryz.underlying23 sz48 rfl rfl (by omega)) ?_
          refine j_q (qs_field Tryz.underlying48 rfl sz9 (by decide) rfl) ?_
          refine j_storerec (g := gV) (i := i) (fo := 1) (rs := upd (fV (fillOs M d)) d.env i) (d := v0) (fV (fillOs M d) (d.env.getD i v0)) 6 encV_len hov rfl (by rw [upd_len]; exact hi) sz9 rfl rfl rfl (by decide) (by rw [upd_get _ v0 hi]; show [_, Value.string (bs (fVv (fillOs M d) (d.env.getD i v0).name _))] = _; rw [fVv_yes hc6]; rfl) (fun cv2 hov2 => ?_)
          rw [upd_set _ v0 hi] at hov2
          refine j_subl (S' := [[(g15, .map es clock)], cI, FI, co, cS, cv2, cA, [(g7, .cells (ints (modH M d).1).toArray 51 (0, 0))], [(g1, .cells (dcells pdZ dvZ).toArray 28 (0, 0))], [(g0, .cells (dcells d x2).toArray 28 (0, 0))], []]) (by repeat first | exact slR _ | exact slN _ | apply slC | apply slD) ?_
          refine j_q (qs_add64 rfl rfl (by omega)) ?_
          refine j_back rfl ?_
          exact ⟨d.env.length - (i + 1), by omega, i + 1, cv2, rfl, rfl, hov2, by omega, rfl⟩
        · skip
          have hsame : fV (fillOs M d) (d.env.getD i v0) = d.env.getD i v0 := by
            unfold fV
            rw [fVv_no hc6]
          rw [← upd_same _ v0 hi hsame] at hov
          refine j_subl (S' := [[(g15, .map es clock)], cI, FI, co, cS, cv, cA, [(g7, .cells (ints (modH M d).1).toArray 51 (0, 0))], [(g1, .cells (dcells pdZ dvZ).toArray 28 (0, 0))], [(g0, .cells (dcells d x2).toArray 28 (0, 0))], []]) (by repeat first | exact slR _ | exact slN _ | apply slC | apply slD) ?_
          refine j_q (qs_add64 rfl rfl (by omega)) ?_
          refine j_back rfl ?_
          exact ⟨d.env.length - (i + 1), by omega, i + 1, cv, rfl, rfl, hov, by omega, rfl⟩
      · skip
        obtain rfl : i = d.env.length := by
          simp only [bnA] at *
          omega
        rw [upd_all] at hov
        refine j_q (qs_loadw (l := dcells d x2) 9 Tryz.underlying28 rfl sz28 rfl rfl rfl) ?_
        refine j_storew (g := g1) (l := dcells pdZ dvZ) (vs := dcells d x2) 8 sz28 rfl rfl rfl ho.one rfl rfl ?_
        refine j_q (qs_ac) ?_
        -- no @RET
        refine j_ret_sub [cI, FI, co, cS, cv, cA] (by repeat first | exact slR _ | exact slN _ | apply slC | apply slD) (vs := [_, _]) (fun w' hw' => ⟨rv_agg (g := g1) (l := dcells d x2) 8 Tryz.underlying28 rfl sz28 rfl rfl rfl hw', rfl, trivial⟩) ?_
        rw [(fill_3 hme hz).1, (fill_3 hme hz).2]
        exact ⟨x2, co, cI, FI, cS, cA, cv, rfl, rfl, ⟨by rw [hvo2]; exact hoo, ho.i, ho.io, ho.im, ho.s, ho.a, by rw [hve2]; exact hov⟩⟩
end Go.Proofs.YtfeabbeebkkhaaaGreat
/-! Dv8 -/
namespace Go.Proofs.YtfeabbeebkkhaaaGreat
open Go Go.Sx
set_option maxRecDepth 100000
set_option maxHeartbeats 4000000
set_option linter.unusedVariables false
set_option linter.unusedSimpArgs false
attribute [local irreducible] J JQ QS Con W opW
theorem bools2 {v v' : Value} {a a' : Int} (h1 : v = v') (h2 : a = a') : [v, Value.int .i64 a] = [v', .int .i64 a'] := by rw [h1, h2]
attribute [local irreducible] es qt cms hex Tbl Half lst isName isPath isDrvP leB chkO chkOuts chkN chkI chkIns firstE spA spB spE chkS chkV dtext chk chk0
end Go.Proofs.YtfeabbeebkkhaaaGreat
/-! Dv9 -/
namespace Go.Proofs.YtfeabbeebkkhaaaGreat
open Go Go.Sx
set_option maxRecDepth 100000
set_option maxHeartbeats 4000000
set_option linter.unusedVariables false
set_option linter.unusedSimpArgs false
attribute [local irreducible] J JQ QS Con W opW
attribute [local irreducible] es qt cms hex Tbl Half lst isName isPath isDrvP leB chkO chkOuts chkN chkI chkIns firstE spA spB spE chkS chkV dtext chk chk0 tTs
end Go.Proofs.YtfeabbeebkkhaaaGreat
/-! Sx22 -/
namespace Go.Sx
open Go
set_option linter.unusedVariables false
variable {P : Program} {R : Ending → World → Prop} {env : Env} {b : Base} {S : List SH} {B : JB} {T : Tree} {v : Value} {ty : TypeId}
end Go.Sx
/-! Dv10 -/
namespace Go.Proofs.YtfeabbeebkkhaaaGreat
open Go Go.Sx
set_option maxRecDepth 100000
set_option maxHeartbeats 4000000
set_option linter.unusedVariables false
set_option linter.unusedSimpArgs false
attribute [local irreducible] J JQ QS Con W opW
section
variable {d : PD}
end
attribute [local irreducible] es qt cms hex Tbl Half lst isName isPath isDrvP leB chkO chkOuts chkN chkI chkIns firstE spA spB spE chkS chkV dtext chk chk0 tTs
end Go.Proofs.YtfeabbeebkkhaaaGreat
/-! Dv13 -/
namespace Go.Proofs.YtfeabbeebkkhaaaGreat
open Go Go.Sx
set_option maxRecDepth 100000
set_option maxHeartbeats 4000000
set_option linter.unusedVariables false
set_option linter.unusedSimpArgs false
attribute [local irreducible] J JQ QS Con W opW
attribute [local irreducible] es qt cms hex Tbl Half lst isName isPath isDrvP leB chkO chkOuts chkN chkI chkIns firstE spA spB spE chkS chkV dtext chk chk0 tTs big1 big2 heavyP
theorem dclone_con (d : PD) (x : DV) (w : World) (h : DR w d x) (hb : big2 d ≤ 16000) : Con Tryz.prog 12 [dval d x] w [] fun v S' => ∃ x', v = dval d x' ∧ (∀ u ∈ dcells d x', oneV u = true) ∧ ∀ w' : World, (∀ p ∈ S'.flatten, w'.heap[p.1]? = some p.2) → DR w' d x' := by
  refine con_of_tree mix Tryz.func12 T12_ok (by kernel_rfl) ?_
  unfold T12
  have hni : d.ins.length = x.mi.length := by rw [h.im, List.length_map]
  obtain ⟨Ao, capo, go, offo, hvo, hcapo, hAo⟩ := rsln_form h.o
  obtain ⟨Ai, capi, gi, offi, hvi, hcapi, hAi⟩ := rsln_form h.i
  obtain ⟨Ae, cape, ge, offe, hve, hcape, hAe⟩ := rsln_form h.e
  obtain ⟨As, caps, hvs, hcaps⟩ := strz_form h.s
  obtain ⟨Aa, capa, hva, hcapa⟩ := strz_form h.a
  have hmem : ∀ m ∈ x.mi, m.pi ∈ d.ins := fun m hm => by rw [h.im]; exact List.mem_map_of_mem hm
  have few := few_of (Nat.le_trans hb (by decide))
  have few4 := few.la
  have few5 := few.le
  have few6 := few.li
  have few7 := few.lo
  have few8 := few.ls
  refine j_box (l := [.string (bs d.name), .string (bs d.sys), .string (bs d.bld), x.va, x.ve, x.vi, x.vs, x.vo]) rfl (fun g0 hg0 hs0 => ?_)
  refine j_alloc zero28 (fun g1 hg1 hs1 => ?_)
  refine j_lit (vs := []) Tryz.underlying22 sz9 zero9 rfl (by simp) ⟨rfl, by decide⟩ (fun g2 v2 c2 hv2 hc2 ho2 => ?_)
  subst hv2 hc2
  refine j_q (qs_field Tryz.underlying28 rfl sz22 (by decide) rfl) ?_
  refine j_q (qs_load (l := [.string (bs d.name), .string (bs d.sys), .string (bs d.bld), x.va, x.ve, x.vi, x.vs, x.vo]) 2 Tryz.underlying22 rfl rfl rfl (congrArg some hva)) ?_
  refine j_append 0 Tryz.underlying22 Tryz.underlying22 (.inr ⟨_, rfl⟩) sb9 zero9 rfl ho2 rfl (src_strz (hva ▸ h.a)) (strs_one _) ⟨(by simp only [List.length_nil, strs_length, flat_len encV_len, flat_len encO_len]; omega), (by decide)⟩ (fun v5 c5 ho5 => ?_)
  rw [List.nil_append] at ho5
  obtain ⟨n5, A5, cap5, rfl, hn5⟩ := own_form ho5 (by decide)
  refine j_q (qs_field Tryz.underlying28 rfl sz22 (by decide) rfl) ?_
  refine j_store (g := g0) (i := 3) (l := [.string (bs d.name), .string (bs d.sys), .string (bs d.bld), x.va, x.ve, x.vi, x.vs, x.vo]) (v := .slice A5 n5 cap5) 2 sz22 rfl rfl rfl rfl (by simp) (by simp) ?_
  refine j_perm (S' := [[(g1, .cells ([.string (bs []), .string (bs []), .string (bs []), .slice none 0 0, .slice none 0 0, .slice none 0 0, .slice none 0 0, .slice none 0 0] : List Value).toArray 28 (0, 0))], [(g0, .cells ([.string (bs d.name), .string (bs d.sys), .string (bs d.bld), .slice A5 n5 cap5, x.ve, x.vi, x.vs, x.vo] : List Value).toArray 28 (0, 0))], c5, []]) (by classical exact List.perm_iff_count.2 fun a => by simp only [List.set_cons_succ, List.set_cons_zero, List.flatten_cons, List.flatten_nil, List.append_nil, List.nil_append, List.cons_append, List.count_append, List.count_cons, List.count_nil] <;> omega) ?_
  refine j_lit0 Tryz.underlying23 sz48 (fun g8 hg8 ho8 => ?_)
  refine j_q (qs_field Tryz.underlying28 rfl sz23 (by decide) rfl) ?_
  refine j_q (qs_load (l := [.string (bs d.name), .string (bs d.sys), .string (bs d.bld), .slice A5 n5 cap5, x.ve, x.vi, x.vs, x.vo]) 2 Tryz.underlying23 rfl rfl rfl (congrArg some hve)) ?_
  refine j_append 0 Tryz.underlying23 Tryz.underlying23 (.inr ⟨_, rfl⟩) sb48 zero48 rfl ho8 rfl (src_rsln (hve ▸ h.e)) (flat_one (fun y _ => encV_one y)) ⟨(by simp only [List.length_nil, strs_length, flat_len encV_len, flat_len encO_len]; omega), (by decide)⟩ (fun v11 c11 ho11 => ?_)
  rw [List.nil_append] at ho11
  obtain ⟨n11, A11, cap11, rfl, hn11⟩ := own_form ho11 (by decide)
  refine j_q (qs_field Tryz.underlying28 rfl sz23 (by decide) rfl) ?_
  refine j_store (g := g0) (i := 4) (l := [.string (bs d.name), .string (bs d.sys), .string (bs d.bld), .slice A5 n5 cap5, x.ve, x.vi, x.vs, x.vo]) (v := .slice A11 n11 cap11) 2 sz23 rfl rfl rfl rfl (by simp) (by simp) ?_
  refine j_perm (S' := [[(g1, .cells ([.string (bs []), .string (bs []), .string (bs []), .slice none 0 0, .slice none 0 0, .slice none 0 0, .slice none 0 0, .slice none 0 0] : List Value).toArray 28 (0, 0))], [(g0, .cells ([.string (bs d.name), .string (bs d.sys), .string (bs d.bld), .slice A5 n5 cap5, .slice A11 n11 cap11, x.vi, x.vs, x.vo] : List Value).toArray 28 (0, 0))], (c11 ++ c5), []]) (by classical exact List.perm_iff_count.2 fun a => by simp only [List.set_cons_succ, List.set_cons_zero, List.flatten_cons, List.flatten_nil, List.append_nil, List.nil_append, List.cons_append, List.count_append, List.count_cons, List.count_nil] <;> omega) ?_
  refine j_lit (vs := []) Tryz.underlying25 sz49 zero49 rfl (by simp) ⟨rfl, by decide⟩ (fun g14 v14 c14 hv14 hc14 ho14 => ?_)
  subst hv14 hc14
  refine j_q (qs_field Tryz.underlying28 rfl sz25 (by decide) rfl) ?_
  refine j_q (qs_load (l := [.string (bs d.name), .string (bs d.sys), .string (bs d.bld), .slice A5 n5 cap5, .slice A11 n11 cap11, x.vi, x.vs, x.vo]) 2 Tryz.underlying25 rfl rfl rfl (congrArg some hvs)) ?_
  refine j_append 0 Tryz.underlying25 Tryz.underlying25 (.inr ⟨_, rfl⟩) sb49 zero49 rfl ho14 rfl (src_strz (hvs ▸ h.s)) (strs_one _) ⟨(by simp only [List.length_nil, strs_length, flat_len encV_len, flat_len encO_len]; omega), (by decide)⟩ (fun v17 c17 ho17 => ?_)
  rw [List.nil_append] at ho17
  obtain ⟨n17, A17, cap17, rfl, hn17⟩ := own_form ho17 (by decide)
  refine j_q (qs_field Tryz.underlying28 rfl sz25 (by decide) rfl) ?_
  refine j_store (g := g0) (i := 6) (l := [.string (bs d.name), .string (bs d.sys), .string (bs d.bld), .slice A5 n5 cap5, .slice A11 n11 cap11, x.vi, x.vs, x.vo]) (v := .slice A17 n17 cap17) 2 sz25 rfl rfl rfl rfl (by simp) (by simp) ?_
  refine j_perm (S' := [[(g1, .cells ([.string (bs []), .string (bs []), .string (bs []), .slice none 0 0, .slice none 0 0, .slice none 0 0, .slice none 0 0, .slice none 0 0] : List Value).toArray 28 (0, 0))], [(g0, .cells ([.string (bs d.name), .string (bs d.sys), .string (bs d.bld), .slice A5 n5 cap5, .slice A11 n11 cap11, x.vi, .slice A17 n17 cap17, x.vo] : List Value).toArray 28 (0, 0))], (c17 ++ (c11 ++ c5)), []]) (by classical exact List.perm_iff_count.2 fun a => by simp only [List.set_cons_succ, List.set_cons_zero, List.flatten_cons, List.flatten_nil, List.append_nil, List.nil_append, List.cons_append, List.count_append, List.count_cons, List.count_nil] <;> omega) ?_
  refine j_lit0 Tryz.underlying26 sz53 (fun g20 hg20 ho20 => ?_)
  refine j_q (qs_field Tryz.underlying28 rfl sz26 (by decide) rfl) ?_
  refine j_q (qs_load (l := [.string (bs d.name), .string (bs d.sys), .string (bs d.bld), .slice A5 n5 cap5, .slice A11 n11 cap11, x.vi, .slice A17 n17 cap17, x.vo]) 2 Tryz.underlying26 rfl rfl rfl (congrArg some hvo)) ?_
  refine j_append 0 Tryz.underlying26 Tryz.underlying26 (.inr ⟨_, rfl⟩) sb53 zero53 rfl ho20 rfl (src_rsln (hvo ▸ h.o)) (flat_one (fun y _ => encO_one y)) ⟨(by simp only [List.length_nil, strs_length, flat_len encV_len, flat_len encO_len]; omega), (by decide)⟩ (fun v23 c23 ho23 => ?_)
  rw [List.nil_append] at ho23
  obtain ⟨n23, A23, cap23, rfl, hn23⟩ := own_form ho23 (by decide)
  refine j_q (qs_field Tryz.underlying28 rfl sz26 (by decide) rfl) ?_
  refine j_store (g := g0) (i := 7) (l := [.string (bs d.name), .string (bs d.sys), .string (bs d.bld), .slice A5 n5 cap5, .slice A11 n11 cap11, x.vi, .slice A17 n17 cap17, x.vo]) (v := .slice A23 n23 cap23) 2 sz26 rfl rfl rfl rfl (by simp) (by simp) ?_
  refine j_perm (S' := [[(g1, .cells ([.string (bs []), .string (bs []), .string (bs []), .slice none 0 0, .slice none 0 0, .slice none 0 0, .slice none 0 0, .slice none 0 0] : List Value).toArray 28 (0, 0))], [(g0, .cells ([.string (bs d.name), .string (bs d.sys), .string (bs d.bld), .slice A5 n5 cap5, .slice A11 n11 cap11, x.vi, .slice A17 n17 cap17, .slice A23 n23 cap23] : List Value).toArray 28 (0, 0))], (c23 ++ (c17 ++ (c11 ++ c5))), []]) (by classical exact List.perm_iff_count.2 fun a => by simp only [List.set_cons_succ, List.set_cons_zero, List.flatten_cons, List.flatten_nil, List.append_nil, List.nil_append, List.cons_append, List.count_append, List.count_cons, List.count_nil] <;> omega) ?_
  refine j_q (qs_ac) ?_
  refine j_q (qs_ac) ?_
  refine j_perm (S' := [[], [], [(g1, .cells ([.string (bs []), .string (bs []), .string (bs []), .slice none 0 0, .slice none 0 0, .slice none 0 0, .slice none 0 0, .slice none 0 0] : List Value).toArray 28 (0, 0))], [(g0, .cells ([.string (bs d.name), .string (bs d.sys), .string (bs d.bld), .slice A5 n5 cap5, .slice A11 n11 cap11, x.vi, .slice A17 n17 cap17, .slice A23 n23 cap23] : List Value).toArray 28 (0, 0))], (c23 ++ (c17 ++ (c11 ++ c5))), []]) (by classical exact List.perm_iff_count.2 fun a => by simp only [List.set_cons_succ, List.set_cons_zero, List.flatten_cons, List.flatten_nil, List.append_nil, List.nil_append, List.cons_append, List.count_append, List.count_cons, List.count_nil] <;> omega) ?_
  refine j_loop (fun m vs S' => ∃ (i : Nat) (iv : Value) (ci F : SH) (mi : List MI), vs = [iv, .int .i64 (i : Int)] ∧ S' = [ci, F, [(g1, .cells ([.string (bs []), .string (bs []), .string (bs []), .slice none 0 0, .slice none 0 0, .slice none 0 0, .slice none 0 0, .slice none 0 0] : List Value).toArray 28 (0, 0))], [(g0, .cells ([.string (bs d.name), .string (bs d.sys), .string (bs d.bld), .slice A5 n5 cap5, .slice A11 n11 cap11, x.vi, .slice A17 n17 cap17, .slice A23 n23 cap23] : List Value).toArray 28 (0, 0))], (c23 ++ (c17 ++ (c11 ++ c5))), []] ∧ Sx.Own 68 2 ((mi.map encI).flatten) iv ci ∧ Mine mi F ∧ mi.map MI.pi = (x.mi.take i).map MI.pi ∧ i ≤ x.mi.length ∧ m = x.mi.length - i) ⟨_, 0, .slice none 0 0, [], [], [], rfl, rfl, own_nil, mine_nil, rfl, Nat.zero_le _, rfl⟩ ?_
  rintro m vs S' hlen ⟨i, iv, ci, F, mi, rfl, rfl, hoi, hmine, hmi, hin, rfl⟩
  refine j_q (qs_field Tryz.underlying28 rfl sz24 (by decide) rfl) ?_
  refine j_q (qs_load (l := [.string (bs d.name), .string (bs d.sys), .string (bs d.bld), .slice A5 n5 cap5, .slice A11 n11 cap11, x.vi, .slice A17 n17 cap17, .slice A23 n23 cap23]) 3 Tryz.underlying24 rfl rfl rfl (congrArg some hvi)) ?_
  refine j_q (qs_lenl Tryz.underlying24 rfl) ?_
  refine j_q (qs_lss rfl rfl) ?_
  refine j_cond rfl (fun hc0 => ?_) (fun hc0 => ?_)
  · skip
    have hi : i < x.mi.length := by
      simp only [bnA] at *
      omega
    obtain ⟨rfl, hgi, hcells⟩ := hAi (by omega)
    have hip := few.ip _ (hmem _ (getD_mem (d := m0) hi))
    simp only [MI.pi] at hip
    have hsx := h.io _ (getD_mem (d := m0) hi)
    obtain ⟨Ax, capx, hvx, hcapx⟩ := strz_form hsx
    have hml : mi.length = i := by
      have := congrArg List.length hmi
      simp only [List.length_map, List.length_take] at this
      omega
    refine j_mix [[(g0, .cells ([.string (bs d.name), .string (bs d.sys), .string (bs d.bld), .slice A5 n5 cap5, .slice A11 n11 cap11, x.vi, .slice A17 n17 cap17, .slice A23 n23 cap23] : List Value).toArray 28 (0, 0))]] (Le.of_sub (by repeat first | exact slR _ | exact slN _ | apply slC | apply slD)) ?_
    refine j_mq (qs_field Tryz.underlying28 rfl sz24 (by decide) rfl) ?_
    refine j_mq (qs_load (l := [.string (bs d.name), .string (bs d.sys), .string (bs d.bld), .slice A5 n5 cap5, .slice A11 n11 cap11, x.vi, .slice A17 n17 cap17, .slice A23 n23 cap23]) 0 Tryz.underlying24 rfl rfl rfl (congrArg some hvi)) ?_
    refine j_mq (qs_ixn (g := gi) (off := offi) (i := i) Tryz.underlying24 sz68 rfl rfl (by omega)) ?_
    refine j_mq (qs_field Tryz.underlying68 rfl sz49 (by decide) rfl) ?_
    refine j_mq (qs_loadrec (v := .string (bs (x.mi.getD i m0).drv)) (encA := encI) (rs := x.mi) (d := m0) (i := i) (fo := 0) encI_len (rd_cells hcells (by simp)) hi Tryz.underlying49 rfl rfl rfl) ?_
    refine j_mq (qs_field Tryz.underlying28 rfl sz24 (by decide) rfl) ?_
    refine j_mq (qs_load (l := [.string (bs d.name), .string (bs d.sys), .string (bs d.bld), .slice A5 n5 cap5, .slice A11 n11 cap11, x.vi, .slice A17 n17 cap17, .slice A23 n23 cap23]) 0 Tryz.underlying24 rfl rfl rfl (congrArg some hvi)) ?_
    refine j_mq (qs_ixn (g := gi) (off := offi) (i := i) Tryz.underlying24 sz68 rfl rfl (by omega)) ?_
    refine j_mq (qs_field Tryz.underlying68 rfl sz22 (by decide) rfl) ?_
    refine j_mq (qs_loadrec (v := .slice Ax (x.mi.getD i m0).outs.length capx) (encA := encI) (rs := x.mi) (d := m0) (i := i) (fo := 1) encI_len (rd_cells hcells (by simp)) hi Tryz.underlying22 rfl rfl (congrArg some hvx)) ?_
    refine j_lit (vs := []) Tryz.underlying22 sz9 zero9 rfl (by simp) ⟨rfl, by decide⟩ (fun g42 v42 c42 hv42 hc42 ho42 => ?_)
    subst hv42 hc42
    refine j_mD0 (Le.of_sub (by repeat first | exact slR _ | exact slN _ | apply slC | apply slD)) ?_
    refine j_append 0 Tryz.underlying22 Tryz.underlying22 (.inr ⟨_, rfl⟩) sb9 zero9 rfl ho42 rfl (src_strz (hvx ▸ hsx)) (strs_one _) ⟨(by simp only [List.length_nil, strs_length, flat_len encV_len, flat_len encO_len]; omega), (by decide)⟩ (fun v43 c43 ho43 => ?_)
    rw [List.nil_append] at ho43
    obtain ⟨n43, A43, cap43, rfl, hn43⟩ := own_form ho43 (by decide)
    refine j_mD0 (Le.of_sub (by repeat first | exact slR _ | exact slN _ | apply slC | apply slD)) ?_
    refine j_mq (v := .agg (encI ⟨(x.mi.getD i m0).drv, (x.mi.getD i m0).outs, .slice A43 n43 cap43⟩).toArray) (qs_build (places := [(0, 1), (1, 1)]) (offs := [(0, [.string (bs (x.mi.getD i m0).drv)]), (1, [.slice A43 n43 cap43])]) Tryz.underlying68 zero68 (by kernel_rfl) rfl (by rintro (_ | _ | j) p q hp hq <;> first | (simp at hp hq; subst hp hq; exact ⟨rfl, rfl, by simp⟩) | (simp at hp))) ?_
    refine j_litw (vs := encI ⟨(x.mi.getD i m0).drv, (x.mi.getD i m0).outs, .slice A43 n43 cap43⟩) Tryz.underlying24 sz68 zero68 rfl rfl ⟨rfl, by decide, by decide⟩ (fun g45 hg45 ho45 => ?_)
    refine j_mD0 (Le.of_sub (by repeat first | exact slR _ | exact slN _ | apply slC | apply slD)) ?_
    refine j_append 2 Tryz.underlying24 Tryz.underlying24 (.inr ⟨_, rfl⟩) sb68 zero68 rfl hoi rfl (.inl ⟨_, _, rfl, rd_own (off := 0) (n := 2) 0 rfl rfl, rfl⟩) (by intro u hu; simp [encI] at hu; rcases hu with rfl | rfl <;> rfl) ⟨(by simp only [flat_len encI_len, List.length_take, List.drop_zero, encI_len]; omega), (by decide)⟩ (fun v46 c46 ho46 => ?_)
    have ho46 : Sx.Own 68 2 (((mi ++ [MI.mk (x.mi.getD i m0).drv (x.mi.getD i m0).outs (.slice A43 n43 cap43)]).map encI).flatten) v46 c46 := by
      have e : ((mi ++ [MI.mk (x.mi.getD i m0).drv (x.mi.getD i m0).outs (.slice A43 n43 cap43)]).map encI).flatten = (mi.map encI).flatten ++ encI (MI.mk (x.mi.getD i m0).drv (x.mi.getD i m0).outs (.slice A43 n43 cap43)) := by simp
      rw [e]
      exact ho46
    refine j_subl (S' := [c43, c46, F, [(g1, .cells ([.string (bs []), .string (bs []), .string (bs []), .slice none 0 0, .slice none 0 0, .slice none 0 0, .slice none 0 0, .slice none 0 0] : List Value).toArray 28 (0, 0))], [(g0, .cells ([.string (bs d.name), .string (bs d.sys), .string (bs d.bld), .slice A5 n5 cap5, .slice A11 n11 cap11, x.vi, .slice A17 n17 cap17, .slice A23 n23 cap23] : List Value).toArray 28 (0, 0))], (c23 ++ (c17 ++ (c11 ++ c5))), []]) (by repeat first | exact slR _ | exact slN _ | apply slC | apply slD) ?_
    refine j_perm (S' := [c46, c43 ++ F, [(g1, .cells ([.string (bs []), .string (bs []), .string (bs []), .slice none 0 0, .slice none 0 0, .slice none 0 0, .slice none 0 0, .slice none 0 0] : List Value).toArray 28 (0, 0))], [(g0, .cells ([.string (bs d.name), .string (bs d.sys), .string (bs d.bld), .slice A5 n5 cap5, .slice A11 n11 cap11, x.vi, .slice A17 n17 cap17, .slice A23 n23 cap23] : List Value).toArray 28 (0, 0))], (c23 ++ (c17 ++ (c11 ++ c5))), []]) (by classical exact List.perm_iff_count.2 fun a => by simp only [List.set_cons_succ, List.set_cons_zero, List.flatten_cons, List.flatten_nil, List.append_nil, List.nil_append, List.cons_append, List.count_append, List.count_cons, List.count_nil] <;> omega) ?_
    refine j_mR _ (.refl _) ?_
    refine j_mend ?_
    refine j_q (qs_add64 rfl rfl (by omega)) ?_
    refine j_back rfl ?_
    exact ⟨x.mi.length - (i + 1), by omega, i + 1, v46, c46, c43 ++ F, mi ++ [MI.mk (x.mi.getD i m0).drv (x.mi.getD i m0).outs (.slice A43 n43 cap43)], bools2 rfl (by omega), rfl, ho46, mine_snoc hmine ho43, ins_take hmi hi _, by omega, rfl⟩
  · skip
    obtain rfl : i = x.mi.length := by
      simp only [bnA] at *
      omega
    rw [List.take_length] at hmi
    obtain ⟨ni2, Ai2, capi2, rfl, hni2⟩ := own_form hoi (by decide)
    refine j_q (qs_field Tryz.underlying28 rfl sz24 (by decide) rfl) ?_
    refine j_store (g := g0) (i := 5) (l := [.string (bs d.name), .string (bs d.sys), .string (bs d.bld), .slice A5 n5 cap5, .slice A11 n11 cap11, x.vi, .slice A17 n17 cap17, .slice A23 n23 cap23]) (v := .slice Ai2 ni2 capi2) 3 sz24 rfl rfl rfl rfl (by simp) (by simp) ?_
    refine j_q (qs_loadw (l := [.string (bs d.name), .string (bs d.sys), .string (bs d.bld), .slice A5 n5 cap5, .slice A11 n11 cap11, .slice Ai2 ni2 capi2, .slice A17 n17 cap17, .slice A23 n23 cap23]) 3 Tryz.underlying28 rfl sz28 rfl rfl rfl) ?_
    refine j_storew (l := [.string (bs []), .string (bs []), .string (bs []), .slice none 0 0, .slice none 0 0, .slice none 0 0, .slice none 0 0, .slice none 0 0]) (vs := [.string (bs d.name), .string (bs d.sys), .string (bs d.bld), .slice A5 n5 cap5, .slice A11 n11 cap11, .slice Ai2 ni2 capi2, .slice A17 n17 cap17, .slice A23 n23 cap23]) 2 sz28 rfl rfl rfl (by intro u hu; simp only [List.mem_cons, List.not_mem_nil, or_false] at hu; rcases hu with rfl | rfl | rfl | rfl | rfl | rfl | rfl | rfl <;> rfl) rfl rfl ?_
    refine j_ret_con (vs := [_]) (fun w' hw' => ⟨rv_agg 2 Tryz.underlying28 rfl sz28 rfl rfl rfl hw', trivial⟩) ?_
    have hone8 : ∀ u ∈ dcells d ⟨.slice A5 n5 cap5, .slice A11 n11 cap11, .slice Ai2 ni2 capi2, .slice A17 n17 cap17, .slice A23 n23 cap23, mi⟩, oneV u = true := by
      intro u hu
      simp only [dcells, List.mem_cons, List.not_mem_nil, or_false] at hu
      rcases hu with rfl | rfl | rfl | rfl | rfl | rfl | rfl | rfl <;> rfl
    refine ⟨⟨.slice A5 n5 cap5, .slice A11 n11 cap11, .slice Ai2 ni2 capi2, .slice A17 n17 cap17, .slice A23 n23 cap23, mi⟩, rfl, hone8, fun w' hw' => ?_⟩
    exact ⟨strz_ownw ho5 (fun p hp => hw' p (by simp [hp])), rsln_ownw ho11 (by decide) (flat_len encV_len _) (fun p hp => hw' p (by simp [hp])), rsln_ownw hoi (by decide) (flat_len encI_len _) (fun p hp => hw' p (by simp [hp])), fun m hm => by obtain ⟨c, h1, h2⟩ := hmine m hm; exact strz_ownw h1 (fun p hp => hw' p (by simp [h2 p hp])), by rw [h.im, ← hmi], strz_ownw ho17 (fun p hp => hw' p (by simp [hp])), rsln_ownw ho23 (by decide) (flat_len encO_len _) (fun p hp => hw' p (by simp [hp]))⟩
end Go.Proofs.YtfeabbeebkkhaaaGreat
/-! Dv34 -/
namespace Go.Proofs.YtfeabbeebkkhaaaGreat
open Go Go.Sx
set_option maxRecDepth 100000
set_option maxHeartbeats 4000000
set_option linter.unusedVariables false
set_option linter.unusedSimpArgs false
attribute [local irreducible] J JQ QS Con W opW
theorem heavy4_no {d : PD} {b : Bool} (h : (heavyP d || b) = false) : big1 d ≤ 4000 ∧ big2 d ≤ 16000 := by
  unfold heavyP at h
  simp only [Bool.or_eq_false_iff, decide_eq_false_iff_not] at h
  omega
theorem fill_ok {M : HM} {d : PD} (h : fillE M d = 0) : fillR M d = fillD M d := by unfold fillR; rw [if_pos h]
attribute [local irreducible] es qt cms hex sum Tbl Half lst isName isPath isDrvP leB chkO chkOuts chkN chkI chkIns firstE spA spB spE chkS chkV dtext chk chk0 tTs modE modH fixT isFix hget mIv mkP mkE outP outE oP oE fVv big1 big2 heavyP fillE fillR fillD
end Go.Proofs.YtfeabbeebkkhaaaGreat
/-! Dv35 -/
namespace Go.Proofs.YtfeabbeebkkhaaaGreat
open Go Go.Sx
set_option maxRecDepth 100000
set_option maxHeartbeats 4000000
set_option linter.unusedVariables false
set_option linter.unusedSimpArgs false
attribute [local irreducible] J JQ QS Con W opW
theorem put3 (a b c a2 c2 : Value) (z hs : List UInt8) (hz : z.length = 32) (hh : hs.length = 32) : [(0, [a2]), (2, [c2]), (3, ints hs)].foldl (fun l (q : Nat × List Value) => putAt l q.1 q.2) (a :: b :: c :: ints z) = a2 :: b :: c2 :: ints hs := by
  simp only [List.foldl_cons, List.foldl_nil, putAt, List.length_cons, List.length_nil, List.take_zero, List.nil_append, Nat.zero_add, List.drop_succ_cons, List.drop_zero, List.cons_append, List.take_succ_cons]
  rw [List.drop_of_length_le (by simp [ints_length, hh, hz]), List.append_nil]
theorem bld53 {env : Env} {b : Base} {S : List SH} {ty : TypeId} {x : Operand} {hs : List UInt8} (hx : ev env x = .agg (ints hs).toArray) (hh : hs.length = 32) : QS Tryz.prog (O (.build 53 #[(0, .const (.string ⟨#[111, 117, 116]⟩)), (2, .const (.bool true)), (3, x)]) ty) env b S (.agg (encO ⟨sOut, [], true, ⟨hs, hh⟩⟩).toArray) := by
  have h := qs_build (P := Tryz.prog) (env := env) (b := b) (S := S) (ty := ty) (parts := #[(0, .const (.string ⟨#[111, 117, 116]⟩)), (2, .const (.bool true)), (3, x)]) (places := [(0, 1), (1, 1), (2, 1), (3, 32)]) (offs := [(0, [.string (bs sOut)]), (2, [.bool true]), (3, ints hs)]) Tryz.underlying53 (z := .string (bs []) :: .string (bs []) :: .bool false :: ints (List.replicate 32 0)) zero53 (by kernel_rfl) rfl (by
    rintro (_ | _ | _ | j) p q hp hq
    · simp at hp hq; subst hp hq; exact ⟨rfl, rfl, by simp⟩
    · simp at hp hq; subst hp hq; exact ⟨rfl, rfl, by simp⟩
    · simp at hp hq; subst hp hq; exact ⟨by rw [ints_length, hh]; rfl, by rw [hx]; rfl, by simp [ints_length, hh]⟩
    · simp at hp)
  rw [put3 _ _ _ _ _ _ _ (by simp) hh] at h
  exact h
theorem own1 {e : TypeId} {o : PO} {v : Value} {c : SH} (h : Sx.Own e 35 (encO o) v c) : Sx.Own e 35 ((([o] : List PO).map encO).flatten) v c := by simpa using h
def dFix (d : PD) (h : Hsh) : PD := ⟨d.name, d.sys, d.bld, d.args, d.env, d.ins, d.srcs, [⟨sOut, [], true, h⟩]⟩
def dFix2 (d : PD) (h : Hsh) (b : Bs) : PD := ⟨d.name, d.sys, b, d.args, [], [], d.srcs, [⟨sOut, [], true, h⟩]⟩
theorem dFix_big {d : PD} {h : Hsh} (hb : big2 d ≤ 16000) : big2 (dFix d h) ≤ 20000 := by
  unfold big2 big1 at hb ⊢
  simp only [dFix, List.map_cons, List.map_nil, List.sum_cons, List.sum_nil, List.length_cons, List.length_nil]
  omega
theorem dFix2_big {d : PD} {h : Hsh} {b : Bs} (hb : big2 d ≤ 16000) (hl : b.length ≤ 500) : big2 (dFix2 d h b) ≤ 20000 := by
  unfold big2 big1 at hb ⊢
  simp only [dFix2, List.map_cons, List.map_nil, List.sum_cons, List.sum_nil, List.length_cons, List.length_nil]
  omega
theorem fill_fix {d : PD} {o : PO} (hf : d.outs = [o]) (ho : o.fixed = true) (M : HM) : (fillD M d).outs = [⟨o.name, mkP kFixed o.hash.1 d.name, true, o.hash⟩] := by
  show fillOs M d = _
  unfold fillOs
  rw [hf]
  show [PO.mk o.name (oP (modH M d) d.name o) o.fixed o.hash] = _
  unfold oP
  rw [if_pos ho, ho]
theorem tb_maskK {M : HM} {d : PD} (hb : big2 d ≤ 20000) : chk d = 0 → TB (masked M d) := fun h => tb_maskedK (chk_zero h) hb
attribute [local irreducible] es qt cms hex sum Tbl Half lst isName isPath isDrvP leB chkO chkOuts chkN chkI chkIns firstE spA spB spE chkS chkV dtext chk chk0 tTs modE modH fixT isFix hget mIv mkP mkE outP outE oP oE fVv big1 big2 heavyP fillE fillR fillD
theorem drvFixed_con (d : PD) (x : DV) (hs : List UInt8) (bb : Bs) (w : World) (h : DR w d x) (sz : Szd d) (hh : hs.length = 32) (hbb : bb.length ≤ 140737488351232) : Con Tryz.prog 8 [dval d x, .agg (ints hs).toArray, .string (bs bb)] w [] fun u _ => u = .bool true := by
  refine con_of_tree mix Tryz.func8 T8_ok (by kernel_rfl) ?_
  unfold T8
  refine j_box (l := dcells d x) rfl (fun g0 hg0 hs0 => ?_)
  refine j_box (l := ints hs) rfl (fun g1 hg1 hs1 => ?_)
  refine j_q (qs_ac) ?_
  refine j_q (qs_loadw (l := dcells d x) 1 Tryz.underlying28 rfl sz28 rfl rfl rfl) ?_
  refine j_q (qs_call ent11 rfl rfl rfl (fun w' hw' => heavy_con d x w' (h.keep hw') sz)) ?_
  refine j_g rfl (fun hb => qs_mt rfl) ?_
  refine j_g rfl (fun hb => qs_lens Tryz.underlying9 (gd_eq hb)) ?_
  refine j_g rfl (fun hb => qs_gtr (gd_eq hb) rfl) ?_
  refine j_q (qs_or rfl rfl) ?_
  refine j_cond rfl (fun hc0 => ?_) (fun hc0 => ?_)
  · skip
    refine j_q (qs_ac) ?_
    refine j_ret_con (vs := [_]) (fun w' hw' => ⟨rfl, trivial⟩) ?_
    rfl
  · skip
    have hb := heavy4_no hc0
    have hbl : bb.length ≤ 500 := by
      simp only [bnA] at *
      omega
    have few1 := (few_of (Nat.le_trans hb.2 (by decide))).nm
    refine j_q (qs_loadw (l := dcells d x) 1 Tryz.underlying28 rfl sz28 rfl rfl rfl) ?_
    refine j_call0 ent12 rfl rfl rfl (fun w' hw' => dclone_con d x w' (h.keep hw') hb.2) (fun u S2 hu => ?_)
    obtain ⟨y, rfl, hone, hDR⟩ := hu
    refine j_perm (S' := [S2.flatten, [(g1, .cells (ints hs).toArray 51 (0, 0))], [(g0, .cells (dcells d x).toArray 28 (0, 0))], []]) (by simp) ?_
    refine j_storew (l := dcells d x) (vs := dcells d y) 2 sz28 rfl rfl rfl hone rfl rfl ?_
    refine j_q (qs_loadw (l := ints hs) 1 Tryz.underlying51 rfl sz51 rfl rfl (by rw [ints_length]; exact hh)) ?_
    refine j_q (bld53 rfl hh) ?_
    refine j_litw (vs := encO (⟨sOut, [], true, ⟨hs, hh⟩⟩ : PO)) Tryz.underlying26 sz53 zero53 rfl rfl ⟨encO_len _, by decide, by decide⟩ (fun g15 hg15 ho15 => ?_)
    refine j_q (qs_field Tryz.underlying28 rfl sz26 (by decide) rfl) ?_
    refine j_store (g := g0) (i := 7) (l := dcells d y) (v := .slice (some ⟨g15, 0, none⟩) 1 1) 3 sz26 rfl rfl rfl rfl (by simp [dcells]) (by simp) ?_
    refine j_subl (S' := [[(g15, .cells (encO (⟨sOut, [], true, ⟨hs, hh⟩⟩ : PO)).toArray 53 (0, 0))], S2.flatten, [(g1, .cells (ints hs).toArray 51 (0, 0))], [(g0, .cells ([.string (bs d.name), .string (bs d.sys), .string (bs d.bld), y.va, y.ve, y.vi, y.vs, .slice (some ⟨g15, 0, none⟩) 1 1] : List Value).toArray 28 (0, 0))], []]) (by repeat first | exact slR _ | exact slN _ | apply slC | apply slD) ?_
    refine j_q (qs_loadw (l := dcells (dFix d ⟨hs, hh⟩) (⟨y.va, y.ve, y.vi, y.vs, .slice (some ⟨g15, 0, none⟩) 1 1, y.mi⟩ : DV)) 3 Tryz.underlying28 rfl sz28 rfl rfl rfl) ?_
    refine j_call0 ent21 rfl rfl rfl (fun w' hw' => fill_con (dFix d ⟨hs, hh⟩) (⟨y.va, y.ve, y.vi, y.vs, .slice (some ⟨g15, 0, none⟩) 1 1, y.mi⟩ : DV) [] (.map none) w' ⟨(hDR w' (fun p hp => hw'.own p (mem_flatten_of (k := 1) rfl hp))).a, (hDR w' (fun p hp => hw'.own p (mem_flatten_of (k := 1) rfl hp))).e, (hDR w' (fun p hp => hw'.own p (mem_flatten_of (k := 1) rfl hp))).i, (hDR w' (fun p hp => hw'.own p (mem_flatten_of (k := 1) rfl hp))).io, (hDR w' (fun p hp => hw'.own p (mem_flatten_of (k := 1) rfl hp))).im, (hDR w' (fun p hp => hw'.own p (mem_flatten_of (k := 1) rfl hp))).s, rsln_ownw (own1 ho15) (by decide) (flat_len encO_len _) (fun p hp => hw'.own p (mem_flatten_of (k := 0) rfl hp))⟩ mapr_nil (Nat.le_trans (dFix_big hb.2) (by decide)) sz.outs2 (tb_maskK (dFix_big hb.2))) (fun u S2 hu => ?_)
    unfold FillPost at hu
    obtain ⟨x19, cO19, cI19, FI19, cS19, cA19, cV19, rfl, rfl, ho19⟩ := hu
    refine j_q (qs_ext (vs := [dval (fillR [] (dFix d ⟨hs, hh⟩)) x19, .int .i64 (fillE [] (dFix d ⟨hs, hh⟩))]) rfl rfl) ?_
    refine j_q (qs_ext (vs := [dval (fillR [] (dFix d ⟨hs, hh⟩)) x19, .int .i64 (fillE [] (dFix d ⟨hs, hh⟩))]) rfl rfl) ?_
    refine j_alloc zero28z (fun g22 hg22 hs22 => ?_)
    refine j_storew (l := dcells pdZ dvZ) (vs := dcells (fillR [] (dFix d ⟨hs, hh⟩)) x19) 0 sz28 rfl rfl rfl ho19.one rfl rfl ?_
    refine j_q (qs_neq rfl rfl) ?_
    refine j_cond rfl (fun hc1 => ?_) (fun hc1 => ?_)
    · skip
      refine j_q (qs_call ent18 rfl rfl rfl (fun w' hw' => known_con w')) ?_
      refine j_ret_con (vs := [_]) (fun w' hw' => ⟨rfl, trivial⟩) ?_
      rfl
    · skip
      have hf1 : fillE [] (dFix d ⟨hs, hh⟩) = 0 := by simpa using hc1
      rw [fill_ok hf1] at ho19 ⊢
      refine j_q (qs_field Tryz.underlying28 rfl sz9 (by decide) rfl) ?_
      refine j_store (g := g0) (i := 2) (l := [.string (bs d.name), .string (bs d.sys), .string (bs d.bld), y.va, y.ve, y.vi, y.vs, .slice (some ⟨g15, 0, none⟩) 1 1]) (v := .string (bs bb)) 10 sz9 rfl rfl rfl rfl (by simp) (by simp) ?_
      refine j_q (qs_field Tryz.underlying28 rfl sz24 (by decide) rfl) ?_
      refine j_store (g := g0) (i := 5) (l := [.string (bs d.name), .string (bs d.sys), .string (bs bb), y.va, y.ve, y.vi, y.vs, .slice (some ⟨g15, 0, none⟩) 1 1]) (v := .slice none 0 0) 10 sz24 rfl rfl rfl rfl (by simp) (by simp) ?_
      refine j_q (qs_field Tryz.underlying28 rfl sz23 (by decide) rfl) ?_
      refine j_store (g := g0) (i := 4) (l := [.string (bs d.name), .string (bs d.sys), .string (bs bb), y.va, y.ve, .slice none 0 0, y.vs, .slice (some ⟨g15, 0, none⟩) 1 1]) (v := .slice none 0 0) 10 sz23 rfl rfl rfl rfl (by simp) (by simp) ?_
      refine j_q (qs_loadw (l := dcells (dFix2 d ⟨hs, hh⟩ bb) (⟨y.va, .slice none 0 0, .slice none 0 0, y.vs, .slice (some ⟨g15, 0, none⟩) 1 1, []⟩ : DV)) 10 Tryz.underlying28 rfl sz28 rfl rfl rfl) ?_
      refine j_call0 ent21 rfl rfl rfl (fun w' hw' => fill_con (dFix2 d ⟨hs, hh⟩ bb) (⟨y.va, .slice none 0 0, .slice none 0 0, y.vs, .slice (some ⟨g15, 0, none⟩) 1 1, []⟩ : DV) [] (.map none) w' ⟨(hDR w' (fun p hp => hw'.own p (mem_flatten_of (k := 8) rfl hp))).a, ⟨rfl, .inl ⟨rfl, rfl⟩⟩, ⟨rfl, .inl ⟨rfl, rfl⟩⟩, (fun m hm => by cases hm), rfl, (hDR w' (fun p hp => hw'.own p (mem_flatten_of (k := 8) rfl hp))).s, rsln_ownw (own1 ho15) (by decide) (flat_len encO_len _) (fun p hp => hw'.own p (mem_flatten_of (k := 7) rfl hp))⟩ mapr_nil (Nat.le_trans (dFix2_big hb.2 hbl) (by decide)) (fun y hy => by unfold dFix2 at hy; cases hy) (tb_maskK (dFix2_big hb.2 hbl))) (fun u S2 hu => ?_)
      unfold FillPost at hu
      obtain ⟨x33, cO33, cI33, FI33, cS33, cA33, cV33, rfl, rfl, ho33⟩ := hu
      refine j_q (qs_ext (vs := [dval (fillR [] (dFix2 d ⟨hs, hh⟩ bb)) x33, .int .i64 (fillE [] (dFix2 d ⟨hs, hh⟩ bb))]) rfl rfl) ?_
      refine j_q (qs_ext (vs := [dval (fillR [] (dFix2 d ⟨hs, hh⟩ bb)) x33, .int .i64 (fillE [] (dFix2 d ⟨hs, hh⟩ bb))]) rfl rfl) ?_
      refine j_alloc zero28z (fun g36 hg36 hs36 => ?_)
      refine j_storew (l := dcells pdZ dvZ) (vs := dcells (fillR [] (dFix2 d ⟨hs, hh⟩ bb)) x33) 0 sz28 rfl rfl rfl ho33.one rfl rfl ?_
      refine j_q (qs_loadw (l := ints hs) 16 Tryz.underlying51 rfl sz51 rfl rfl (by rw [ints_length]; exact hh)) ?_
      refine j_q (qs_field Tryz.underlying28 rfl sz9 (by decide) rfl) ?_
      refine j_q (qs_load (l := dcells (dFix2 d ⟨hs, hh⟩ bb) (⟨y.va, .slice none 0 0, .slice none 0 0, y.vs, .slice (some ⟨g15, 0, none⟩) 1 1, []⟩ : DV)) (v := .string (bs d.name)) 17 Tryz.underlying9 rfl rfl rfl rfl) ?_
      refine j_q (qs_call ent23 rfl rfl rfl (fun w' hw' => rfixed_con hs d.name w' hh (by omega))) ?_
      refine j_q (qs_ext (vs := [.string (bs (mkP kFixed hs d.name)), .int .i64 (mkE d.name)]) rfl rfl) ?_
      refine j_q (qs_ext (vs := [.string (bs (mkP kFixed hs d.name)), .int .i64 (mkE d.name)]) rfl rfl) ?_
      refine j_q (qs_neq rfl rfl) ?_
      refine j_cond rfl (fun hc2 => ?_) (fun hc2 => ?_)
      · skip
        refine j_q (qs_call ent18 rfl rfl rfl (fun w' hw' => known_con w')) ?_
        refine j_ret_con (vs := [_]) (fun w' hw' => ⟨rfl, trivial⟩) ?_
        rfl
      · skip
        have hf2 : fillE [] (dFix2 d ⟨hs, hh⟩ bb) = 0 := by simpa using hc2
        rw [fill_ok hf2] at ho33 ⊢
        have hoo19 := ho19.o
        rw [fill_fix (o := (⟨sOut, [], true, ⟨hs, hh⟩⟩ : PO)) rfl rfl] at hoo19
        obtain ⟨nA19, AA19, capA19, hvA19, hnA19⟩ := own_form hoo19 (by decide)
        rw [flat_len encO_len] at hnA19
        obtain rfl : nA19 = 1 := by simp at hnA19; omega
        rw [hvA19] at hoo19
        obtain ⟨gA19, rfl⟩ := own_at hoo19 (fl_pos encO_len (by decide) (by simp))
        have hoo33 := ho33.o
        rw [fill_fix (o := (⟨sOut, [], true, ⟨hs, hh⟩⟩ : PO)) rfl rfl] at hoo33
        obtain ⟨nA33, AA33, capA33, hvA33, hnA33⟩ := own_form hoo33 (by decide)
        rw [flat_len encO_len] at hnA33
        obtain rfl : nA33 = 1 := by simp at hnA33; omega
        rw [hvA33] at hoo33
        obtain ⟨gA33, rfl⟩ := own_at hoo33 (fl_pos encO_len (by decide) (by simp))
        refine j_q (qs_field Tryz.underlying28 rfl sz26 (by decide) rfl) ?_
        refine j_q (qs_load (l := dcells (fillD [] (dFix d ⟨hs, hh⟩)) x19) (v := .slice (some ⟨gA19, 0, none⟩) 1 capA19) 7 Tryz.underlying26 rfl rfl rfl (congrArg some hvA19)) ?_
        refine j_q (qs_lenl Tryz.underlying26 rfl) ?_
        refine j_q (qs_eql rfl rfl) ?_
        refine j_g rfl (fun hb => qs_field Tryz.underlying28 rfl sz26 (by decide) rfl) ?_
        refine j_g rfl (fun hb1 => qs_load (l := dcells (fillD [] (dFix2 d ⟨hs, hh⟩ bb)) x33) (v := .slice (some ⟨gA33, 0, none⟩) 1 capA33) 0 Tryz.underlying26 rfl (gd_eq hb1) rfl (congrArg some hvA33)) ?_
        refine j_g rfl (fun hb => qs_lenl Tryz.underlying26 (gd_eq hb)) ?_
        refine j_g rfl (fun hb => qs_eql (gd_eq hb) rfl) ?_
        refine j_q (qs_and rfl rfl) ?_
        refine j_g rfl (fun hb => qs_field Tryz.underlying28 rfl sz26 (by decide) rfl) ?_
        refine j_g rfl (fun hb1 => qs_load (l := dcells (fillD [] (dFix d ⟨hs, hh⟩)) x19) (v := .slice (some ⟨gA19, 0, none⟩) 1 capA19) 7 Tryz.underlying26 rfl (gd_eq hb1) rfl (congrArg some hvA19)) ?_
        refine j_g rfl (fun hb1 => qs_ixn (g := gA19) (off := 0) (i := 0) Tryz.underlying26 sz53 (gd_eq hb1) rfl (by decide)) ?_
        refine j_g rfl (fun hb => qs_field Tryz.underlying53 rfl sz49 (by decide) (gd_eq hb)) ?_
        refine j_g rfl (fun hb1 => qs_loadrec (v := .string (bs (mkP kFixed hs d.name))) (encA := encO) (rs := [(⟨sOut, mkP kFixed hs d.name, true, ⟨hs, hh⟩⟩ : PO)]) (d := o0) (i := 0) (fo := 1) encO_len (own_rd hoo19 10 rfl) (by simp) Tryz.underlying49 rfl (gd_eq hb1) rfl) ?_
        refine j_g rfl (fun hb => qs_mt rfl) ?_
        refine j_g rfl (fun hb => qs_seql (gd_eq hb) (gd_eq hb)) ?_
        refine j_q (qs_and rfl rfl) ?_
        refine j_g rfl (fun hb => qs_field Tryz.underlying28 rfl sz26 (by decide) rfl) ?_
        refine j_g rfl (fun hb1 => qs_load (l := dcells (fillD [] (dFix2 d ⟨hs, hh⟩ bb)) x33) (v := .slice (some ⟨gA33, 0, none⟩) 1 capA33) 0 Tryz.underlying26 rfl (gd_eq hb1) rfl (congrArg some hvA33)) ?_
        refine j_g rfl (fun hb1 => qs_ixn (g := gA33) (off := 0) (i := 0) Tryz.underlying26 sz53 (gd_eq hb1) rfl (by decide)) ?_
        refine j_g rfl (fun hb => qs_field Tryz.underlying53 rfl sz49 (by decide) (gd_eq hb)) ?_
        refine j_g rfl (fun hb1 => qs_loadrec (v := .string (bs (mkP kFixed hs d.name))) (encA := encO) (rs := [(⟨sOut, mkP kFixed hs d.name, true, ⟨hs, hh⟩⟩ : PO)]) (d := o0) (i := 0) (fo := 1) encO_len (own_rd hoo33 3 rfl) (by simp) Tryz.underlying49 rfl (gd_eq hb1) rfl) ?_
        refine j_g rfl (fun hb => qs_mt rfl) ?_
        refine j_g rfl (fun hb => qs_seql (gd_eq hb) (gd_eq hb)) ?_
        refine j_q (qs_and rfl rfl) ?_
        refine j_g rfl (fun hb1 => qs_call ent18 rfl rfl rfl (fun w' hw' => known_con w')) ?_
        refine j_q (qs_and rfl rfl) ?_
        refine j_ret_con (vs := [_]) (fun w' hw' => ⟨rfl, trivial⟩) ?_
        show Value.bool _ = Value.bool true
        simp
end Go.Proofs.YtfeabbeebkkhaaaGreat
/-! Arg14 -/
namespace Go.Proofs.YtfeabbeebkkhaaaGreat
open Go Go.Sx Go.ChangeShapes Go.WideShapes Go.ChangeAt Go.RowKit
set_option linter.unusedVariables false
set_option maxRecDepth 100000
theorem weights_at {H : Type} {P : Program} {ts : List TypeId} {ds : List (DataW H)} (h : (DataW.weightsEach P ts ds).all (· ≤ reachBytes) = true) {j : Nat} {t : TypeId} {d : DataW H} (ht : ts[j]? = some t) (hd : ds[j]? = some d) : (d.weights P t).all (· ≤ reachBytes) = true :=
  List.all_eq_true.2 fun n hn => List.all_eq_true.1 h n (DataW.weights_mem_each ht hd n hn)
theorem weights_all {H : Type} {P : Program} {e : TypeId} : ∀ (l : List (DataW H)), (DataW.weightsAll P e l).all (· ≤ reachBytes) = true → ∀ d ∈ l, (d.weights P e).all (· ≤ reachBytes) = true
  | [], _, d, hd => by cases hd
  | d :: l, hh, d', hd' => by
    unfold DataW.weightsAll at hh
    rw [List.all_append, Bool.and_eq_true] at hh
    rcases List.mem_cons.1 hd' with rfl | hd'
    · exact hh.1
    · exact weights_all l hh.2 d' hd'
theorem cell_spot {w : World} {a : Addr} {v : Value} (h : w.cell? a = some v) : a.spot = none ∧ a.block < w.heap.size := by
  unfold World.cell? at h
  split at h
  · rename_i hh
    refine ⟨?_, (Array.getElem?_eq_some_iff.1 hh).1⟩
    cases hs : a.spot with
    | none => rfl
    | some s => rw [hs] at h; simp at h
  · cases h
section
variable {H : Type} {enc : TypeId × Value → H} {w : World} {b0 : Nat} {sp : Nat → Bool} {held : Bool}
theorem str_weight {s : Bs} {t : TypeId} (ht : Tryz.prog.underlying t = some .string) (hw : ((DataW.lit (.string s) : DataW H).weights Tryz.prog t).all (· ≤ reachBytes) = true) : s.length ≤ 140737488351232 := by
  have hreach : reachBytes = 140737488351232 := rfl
  unfold DataW.weights at hw
  simp only [List.all_cons, List.all_nil, Bool.and_eq_true, decide_eq_true_eq] at hw
  omega
theorem strz_trod {t e : TypeId} (ht : Tryz.prog.underlying t = some (.slice e)) (he : Tryz.prog.underlying e = some .string) (hc : Tryz.prog.cellsOf e = 1) (hb16 : Tryz.prog.bytesOf e = 16) (fuel : Nat) (cs : List Value) (y : DataW H × List MemPlace) (h : DataW.trod enc Tryz.prog w b0 sp held fuel t cs = some y) (hw : (y.1.weights Tryz.prog t).all (· ≤ reachBytes) = true) :
    ∃ v rs, cs = [v] ∧ StrZ w v rs ∧ rs.length ≤ 140737488351232 ∧ ∀ o ∈ rs, o.length ≤ 140737488351232 := by
  rcases open_strings ht he hc h with ⟨hcs, _⟩ | ⟨a, len, cap, ss, hcs, hb, hl, hm, hz, hx, hcell, hsz⟩
  · exact ⟨_, [], hcs, strz_nil, Nat.zero_le _, fun o ho => by cases ho⟩
  · have hlen : len ≤ ss.length := by rw [hz]; split <;> omega
    have hll : ((ss.take len).map fun s => s.data.toList).length = len := by simp [Nat.min_eq_left hlen]
    have hreach : reachBytes = 140737488351232 := rfl
    rw [hx] at hw
    unfold DataW.weights at hw
    simp only [ht, List.all_cons, Bool.and_eq_true, decide_eq_true_eq, List.all_append] at hw
    obtain ⟨hw1, hw2, _⟩ := hw
    have hl1 : (Go.ChangeShapes.strs (ss.take len) : List (DataW H)).length = len := by simp [Go.ChangeShapes.strs, Nat.min_eq_left hlen]
    rw [hb16, hl1] at hw1
    refine ⟨_, (ss.take len).map fun s => s.data.toList, hcs, ⟨some a, cap, by rw [hll], by rw [hll]; exact hl, fun h0 => ?_, fun e => by cases e⟩, by rw [hll]; omega, fun o ho => ?_⟩
    · rw [hll] at h0
      have h1 := cell_spot (hcell 0 (by omega))
      obtain ⟨g, off, spot⟩ := a
      obtain ⟨h2, h3⟩ := h1
      have h4 : spot = none := h2
      subst h4
      refine ⟨g, off, rfl, h3, fun j u hu => ?_⟩
      simp only [Sx.strs, List.map_map, List.getElem?_map] at hu
      cases hj : (ss.take len)[j]? with
      | none => rw [hj] at hu; simp at hu
      | some s =>
        rw [hj] at hu
        simp only [Option.map_some, Option.some.injEq, Function.comp] at hu
        subst hu
        have hj2 : ss[j]? = some s := by
          rw [List.getElem?_take] at hj
          split at hj
          · exact hj
          · cases hj
        have hlt := (List.getElem?_eq_some_iff.1 hj2).1
        have h5 := hcell j hlt
        rw [h5, ← bs_of]
        simp [List.getD_eq_getElem?_getD, hj2]
    · obtain ⟨s, hs, rfl⟩ := List.mem_map.1 ho
      exact str_weight he (weights_all _ hw2 (.lit (.string s.data.toList)) (by unfold Go.ChangeShapes.strs; exact List.mem_map.2 ⟨s, hs, rfl⟩))
def okV (x : PV) : Prop := x.name.length ≤ 140737488351232 ∧ x.val.length ≤ 140737488351232
theorem env_trod (fuel : Nat) (cs : List Value) (y : DataW H × List MemPlace) (h : DataW.trod enc Tryz.prog w b0 sp held fuel 48 cs = some y) (hw : (y.1.weights Tryz.prog 48).all (· ≤ reachBytes) = true) : ∃ a : PV, okV a ∧ cs = encV a := by
  obtain ⟨y0, y1, n, rfl, hl, h0, h1⟩ := trod_struct2 Tryz.underlying48 h
  have hc : Tryz.prog.cellsOf 48 = 2 := by kernel_rfl
  have e9 : Tryz.prog.cellsOf 9 = 1 := by kernel_rfl
  rw [hc] at hl
  match cs, hl with
  | [c0, c1], _ =>
    simp only [e9, List.drop_zero, List.take_succ_cons, List.take_zero, List.drop_succ_cons] at h0 h1
    obtain ⟨s0, hs0, e0, w0⟩ := DataW.trod_string Tryz.underlying9 h0
    obtain ⟨s1, hs1, e1, w1⟩ := DataW.trod_string Tryz.underlying9 h1
    injection hs0 with hs0
    injection hs1 with hs1
    subst hs0 hs1 e0 e1
    unfold DataW.weights at hw
    rw [Tryz.underlying48] at hw
    simp only [List.map_cons, List.map_nil, DataW.weightsEach, List.all_append, List.all_nil, Bool.and_eq_true] at hw
    exact ⟨⟨s0.data.toList, s1.data.toList⟩, ⟨str_weight Tryz.underlying9 hw.1, str_weight Tryz.underlying9 hw.2.1⟩, by unfold encV; simp only [← bs_of]⟩
def okMI (w : World) (x : MI) : Prop := StrZ w x.v x.outs ∧ x.drv.length ≤ 140737488351232 ∧ x.outs.length ≤ 140737488351232 ∧ ∀ o ∈ x.outs, o.length ≤ 140737488351232
theorem ins_trod (fuel : Nat) (cs : List Value) (y : DataW H × List MemPlace) (h : DataW.trod enc Tryz.prog w b0 sp held fuel 68 cs = some y) (hw : (y.1.weights Tryz.prog 68).all (· ≤ reachBytes) = true) : ∃ a : MI, okMI w a ∧ cs = encI a := by
  obtain ⟨y0, y1, n, rfl, hl, h0, h1⟩ := trod_struct2 Tryz.underlying68 h
  have hc : Tryz.prog.cellsOf 68 = 2 := by kernel_rfl
  have e49 : Tryz.prog.cellsOf 49 = 1 := by kernel_rfl
  have e22 : Tryz.prog.cellsOf 22 = 1 := by kernel_rfl
  rw [hc] at hl
  match cs, hl with
  | [c0, c1], _ =>
    simp only [e49, e22, List.drop_zero, List.take_succ_cons, List.take_zero, List.drop_succ_cons] at h0 h1
    obtain ⟨s0, hs0, e0, w0⟩ := DataW.trod_string Tryz.underlying49 h0
    injection hs0 with hs0
    subst hs0 e0
    unfold DataW.weights at hw
    rw [Tryz.underlying68] at hw
    simp only [List.map_cons, List.map_nil, DataW.weightsEach, List.all_append, List.all_nil, Bool.and_eq_true] at hw
    obtain ⟨v, rs, hv, hz, hn, ho⟩ := strz_trod Tryz.underlying22 Tryz.underlying9 (by kernel_rfl) (by kernel_rfl) _ _ _ h1 hw.2.1
    injection hv with hv
    subst hv
    exact ⟨⟨s0.data.toList, rs, c1⟩, ⟨hz, str_weight Tryz.underlying49 hw.1, hn, ho⟩, by unfold encI; simp only [← bs_of]⟩
theorem split35 {cs : List Value} (h : cs.length = 35) : cs = cs.take 1 ++ ((cs.drop 1).take 1 ++ ((cs.drop 2).take 1 ++ (cs.drop 3).take 32)) := by
  have h3 : (cs.drop 3).take 32 = cs.drop 3 := List.take_of_length_le (by simp; omega)
  have e2 : (cs.drop 2).take 1 ++ cs.drop 3 = cs.drop 2 := by
    have := List.take_append_drop 1 (cs.drop 2)
    rwa [List.drop_drop] at this
  have e1 : (cs.drop 1).take 1 ++ cs.drop 2 = cs.drop 1 := by
    have := List.take_append_drop 1 (cs.drop 1)
    rwa [List.drop_drop] at this
  rw [h3, e2, e1, List.take_append_drop]
theorem hash_trod {n : Nat} {cs : List Value} {y : DataW H × List MemPlace} (hl : cs.length = 32) (h : DataW.trod enc Tryz.prog w b0 sp held n 51 cs = some y) : ∃ l : Hsh, cs = ints l.1 := by
  obtain ⟨xs, m, _, _, _, hxl, hel⟩ := DataW.trod_array Tryz.underlying51 h
  have e5 : Tryz.prog.cellsOf 5 = 1 := by kernel_rfl
  have each : ∀ i, i < 32 → ∃ k : Int, cs[i]? = some (.int .u8 k) ∧ 0 ≤ k ∧ k ≤ 255 := fun i hi => by
    have h1 := hel i hi
    obtain ⟨z, hz⟩ : ∃ z, xs[i]? = some z := ⟨_, List.getElem?_eq_getElem (by omega)⟩
    rw [hz, e5, Nat.mul_one] at h1
    obtain ⟨k, hk, _, hwf⟩ := DataW.trod_int Tryz.underlying5 h1
    have h2 : cs[i]? = some (.int .u8 k) := by
      have := congrArg (fun l => l[0]?) hk
      simp only [List.getElem?_take, List.getElem?_drop, List.getElem?_cons_zero, Nat.add_zero] at this
      simpa using this
    have h3 : IntKind.u8.min = 0 := rfl
    have h4 : IntKind.u8.max = 255 := rfl
    simp only [Lit.wf, h3, h4, Bool.and_eq_true, decide_eq_true_eq] at hwf
    exact ⟨k, h2, hwf.1, hwf.2⟩
  refine ⟨⟨cs.map (fun v => match v with | .int _ m => by8 m | _ => 0), by rw [List.length_map, hl]⟩, ?_⟩
  apply List.ext_getElem?
  intro i
  by_cases hi : i < 32
  · obtain ⟨k, h1, h2, h3⟩ := each i hi
    have hw : IntKind.u8.wrap k = k := by rw [IntKind.wrap_u8]; omega
    rw [ints_get, List.getElem?_map, h1]
    simp only [Option.map_some]
    rw [← wrap_by8, hw]
  · rw [List.getElem?_eq_none (by omega), List.getElem?_eq_none (by rw [ints_length, List.length_map]; omega)]
def okO (x : PO) : Prop := x.name.length ≤ 140737488351232 ∧ x.path.length ≤ 140737488351232
theorem outs_trod (fuel : Nat) (cs : List Value) (y : DataW H × List MemPlace) (h : DataW.trod enc Tryz.prog w b0 sp held fuel 53 cs = some y) (hw : (y.1.weights Tryz.prog 53).all (· ≤ reachBytes) = true) : ∃ a : PO, okO a ∧ cs = encO a := by
  obtain ⟨y0, y1, y2, y3, n, rfl, hl, h0, h1, h2, h3⟩ := Go.Joins.trod_struct4 Tryz.underlying53 h
  have hc : Tryz.prog.cellsOf 53 = 35 := by kernel_rfl
  have e9 : Tryz.prog.cellsOf 9 = 1 := by kernel_rfl
  have e49 : Tryz.prog.cellsOf 49 = 1 := by kernel_rfl
  have e4 : Tryz.prog.cellsOf 4 = 1 := by kernel_rfl
  have e51 : Tryz.prog.cellsOf 51 = 32 := by kernel_rfl
  rw [hc] at hl
  simp only [e9, e49, e4, e51, List.drop_zero] at h0 h1 h2 h3
  obtain ⟨s0, hs0, e0, w0⟩ := DataW.trod_string Tryz.underlying9 h0
  obtain ⟨s1, hs1, e1, w1⟩ := DataW.trod_string Tryz.underlying49 h1
  obtain ⟨b2, hb2, _⟩ := DataW.trod_bool Tryz.underlying4 h2
  obtain ⟨l, hl3⟩ := hash_trod (by simp; omega) h3
  subst e0 e1
  unfold DataW.weights at hw
  rw [Tryz.underlying53] at hw
  simp only [List.map_cons, List.map_nil, DataW.weightsEach, List.all_append, List.all_nil, Bool.and_eq_true] at hw
  refine ⟨⟨s0.data.toList, s1.data.toList, b2, l⟩, ⟨str_weight Tryz.underlying9 hw.1, str_weight Tryz.underlying49 hw.2.1⟩, ?_⟩
  rw [split35 hl, hs0, hs1, hb2, hl3]
  unfold encO
  simp only [← bs_of]
  rfl
theorem trod_struct8 {P : Program} {t : TypeId} {f0 f1 f2 f3 f4 f5 f6 f7 : Field} {fuel : Nat} {cs : List Value} {x : DataW H × List MemPlace} (ht : P.underlying t = some (.struct #[f0, f1, f2, f3, f4, f5, f6, f7])) (h : DataW.trod enc P w b0 sp held fuel t cs = some x) :
    ∃ (y0 y1 y2 y3 y4 y5 y6 y7 : DataW H × List MemPlace) (n : Nat), x.1 = .agg [y0.1, y1.1, y2.1, y3.1, y4.1, y5.1, y6.1, y7.1] ∧ cs.length = P.cellsOf t ∧ DataW.trod enc P w b0 sp held n f0.type ((cs.drop f0.offset).take (P.cellsOf f0.type)) = some y0 ∧
      DataW.trod enc P w b0 sp held n f1.type ((cs.drop f1.offset).take (P.cellsOf f1.type)) = some y1 ∧ DataW.trod enc P w b0 sp held n f2.type ((cs.drop f2.offset).take (P.cellsOf f2.type)) = some y2 ∧
      DataW.trod enc P w b0 sp held n f3.type ((cs.drop f3.offset).take (P.cellsOf f3.type)) = some y3 ∧ DataW.trod enc P w b0 sp held n f4.type ((cs.drop f4.offset).take (P.cellsOf f4.type)) = some y4 ∧
      DataW.trod enc P w b0 sp held n f5.type ((cs.drop f5.offset).take (P.cellsOf f5.type)) = some y5 ∧ DataW.trod enc P w b0 sp held n f6.type ((cs.drop f6.offset).take (P.cellsOf f6.type)) = some y6 ∧
      DataW.trod enc P w b0 sp held n f7.type ((cs.drop f7.offset).take (P.cellsOf f7.type)) = some y7 := by
  obtain ⟨xs, n, _, rfl, hl, hlen, hf⟩ := DataW.trod_struct ht h
  match xs, hlen with
  | [y0, y1, y2, y3, y4, y5, y6, y7], _ => exact ⟨y0, y1, y2, y3, y4, y5, y6, y7, n, by simp, hl, by simpa using hf 0 f0 rfl, by simpa using hf 1 f1 rfl, by simpa using hf 2 f2 rfl, by simpa using hf 3 f3 rfl, by simpa using hf 4 f4 rfl, by simpa using hf 5 f5 rfl, by simpa using hf 6 f6 rfl, by simpa using hf 7 f7 rfl⟩
theorem list8 {cs : List Value} (h : cs.length = 8) : ∃ c0 c1 c2 c3 c4 c5 c6 c7, cs = [c0, c1, c2, c3, c4, c5, c6, c7] := by
  match cs, h with
  | [c0, c1, c2, c3, c4, c5, c6, c7], _ => exact ⟨c0, c1, c2, c3, c4, c5, c6, c7, rfl⟩
end
theorem open_drv {H : Type} {enc : TypeId × Value → H} {w : World} {r : Go.Reach} {base b0 : Nat} {sp : Nat → Bool} {held : Bool} {v : Value} {x : DataW H × List MemPlace} (hv : Value.okWide Tryz.prog w r base 28 v)
    (h : ∃ fuel, DataW.trod enc Tryz.prog w b0 sp held fuel 28 v.cells.toList = some x) (hw : (x.1.weights Tryz.prog 28).all (· ≤ reachBytes) = true) : ∃ d dv, v = dval d dv ∧ DR w d dv ∧ Szd d := by
  obtain ⟨fuel, hf⟩ := h
  have hvO := hv
  unfold Value.okWide at hvO
  simp only [Tryz.underlying28] at hvO
  obtain ⟨cs, rfl, hsz, ts, hts, _, hall⟩ := hvO
  have hct : Tryz.prog.cellTypes Tryz.prog.depth 28 = some [9, 9, 9, 22, 23, 24, 25, 26] := by kernel_rfl
  rw [hct] at hts
  injection hts with hts
  subst hts
  have hcells : (Value.agg cs).cells.toList = cs.toList := rfl
  rw [hcells] at hf
  obtain ⟨y0, y1, y2, y3, y4, y5, y6, y7, n, hx, hl, h0, h1, h2, h3, h4, h5, h6, h7⟩ := trod_struct8 Tryz.underlying28 hf
  have e28 : Tryz.prog.cellsOf 28 = 8 := by kernel_rfl
  have e9 : Tryz.prog.cellsOf 9 = 1 := by kernel_rfl
  have e22 : Tryz.prog.cellsOf 22 = 1 := by kernel_rfl
  have e23 : Tryz.prog.cellsOf 23 = 1 := by kernel_rfl
  have e24 : Tryz.prog.cellsOf 24 = 1 := by kernel_rfl
  have e25 : Tryz.prog.cellsOf 25 = 1 := by kernel_rfl
  have e26 : Tryz.prog.cellsOf 26 = 1 := by kernel_rfl
  rw [e28] at hl
  obtain ⟨c0, c1, c2, c3, c4, c5, c6, c7, hcs⟩ := list8 hl
  have hcsA : cs = #[c0, c1, c2, c3, c4, c5, c6, c7] := by apply Array.ext'; exact hcs
  subst hcsA
  clear hcs
  simp only [e9, e22, e23, e24, e25, e26, List.drop_zero, List.take_succ_cons, List.take_zero, List.drop_succ_cons] at h0 h1 h2 h3 h4 h5 h6 h7
  obtain ⟨s0, hs0, q0, w0⟩ := DataW.trod_string Tryz.underlying9 h0
  obtain ⟨s1, hs1, q1, w1⟩ := DataW.trod_string Tryz.underlying9 h1
  obtain ⟨s2, hs2, q2, w2⟩ := DataW.trod_string Tryz.underlying9 h2
  injection hs0 with hs0
  injection hs1 with hs1
  injection hs2 with hs2
  subst hs0 hs1 hs2 q0 q1 q2
  rw [hx] at hw
  unfold DataW.weights at hw
  rw [Tryz.underlying28] at hw
  simp only [List.map_cons, List.map_nil, DataW.weightsEach, List.all_append, List.all_nil, Bool.and_eq_true] at hw
  obtain ⟨k0, k1, k2, k3, k4, k5, k6, k7, _⟩ := hw
  have okv : ∀ (i : Nat) (t : TypeId) (c : Value) (e : TypeId), (#[Value.string s0, .string s1, .string s2, c3, c4, c5, c6, c7] : Array Value)[i]? = some c → ([9, 9, 9, 22, 23, 24, 25, 26] : List TypeId)[i % 8]? = some t → Tryz.prog.underlying t = some (.slice e) → Value.okWide Tryz.prog w r base t c := fun i t c e hi ht hu => by
    obtain ⟨u, hu1, hu2⟩ := hall i c hi
    have : ([9, 9, 9, 22, 23, 24, 25, 26] : List TypeId).length = 8 := rfl
    rw [this, ht] at hu1
    injection hu1 with hu1
    subst hu1
    unfold Value.okWide
    simp only [hu]
    exact hu2
  obtain ⟨va, args, hva, hza, hna, hoa⟩ := strz_trod Tryz.underlying22 Tryz.underlying9 (by kernel_rfl) (by kernel_rfl) _ _ _ h3 k3
  injection hva with hva
  subst hva
  obtain ⟨vs, srcs, hvs, hzs, hns, hos⟩ := strz_trod Tryz.underlying25 Tryz.underlying49 (by kernel_rfl) (by kernel_rfl) _ _ _ h6 k6
  injection hvs with hvs
  subst hvs
  have okv4 := okv 4 23 c4 48 rfl rfl Tryz.underlying23
  have okv5 := okv 5 24 c5 68 rfl rfl Tryz.underlying24
  have okv7 := okv 7 26 c7 53 rfl rfl Tryz.underlying26
  have cl : ∀ (i : Nat) (t : TypeId) (c : Value) (e : TypeId), Value.okWide Tryz.prog w r base t c → Tryz.prog.underlying t = some (.slice e) → c.cells.toList = [c] := fun i t c e ho hu => by
    obtain ⟨a, l, cap, rfl⟩ := okWide_slice hu ho
    rfl
  obtain ⟨env, he1, he2, he3⟩ := open_sln (α := PV) encV okV encV_len (by decide) Tryz.underlying23 (by kernel_rfl) okv4 env_trod ⟨n, by rw [cl 4 23 c4 48 okv4 Tryz.underlying23]; exact h4⟩ k4
  obtain ⟨mi, hi1, hi2, hi3⟩ := open_sln (α := MI) encI (okMI w) encI_len (by decide) Tryz.underlying24 (by kernel_rfl) okv5 ins_trod ⟨n, by rw [cl 5 24 c5 68 okv5 Tryz.underlying24]; exact h5⟩ k5
  obtain ⟨outs, ho1, ho2, ho3⟩ := open_sln (α := PO) encO okO encO_len (by decide) Tryz.underlying26 (by kernel_rfl) okv7 outs_trod ⟨n, by rw [cl 7 26 c7 53 okv7 Tryz.underlying26]; exact h7⟩ k7
  have b48 : Tryz.prog.bytesOf 48 = 32 := by kernel_rfl
  have b68 : Tryz.prog.bytesOf 68 = 40 := by kernel_rfl
  have b53 : Tryz.prog.bytesOf 53 = 72 := by kernel_rfl
  have hreach : reachBytes = 140737488351232 := rfl
  rw [b48] at he3
  rw [b68] at hi3
  rw [b53] at ho3
  refine ⟨⟨s0.data.toList, s1.data.toList, s2.data.toList, args, env, mi.map MI.pi, srcs, outs⟩, ⟨c3, c4, c5, c6, c7, mi⟩, by unfold dval dcells; simp only [← bs_of], ⟨hza, he1, hi1, fun m hm => (hi2 m hm).1, rfl, hzs, ho1⟩, ?_⟩
  have a0 := str_weight Tryz.underlying9 k0
  have a1 := str_weight Tryz.underlying9 k1
  have a2 := str_weight Tryz.underlying9 k2
  refine ⟨by show s0.data.toList.length ≤ _; omega, by show s1.data.toList.length ≤ _; omega, by show s2.data.toList.length ≤ _; omega, fun y hy => by have := hoa y hy; omega, fun y hy => by have := he2 y hy; unfold okV at this; omega, fun y hy => ?_, fun y hy => by have := ho2 y hy; unfold okO at this; omega, fun y hy => by have := hos y hy; omega, by show args.length ≤ _; omega, by show env.length ≤ _; omega, by show (mi.map MI.pi).length ≤ _; rw [List.length_map]; omega, by show outs.length ≤ _; omega, by show srcs.length ≤ _; omega⟩
  obtain ⟨m, hm, rfl⟩ := List.mem_map.1 hy
  obtain ⟨_, g1, g2, g3⟩ := hi2 m hm
  exact ⟨by show m.drv.length ≤ _; omega, by show m.outs.length ≤ _; omega, fun o ho => by have := g3 o ho; omega⟩
end Go.Proofs.YtfeabbeebkkhaaaGreat
/-! SxT -/
namespace Go.Sx
open Go Go.ChangeShapes Go.WideShapes Go.ChangeAt Go.RowKit
set_option linter.unusedVariables false
end Go.Sx
/-! RowB -/
namespace Go.Proofs.YtfeabbeebkkhaaaGreat
open Go Go.Sx Go.ChangeShapes Go.WideShapes Go.ChangeAt Go.RowKit
set_option linter.unusedVariables false
theorem own_drvFixed : ownKnob Tryz.prog.godebug = none := by kernel_rfl
theorem laid_drvFixed : laidOutB Tryz.prog = true := by kernel_rfl
set_option maxRecDepth 100000 in
theorem drvFixed_lifted (os : Os) (started : os.Started) (H : Type) (enc : TypeId × Value → H) :
    ReturnsInHanded {} Tryz.checked os 8 .any (Rows.drvFixedSpec.pre6 enc Tryz.prog Tryz.f8 Rows.drvFixedRow.domain false) (Rows.drvFixedSpec.post enc Tryz.prog Tryz.f8 false true false false) := by
  refine returnsInHanded_of_change_sized (C := Tryz.checked) own_drvFixed started (by kernel_rfl) Tryz.func8
    (ChangeSpec.witness6 (enc := enc) (C := Tryz.checked) false ⟨#[], #[.agg #[.string ⟨#[]⟩, .string ⟨#[]⟩, .string ⟨#[]⟩, .slice none 0 0, .slice none 0 0, .slice none 0 0, .slice none 0 0, .slice none 0 0], .agg (ints (List.replicate 32 0)).toArray, .string ⟨#[]⟩], []⟩ 8 (by kernel_rfl) (by kernel_rfl) (by kernel_rfl) (by kernel_rfl)) ?_
  intro W base args ds gs before hval0 hW hcnd hsz0 _
  have hsz : (DataW.weightsEach Tryz.prog (Tryz.f8.params.toList ++ Rows.drvFixedSpec.plain.varTypes Tryz.prog) (ds ++ gs)).all (· ≤ reachBytes) = true := hsz0
  have hreach : reachBytes = 140737488351232 := rfl
  have hval : ∀ (j : Nat) t v, Tryz.f8.params[j]? = some t → args[j]? = some v → Value.okWide Tryz.prog W .any base t v := hval0
  have hW' := hW
  obtain ⟨p, q, hA0, hV, rfl, hfz, hnd⟩ := hW
  have hA : DataW.TrodAll enc Tryz.prog W 0 (fun _ => true) true Tryz.f8.params.toList args.toList ds p := hA0
  rw [Tryz.params8] at hA hval
  obtain ⟨v0, v1, v2, d0, d1, d2, p0, p1, p2, rfl, rfl, rfl, h0, h1, h2⟩ := trodAll_three hA
  obtain ⟨rfl, rfl⟩ := trodVars_none hV
  obtain ⟨a0, x0, rfl, wa0, sz0⟩ := open_drv (hval 0 28 v0 rfl rfl) h0 (weights_at hsz (j := 0) (t := 28) (by rw [Tryz.params8]; rfl) rfl)
  obtain ⟨a1, rfl, wa1⟩ := open_bytes Tryz.underlying51 Tryz.underlying5 (by kernel_rfl) (by kernel_rfl) (hval 1 51 v1 rfl rfl)
  obtain ⟨a2, rfl, rfl, rfl, wa2⟩ := Go.ChangeMaps.open_string Tryz.underlying9 (hval 2 9 v2 rfl rfl) h2
  have wb2 : a2.data.toList.length ≤ reachBytes := sized_string hsz (j := 2) (t := 9) (by rw [Tryz.params8]; rfl) rfl
  clear hA0 hval0
  have hc := drvFixed_con a0 x0 a1 a2.data.toList W wa0 sz0 wa1 (by omega) (by simp) (by simp)
  simp only [← bs_of] at hc
  refine hc.mono fun e W' h => ?_
  obtain ⟨v, S', rfl, rfl, hS⟩ := h
  exact ⟨_, rfl, post_law hW' rfl rfl laid_drvFixed (by decide +kernel) rfl Tryz.underlying4 (below_of_sig hS)⟩
theorem drvFixed_holds : Rows.DrvFixedSaid :=
  OpenClaim.holds_of_wide 8 Tryz.f8 rfl rfl rfl rfl rfl rfl rfl ⟨rfl, rfl, rfl, rfl, rfl⟩ rfl rfl rfl rfl rfl (by kernel_rfl) Tryz.func8 (by kernel_rfl)
    (of_decide_eq_true (by kernel_rfl)) (by unfold Func.isWrapper; first | (rw [if_pos (by decide +kernel)]; kernel_rfl) | (rw [if_neg (by decide +kernel)]; exact ⟨rfl, rfl⟩))
    (fun os started H enc _ => drvFixed_lifted os started H enc)
end Go.Proofs.YtfeabbeebkkhaaaGreat
