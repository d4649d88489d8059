/- Part 12. -/
import Derived.Test.YtfebkkmmagbnlaaGreatDoorPP3
import Derived.Test.YtfebkkmmagbnlaaGreatDoorPP11
import Derived.Test.YtfebkkmmagbnlaaGreatDoorPP4
import Derived.Lib.SmallJoins
import Derived.SizedLaws
import Derived.Test.YtfebkkmmagbnlaaGreatDoorRows
import Derived.ProofKit
import Derived.LaidMore
import Derived.Lib.LaidTab
import Derived.Stop.LaidErr
import Derived.MakeChecks
import Derived.SevenTiedAt
import Derived.Test.YtfebkkmmagbnlaaGreatDoorCards
import Derived.Test.YtfebkkmmagbnlaaGreatDoorTie
import Derived.Carry
/-! Pg19 -/
namespace Go.Proofs.YtfebkkmmagbnlaaGreatDoor
open Go Go.Sx
set_option maxRecDepth 100000
set_option maxHeartbeats 4000000
set_option linter.unusedVariables false
set_option linter.unusedSimpArgs false
attribute [local irreducible] J JQ QS Con W opW
open Go.MapKept Go.WideMaps Go.Maps
abbrev RM0 (g : Nat) : RM := ⟨g, nilS, [], [], nilS, [], [], nilS, [], [], []⟩
theorem rm0_ok (g : Nat) : (RM0 g).Ok := ⟨own_nil, own_nil, own_nil, (fun x hx => by cases hx), (fun x hx => by cases hx), Nat.zero_le _, Nat.zero_le _⟩
theorem rl0 (g : Nat) : Rl Q0 (RM0 g).ab := ⟨rfl, rfl, List.nodup_nil, fun n => by rw [show Q0.ws = List.replicate 256 0 from rfl, bits_rep]; exact Iff.rfl⟩
theorem stp0 {p : PM} {j : JM} {r : FR} {g : Nat} {room : Int} (h : room ≤ 1073741824) (h1 : p.Ok) (h2 : p.ab = Q0) (h3 : p.jp = j.ptr) (h4 : j.Ok ⟨pjName pagesN, 0, gsP [], [], false⟩) (h5 : j.fp = r.ptr) (h6 : r.Ok (AF0 room)) : StP pagesN 0 0 p j r (RM0 g) [] Q0 ⟨pjName pagesN, 0, gsP [], [], false⟩ (AF0 room) :=
  ⟨h1, h2, h3, h4, h5, h6, rm0_ok g, rl0 g, rfl, rfl, PQ.new0 h⟩
theorem StP.chl {nm : List UInt8} {i b : Nat} {p : PM} {j : JM} {r : FR} {z : RM} {G : List (List (Nat × PE))} {q : PAb} {a : JA} {f : AF} (h : StP nm i b p j r z G q a f) : z.ch.length = (bitsL p.ws 0).length ∧ z.ch.length ≤ i ∧ p.c = z.cur.map PV.pe := by
  have h9 : z.ch.length = (bitsL q.ws 0).length := h.rl.len
  have h8 := h.pq.ct
  have h7 : p.ws = q.ws := congrArg PAb.ws h.ab
  rw [h7]
  exact ⟨h9, by omega, (c_ab h.ab).trans h.rl.c.symm⟩
theorem pPlays_con (rs : List SJ) (vl : Value) (w : World) (hs : Script w vl rs) (hP : P10 w) (hT : TB w) : Con Tryz.prog 6 [vl] w [] fun u _ => u = .bool true := by
  refine con_of_tree mix Tryz.func6 T6_ok (by kernel_rfl) ?_
  unfold T6
  obtain ⟨A, cap, g, off, hvl, hcap, hA⟩ := script_form hs
  subst hvl
  refine j_q (qs_ac) ?_
  refine j_call0 ent20 rfl rfl rfl (fun w' hw' => heavyJ_con rs _ w' (script_keep hs hw')) (fun u S2 hu => ?_)
  obtain ⟨hv, rfl, hhv⟩ := hu
  refine j_subl (S' := [[]]) (List.sublist_append_right _ _) ?_
  refine j_cond rfl (fun hc0 => ?_) (fun hc0 => ?_)
  · skip
    refine j_call0 ent8 rfl rfl rfl (fun w' hw' => known_con w' (hP.keep hw' (by simp)) (hT.keep hw' (by simp))) (fun u S2 hu => ?_)
    subst hu
    refine j_ret_con (vs := [_]) (fun w' hw' => ⟨rfl, trivial⟩) ?_
    rfl
  · skip
    have hhv9 := hhv (by simpa using hc0)
    refine j_call0 ent9 rfl rfl rfl (fun w' hw' => newR_con 16777216 w' (by decide) (by decide)) (fun u S2 hu => ?_)
    obtain ⟨r0, rfl, rfl, hr0⟩ := hu
    refine j_subl (S' := [r0.heap]) (by repeat first | exact slR _ | exact slN _ | apply slC | apply slD) ?_
    refine j_q (qs_ext rfl rfl) ?_
    refine j_q (qs_ext rfl rfl) ?_
    have hq0 := PQ.new0 (nm := pagesN) (room := 16777216) (by decide)
    refine j_call0 ent10 rfl rfl rfl (fun w' hw' => popen_con r0 (AF0 16777216) pagesN [] w' (in_own hw' 0 rfl) hr0 (by decide) hq0.openNow.1 hq0.openNow.2 ⟨by decide, fun g hg => by cases hg⟩ (fun g hg => by cases hg) (hP.keep hw' (by simp))) (fun u S2 hu => ?_)
    obtain ⟨p0, j0, rfl, rfl, hp0, hpf0, hpn0, hpj0, hj0, hjf0, hab0⟩ := hu
    have hab0 : p0.ab = Q0 := hab0
    refine j_q (qs_ext rfl rfl) ?_
    refine j_q (qs_ext rfl rfl) ?_
    refine j_q (qs_neq rfl rfl) ?_
    rw [show ((0 : Int) != 0) = false from rfl]
    refine j_gt rfl (qs_mt rfl) ?_
    refine j_gt rfl (qs_pnil Tryz.underlying27 rfl) ?_
    refine j_q (qs_or rfl rfl) ?_
    refine j_cond rfl (fun hc1 => ?_) (fun hc1 => ?_)
    · skip
      simp at hc1
    · skip
      refine j_q (qs_run (v := .agg #[nilS, nilS, nilS]) (fun w => by kernel_rfl)) ?_
      refine j_box (l := [nilS, nilS, nilS]) rfl (fun g15 hg15 hs15 => ?_)
      refine j_perm (S' := [p0.heap, j0.heap, r0.heap, (RM0 g15).heap]) (by
        have e : (RM0 g15).heap = [(g15, .cells [nilS, nilS, nilS].toArray 51 (0, 0))] := rfl
        rw [e]
        classical
        refine List.perm_iff_count.2 fun x => ?_
        simp only [List.set, List.flatten_cons, List.flatten_nil, List.append_nil, List.nil_append, List.cons_append, List.count_append, List.count_cons, List.count_nil]
        all_goals omega) ?_
      refine j_q (qs_ac) ?_
      refine j_loop (fun m vs S' => ∃ (i : Nat) (p : PM) (j : JM) (r : FR) (z : RM) (G : List (List (Nat × PE))) (q : PAb) (a : JA) (f : AF), vs = [p.ptr, .int .i64 (i : Int)] ∧ S' = [p.heap, j.heap, r.heap, z.heap] ∧ StP pagesN i (sumX rs i) p j r z G q a f ∧ f.fused = false ∧ f.room = 16777216 ∧ r.gf = r0.gf ∧ z.g = g15 ∧ i ≤ rs.length ∧ i ≤ 120 ∧ m = rs.length - i) ⟨_, 0, p0, j0, r0, RM0 g15, [], Q0, ⟨pjName pagesN, 0, gsP [], [], false⟩, AF0 16777216, rfl, rfl, stp0 (by decide) hp0 hab0 hpj0 hj0 hjf0 hr0, rfl, rfl, rfl, rfl, Nat.zero_le _, Nat.zero_le _, rfl⟩ ?_
      rintro m vs S' hlen ⟨i, p, j, r, z, G, q, a, f, rfl, rfl, hst, hfu, hroom, hgr, hgz, hi, hi100, rfl⟩
      refine j_q (qs_lenl Tryz.underlying45 rfl) ?_
      refine j_q (qs_lss rfl rfl) ?_
      refine j_g rfl (fun hb => qs_mt rfl) ?_
      refine j_g rfl (fun hb => qs_lss (gd_eq hb) rfl) ?_
      refine j_q (qs_and rfl rfl) ?_
      refine j_cond rfl (fun hc2 => ?_) (fun hc2 => ?_)
      · skip
        have hb2 : i < rs.length ∧ i < 120 := by
          simp only [gd, Bool.and_eq_true, decide_eq_true_eq] at hc2
          omega
        obtain ⟨hi1, hi2⟩ := hb2
        obtain ⟨rfl, hgs, hcl⟩ := hA (by omega)
        refine j_q (qs_ac) ?_
        refine j_q (qs_ixn (g := g) (off := off) (n := rs.length) (c := cap) (i := i) Tryz.underlying45 sz55 rfl rfl hi1) ?_
        refine j_q (qs_loadrecw (encA := encJ) (rs := rs) (d := SJ0) (i := i) encJ_len (rd_cells hcl (by simp)) hi1 Tryz.underlying55 rfl sz55 rfl) ?_
        have hxo := script_ok hs hi1
        obtain ⟨hxk, hxn, hxb, hxl⟩ := script_ok hs hi1
        have hpr : r0.ptr = r.ptr := by simp only [FR.ptr, hgr]
        have hpq : (.pointer (some ⟨g15, 0, none⟩) : Value) = z.ptr := by rw [RM.ptr, hgz]
        have hsx := hhv9 (i + 1) hi1 hi2
        rw [sumX_succ hi1] at hsx
        rw [hpr, hpq]
        refine j_perm (S' := [p.heap ++ (j.heap ++ (r.heap ++ z.heap))]) (by simp) ?_
        refine j_call 0 ent21 rfl rfl rfl rfl (fun w' hw' => doesP_con p j r z G q a f (rs.getD i SJ0) i (sumX rs i) w' hst (fun _ => hfu) hroom hi2 hsx (hP.keep hw' (by simp)) (hT.keep hw' (by simp)) (out_gen hw' hT.1 (by simp) (k := 0) rfl) (out_gen hw' hP.1 (by simp) (k := 0) rfl) ⟨hxk, hxn, br0 hxb hw', hxl⟩ (br0 hxb hw') (base_sep hxb hw' 0 rfl)) (fun u S5 h5 => ?_)
        obtain ⟨p1, j1, r1, z1, G1, q1, a1, f1, rfl, rfl, hst1, hgr1, hgz1, hfu1, hroom1, _⟩ := h5
        refine j_subl (S' := [p1.heap, j1.heap, r1.heap, z1.heap]) (by repeat first | exact slR _ | exact slN _ | apply slC | apply slD) ?_
        rw [show z.ptr = z1.ptr from by rw [RM.ptr, RM.ptr, hgz1]]
        refine j_q (qs_ext (vs := [p1.ptr, .bool true]) rfl rfl) ?_
        refine j_q (qs_ext (vs := [p1.ptr, .bool true]) rfl rfl) ?_
        obtain ⟨Ah, caph, hhv9, _⟩ := num_form hst1.zo.hh
        obtain ⟨hch1, hch2, hch3⟩ := hst1.chl
        refine j_perm (S' := [p1.heap, j1.heap, r1.heap, [(z1.g, z1.obj)], z1.lc, z1.kc, z1.hc, z1.P]) (by simp [RM.heap]) ?_
        refine j_mix _ (.refl _) ?_
        refine j_mq (qs_not rfl) ?_
        refine j_mgt rfl (qs_mt rfl) ?_
        refine j_mgt rfl (qs_mt rfl) ?_
        refine j_mgt rfl (qs_nil rfl) ?_
        refine j_mgt rfl (qs_field Tryz.underlying51 rfl sz48 (by decide) rfl) ?_
        refine j_mgt rfl (qs_load (l := z1.l) (v := z1.lv) 3 Tryz.underlying48 rfl rfl rfl rfl) ?_
        refine j_mgt rfl (qs_mt rfl) ?_
        refine j_mgt rfl (qs_nil rfl) ?_
        refine j_mgt rfl (qs_field Tryz.underlying51 rfl sz49 (by decide) rfl) ?_
        refine j_mgt rfl (qs_load (l := z1.l) (v := .slice Ah z1.ch.length caph) 3 Tryz.underlying49 rfl rfl rfl (by rw [← hhv9]; rfl)) ?_
        refine j_mgt rfl (qs_lenl (n := z1.ch.length) (A := Ah) (c := caph) Tryz.underlying49 rfl) ?_
        refine j_ga rfl ?_
        refine j_call0 ent22 rfl rfl rfl (fun w' hw' => stood_con p1 z1.cur z1.lv z1.lc z1.P ((z1.ch.length : Nat) : Int) w' (in_own hw' 0 rfl) hst1.ok hst1.zo.cu hst1.zo.pc (in_own hw' 4 rfl) (in_own hw' 7 rfl) hst1.zo.nl.1 (by omega) (hT.keep hw' (by simp))) (fun u S2 hu => ?_)
        obtain ⟨bs9, rfl, hbs⟩ := hu
        rw [hbs hch3 (.inr (by rw [hch1]))]
        refine j_subl (S' := [p1.heap, j1.heap, r1.heap, [(z1.g, z1.obj)], z1.lc, z1.kc, z1.hc, z1.P]) (List.sublist_append_right _ _) ?_
        refine j_mR _ (.refl _) ?_
        refine j_mgt rfl (qs_not rfl) ?_
        refine j_mq (v := .bool false) (qs_or (b0 := false) (b1 := false) rfl rfl) ?_
        refine j_mend ?_
        refine j_cond rfl (fun hc3 => ?_) (fun hc3 => ?_)
        · skip
          simp at hc3
        · skip
          refine j_q (qs_add64 rfl rfl (by first | omega | (simp only [bnA] at *; omega))) ?_
          refine j_perm (S' := [p1.heap, j1.heap, r1.heap, z1.heap]) (by simp [RM.heap]) ?_
          refine j_back rfl ?_
          exact ⟨_, by omega, i + 1, p1, j1, r1, z1, G1, q1, a1, f1, rfl, rfl, by rw [sumX_succ hi1]; exact hst1, hfu1 hfu, hroom1.trans hroom, hgr1.trans hgr, hgz1.trans hgz, hi1, hi2, rfl⟩
      · skip
        refine j_call0 ent8 rfl rfl rfl (fun w' hw' => known_con w' (hP.keep hw' (by simp)) (hT.keep hw' (by simp))) (fun u S2 hu => ?_)
        subst hu
        refine j_ret_con (vs := [_]) (fun w' hw' => ⟨rfl, trivial⟩) ?_
        rfl
theorem pagesPlays_con (rs : List SJ) (vl : Value) (w : World) (hs : Script w vl rs) (_ : rs.length ≤ 4611686018427387903) (hP : P10 w) (hT : TB w) : Con Tryz.prog 6 [vl] w [] fun u _ => u = .bool true := pPlays_con rs vl w hs hP hT
end Go.Proofs.YtfebkkmmagbnlaaGreatDoor
/-! Pg20 -/
namespace Go.Proofs.YtfebkkmmagbnlaaGreatDoor
open Go Go.Sx
set_option maxRecDepth 100000
set_option maxHeartbeats 4000000
set_option linter.unusedVariables false
set_option linter.unusedSimpArgs false
attribute [local irreducible] J JQ QS Con W opW
open Go.MapKept Go.WideMaps Go.Maps
theorem StP.up {nm : List UInt8} {i b b' : Nat} {p : PM} {j : JM} {r : FR} {z : RM} {G : List (List (Nat × PE))} {q : PAb} {a : JA} {f : AF} (h : StP nm i b p j r z G q a f) (hb : b ≤ b') : StP nm (i + 1) b' p j r z G q a f := ⟨h.ok, h.ab, h.jp, h.jo, h.fp, h.ro, h.zo, h.rl, h.ad, h.qd, h.pq.up hb⟩
end Go.Proofs.YtfebkkmmagbnlaaGreatDoor
/-! Arg9 -/
namespace Go.Proofs.YtfebkkmmagbnlaaGreatDoor
open Go Go.Sx Go.ChangeShapes Go.WideShapes Go.ChangeAt Go.RowKit
set_option linter.unusedVariables false
set_option maxRecDepth 100000
def BRz (w : World) (p : Value × List UInt8) : Prop := (p.1 = .slice none 0 0 ∧ p.2 = []) ∨ ∃ a cap, p.1 = .slice (some a) p.2.length cap ∧ p.2.length ≤ cap ∧ Cells w a (ints p.2)
theorem brz_br {w : World} {v : Value} {xs : List UInt8} (h : BRz w (v, xs)) : BR w v xs := by
  rcases h with h | ⟨a, cap, h1, h2, h3⟩
  · exact .inl h
  · refine .inr ⟨a, cap, h1, h2, fun h0 => ?_, h3⟩
    have h4 := h3 0 _ (ints_get_lt h0)
    have h5 : (a.add 0).block = a.block := rfl
    unfold World.cell? at h4
    split at h4
    · rename_i hh
      rw [h5] at hh
      exact (Array.getElem?_eq_some_iff.1 hh).1
    · cases h4
theorem weights_at {H : Type} {P : Program} {ts : List TypeId} {ds : List (DataW H)} (h : (DataW.weightsEach P ts ds).all (· ≤ reachBytes) = true) {j : Nat} {t : TypeId} {d : DataW H} (ht : ts[j]? = some t) (hd : ds[j]? = some d) : (d.weights P t).all (· ≤ reachBytes) = true :=
  List.all_eq_true.2 fun n hn => List.all_eq_true.1 h n (DataW.weights_mem_each ht hd n hn)
theorem row_trod {H : Type} {enc : TypeId × Value → H} {w : World} {b0 : Nat} {sp : Nat → Bool} {held : Bool} (fuel : Nat) (cs : List Value) (y : DataW H × List MemPlace) (h : DataW.trod enc Tryz.prog w b0 sp held fuel 33 cs = some y) (hw : (y.1.weights Tryz.prog 33).all (· ≤ reachBytes) = true) :
    ∃ p : Value × List UInt8, (BRz w p ∧ p.2.length ≤ 140737488351232) ∧ cs = [p.1] := by
  rcases open_ints Tryz.underlying33 Tryz.underlying5 (by kernel_rfl) h with ⟨hcs, _⟩ | ⟨a, len, cap, zs, hcs, hb, hl, hm, hz, hx, hcell, hsz⟩
  · exact ⟨(.slice none 0 0, []), ⟨.inl ⟨rfl, rfl⟩, Nat.zero_le _⟩, hcs⟩
  · have hlen : len ≤ zs.length := by rw [hz]; split <;> omega
    have hll : ((zs.take len).map by8).length = len := by simp [Nat.min_eq_left hlen]
    have hwl : len ≤ 140737488351232 := by
      have h0 := List.all_eq_true.1 hw (((lits IntKind.u8 (zs.take len) : List (DataW H)).length + (lits IntKind.u8 (zs.drop len) : List (DataW H)).length) * Tryz.prog.bytesOf 5) (by rw [hx]; simp [DataW.weights, Tryz.underlying33])
      have hb5 : Tryz.prog.bytesOf 5 = 1 := by kernel_rfl
      have hreach : reachBytes = 140737488351232 := rfl
      rw [hb5] at h0
      have h1 : (lits IntKind.u8 (zs.take len) : List (DataW H)).length = len := by simp [lits, Nat.min_eq_left hlen]
      rw [h1] at h0
      simp only [decide_eq_true_eq] at h0
      omega
    refine ⟨(.slice (some a) len cap, (zs.take len).map by8), ⟨.inr ⟨a, cap, by simp only [hll], by simp only [hll]; exact hl, fun j u hu => ?_⟩, by simp only [hll]; exact hwl⟩, hcs⟩
    rw [ints_get] at hu
    obtain ⟨c, hc1, rfl⟩ := Option.map_eq_some_iff.1 hu
    rw [List.getElem?_map] at hc1
    obtain ⟨z, hz1, rfl⟩ := Option.map_eq_some_iff.1 hc1
    have hz2 : zs[j]? = some z := by
      rw [List.getElem?_take] at hz1
      split at hz1
      · exact hz1
      · cases hz1
    have hlt := (List.getElem?_eq_some_iff.1 hz2).1
    rw [hcell j hlt]
    have hr := hsz z (List.mem_of_getElem? hz2)
    have hr2 : 0 ≤ z ∧ z ≤ 255 := by
      have h1 : IntKind.u8.min = 0 := rfl
      have h2 : IntKind.u8.max = 255 := rfl
      simp [Lit.wf, h1, h2] at hr
      omega
    have hw : IntKind.u8.wrap z = z := by rw [IntKind.wrap_u8]; omega
    rw [← wrap_by8, hw]
    simp [List.getD_eq_getElem?_getD, hz2]
theorem trod_struct3' {H : Type} {enc : TypeId × Value → H} {P : Program} {w : World} {base : Nat} {spare : Nat → Bool} {held : Bool} {t : TypeId} {f0 f1 f2 : Field} {fuel : Nat} {cs : List Value} {x : DataW H × List MemPlace} (ht : P.underlying t = some (.struct #[f0, f1, f2])) (h : DataW.trod enc P w base spare held fuel t cs = some x) :
    ∃ y0 y1 y2 n, x = (.agg [y0.1, y1.1, y2.1], y0.2 ++ (y1.2 ++ y2.2)) ∧ cs.length = P.cellsOf t ∧ DataW.trod enc P w base spare held n f0.type ((cs.drop f0.offset).take (P.cellsOf f0.type)) = some y0 ∧
      DataW.trod enc P w base spare held n f1.type ((cs.drop f1.offset).take (P.cellsOf f1.type)) = some y1 ∧ DataW.trod enc P w base spare held n f2.type ((cs.drop f2.offset).take (P.cellsOf f2.type)) = some y2 := by
  obtain ⟨xs, n, _, rfl, hl, hlen, hf⟩ := DataW.trod_struct ht h
  match xs, hlen with
  | [y0, y1, y2], _ => exact ⟨y0, y1, y2, n, by simp, hl, by simpa using hf 0 f0 rfl, by simpa using hf 1 f1 rfl, by simpa using hf 2 f2 rfl⟩
theorem intOk_wf {n : Int} (h : (Lit.int .i64 n).wf = true) : intOk n := by
  have h1 : IntKind.i64.min = -9223372036854775808 := rfl
  have h2 : IntKind.i64.max = 9223372036854775807 := rfl
  simp only [Lit.wf, h1, h2, Bool.and_eq_true, decide_eq_true_eq] at h
  exact h
theorem st_trod {H : Type} {enc : TypeId × Value → H} {w : World} {b0 : Nat} {sp : Nat → Bool} {held : Bool} (fuel : Nat) (cs : List Value) (y : DataW H × List MemPlace) (h : DataW.trod enc Tryz.prog w b0 sp held fuel 55 cs = some y) (hw : (y.1.weights Tryz.prog 55).all (· ≤ reachBytes) = true) :
    ∃ a : SJ, a.Ok w ∧ cs = encJ a := by
  obtain ⟨y0, y1, y2, n, rfl, hl, h0, h1, h2⟩ := trod_struct3' Tryz.underlying55 h
  have hc : Tryz.prog.cellsOf 55 = 3 := by kernel_rfl
  rw [hc] at hl
  match cs, hl with
  | [c0, c1, c2], _ =>
    have e3 : Tryz.prog.cellsOf 3 = 1 := by kernel_rfl
    have e33 : Tryz.prog.cellsOf 33 = 1 := by kernel_rfl
    simp only [e3, e33, List.drop_zero, List.take_succ_cons, List.take_zero, List.drop_succ_cons] at h0 h1 h2
    obtain ⟨k0, hk0, e0, w0⟩ := DataW.trod_int Tryz.underlying3 h0
    obtain ⟨k1, hk1, e1, w1⟩ := DataW.trod_int Tryz.underlying3 h1
    unfold DataW.weights at hw
    rw [Tryz.underlying55] at hw
    simp only [List.map_cons, List.map_nil, DataW.weightsEach, List.all_append, List.all_nil, Bool.and_eq_true, Bool.and_true] at hw
    obtain ⟨hw0, hw1, hw2⟩ := hw
    obtain ⟨p4, ⟨hp4, hp5⟩, hb4⟩ := row_trod n [c2] y2 h2 hw2
    injection hk0 with hk0
    injection hk1 with hk1
    injection hb4 with hb4
    subst hk0 hk1 hb4
    exact ⟨⟨k0, k1, p4.1, p4.2⟩, ⟨intOk_wf w0, intOk_wf w1, brz_br hp4, hp5⟩, rfl⟩
theorem open_script {H : Type} {enc : TypeId × Value → H} {w : World} {r : Go.Reach} {base b0 : Nat} {sp : Nat → Bool} {held : Bool} {v : Value} {x : DataW H × List MemPlace} (hv : Value.okWide Tryz.prog w r base 45 v)
    (h : ∃ fuel, DataW.trod enc Tryz.prog w b0 sp held fuel 45 v.cells.toList = some x) (hw : (x.1.weights Tryz.prog 45).all (· ≤ reachBytes) = true) : ∃ rs : List SJ, Script w v rs ∧ rs.length ≤ 4611686018427387903 := by
  obtain ⟨rs, h1, h2, h3⟩ := open_sln (α := SJ) encJ (SJ.Ok w) encJ_len (by decide) Tryz.underlying45 (by kernel_rfl) hv st_trod h hw
  have hb : Tryz.prog.bytesOf 55 = 40 := by kernel_rfl
  have hreach : reachBytes = 140737488351232 := rfl
  rw [hb] at h3
  exact ⟨rs, ⟨h1, h2⟩, by omega⟩
end Go.Proofs.YtfebkkmmagbnlaaGreatDoor
/-! RowP -/
namespace Go.Proofs.YtfebkkmmagbnlaaGreatDoor
open Go Go.Sx Go.ChangeShapes Go.WideShapes Go.ChangeAt Go.RowKit
set_option linter.unusedVariables false
theorem own_pagesPlays : ownKnob Tryz.prog.godebug = none := by kernel_rfl
theorem laid_pagesPlays : laidOutB Tryz.prog = true := by kernel_rfl
set_option maxRecDepth 100000 in
theorem door_met_pagesPlays (os : Os) (args : Array Value) : laidMetH Tryz.prog Rows.pagesPlaysRow.laid ((World.doorLaid Tryz.prog 400 os).forCall (fun _ _ => 0) ⟨#[], args, []⟩).memory := by
  rw [MakeChecks.laidMetH_plain _ _ _ (by kernel_rfl)]
  exact laidMet_of_run' 8 (by kernel_rfl) (by kernel_rfl)
theorem p10_of_laid_pagesPlays {W : World} (h : laidMetH Tryz.prog Rows.pagesPlaysRow.laid W) : P10 W := by
  rw [MakeChecks.laidMetH_plain _ _ _ (by kernel_rfl)] at h
  have h3 : Lib.TabIs Tryz.prog W "internal/strconv.uint64pow10" .u64 p10 := Lib.tabIs_of_head (t := 196) (e := 64) (n := 20) (g := 1) (by kernel_rfl) (by kernel_rfl) Tryz.underlying196 Tryz.underlying64 (by kernel_rfl) (by kernel_rfl) (rest := []) h.tail.tail
  have hc : ∀ i, i < 20 → W.cell? ⟨1, i, none⟩ = some (.int .u64 (p10.getD i 0)) := fun i hi => h3.cell (by kernel_rfl) i hi
  refine ⟨?_, fun j u hu => ?_⟩
  · have h0 := hc 0 (by decide)
    unfold World.cell? at h0
    by_cases hz : 1 < W.heap.size
    · exact hz
    · rw [Array.getElem?_eq_none (by simp only []; omega)] at h0
      cases h0
  · obtain ⟨hj, rfl⟩ := List.getElem?_eq_some_iff.1 hu
    have hj' : j < 20 := by rw [ks_length] at hj; exact hj
    rw [add_off, Nat.zero_add, hc j hj']
    have := ks_get (k := .u64) (l := p10) (i := j) hj'
    rw [← this, List.getElem?_eq_getElem hj]
theorem tb_of_laid_pagesPlays {W : World} (h : laidMetH Tryz.prog Rows.pagesPlaysRow.laid W) : TB W := by
  rw [MakeChecks.laidMetH_plain _ _ _ (by kernel_rfl)] at h
  have h3 : Lib.TabIs Tryz.prog W "math/bits.deBruijn64tab" .u8 (dbTab.map fun c => (c.toNat : Int)) := Lib.tabIs_of_head (t := 164) (e := 5) (n := 64) (g := 0) (by kernel_rfl) (by kernel_rfl) Tryz.underlying164 Tryz.underlying5 (by kernel_rfl) (by kernel_rfl) h.tail
  have hc : ∀ i, i < 64 → W.cell? ⟨0, i, none⟩ = some (.int .u8 ((dbTab.map fun c => (c.toNat : Int)).getD i 0)) := fun i hi => h3.cell (by kernel_rfl) i hi
  refine ⟨?_, fun j u hu => ?_⟩
  · have h0 := hc 0 (by decide)
    unfold World.cell? at h0
    by_cases hz : 0 < W.heap.size
    · exact hz
    · rw [Array.getElem?_eq_none (by simp only []; omega)] at h0
      cases h0
  · obtain ⟨hj, rfl⟩ := List.getElem?_eq_some_iff.1 hu
    have hj' : j < 64 := by rw [ints_length] at hj; exact hj
    rw [add_off, Nat.zero_add, hc j hj']
    have h9 : ints dbTab = ks .u8 (dbTab.map fun c => (c.toNat : Int)) := by simp [ints, ks]
    have := ks_get (k := .u8) (l := dbTab.map fun c => (c.toNat : Int)) (i := j) (by rw [List.length_map]; exact hj')
    rw [← this, ← h9, List.getElem?_eq_getElem hj]
set_option maxRecDepth 100000 in
theorem pagesPlays_lifted (os : Os) (started : os.Started) (H : Type) (enc : TypeId × Value → H) :
    ReturnsInHanded {} Tryz.checked os 6 .any (fun w args => (Rows.pagesPlaysSpec.pre enc Tryz.prog Tryz.f6 [] false w args ∧ laidMetH Tryz.prog Rows.pagesPlaysRow.laid w) ∧ sizedMet enc Tryz.prog Tryz.f6 (OpenSpec.ofChange Rows.pagesPlaysSpec) false w args) (Rows.pagesPlaysSpec.post enc Tryz.prog Tryz.f6 false true false false) := by
  refine returnsInHanded_of_change_and (C := Tryz.checked) (X := fun w _ => laidMetH Tryz.prog Rows.pagesPlaysRow.laid w) (fun _ _ _ hh h => h.of_heap hh) own_pagesPlays started (by kernel_rfl) Tryz.func6
    (ChangeSpec.witness_shaped (enc := enc) (C := Tryz.checked) (os := os) (X := fun w _ => laidMetH Tryz.prog Rows.pagesPlaysRow.laid w) false (World.doorLaid Tryz.prog 400 os) #[.slice none 0 0] 8 rfl (World.shaped_of_RefB (by kernel_rfl) (by kernel_rfl)) (by kernel_rfl) (by kernel_rfl) (by kernel_rfl) (door_met_pagesPlays os _)) ?_
  intro W base args ds gs before hval0 hW hcnd hsz0 hL _
  have hsz : (DataW.weightsEach Tryz.prog (Tryz.f6.params.toList ++ Rows.pagesPlaysSpec.plain.varTypes Tryz.prog) (ds ++ gs)).all (· ≤ reachBytes) = true := hsz0
  have hreach : reachBytes = 140737488351232 := rfl
  have hval : ∀ (j : Nat) t v, Tryz.f6.params[j]? = some t → args[j]? = some v → Value.okWide Tryz.prog W .any base t v := hval0
  have hW' := hW
  obtain ⟨p, q, hA0, hV, rfl, hfz, hnd⟩ := hW
  have hA : DataW.TrodAll enc Tryz.prog W 0 (fun _ => true) true Tryz.f6.params.toList args.toList ds p := hA0
  rw [Tryz.params6] at hA hval
  obtain ⟨v0, d0, rfl, rfl, h0⟩ := trodAll_one hA
  obtain ⟨rfl, rfl⟩ := trodVars_none hV
  obtain ⟨a0, wa0_0, wa0_1⟩ := open_script (hval 0 45 v0 rfl rfl) h0 (weights_at hsz (j := 0) (t := 45) (by rw [Tryz.params6]; rfl) rfl)
  clear hA0 hval0
  have hP := p10_of_laid_pagesPlays hL
  have hT := tb_of_laid_pagesPlays hL
  have hc := pagesPlays_con a0 v0 W wa0_0 wa0_1 hP hT (by simp) (by simp)
  refine hc.mono fun e W' h => ?_
  obtain ⟨v, S', rfl, rfl, hS⟩ := h
  exact ⟨_, rfl, post_law hW' rfl rfl laid_pagesPlays (by decide +kernel) rfl Tryz.underlying4 (below_of_sig hS)⟩
theorem pagesPlays_holds : Rows.PagesPlaysSaid :=
  OpenClaim.holds_of_wide 6 Tryz.f6 rfl rfl rfl rfl rfl rfl rfl ⟨rfl, rfl, rfl, rfl, rfl⟩ rfl rfl rfl rfl rfl (by kernel_rfl) Tryz.func6 (by kernel_rfl)
    (of_decide_eq_true (by kernel_rfl)) (by unfold Func.isWrapper; first | (rw [if_pos (by decide +kernel)]; kernel_rfl) | (rw [if_neg (by decide +kernel)]; exact ⟨rfl, rfl⟩))
    (fun os started H enc _ => pagesPlays_lifted os started H enc)
theorem pagesPlaysCard_holds : Rows.PagesPlaysCardSaid :=
  Claim7.holds_tied_plain_at .later [] [.data, .data, .data] true (true, "d6940ffa9aee17afc6c360ec4500667c41cf8441dfa5587ac010659349e4d1ff") false
    pagesPlays_holds (fun _ h => by cases h) (by kernel_rfl) (fun _ h => by cases h) pagesPlays_row_tie rfl ⟨rfl, rfl⟩ (by kernel_rfl) rfl
    (fun f fn hf hfn => by
      obtain rfl : f = 6 := Option.some.inj ((show Tryz.prog.funcNamed "pantry/pantrylaw9.PagesPlays" = some 6 by kernel_rfl).symm.trans hf) |>.symm
      obtain rfl : fn = Tryz.f6 := (Option.some.inj (Tryz.func6.symm.trans hfn)).symm
      exact ⟨by kernel_rfl, fun j t ht => by
        rw [Tryz.params6] at ht
        have hm : t ∈ [45] := by simpa using Array.mem_of_getElem? ht
        have hall : ([45].all fun u => !Tryz.prog.wantsStandIn u) = true := by kernel_rfl
        exact (show Tryz.prog.wantsStandIn t = false by simpa using List.all_eq_true.1 hall t hm)⟩)
    (by kernel_rfl)
end Go.Proofs.YtfebkkmmagbnlaaGreatDoor
