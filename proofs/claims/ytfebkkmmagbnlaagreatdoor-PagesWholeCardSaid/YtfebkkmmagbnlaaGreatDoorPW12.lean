/- Part 12. -/
import Derived.Test.YtfebkkmmagbnlaaGreatDoorPW3
import Derived.Test.YtfebkkmmagbnlaaGreatDoorPW4
import Derived.Test.YtfebkkmmagbnlaaGreatDoorPW11
import Derived.Lib.SmallJoins
import Derived.SizedLaws
import Derived.Test.YtfebkkmmagbnlaaGreatDoorRows
import Derived.ProofKit
import Derived.LaidMore
import Derived.Lib.LaidTab
import Derived.Stop.LaidErr
import Derived.MakeChecks
import Derived.SevenTiedAt
import Derived.Test.YtfebkkmmagbnlaaGreatDoorCards
import Derived.Test.YtfebkkmmagbnlaaGreatDoorTie
import Derived.Carry
/-! Pg20 -/
namespace Go.Proofs.YtfebkkmmagbnlaaGreatDoor
open Go Go.Sx
set_option maxRecDepth 100000
set_option maxHeartbeats 4000000
set_option linter.unusedVariables false
set_option linter.unusedSimpArgs false
attribute [local irreducible] J JQ QS Con W opW
open Go.MapKept Go.WideMaps Go.Maps
def BrkP (nm : List UInt8) (k c : List PE) (f : AF) : Prop := ∃ G1 G2 : List (List (Nat × PE)), AllF (fun s => JS (pjName nm) 0 (gsP G1) s ∨ JS (pjName nm) 0 (gsP G2) s) f ∧ AllF (fun s => alook s.nm nm = none) f ∧ limG (gsP G1) ∧ limG (gsP G2) ∧ okG G1 ∧ okG G2 ∧ replay G1 = k ∧ replay G2 = c
theorem PQ.brk {nm : List UInt8} {i b : Nat} {G : List (List (Nat × PE))} {q : PAb} {a : JA} {f : AF} (h : PQ nm i b G q a f) (hi : i ≤ 125) (hb : b ≤ 12000) : BrkP nm q.k q.c (comA { a with down := recsD q.c (bitsL q.ws 0) } f i) := by
 obtain ⟨hd1, hd2, hd3⟩ := h.dsz (by omega) hb
 have hj0 : JI (14000 * (i : Int)) i i { a with down := recsD q.c (bitsL q.ws 0) } f := h.ji
 have hbad := hj0.comBad
 have hlim := h.limG (by omega) hb
 have hct := h.ct
 have hcg := cnG_ge h.gn
 refine ⟨G, G ++ [grpD q.c (bitsL q.ws 0)], ?_, nh_com h.nh (a := { a with down := recsD q.c (bitsL q.ws 0) }) h.an h.ag i, hlim, ?_, h.go, ?_, h.kk.symm, ?_⟩
 ·have e1 : ({ a with down := recsD q.c (bitsL q.ws 0) } : JA).name = pjName nm := h.an
  have e2 : ({ a with down := recsD q.c (bitsL q.ws 0) } : JA).age = 0 := h.ag
  have e3 : ({ a with down := recsD q.c (bitsL q.ws 0) } : JA).gs = gsP G := h.gs
  have e4 : gsP (G ++ [grpD q.c (bitsL q.ws 0)]) = gsP G ++ [({ a with down := recsD q.c (bitsL q.ws 0) } : JA).down] := by
   show _ = gsP G ++ [recsD q.c (bitsL q.ws 0)]
   rw [recsD_eq]
   unfold gsP
   rw [List.map_append]
   rfl
  have e : (fun s => JS (pjName nm) 0 (gsP G) s ∨ JS (pjName nm) 0 (gsP (G ++ [grpD q.c (bitsL q.ws 0)])) s) = (fun s => JS ({ a with down := recsD q.c (bitsL q.ws 0) } : JA).name ({ a with down := recsD q.c (bitsL q.ws 0) } : JA).age ({ a with down := recsD q.c (bitsL q.ws 0) } : JA).gs s ∨ JS ({ a with down := recsD q.c (bitsL q.ws 0) } : JA).name ({ a with down := recsD q.c (bitsL q.ws 0) } : JA).age (({ a with down := recsD q.c (bitsL q.ws 0) } : JA).gs ++ [({ a with down := recsD q.c (bitsL q.ws 0) } : JA).down]) s) := by
   rw [e1, e2, e3, ← e4]
  rw [e]
  exact hbad
 ·refine ⟨by rw [List.length_map, List.length_append, List.length_singleton]; omega, fun g hg => ?_⟩
  unfold gsP at hg
  rw [List.map_append] at hg
  rcases List.mem_append.1 hg with hg | hg
  ·exact hlim.2 g hg
  ·rw [List.map_singleton] at hg
   rw [List.mem_singleton.1 hg, ← recsD_eq]
   exact hd3
 ·intro g hg9 r hr
  rcases List.mem_append.1 hg9 with hg9 | hg9
  ·exact h.go g hg9 r hr
  ·rw [List.mem_singleton.1 hg9] at hr
   obtain ⟨n, hn, rfl⟩ := List.mem_map.1 hr
   exact ⟨(h.dlt (by omega) n hn).2, getD_len _ _ h.xl.1⟩
 ·rw [replay_snoc, ← h.kk]
  exact h.pr.replay
theorem pcomW_con (p : PM) (j : JM) (r : FR) (nm : List UInt8) (i b : Nat) (G : List (List (Nat × PE))) (q : PAb) (a : JA) (f : AF) (w : World) (hq : PQ nm i b G q a f) (hpq : p.ab = q) (hok : p.Ok) (hj : j.Ok a) (hr : r.Ok f) (hjp : p.jp = j.ptr) (hfp : j.fp = r.ptr) (hd : a.dead = false) (hqd : q.dead = false) (hi : i ≤ 125) (hb : b ≤ 12000) (hn : nm.length ≤ 90) (hrm : 14000 * ((i + 1 : Nat) : Int) ≤ f.room) (hP : P10 w) (hT : TB w) (h0 : 0 ∉ dom (p.heap ++ (j.heap ++ r.heap))) (h1 : 1 ∉ dom (p.heap ++ (j.heap ++ r.heap))) :
  Con Tryz.prog 16 [p.ptr] w (p.heap ++ (j.heap ++ r.heap)) fun u S' => ∃ (e : Int) (p' : PM) (j' : JM) (r' : FR) (f' : AF), u = .int .i64 e ∧ S' = [p'.heap, j'.heap, r'.heap] ∧ r'.Ok f' ∧ p'.g = p.g ∧ r'.gf = r.gf ∧ (e = 0 → ComQ nm i b q p j r p' j' r' f' ∧ f'.room = f.room) ∧ (e ≠ 0 → BrkP nm q.k q.c f') := by
 subst hpq
 have hpd : p.dead = false := hqd
 by_cases hD : bitsL p.ws 0 = []
 ·refine (pcom0_con p j a r f w hok hpd hD hT h0).mono fun u S' hu => ?_
  obtain ⟨h1, h2⟩ := hu
  exact ⟨0, p, j, r, f, h1, h2, hr, rfl, rfl, fun _ => ⟨⟨hok, .refl p, ⟨G, p.ab, a, hq.up (Nat.le_refl _), rfl, rfl, hq.same hD, hD, hpd, hj, hd⟩, hr, rfl, rfl, rfl⟩, rfl⟩, fun h => absurd rfl h⟩
 ·obtain ⟨hd1, hd2, hd3⟩ := hq.dsz (by omega) hb
  have hdl := hq.dlt (by omega)
  refine (pcom1_con p j a r f w hok i hj hr hjp hfp hpd hd hD (fun n hn9 => by rw [← c_len]; exact (hdl n hn9).1) (Nat.le_trans hd1 (by decide)) hd2 (hq.comOk hi hb (used_pos hr) hn hrm) hP hT h0 h1).mono fun u S' hu => ?_
  obtain ⟨hu1, p', j', r', hu2, hu3, hu4, hu5, hu6, hu7, hu8, hu9, hu10⟩ := hu
  refine ⟨_, p', j', r', _, hu1, hu2, hu7, hu4.g, hu10, fun he => ?_, fun _ => hq.brk hi hb⟩
  rw [if_pos he] at hu5
  have hc := hq.com hi hb hD he
  have hcr := comA_room { a with down := recsD p.c (bitsL p.ws 0) } f i
  have haj : (aftJ { a with down := recsD p.c (bitsL p.ws 0) } f i).dead = false := by
   unfold aftJ
   rw [if_pos he, comJ_0 he]
   split
   ·exact hd
   ·exact hd
  exact ⟨⟨hu3, hu4, ⟨_, _, _, hc, hu5, rfl, rfl, bits_rep 256 0, hpd, hu6, haj⟩, hu7, hu8, hu9, hu10⟩, hcr.1⟩
theorem StP.up {nm : List UInt8} {i b b' : Nat} {p : PM} {j : JM} {r : FR} {z : RM} {G : List (List (Nat × PE))} {q : PAb} {a : JA} {f : AF} (h : StP nm i b p j r z G q a f) (hb : b ≤ b') : StP nm (i + 1) b' p j r z G q a f := ⟨h.ok, h.ab, h.jp, h.jo, h.fp, h.ro, h.zo, h.rl, h.ad, h.qd, h.pq.up hb⟩
theorem stpF {p : PM} {j : JM} {r r1 : FR} {g : Nat} {room n : Int} (h : room ≤ 1073741824) (h1 : p.Ok) (h2 : p.ab = Q0) (h3 : p.jp = j.ptr) (h4 : j.Ok ⟨pjName pagesN, 0, gsP [], [], false⟩) (h5 : j.fp = r.ptr) (hg : r1.gf = r.gf) (h6 : r1.Ok (fuseF (AF0 room) n)) : StP pagesN 0 0 p j r1 (RM0 g) [] Q0 ⟨pjName pagesN, 0, gsP [], [], false⟩ (fuseF (AF0 room) n) :=
 ⟨h1, h2, h3, h4, h5.trans (by rw [FR.ptr, FR.ptr, hg]), h6, rm0_ok g, rl0 g, rfl, rfl, (PQ.new0 h).fuse n⟩
theorem pWhole_con (rs : List SJ) (vl : Value) (fuse keep : Int) (w : World) (hs : Script w vl rs) (hP : P10 w) (hT : TB w) : Con Tryz.prog 7 [vl, .int .i64 fuse, .int .i64 keep] w [] fun u _ => u = .bool true := by
 refine con_of_tree mix Tryz.func7 T7_ok (by kernel_rfl) ?_
 unfold T7
 obtain ⟨A, cap, g, off, hvl, hcap, hA⟩ := script_form hs
 subst hvl
 refine j_q (qs_ac) ?_
 refine j_call0 ent20 rfl rfl rfl (fun w' hw' => heavyJ_con rs _ w' (script_keep hs hw')) (fun u S2 hu => ?_)
 obtain ⟨hv, rfl, hhv⟩ := hu
 refine j_subl (S' := [[]]) (List.sublist_append_right _ _) ?_
 refine j_g rfl (fun hb => qs_mt rfl) ?_
 refine j_g rfl (fun hb => qs_lss (gd_eq hb) rfl) ?_
 refine j_q (qs_or rfl rfl) ?_
 refine j_g rfl (fun hb => qs_mt rfl) ?_
 refine j_g rfl (fun hb => qs_gtr (gd_eq hb) rfl) ?_
 refine j_q (qs_or rfl rfl) ?_
 refine j_cond rfl (fun hc0 => ?_) (fun hc0 => ?_)
 ·skip
  refine j_call0 ent8 rfl rfl rfl (fun w' hw' => known_con w' (hP.keep hw' (by simp)) (hT.keep hw' (by simp))) (fun u S2 hu => ?_)
  subst hu
  refine j_ret_con (vs := [_]) (fun w' hw' => ⟨rfl, trivial⟩) ?_
  rfl
 ·skip
  have hhv0 : hv = false ∧ 0 ≤ fuse ∧ fuse ≤ 5000 := by
   cases hv with
   | true => simp at hc0
   | false =>
    by_cases h9 : fuse < 0
    ·simp [gd, h9] at hc0
    ·by_cases h10 : fuse > 5000
     ·simp [gd, h9, h10] at hc0
     ·exact ⟨rfl, by omega, by omega⟩
  have hhv9 := hhv hhv0.1
  obtain ⟨_, hfu1, hfu2⟩ := hhv0
  refine j_call0 ent9 rfl rfl rfl (fun w' hw' => newR_con 16777216 w' (by decide) (by decide)) (fun u S2 hu => ?_)
  obtain ⟨r0, rfl, rfl, hr0⟩ := hu
  refine j_subl (S' := [r0.heap]) (by repeat first | exact slR _ | exact slN _ | apply slC | apply slD) ?_
  refine j_q (qs_ext rfl rfl) ?_
  refine j_q (qs_ext rfl rfl) ?_
  have hq0 := PQ.new0 (nm := pagesN) (room := 16777216) (by decide)
  refine j_call0 ent10 rfl rfl rfl (fun w' hw' => popen_con r0 (AF0 16777216) pagesN [] w' (in_own hw' 0 rfl) hr0 (by decide) hq0.openNow.1 hq0.openNow.2 ⟨by decide, fun g hg => by cases hg⟩ (fun g hg => by cases hg) (hP.keep hw' (by simp))) (fun u S2 hu => ?_)
  obtain ⟨p0, j0, rfl, rfl, hp0, hpf0, hpn0, hpj0, hj0, hjf0, hab0⟩ := hu
  have hab0 : p0.ab = Q0 := hab0
  refine j_q (qs_ext rfl rfl) ?_
  refine j_q (qs_ext rfl rfl) ?_
  refine j_q (qs_neq rfl rfl) ?_
  rw [show ((0 : Int) != 0) = false from rfl]
  refine j_gt rfl (qs_mt rfl) ?_
  refine j_gt rfl (qs_pnil U27 rfl) ?_
  refine j_q (qs_or rfl rfl) ?_
  refine j_cond rfl (fun hc1 => ?_) (fun hc1 => ?_)
  ·skip
   simp at hc1
  ·skip
   refine j_q (qs_run (v := .agg #[nilS, nilS, nilS]) (fun w => by kernel_rfl)) ?_
   refine j_box (l := [nilS, nilS, nilS]) rfl (fun g21 hg21 hs21 => ?_)
   refine j_perm (S' := [p0.heap, j0.heap, r0.heap, (RM0 g21).heap]) (by
    have e : (RM0 g21).heap = [(g21, .cells [nilS, nilS, nilS].toArray 51 (0, 0))] := rfl
    rw [e]
    classical
    refine List.perm_iff_count.2 fun x => ?_
    simp only [List.set, List.flatten_cons, List.flatten_nil, List.append_nil, List.nil_append, List.cons_append, List.count_append, List.count_cons, List.count_nil]
    all_goals omega) ?_
   refine j_call 2 ent15 rfl rfl rfl rfl (fun w' hw' => fuseG_con r0 _ fuse w' hr0 (by omega)) (fun u S2 hu => ?_)
   obtain ⟨r1, rfl, hr1, hgr1⟩ := hu
   refine j_perm (S' := [p0.heap, j0.heap, r1.heap, (RM0 g21).heap]) (by
    classical
    refine List.perm_iff_count.2 fun x => ?_
    simp only [List.set, List.flatten_cons, List.flatten_nil, List.append_nil, List.nil_append, List.cons_append, List.count_append, List.count_cons, List.count_nil]
    all_goals omega) ?_
   refine j_q (qs_ac) ?_
   refine j_q (qs_ac) ?_
   refine j_loop (fun m vs S' => ∃ (i : Nat) (p : PM) (j : JM) (r : FR) (z : RM) (G : List (List (Nat × PE))) (q : PAb) (a : JA) (f : AF) (bk : Bool), vs = [.bool bk, .int .i64 (i : Int)] ∧ S' = [p.heap, j.heap, r.heap, z.heap] ∧ (bk = false → StP pagesN i (sumX rs i) p j r z G q a f ∧ f.room = 16777216) ∧ (bk = true → BrkP pagesN z.k z.c f) ∧ r.Ok f ∧ z.Ok ∧ p.g = p0.g ∧ r.gf = r0.gf ∧ z.g = g21 ∧ i ≤ rs.length ∧ i ≤ 120 ∧ m = rs.length - i) ⟨_, 0, p0, j0, r1, RM0 g21, [], Q0, ⟨pjName pagesN, 0, gsP [], [], false⟩, fuseF (AF0 16777216) fuse, false, rfl, rfl, fun _ => ⟨stpF (by decide) hp0 hab0 hpj0 hj0 hjf0 hgr1 hr1, rfl⟩, (fun h => by cases h), hr1, rm0_ok _, rfl, hgr1, rfl, Nat.zero_le _, Nat.zero_le _, rfl⟩ ?_
   rintro m vs S' hlen ⟨i, p, j, r, z, G, q, a, f, bk, rfl, rfl, hb0, hb1, hro, hzo, hgp, hgr, hgz, hi, hi100, rfl⟩
   refine j_q (qs_lenl U45 rfl) ?_
   refine j_q (qs_lss rfl rfl) ?_
   refine j_g rfl (fun hb => qs_mt rfl) ?_
   refine j_g rfl (fun hb => qs_lss (gd_eq hb) rfl) ?_
   refine j_q (qs_and rfl rfl) ?_
   refine j_g rfl (fun hb => qs_mt rfl) ?_
   refine j_g rfl (fun hb => qs_not (gd_eq hb)) ?_
   refine j_q (qs_and rfl rfl) ?_
   refine j_cond rfl (fun hc2 => ?_) (fun hc2 => ?_)
   ·skip
    have hb2 : (i < rs.length ∧ i < 120) ∧ bk = false := by
     cases bk with
     | true => simp [gd] at hc2
     | false =>
      simp [gd] at hc2
      exact ⟨⟨hc2.1, by omega⟩, rfl⟩
    obtain ⟨⟨hi1, hi2⟩, rfl⟩ := hb2
    obtain ⟨hst, hroom⟩ := hb0 rfl
    obtain ⟨rfl, hgs, hcl⟩ := hA (by omega)
    obtain ⟨hxk, hxn, hxb, hxl⟩ := script_ok hs hi1
    have hsx := hhv9 (i + 1) hi1 hi2
    rw [sumX_succ hi1] at hsx
    have hpp : p0.ptr = p.ptr := by rw [PM.ptr, PM.ptr, hgp]
    have hpr : r0.ptr = r.ptr := by simp only [FR.ptr, hgr]
    have hpz : (.pointer (some ⟨g21, 0, none⟩) : Value) = z.ptr := by rw [RM.ptr, hgz]
    rw [hpp, hpr, hpz]
    refine j_q (qs_ixn (g := g) (off := off) (n := rs.length) (c := cap) (i := i) U45 sz55 rfl rfl hi1) ?_
    refine j_q (qs_field U55 rfl sz3 (by decide) rfl) ?_
    refine j_q (qs_loadR (v := .int .i64 (rs.getD i SJ0).kind) (a := ⟨g, off, none⟩) (i := i * 3 + 0) (rd_cells hcl (by simp)) U3 rfl (congrArg (fun z => Value.pointer (some z)) (off3 g off i 0)) (steps_get hi1 rfl)) ?_
    refine j_q (qs_eql rfl rfl) ?_
    refine j_cond rfl (fun hc3 => ?_) (fun hc3 => ?_)
    ·skip
     have hk5 : (rs.getD i SJ0).kind = 5 := by simpa using hc3
     refine j_perm (S' := [p.heap ++ (j.heap ++ r.heap), z.heap]) (by simp) ?_
     refine j_call 0 ent16 rfl rfl rfl rfl (fun w' hw' => pcomW_con p j r pagesN i (sumX rs i) G q a f w' hst.pq hst.ab hst.ok hst.jo hst.ro hst.jp hst.fp hst.ad hst.qd (by omega) (by omega) (by decide) (by rw [hroom]; omega) (hP.keep hw' (by simp)) (hT.keep hw' (by simp)) (out_gen hw' hT.1 (by simp) (k := 0) rfl) (out_gen hw' hP.1 (by simp) (k := 0) rfl)) (fun u S5 h5 => ?_)
     obtain ⟨ec, p1, j1, r1', f1, rfl, rfl, hr1', hgp1, hgr1', hce0, hce1⟩ := h5
     refine j_subl (S' := [p1.heap, j1.heap, r1'.heap, z.heap]) (by repeat first | exact slR _ | exact slN _ | apply slC | apply slD) ?_
     refine j_q (qs_eql rfl rfl) ?_
     refine j_cond rfl (fun hc4 => ?_) (fun hc4 => ?_)
     ·skip
      have hec : ec = 0 := by simpa using hc4
      obtain ⟨hcq, hrm1⟩ := hce0 hec
      obtain ⟨hp1, hs1, ⟨G1, q1, a1, hpq1, hab1, hqc1, hqk1, hqb1, hqd1, hj1, had1⟩, hr1x, hgj1, hfp1, hgf1⟩ := hcq
      refine j_call 3 ent23 rfl rfl rfl rfl (fun w' hw' => rcom_con z w' hst.zo) (fun u S2 hu => ?_)
      obtain ⟨rfl, z1, rfl, hz1, hgz1, habz1⟩ := hu
      refine j_subl (S' := [z1.heap, p1.heap, j1.heap, r1'.heap]) (by repeat first | exact slR _ | exact slN _ | apply slC | apply slD) ?_
      refine j_perm (S' := [p1.heap, j1.heap, r1'.heap, z1.heap]) (by
       classical
       refine List.perm_iff_count.2 fun x => ?_
       simp only [List.set, List.flatten_cons, List.flatten_nil, List.append_nil, List.nil_append, List.cons_append, List.count_append, List.count_cons, List.count_nil]
       all_goals omega) ?_
      refine j_q (qs_add64 rfl rfl (by first | omega | (simp only [bnA] at *; omega))) ?_
      refine j_back rfl ?_
      exact ⟨_, by omega, i + 1, p1, j1, r1', z1, G1, q1, a1, f1, false, rfl, rfl, fun _ => ⟨⟨hp1, hab1, (hs1.jp.trans hst.jp).trans (by rw [JM.ptr, JM.ptr, hgj1]), hj1, (hfp1.trans hst.fp).trans (by rw [FR.ptr, FR.ptr, hgf1]), hr1x, hz1, by rw [habz1]; exact hst.rl.com hqc1 hqk1 hqb1, had1, hqd1, by rw [sumX_succ hi1]; exact hpq1.le (Nat.le_add_right _ _)⟩, hrm1.trans hroom⟩, (fun h => by cases h), hr1', hz1, hgp1.trans hgp, hgr1'.trans hgr, hgz1.trans hgz, hi1, hi2, rfl⟩
     ·skip
      have hec : ec ≠ 0 := by simpa using hc4
      refine j_q (qs_ac) ?_
      refine j_q (qs_add64 rfl rfl (by first | omega | (simp only [bnA] at *; omega))) ?_
      refine j_back rfl ?_
      exact ⟨_, by omega, i + 1, p1, j1, r1', z, G, q, a, f1, true, rfl, rfl, (fun h => by cases h), fun _ => by rw [show z.k = q.k from hst.rl.k, show z.c = q.c from hst.rl.c]; exact hce1 hec, hr1', hst.zo, hgp1.trans hgp, hgr1'.trans hgr, hgz, hi1, hi2, rfl⟩
    ·skip
     have hk5 : (rs.getD i SJ0).kind ≠ 5 := by simpa using hc3
     refine j_q (qs_ixn (g := g) (off := off) (n := rs.length) (c := cap) (i := i) U45 sz55 rfl rfl hi1) ?_
     refine j_q (qs_field U55 rfl sz3 (by decide) rfl) ?_
     refine j_q (qs_loadR (v := .int .i64 (rs.getD i SJ0).kind) (a := ⟨g, off, none⟩) (i := i * 3 + 0) (rd_cells hcl (by simp)) U3 rfl (congrArg (fun z => Value.pointer (some z)) (off3 g off i 0)) (steps_get hi1 rfl)) ?_
     refine j_q (qs_geq rfl rfl) ?_
     refine j_g rfl (fun hb => qs_mt rfl) ?_
     refine j_g rfl (fun hb => qs_mt rfl) ?_
     refine j_g rfl (fun hb => qs_ixn (g := g) (off := off) (n := rs.length) (c := cap) (i := i) U45 sz55 (gd_eq hb) (gd_eq hb) hi1) ?_
     refine j_g rfl (fun hb => qs_field U55 rfl sz3 (by decide) (gd_eq hb)) ?_
     refine j_g (v := .int .i64 (rs.getD i SJ0).kind) rfl (fun hb => qs_loadR (a := ⟨g, off, none⟩) (i := i * 3 + 0) (rd_cells hcl (by simp)) U3 rfl ((gd_eq hb).trans (congrArg (fun z => Value.pointer (some z)) (off3 g off i 0))) (steps_get hi1 rfl)) ?_
     refine j_g rfl (fun hb => qs_leq (gd_eq hb) rfl) ?_
     refine j_q (qs_and rfl rfl) ?_
     refine j_cond rfl (fun hc5 => ?_) (fun hc5 => ?_)
     ·skip
      have hmem : inMem (rs.getD i SJ0).kind := by
       have h9 : 1 ≤ (rs.getD i SJ0).kind ∧ (rs.getD i SJ0).kind ≤ 6 := by
        simp only [gd, Bool.and_eq_true, decide_eq_true_eq] at hc5
        omega
       unfold inMem
       omega
      refine j_q (qs_ixn (g := g) (off := off) (n := rs.length) (c := cap) (i := i) U45 sz55 rfl rfl hi1) ?_
      refine j_q (qs_loadrecw (encA := encJ) (rs := rs) (d := SJ0) (i := i) encJ_len (rd_cells hcl (by simp)) hi1 U55 rfl sz55 rfl) ?_
      refine j_perm (S' := [p.heap ++ (j.heap ++ (r.heap ++ z.heap))]) (by simp) ?_
      refine j_call 0 ent21 rfl rfl rfl rfl (fun w' hw' => doesP_con p j r z G q a f (rs.getD i SJ0) i (sumX rs i) w' hst (fun h => absurd hmem h) hroom hi2 hsx (hP.keep hw' (by simp)) (hT.keep hw' (by simp)) (out_gen hw' hT.1 (by simp) (k := 0) rfl) (out_gen hw' hP.1 (by simp) (k := 0) rfl) ⟨hxk, hxn, br0 hxb hw', hxl⟩ (br0 hxb hw') (base_sep hxb hw' 0 rfl)) (fun u S5 h5 => ?_)
      obtain ⟨p1, j1, r1', z1, G1, q1, a1, f1, rfl, rfl, hst1, hgr1', hgz1, hfu1, hroom1, hsame⟩ := h5
      have hgp1 : p1.g = p.g := (hsame hmem).2.2.2.2.2
      refine j_subl (S' := [p1.heap, j1.heap, r1'.heap, z1.heap]) (by repeat first | exact slR _ | exact slN _ | apply slC | apply slD) ?_
      refine j_q (qs_ext (vs := [p1.ptr, .bool true]) rfl rfl) ?_
      refine j_q (qs_ext (vs := [p1.ptr, .bool true]) rfl rfl) ?_
      refine j_q (qs_not rfl) ?_
      refine j_cond rfl (fun hc6 => ?_) (fun hc6 => ?_)
      ·skip
       simp at hc6
      ·skip
       refine j_q (qs_add64 rfl rfl (by first | omega | (simp only [bnA] at *; omega))) ?_
       refine j_back rfl ?_
       exact ⟨_, by omega, i + 1, p1, j1, r1', z1, G1, q1, a1, f1, false, rfl, rfl, fun _ => ⟨by rw [sumX_succ hi1]; exact hst1, hroom1.trans hroom⟩, (fun h => by cases h), hst1.ro, hst1.zo, hgp1.trans hgp, hgr1'.trans hgr, hgz1.trans hgz, hi1, hi2, rfl⟩
     ·skip
      refine j_q (qs_add64 rfl rfl (by first | omega | (simp only [bnA] at *; omega))) ?_
      refine j_back rfl ?_
      exact ⟨_, by omega, i + 1, p, j, r, z, G, q, a, f, false, rfl, rfl, fun _ => ⟨by rw [sumX_succ hi1]; exact hst.up (Nat.le_add_right _ _), hroom⟩, (fun h => by cases h), hro, hzo, hgp, hgr, hgz, hi1, hi2, rfl⟩
   ·skip
    have hpr : r0.ptr = r.ptr := by simp only [FR.ptr, hgr]
    have hpz : (.pointer (some ⟨g21, 0, none⟩) : Value) = z.ptr := by rw [RM.ptr, hgz]
    rw [hpr, hpz]
    refine j_call 2 ent24 rfl rfl rfl rfl (fun w' hw' => crashG_con r f keep w' hro) (fun u S2 hu => ?_)
    obtain ⟨r5, rfl, hr5, hgr5⟩ := hu
    refine j_subl (S' := [r5.heap, z.heap]) (by repeat first | exact slR _ | exact slN _ | apply slC | apply slD) ?_
    have hout : ∃ GO : List (List (Nat × PE)), JS (pjName pagesN) 0 (gsP GO) (crashF f keep).now ∧ alook (crashF f keep).now.nm pagesN = none ∧ limG (gsP GO) ∧ okG GO ∧ (replay GO = z.k ∨ (bk = true ∧ replay GO = z.c)) := by
     cases bk with
     | false =>
      obtain ⟨hst, hroom⟩ := hb0 rfl
      have h9 := (hst.pq.crash keep).openNow
      exact ⟨G, h9.2, h9.1, hst.pq.limG (by omega) (by have := hhv9 i hi hi100; omega), hst.pq.go, .inl (hst.pq.kk.symm.trans hst.rl.k.symm)⟩
     | true =>
      obtain ⟨G1, G2, hall, hnh, hl1, hl2, ho1, ho2, hk1, hk2⟩ := hb1 rfl
      have hn9 := (AllF.crash hnh keep).now
      rcases (AllF.crash hall keep).now with h9 | h9
      ·exact ⟨G1, h9, hn9, hl1, ho1, .inl hk1⟩
      ·exact ⟨G2, h9, hn9, hl2, ho2, .inr ⟨rfl, hk2⟩⟩
    obtain ⟨GO, hjs, hno, hlo, hgo, hcase⟩ := hout
    rw [show r.ptr = r5.ptr from by rw [FR.ptr, FR.ptr, hgr5]]
    refine j_call0 ent10 rfl rfl rfl (fun w' hw' => popen_con r5 (crashF f keep) pagesN GO w' (in_own hw' 0 rfl) hr5 (by decide) hno hjs hlo hgo (hP.keep hw' (by simp))) (fun u S2 hu => ?_)
    obtain ⟨p5, j5, rfl, rfl, hp5, hpf5, hpn5, hpj5, hj5, hjf5, hab5⟩ := hu
    have hc5 : p5.c = replay GO := c_ab hab5
    refine j_q (qs_ext rfl rfl) ?_
    refine j_q (qs_ext rfl rfl) ?_
    refine j_q (qs_neq rfl rfl) ?_
    rw [show ((0 : Int) != 0) = false from rfl]
    refine j_gt rfl (qs_mt rfl) ?_
    refine j_gt rfl (qs_pnil U27 rfl) ?_
    refine j_q (qs_or rfl rfl) ?_
    refine j_cond rfl (fun hc7 => ?_) (fun hc7 => ?_)
    ·skip
     simp at hc7
    ·skip
     refine j_q (qs_nil rfl) ?_
     refine j_q (qs_field U51 rfl sz48 (by decide) rfl) ?_
     refine j_perm (S' := [p5.heap, j5.heap, r5.heap, [(z.g, z.obj)], z.lc, z.kc, z.hc, z.P]) (by simp [RM.heap]) ?_
     refine j_q (qs_load (l := z.l) (v := z.kv) 3 U48 rfl rfl rfl rfl) ?_
     refine j_call0 ent22 rfl rfl rfl (fun w' hw' => stood_con p5 z.last z.kv z.kc z.P (-1) w' (in_own hw' 0 rfl) hp5 hzo.la hzo.pl (in_own hw' 5 rfl) (in_own hw' 7 rfl) hzo.nl.2 (by decide) (hT.keep hw' (by simp))) (fun u S2 hu => ?_)
     obtain ⟨b1, rfl, hbb⟩ := hu
     refine j_subl (S' := [p5.heap, j5.heap, r5.heap, [(z.g, z.obj)], z.lc, z.kc, z.hc, z.P]) (List.sublist_append_right _ _) ?_
     have hbc : b1 = true ∨ (b1 = false ∧ bk = true ∧ replay GO = z.c) := by
      rcases hcase with h | ⟨h1, h2⟩
      ·exact .inl (hbb (hc5.trans h) (.inl (by decide)))
      ·cases b1
       ·exact .inr ⟨rfl, h1, h2⟩
       ·exact .inl rfl
     rcases hbc with rfl | ⟨rfl, rfl, hgm⟩
     ·skip
      refine j_gn (by show Value.bool true ≠ _; simp) ?_
      refine j_gn (by show Value.bool true ≠ _; simp) ?_
      refine j_gn (by show undef ≠ _; simp [undef]) ?_
      refine j_gn (by show undef ≠ _; simp [undef]) ?_
      refine j_gn (by show undef ≠ _; simp [undef]) ?_
      refine j_gn (by show undef ≠ _; simp [undef]) ?_
      refine j_gn (by show undef ≠ _; simp [undef]) ?_
      refine j_gn (by show undef ≠ _; simp [undef]) ?_
      refine j_gn (by show Value.bool true ≠ _; simp) ?_
      refine j_q (v := .bool true) (qs_or (b0 := true) (b1 := true) rfl rfl) ?_
      refine j_gt rfl (qs_call ent8 rfl rfl rfl (fun w' hw' => known_con w' (hP.keep hw' (by simp)) (hT.keep hw' (by simp)))) ?_
      refine j_q (v := .bool true) (qs_and (b0 := true) (b1 := true) rfl rfl) ?_
      refine j_ret_con (vs := [_]) (fun w' hw' => ⟨rfl, trivial⟩) ?_
      rfl
     ·skip
      refine j_gt rfl (qs_mt rfl) ?_
      refine j_gt rfl (qs_move rfl) ?_
      refine j_gt rfl (qs_mt rfl) ?_
      refine j_gt rfl (qs_mt rfl) ?_
      refine j_gt rfl (qs_nil rfl) ?_
      refine j_gt rfl (qs_field U51 rfl sz48 (by decide) rfl) ?_
      refine j_gt rfl (qs_load (l := z.l) (v := z.lv) 3 U48 rfl rfl rfl rfl) ?_
      refine j_ga rfl ?_
      refine j_call0 ent22 rfl rfl rfl (fun w' hw' => stood_con p5 z.cur z.lv z.lc z.P (-1) w' (in_own hw' 0 rfl) hp5 hzo.cu hzo.pc (in_own hw' 4 rfl) (in_own hw' 7 rfl) hzo.nl.1 (by decide) (hT.keep hw' (by simp))) (fun u S2 hu => ?_)
      obtain ⟨b2, rfl, hb2⟩ := hu
      rw [hb2 (hc5.trans hgm) (.inl (by decide))]
      refine j_subl (S' := [p5.heap, j5.heap, r5.heap, [(z.g, z.obj)], z.lc, z.kc, z.hc, z.P]) (List.sublist_append_right _ _) ?_
      refine j_gt rfl (qs_and (b0 := true) (b1 := true) rfl rfl) ?_
      refine j_q (v := .bool true) (qs_or (b0 := false) (b1 := true) rfl rfl) ?_
      refine j_gt rfl (qs_call ent8 rfl rfl rfl (fun w' hw' => known_con w' (hP.keep hw' (by simp)) (hT.keep hw' (by simp)))) ?_
      refine j_q (v := .bool true) (qs_and (b0 := true) (b1 := true) rfl rfl) ?_
      refine j_ret_con (vs := [_]) (fun w' hw' => ⟨rfl, trivial⟩) ?_
      rfl
theorem pagesWhole_con (rs : List SJ) (vl : Value) (fuse keep : Int) (w : World) (hs : Script w vl rs) (_ : rs.length ≤ 4611686018427387903) (_ : -9223372036854775808 ≤ fuse ∧ fuse ≤ 9223372036854775807) (_ : -9223372036854775808 ≤ keep ∧ keep ≤ 9223372036854775807) (hP : P10 w) (hT : TB w) : Con Tryz.prog 7 [vl, .int .i64 fuse, .int .i64 keep] w [] fun u _ => u = .bool true := pWhole_con rs vl fuse keep w hs hP hT
end Go.Proofs.YtfebkkmmagbnlaaGreatDoor
/-! Arg9 -/
namespace Go.Proofs.YtfebkkmmagbnlaaGreatDoor
open Go Go.Sx Go.ChangeShapes Go.WideShapes Go.ChangeAt Go.RowKit
set_option linter.unusedVariables false
set_option maxRecDepth 100000
def BRz (w : World) (p : Value × List UInt8) : Prop := (p.1 = .slice none 0 0 ∧ p.2 = []) ∨ ∃ a cap, p.1 = .slice (some a) p.2.length cap ∧ p.2.length ≤ cap ∧ Cells w a (ints p.2)
theorem brz_br {w : World} {v : Value} {xs : List UInt8} (h : BRz w (v, xs)) : BR w v xs := by
 rcases h with h | ⟨a, cap, h1, h2, h3⟩
 ·exact .inl h
 ·refine .inr ⟨a, cap, h1, h2, fun h0 => ?_, h3⟩
  have h4 := h3 0 _ (ints_get_lt h0)
  have h5 : (a.add 0).block = a.block := rfl
  unfold World.cell? at h4
  split at h4
  ·rename_i hh
   rw [h5] at hh
   exact (Array.getElem?_eq_some_iff.1 hh).1
  ·cases h4
theorem weights_at {H : Type} {P : Program} {ts : List TypeId} {ds : List (DataW H)} (h : (DataW.weightsEach P ts ds).all (· ≤ reachBytes) = true) {j : Nat} {t : TypeId} {d : DataW H} (ht : ts[j]? = some t) (hd : ds[j]? = some d) : (d.weights P t).all (· ≤ reachBytes) = true :=
 List.all_eq_true.2 fun n hn => List.all_eq_true.1 h n (DataW.weights_mem_each ht hd n hn)
theorem row_trod {H : Type} {enc : TypeId × Value → H} {w : World} {b0 : Nat} {sp : Nat → Bool} {held : Bool} (fuel : Nat) (cs : List Value) (y : DataW H × List MemPlace) (h : DataW.trod enc Tryz.prog w b0 sp held fuel 33 cs = some y) (hw : (y.1.weights Tryz.prog 33).all (· ≤ reachBytes) = true) :
  ∃ p : Value × List UInt8, (BRz w p ∧ p.2.length ≤ 140737488351232) ∧ cs = [p.1] := by
 rcases open_ints U33 U5 (by kernel_rfl) h with ⟨hcs, _⟩ | ⟨a, len, cap, zs, hcs, hb, hl, hm, hz, hx, hcell, hsz⟩
 ·exact ⟨(.slice none 0 0, []), ⟨.inl ⟨rfl, rfl⟩, Nat.zero_le _⟩, hcs⟩
 ·have hlen : len ≤ zs.length := by rw [hz]; split <;> omega
  have hll : ((zs.take len).map by8).length = len := by simp [Nat.min_eq_left hlen]
  have hwl : len ≤ 140737488351232 := by
   have h0 := List.all_eq_true.1 hw (((lits IntKind.u8 (zs.take len) : List (DataW H)).length + (lits IntKind.u8 (zs.drop len) : List (DataW H)).length) * Tryz.prog.bytesOf 5) (by rw [hx]; simp [DataW.weights])
   have hb5 : Tryz.prog.bytesOf 5 = 1 := by kernel_rfl
   have hreach : reachBytes = 140737488351232 := rfl
   rw [hb5] at h0
   have h1 : (lits IntKind.u8 (zs.take len) : List (DataW H)).length = len := by simp [lits, Nat.min_eq_left hlen]
   rw [h1] at h0
   simp only [decide_eq_true_eq] at h0
   omega
  refine ⟨(.slice (some a) len cap, (zs.take len).map by8), ⟨.inr ⟨a, cap, by simp only [hll], by simp only [hll]; exact hl, fun j u hu => ?_⟩, by simp only [hll]; exact hwl⟩, hcs⟩
  rw [ints_get] at hu
  obtain ⟨c, hc1, rfl⟩ := Option.map_eq_some_iff.1 hu
  rw [List.getElem?_map] at hc1
  obtain ⟨z, hz1, rfl⟩ := Option.map_eq_some_iff.1 hc1
  have hz2 : zs[j]? = some z := by
   rw [List.getElem?_take] at hz1
   split at hz1
   ·exact hz1
   ·cases hz1
  have hlt := (List.getElem?_eq_some_iff.1 hz2).1
  rw [hcell j hlt]
  have hr := hsz z (List.mem_of_getElem? hz2)
  have hr2 : 0 ≤ z ∧ z ≤ 255 := by
   have h1 : IntKind.u8.min = 0 := rfl
   have h2 : IntKind.u8.max = 255 := rfl
   simp [Lit.wf, h1, h2] at hr
   omega
  have hw : IntKind.u8.wrap z = z := by rw [IntKind.wrap_u8]; omega
  rw [← wrap_by8, hw]
  simp [List.getD_eq_getElem?_getD, hz2]
theorem trod_struct3' {H : Type} {enc : TypeId × Value → H} {P : Program} {w : World} {base : Nat} {spare : Nat → Bool} {held : Bool} {t : TypeId} {f0 f1 f2 : Field} {fuel : Nat} {cs : List Value} {x : DataW H × List MemPlace} (ht : P.underlying t = some (.struct #[f0, f1, f2])) (h : DataW.trod enc P w base spare held fuel t cs = some x) :
  ∃ y0 y1 y2 n, x = (.agg [y0.1, y1.1, y2.1], y0.2 ++ (y1.2 ++ y2.2)) ∧ cs.length = P.cellsOf t ∧ DataW.trod enc P w base spare held n f0.type ((cs.drop f0.offset).take (P.cellsOf f0.type)) = some y0 ∧
   DataW.trod enc P w base spare held n f1.type ((cs.drop f1.offset).take (P.cellsOf f1.type)) = some y1 ∧ DataW.trod enc P w base spare held n f2.type ((cs.drop f2.offset).take (P.cellsOf f2.type)) = some y2 := by
 obtain ⟨xs, n, _, rfl, hl, hlen, hf⟩ := DataW.trod_struct ht h
 match xs, hlen with
 | [y0, y1, y2], _ => exact ⟨y0, y1, y2, n, by simp, hl, by simpa using hf 0 f0 rfl, by simpa using hf 1 f1 rfl, by simpa using hf 2 f2 rfl⟩
theorem intOk_wf {n : Int} (h : (Lit.int .i64 n).wf = true) : intOk n := by
 have h1 : IntKind.i64.min = -9223372036854775808 := rfl
 have h2 : IntKind.i64.max = 9223372036854775807 := rfl
 simp only [Lit.wf, h1, h2, Bool.and_eq_true, decide_eq_true_eq] at h
 exact h
theorem st_trod {H : Type} {enc : TypeId × Value → H} {w : World} {b0 : Nat} {sp : Nat → Bool} {held : Bool} (fuel : Nat) (cs : List Value) (y : DataW H × List MemPlace) (h : DataW.trod enc Tryz.prog w b0 sp held fuel 55 cs = some y) (hw : (y.1.weights Tryz.prog 55).all (· ≤ reachBytes) = true) :
  ∃ a : SJ, a.Ok w ∧ cs = encJ a := by
 obtain ⟨y0, y1, y2, n, rfl, hl, h0, h1, h2⟩ := trod_struct3' U55 h
 have hc : Tryz.prog.cellsOf 55 = 3 := by kernel_rfl
 rw [hc] at hl
 match cs, hl with
 | [c0, c1, c2], _ =>
  have e3 : Tryz.prog.cellsOf 3 = 1 := by kernel_rfl
  have e33 : Tryz.prog.cellsOf 33 = 1 := by kernel_rfl
  simp only [e3, e33, List.drop_zero, List.take_succ_cons, List.take_zero, List.drop_succ_cons] at h0 h1 h2
  obtain ⟨k0, hk0, e0, w0⟩ := DataW.trod_int U3 h0
  obtain ⟨k1, hk1, e1, w1⟩ := DataW.trod_int U3 h1
  unfold DataW.weights at hw
  rw [U55] at hw
  simp only [List.map_cons, List.map_nil, DataW.weightsEach, List.all_append, List.all_nil, Bool.and_eq_true, Bool.and_true] at hw
  obtain ⟨hw0, hw1, hw2⟩ := hw
  obtain ⟨p4, ⟨hp4, hp5⟩, hb4⟩ := row_trod n [c2] y2 h2 hw2
  injection hk0 with hk0
  injection hk1 with hk1
  injection hb4 with hb4
  subst hk0 hk1 hb4
  exact ⟨⟨k0, k1, p4.1, p4.2⟩, ⟨intOk_wf w0, intOk_wf w1, brz_br hp4, hp5⟩, rfl⟩
theorem open_script {H : Type} {enc : TypeId × Value → H} {w : World} {r : Go.Reach} {base b0 : Nat} {sp : Nat → Bool} {held : Bool} {v : Value} {x : DataW H × List MemPlace} (hv : Value.okWide Tryz.prog w r base 45 v)
  (h : ∃ fuel, DataW.trod enc Tryz.prog w b0 sp held fuel 45 v.cells.toList = some x) (hw : (x.1.weights Tryz.prog 45).all (· ≤ reachBytes) = true) : ∃ rs : List SJ, Script w v rs ∧ rs.length ≤ 4611686018427387903 := by
 obtain ⟨rs, h1, h2, h3⟩ := open_sln (α := SJ) encJ (SJ.Ok w) encJ_len (by decide) U45 (by kernel_rfl) hv st_trod h hw
 have hb : Tryz.prog.bytesOf 55 = 40 := by kernel_rfl
 have hreach : reachBytes = 140737488351232 := rfl
 rw [hb] at h3
 exact ⟨rs, ⟨h1, h2⟩, by omega⟩
end Go.Proofs.YtfebkkmmagbnlaaGreatDoor
/-! RowW -/
namespace Go.Proofs.YtfebkkmmagbnlaaGreatDoor
open Go Go.Sx Go.ChangeShapes Go.WideShapes Go.ChangeAt Go.RowKit
set_option linter.unusedVariables false
theorem own_pagesWhole : ownKnob Tryz.prog.godebug = none := by kernel_rfl
theorem laid_pagesWhole : laidOutB Tryz.prog = true := by kernel_rfl
set_option maxRecDepth 100000 in
theorem door_met_pagesWhole (os : Os) (args : Array Value) : laidMetH Tryz.prog Rows.pagesWholeRow.laid ((World.doorLaid Tryz.prog 400 os).forCall (fun _ _ => 0) ⟨#[], args, []⟩).memory := by
 rw [MakeChecks.laidMetH_plain _ _ _ (by kernel_rfl)]
 exact laidMet_of_run' 8 (by kernel_rfl) (by kernel_rfl)
theorem p10_of_laid_pagesWhole {W : World} (h : laidMetH Tryz.prog Rows.pagesWholeRow.laid W) : P10 W := by
 rw [MakeChecks.laidMetH_plain _ _ _ (by kernel_rfl)] at h
 have h3 : Lib.TabIs Tryz.prog W "internal/strconv.uint64pow10" .u64 p10 := Lib.tabIs_of_head (t := 196) (e := 64) (n := 20) (g := 1) (by kernel_rfl) (by kernel_rfl) U196 U64 (by kernel_rfl) (by kernel_rfl) (rest := []) h.tail.tail
 have hc : ∀ i, i < 20 → W.cell? ⟨1, i, none⟩ = some (.int .u64 (p10.getD i 0)) := fun i hi => h3.cell (by kernel_rfl) i hi
 refine ⟨?_, fun j u hu => ?_⟩
 ·have h0 := hc 0 (by decide)
  unfold World.cell? at h0
  by_cases hz : 1 < W.heap.size
  ·exact hz
  ·rw [Array.getElem?_eq_none (by simp only []; omega)] at h0
   cases h0
 ·obtain ⟨hj, rfl⟩ := List.getElem?_eq_some_iff.1 hu
  have hj' : j < 20 := by rw [ks_length] at hj; exact hj
  rw [add_off, Nat.zero_add, hc j hj']
  have := ks_get (k := .u64) (l := p10) (i := j) hj'
  rw [← this, List.getElem?_eq_getElem hj]
theorem tb_of_laid_pagesWhole {W : World} (h : laidMetH Tryz.prog Rows.pagesWholeRow.laid W) : TB W := by
 rw [MakeChecks.laidMetH_plain _ _ _ (by kernel_rfl)] at h
 have h3 : Lib.TabIs Tryz.prog W "math/bits.deBruijn64tab" .u8 (dbTab.map fun c => (c.toNat : Int)) := Lib.tabIs_of_head (t := 164) (e := 5) (n := 64) (g := 0) (by kernel_rfl) (by kernel_rfl) U164 U5 (by kernel_rfl) (by kernel_rfl) h.tail
 have hc : ∀ i, i < 64 → W.cell? ⟨0, i, none⟩ = some (.int .u8 ((dbTab.map fun c => (c.toNat : Int)).getD i 0)) := fun i hi => h3.cell (by kernel_rfl) i hi
 refine ⟨?_, fun j u hu => ?_⟩
 ·have h0 := hc 0 (by decide)
  unfold World.cell? at h0
  by_cases hz : 0 < W.heap.size
  ·exact hz
  ·rw [Array.getElem?_eq_none (by simp only []; omega)] at h0
   cases h0
 ·obtain ⟨hj, rfl⟩ := List.getElem?_eq_some_iff.1 hu
  have hj' : j < 64 := by rw [ints_length] at hj; exact hj
  rw [add_off, Nat.zero_add, hc j hj']
  have h9 : ints dbTab = ks .u8 (dbTab.map fun c => (c.toNat : Int)) := by simp [ints, ks]
  have := ks_get (k := .u8) (l := dbTab.map fun c => (c.toNat : Int)) (i := j) (by rw [List.length_map]; exact hj')
  rw [← this, ← h9, List.getElem?_eq_getElem hj]
set_option maxRecDepth 100000 in
theorem pagesWhole_lifted (os : Os) (started : os.Started) (H : Type) (enc : TypeId × Value → H) :
  ReturnsInHanded {} Tryz.checked os 7 .any (fun w args => (Rows.pagesWholeSpec.pre enc Tryz.prog Tryz.f7 [] false w args ∧ laidMetH Tryz.prog Rows.pagesWholeRow.laid w) ∧ sizedMet enc Tryz.prog Tryz.f7 (OpenSpec.ofChange Rows.pagesWholeSpec) false w args) (Rows.pagesWholeSpec.post enc Tryz.prog Tryz.f7 false true false false) := by
 refine returnsInHanded_of_change_and (C := Tryz.checked) (X := fun w _ => laidMetH Tryz.prog Rows.pagesWholeRow.laid w) (fun _ _ _ hh h => h.of_heap hh) own_pagesWhole started (by kernel_rfl) Tryz.func7
  (ChangeSpec.witness_shaped (enc := enc) (C := Tryz.checked) (os := os) (X := fun w _ => laidMetH Tryz.prog Rows.pagesWholeRow.laid w) false (World.doorLaid Tryz.prog 400 os) #[.slice none 0 0, .int .i64 0, .int .i64 0] 8 rfl (World.shaped_of_RefB (by kernel_rfl) (by kernel_rfl)) (by kernel_rfl) (by kernel_rfl) (by kernel_rfl) (door_met_pagesWhole os _)) ?_
 intro W base args ds gs before hval0 hW hcnd hsz0 hL _
 have hsz : (DataW.weightsEach Tryz.prog (Tryz.f7.params.toList ++ Rows.pagesWholeSpec.plain.varTypes Tryz.prog) (ds ++ gs)).all (· ≤ reachBytes) = true := hsz0
 have hreach : reachBytes = 140737488351232 := rfl
 have hval : ∀ (j : Nat) t v, Tryz.f7.params[j]? = some t → args[j]? = some v → Value.okWide Tryz.prog W .any base t v := hval0
 have hW' := hW
 obtain ⟨p, q, hA0, hV, rfl, hfz, hnd⟩ := hW
 have hA : DataW.TrodAll enc Tryz.prog W 0 (fun _ => true) true Tryz.f7.params.toList args.toList ds p := hA0
 rw [Tryz.params7] at hA hval
 obtain ⟨v0, v1, v2, d0, d1, d2, p0, p1, p2, rfl, rfl, rfl, h0, h1, h2⟩ := trodAll_three hA
 obtain ⟨rfl, rfl⟩ := trodVars_none hV
 obtain ⟨a0, wa0_0, wa0_1⟩ := open_script (hval 0 45 v0 rfl rfl) h0 (weights_at hsz (j := 0) (t := 45) (by rw [Tryz.params7]; rfl) rfl)
 obtain ⟨a1, rfl, rfl, rfl, wa1⟩ := open_int U3 (hval 1 3 v1 rfl rfl) h1
 obtain ⟨a2, rfl, rfl, rfl, wa2⟩ := open_int U3 (hval 2 3 v2 rfl rfl) h2
 clear hA0 hval0
 have hP := p10_of_laid_pagesWhole hL
 have hT := tb_of_laid_pagesWhole hL
 have hc := pagesWhole_con a0 v0 a1 a2 W wa0_0 wa0_1 (int_wf wa1) (int_wf wa2) hP hT (by simp) (by simp)
 refine hc.mono fun e W' h => ?_
 obtain ⟨v, S', rfl, rfl, hS⟩ := h
 exact ⟨_, rfl, post_law hW' rfl rfl laid_pagesWhole (by decide +kernel) rfl U4 (below_of_sig hS)⟩
theorem pagesWhole_holds : Rows.PagesWholeSaid :=
 OpenClaim.holds_of_wide 7 Tryz.f7 rfl rfl rfl rfl rfl rfl rfl ⟨rfl, rfl, rfl, rfl, rfl⟩ rfl rfl rfl rfl rfl (by kernel_rfl) Tryz.func7 (by kernel_rfl)
  (of_decide_eq_true (by kernel_rfl)) (by unfold Func.isWrapper; first | (rw [if_pos (by decide +kernel)]; kernel_rfl) | (rw [if_neg (by decide +kernel)]; exact ⟨rfl, rfl⟩))
  (fun os started H enc _ => pagesWhole_lifted os started H enc)
theorem pagesWholeCard_holds : Rows.PagesWholeCardSaid :=
 Claim7.holds_tied_plain_at .later [] [.data, .data, .data] true (true, "d6940ffa9aee17afc6c360ec4500667c41cf8441dfa5587ac010659349e4d1ff") false
  pagesWhole_holds (fun _ h => by cases h) (by kernel_rfl) (fun _ h => by cases h) pagesWhole_row_tie rfl ⟨rfl, rfl⟩ (by kernel_rfl) rfl
  (fun f fn hf hfn => by
   obtain rfl : f = 7 := Option.some.inj ((show Tryz.prog.funcNamed "pantry/pantrylaw9.PagesWhole" = some 7 by kernel_rfl).symm.trans hf) |>.symm
   obtain rfl : fn = Tryz.f7 := (Option.some.inj (Tryz.func7.symm.trans hfn)).symm
   exact ⟨by kernel_rfl, fun j t ht => by
    rw [Tryz.params7] at ht
    have hm : t ∈ [45, 3, 3] := by simpa using Array.mem_of_getElem? ht
    have hall : ([45, 3, 3].all fun u => !Tryz.prog.wantsStandIn u) = true := by kernel_rfl
    exact (show Tryz.prog.wantsStandIn t = false by simpa using List.all_eq_true.1 hall t hm)⟩)
  (by kernel_rfl)
end Go.Proofs.YtfebkkmmagbnlaaGreatDoor
