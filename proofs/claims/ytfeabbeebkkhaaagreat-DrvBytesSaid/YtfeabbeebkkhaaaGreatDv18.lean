/- Derivations: a derivation read. -/
import Derived.Test.YtfeabbeebkkhaaaGreatTa
import Derived.Test.YtfeabbeebkkhaaaGreatDv17
namespace Go.Proofs.YtfeabbeebkkhaaaGreat
open Go Go.Sx
set_option maxRecDepth 100000
set_option maxHeartbeats 4000000
set_option linter.unusedVariables false
set_option linter.unusedSimpArgs false
attribute [local irreducible] J JQ QS Con W opW
theorem ent83 : Sx.Enters Tryz.prog 83 := ⟨_, Tryz.func83, by kernel_rfl, by kernel_rfl⟩
theorem ent84 : Sx.Enters Tryz.prog 84 := ⟨_, Tryz.func84, by kernel_rfl, by kernel_rfl⟩
theorem ent85 : Sx.Enters Tryz.prog 85 := ⟨_, Tryz.func85, by kernel_rfl, by kernel_rfl⟩
theorem ent86 : Sx.Enters Tryz.prog 86 := ⟨_, Tryz.func86, by kernel_rfl, by kernel_rfl⟩
theorem ent87 : Sx.Enters Tryz.prog 87 := ⟨_, Tryz.func87, by kernel_rfl, by kernel_rfl⟩
theorem ent88 : Sx.Enters Tryz.prog 88 := ⟨_, Tryz.func88, by kernel_rfl, by kernel_rfl⟩
theorem ent90 : Sx.Enters Tryz.prog 90 := ⟨_, Tryz.func90, by kernel_rfl, by kernel_rfl⟩
theorem ent91 : Sx.Enters Tryz.prog 91 := ⟨_, Tryz.func91, by kernel_rfl, by kernel_rfl⟩

theorem tup8 (a b c d e f g h z : Bs) : tup [a, b, c, d, e, f, g, h] ++ z = [40] ++ (a ++ ([44] ++ (b ++ ([44] ++ (c ++ ([44] ++ (d ++ ([44] ++ (e ++ ([44] ++ (f ++ ([44] ++ (g ++ ([44] ++ (h ++ ([41] ++ z)))))))))))))))) := by
  unfold tup lst cms
  simp
theorem dtext_split (a : PD) (z : Bs) : dtext a ++ z = [68, 101, 114, 105, 118, 101, 40] ++ (qt a.name ++ ([44] ++ (lst [91] (a.outs.map tO) [93] ++ ([44] ++ (lst [91] (a.ins.map tI) [93] ++ ([44] ++ (lst [91] (a.srcs.map qt) [93] ++ ([44] ++ (qt a.sys ++ ([44] ++ (qt a.bld ++ ([44] ++ (lst [91] (a.args.map qt) [93] ++ ([44] ++ (lst [91] (a.env.map tV) [93] ++ ([41] ++ z)))))))))))))))) := by
  unfold dtext
  rw [List.append_assoc, tup8]
  rfl
def okD (a : PD) : Prop := ∀ o ∈ a.outs, okOut o
theorem pd_eq {n s b : Bs} {av : List Bs} {es : List PV} {is : List PI} {ss : List Bs} {os : List PO} {a : PD} (h1 : n = a.name) (h2 : s = a.sys) (h3 : b = a.bld) (h4 : av = a.args) (h5 : es = a.env) (h6 : is = a.ins) (h7 : ss = a.srcs) (h8 : os = a.outs) : (⟨n, s, b, av, es, is, ss, os⟩ : PD) = a := by
  subst h1 h2 h3 h4 h5 h6 h7 h8
  rfl
theorem sumW {α : Type} (f : α → Nat) (l : List α) : (l.map fun a => f a + 10).sum = (l.map f).sum + 10 * l.length := by
  induction l with
  | nil => rfl
  | cons a l ih =>
    simp only [List.map_cons, List.sum_cons, List.length_cons] at ih ⊢
    omega
theorem big2_w (d : PD) : big2 d = d.name.length + d.sys.length + d.bld.length + (d.outs.map wO).sum + (d.ins.map wI).sum + (d.srcs.map wS).sum + (d.args.map wS).sum + (d.env.map wV).sum := by
  have h1 : (d.outs.map wO).sum = _ := sumW (fun o : PO => o.name.length + o.path.length) d.outs
  have h2 : (d.ins.map wI).sum = _ := sumW (fun x : PI => x.drv.length + 10 * x.outs.length) d.ins
  have h3 : (d.env.map wV).sum = _ := sumW (fun v : PV => v.name.length + v.val.length) d.env
  have h4 := sumS d.srcs
  have h5 := sumS d.args
  unfold big2 big1
  omega
/-- a derivation's lists, in rows of one's own -/
structure DOwn (d : PD) (x : DV) (cO cI FI cS cA cV : SH) : Prop where
  o : Sx.Own 53 35 ((d.outs.map encO).flatten) x.vo cO
  i : Sx.Own 68 2 ((x.mi.map encI).flatten) x.vi cI
  io : PMine x.mi FI
  im : d.ins = x.mi.map MI.pi
  ob : ∀ m ∈ x.mi, ∀ o ∈ m.outs, o.length ≤ 3000000
  s : Sx.Own 49 1 (strs d.srcs) x.vs cS
  a : Sx.Own 9 1 (strs d.args) x.va cA
  e : Sx.Own 48 2 ((d.env.map encV).flatten) x.ve cV
theorem DOwn.outs {d : PD} {x : DV} {cO cI FI cS cA cV : SH} (h : DOwn d x cO cI FI cS cA cV) : ∀ y ∈ d.ins, ∀ o ∈ y.outs, o.length ≤ 3000000 := fun y hy o ho => by
  rw [h.im] at hy
  obtain ⟨m, hm, rfl⟩ := List.mem_map.1 hy
  exact h.ob m hm o ho
theorem flat_len' {α : Type} {n : Nat} (g : α → List Value) (h : ∀ a, (g a).length = n) (l : List α) : (l.map g).flatten.length = l.length * n := flat_len h l
theorem DOwn.dr {d : PD} {x : DV} {cO cI FI cS cA cV : SH} {w : World} (h : DOwn d x cO cI FI cS cA cV) (hw : ∀ p ∈ cO ++ cI ++ FI ++ cS ++ cA ++ cV, w.heap[p.1]? = some p.2) : DR w d x where
  o := rsln_ownw (len := d.outs.length) h.o (by decide) (flat_len' _ encO_len _) (fun p hp => hw p (by simp [hp]))
  i := rsln_ownw (len := x.mi.length) h.i (by decide) (flat_len' _ encI_len _) (fun p hp => hw p (by simp [hp]))
  e := rsln_ownw (len := d.env.length) h.e (by decide) (flat_len' _ encV_len _) (fun p hp => hw p (by simp [hp]))
  s := strz_ownw h.s (fun p hp => hw p (by simp [hp]))
  a := strz_ownw h.a (fun p hp => hw p (by simp [hp]))
  im := h.im
  io := fun m hm => by
    obtain ⟨c, h1, h2⟩ := h.io m hm
    exact strz_ownw h1 (fun p hp => hw p (by simp [h2 p hp]))
attribute [local irreducible] es qt cms hex Tbl Half lst TxK MnK tl tV tI tO tK tH tup dtext
/-- (*pantry.drv.reader).drv$1 -/
theorem pdrv1_con (gr gb : Nat) (r : Bs) (w : World) (hr : r.length ≤ 1099511627776) (hb : w.heap[gb]? = some (.cells [rp gr].toArray 85 (0, 0))) (hne : gb ∉ dom [RC gr r]) : ConB Tryz.prog BADV 88 [.pointer (some ⟨gb, 0, none⟩)] w [RC gr r] (fun v S' => ∃ (a : Bs) (r' : Bs), v = .string (bs a) ∧ S' = [[RC gr r']] ∧ wS a + 10 * r'.length ≤ 10 * r.length ∧ (∀ a2 z, True → r = qt a2 ++ z → a = a2 ∧ r' = z)) (∀ a2 z, True → r ≠ qt a2 ++ z) := by
  refine conb_of_tree mix Tryz.func88 T88_ok (by kernel_rfl) ?_
  unfold T88
  refine j_q (qs_ac) ?_
  refine j_q (qs_loadO (l := [rp gr]) (rdo_base hb hne) Tryz.underlying85 rfl rfl rfl) ?_
  refine j_callB 0 ent82 rfl rfl rfl rfl (fun w' hw' => textS_con gr r w' hr) id (fun u S2 hu => ?_)
  obtain ⟨a, r', rfl, rfl, hwt, hrel⟩ := hu
  refine j_subl (S' := [[RC gr r']]) (by repeat first | exact List.Sublist.refl _ | exact List.nil_sublist _ | apply List.Sublist.cons_cons | apply List.Sublist.cons) ?_
  refine j_ret_conb (vs := [_]) (fun w' hw' => ⟨rfl, trivial⟩) ?_
  exact ⟨a, r', rfl, rfl, hwt, hrel⟩
/-- (*pantry.drv.reader).drv -/
theorem pdrv_con (gr : Nat) (r : Bs) (w : World) (hr : r.length ≤ 300000) : ConB Tryz.prog BADV 44 [rp gr] w [RC gr r] (fun v S' => ∃ (d : PD) (x : DV) (r' : Bs) (cO cI FI cS cA cV : SH), v = dval d x ∧ S' = [[RC gr r'], cV, cA, cS, cI, FI, cO] ∧ DOwn d x cO cI FI cS cA cV ∧ big2 d + 10 * r'.length ≤ 10 * r.length ∧ (∀ a2 z, okD a2 → r = dtext a2 ++ z → d = a2 ∧ r' = z)) (∀ a2 z, okD a2 → r ≠ dtext a2 ++ z) := by
  refine conb_of_tree mix Tryz.func44 T44_ok (by kernel_rfl) ?_
  unfold T44
  refine j_box rfl (fun g0 hg0 hs0 => ?_)
  refine j_alloc zero28 (fun g1 hg1 hs1 => ?_)
  refine j_q (qs_load (l := [rp gr]) 1 Tryz.underlying85 rfl rfl rfl rfl) ?_
  have hne : g0 ≠ gr := by
    intro e
    apply hs0
    rw [e]
    simp [dom]
  have K0 := fun (a2 : PD) (z : Bs) (hok : okD a2) (hx : r = dtext a2 ++ z) => hx.trans (dtext_split a2 z)
  refine j_callB 2 ent81 rfl rfl rfl rfl (fun w' hw' => sign_con gr [68, 101, 114, 105, 118, 101, 40] r w' (by simp) (by omega)) (fun hb a2 z hok hx => hb ⟨_, K0 a2 z hok hx⟩) (fun u S2 hu => ?_)
  obtain ⟨rfl, r1, hr1, rfl⟩ := hu
  have K1 := fun (a2 : PD) (z : Bs) (hok : okD a2) (hx : r = dtext a2 ++ z) => List.append_cancel_left (hr1.symm.trans (K0 a2 z hok hx))
  have lr1 : r.length = r1.length + 7 := by rw [hr1]; simp; try omega
  refine j_subl (S' := [[RC gr r1], [(g1, .cells [.string (bs []), .string (bs []), .string (bs []), .slice none 0 0, .slice none 0 0, .slice none 0 0, .slice none 0 0, .slice none 0 0].toArray 28 (0, 0))], [(g0, .cells [rp gr].toArray 85 (0, 0))]]) (by repeat first | exact List.Sublist.refl _ | exact List.nil_sublist _ | apply List.Sublist.cons_cons | apply List.Sublist.cons) ?_
  refine j_q (qs_load (l := [rp gr]) 2 Tryz.underlying85 rfl rfl rfl rfl) ?_
  refine j_callB 0 ent82 rfl rfl rfl rfl (fun w' hw' => ptext_con gr r1 w' (by omega)) (fun hb a2 z hok hx => hb _ _ (K1 a2 z hok hx)) (fun u S2 hu => ?_)
  obtain ⟨t5, r2, rfl, rfl, lr2, hr2⟩ := hu
  have Et5 := fun (a2 : PD) (z : Bs) (hok : okD a2) (hx : r = dtext a2 ++ z) => (hr2 _ _ (K1 a2 z hok hx)).1
  have K2 := fun (a2 : PD) (z : Bs) (hok : okD a2) (hx : r = dtext a2 ++ z) => (hr2 _ _ (K1 a2 z hok hx)).2
  refine j_subl (S' := [[RC gr r2], [(g1, .cells [.string (bs []), .string (bs []), .string (bs []), .slice none 0 0, .slice none 0 0, .slice none 0 0, .slice none 0 0, .slice none 0 0].toArray 28 (0, 0))], [(g0, .cells [rp gr].toArray 85 (0, 0))]]) (by repeat first | exact List.Sublist.refl _ | exact List.nil_sublist _ | apply List.Sublist.cons_cons | apply List.Sublist.cons) ?_
  refine j_q (qs_field Tryz.underlying28 rfl sz9 (by decide) rfl) ?_
  refine j_store (l := [.string (bs []), .string (bs []), .string (bs []), .slice none 0 0, .slice none 0 0, .slice none 0 0, .slice none 0 0, .slice none 0 0]) (v := .string (bs t5)) 1 sz9 rfl rfl rfl rfl (by simp) (by simp) ?_
  refine j_q (qs_load (l := [rp gr]) 2 Tryz.underlying85 rfl rfl rfl rfl) ?_
  refine j_callB 0 ent81 rfl rfl rfl rfl (fun w' hw' => sign_con gr [44] r2 w' (by simp) (by omega)) (fun hb a2 z hok hx => hb ⟨_, K2 a2 z hok hx⟩) (fun u S2 hu => ?_)
  obtain ⟨rfl, r3, hr3, rfl⟩ := hu
  have K3 := fun (a2 : PD) (z : Bs) (hok : okD a2) (hx : r = dtext a2 ++ z) => List.append_cancel_left (hr3.symm.trans (K2 a2 z hok hx))
  have lr3 : r2.length = r3.length + 1 := by rw [hr3]; simp; try omega
  refine j_subl (S' := [[RC gr r3], [(g1, .cells [.string (bs t5), .string (bs []), .string (bs []), .slice none 0 0, .slice none 0 0, .slice none 0 0, .slice none 0 0, .slice none 0 0].toArray 28 (0, 0))], [(g0, .cells [rp gr].toArray 85 (0, 0))]]) (by repeat first | exact List.Sublist.refl _ | exact List.nil_sublist _ | apply List.Sublist.cons_cons | apply List.Sublist.cons) ?_
  refine j_q (qs_load (l := [rp gr]) 2 Tryz.underlying85 rfl rfl rfl rfl) ?_
  refine j_q (qs_load (l := [rp gr]) 2 Tryz.underlying85 rfl rfl rfl rfl) ?_
  refine j_q (qs_mkfuncF rfl) ?_
  refine j_callB 0 ent83 rfl rfl rfl rfl (fun w' hw' => manyO_con gr r3 tO okOut wO 84 #[rp gr] #[] w' (by omega) ent84 tO_head (fun _ => Nat.le_add_left ..) (fun r' w2 S3 hl hs2 => pout_con gr r' w2 (by omega))) (fun hb a2 z hok hx => hb _ _ hok (K3 a2 z hok hx)) (fun u S2 hu => ?_)
  obtain ⟨l13, c13, r4, rfl, hO13, hs13, hr13⟩ := hu
  have E13 := fun (a2 : PD) (z : Bs) (hok : okD a2) (hx : r = dtext a2 ++ z) => (hr13 _ _ hok (K3 a2 z hok hx)).1
  have K4 := fun (a2 : PD) (z : Bs) (hok : okD a2) (hx : r = dtext a2 ++ z) => (hr13 _ _ hok (K3 a2 z hok hx)).2
  obtain ⟨n13, A13, cap13, rfl, hn13⟩ := own_form hO13 (by decide)
  refine j_subl (S' := [c13, [RC gr r4], [(g1, .cells [.string (bs t5), .string (bs []), .string (bs []), .slice none 0 0, .slice none 0 0, .slice none 0 0, .slice none 0 0, .slice none 0 0].toArray 28 (0, 0))], [(g0, .cells [rp gr].toArray 85 (0, 0))]]) (by repeat first | exact List.Sublist.refl _ | exact List.nil_sublist _ | apply List.Sublist.cons_cons | apply List.Sublist.cons) ?_
  refine j_q (qs_field Tryz.underlying28 rfl sz26 (by decide) rfl) ?_
  refine j_store (l := [.string (bs t5), .string (bs []), .string (bs []), .slice none 0 0, .slice none 0 0, .slice none 0 0, .slice none 0 0, .slice none 0 0]) (v := .slice A13 n13 cap13) 2 sz26 rfl rfl rfl rfl (by simp) (by simp) ?_
  refine j_q (qs_load (l := [rp gr]) 3 Tryz.underlying85 rfl rfl rfl rfl) ?_
  refine j_callB 1 ent81 rfl rfl rfl rfl (fun w' hw' => sign_con gr [44] r4 w' (by simp) (by omega)) (fun hb a2 z hok hx => hb ⟨_, K4 a2 z hok hx⟩) (fun u S2 hu => ?_)
  obtain ⟨rfl, r5, hr5, rfl⟩ := hu
  have K5 := fun (a2 : PD) (z : Bs) (hok : okD a2) (hx : r = dtext a2 ++ z) => List.append_cancel_left (hr5.symm.trans (K4 a2 z hok hx))
  have lr5 : r4.length = r5.length + 1 := by rw [hr5]; simp; try omega
  refine j_subl (S' := [[RC gr r5], c13, [(g1, .cells [.string (bs t5), .string (bs []), .string (bs []), .slice none 0 0, .slice none 0 0, .slice none 0 0, .slice none 0 0, .slice A13 n13 cap13].toArray 28 (0, 0))], [(g0, .cells [rp gr].toArray 85 (0, 0))]]) (by repeat first | exact List.Sublist.refl _ | exact List.nil_sublist _ | apply List.Sublist.cons_cons | apply List.Sublist.cons) ?_
  refine j_q (qs_load (l := [rp gr]) 3 Tryz.underlying85 rfl rfl rfl rfl) ?_
  refine j_q (qs_load (l := [rp gr]) 3 Tryz.underlying85 rfl rfl rfl rfl) ?_
  refine j_q (qs_mkfuncF rfl) ?_
  refine j_callB 0 ent85 rfl rfl rfl rfl (fun w' hw' => manyI_con gr r5 tI (fun _ => True) wI 86 #[rp gr] #[] w' (by omega) ent86 tI_head (fun _ => Nat.le_add_left ..) (fun r' w2 S3 hl hs2 => pin_con gr r' w2 (by omega))) (fun hb a2 z hok hx => hb _ _ (fun _ _ => trivial) (K5 a2 z hok hx)) (fun u S2 hu => ?_)
  obtain ⟨l21, c21, r6, F21, rfl, hO21, hs21, hr21, hm21, hb21⟩ := hu
  have E21 := fun (a2 : PD) (z : Bs) (hok : okD a2) (hx : r = dtext a2 ++ z) => (hr21 _ _ (fun _ _ => trivial) (K5 a2 z hok hx)).1
  have K6 := fun (a2 : PD) (z : Bs) (hok : okD a2) (hx : r = dtext a2 ++ z) => (hr21 _ _ (fun _ _ => trivial) (K5 a2 z hok hx)).2
  obtain ⟨n21, A21, cap21, rfl, hn21⟩ := own_form hO21 (by decide)
  refine j_subl (S' := [c21, [RC gr r6], F21, c13, [(g1, .cells [.string (bs t5), .string (bs []), .string (bs []), .slice none 0 0, .slice none 0 0, .slice none 0 0, .slice none 0 0, .slice A13 n13 cap13].toArray 28 (0, 0))], [(g0, .cells [rp gr].toArray 85 (0, 0))]]) (by repeat first | exact List.Sublist.refl _ | exact List.nil_sublist _ | apply List.Sublist.cons_cons | apply List.Sublist.cons) ?_
  refine j_q (qs_field Tryz.underlying28 rfl sz24 (by decide) rfl) ?_
  refine j_store (l := [.string (bs t5), .string (bs []), .string (bs []), .slice none 0 0, .slice none 0 0, .slice none 0 0, .slice none 0 0, .slice A13 n13 cap13]) (v := .slice A21 n21 cap21) 4 sz24 rfl rfl rfl rfl (by simp) (by simp) ?_
  refine j_q (qs_load (l := [rp gr]) 5 Tryz.underlying85 rfl rfl rfl rfl) ?_
  refine j_callB 1 ent81 rfl rfl rfl rfl (fun w' hw' => sign_con gr [44] r6 w' (by simp) (by omega)) (fun hb a2 z hok hx => hb ⟨_, K6 a2 z hok hx⟩) (fun u S2 hu => ?_)
  obtain ⟨rfl, r7, hr7, rfl⟩ := hu
  have K7 := fun (a2 : PD) (z : Bs) (hok : okD a2) (hx : r = dtext a2 ++ z) => List.append_cancel_left (hr7.symm.trans (K6 a2 z hok hx))
  have lr7 : r6.length = r7.length + 1 := by rw [hr7]; simp; try omega
  refine j_subl (S' := [[RC gr r7], c21, F21, c13, [(g1, .cells [.string (bs t5), .string (bs []), .string (bs []), .slice none 0 0, .slice none 0 0, .slice A21 n21 cap21, .slice none 0 0, .slice A13 n13 cap13].toArray 28 (0, 0))], [(g0, .cells [rp gr].toArray 85 (0, 0))]]) (by repeat first | exact List.Sublist.refl _ | exact List.nil_sublist _ | apply List.Sublist.cons_cons | apply List.Sublist.cons) ?_
  refine j_q (qs_load (l := [rp gr]) 5 Tryz.underlying85 rfl rfl rfl rfl) ?_
  refine j_q (qs_mkfunc1 rfl) ?_
  refine j_callB 0 ent87 rfl rfl rfl rfl (fun w' hw' => manyP_con gr r7 qt (fun _ => True) wS 88 #[] #[.pointer (some ⟨g0, 0, none⟩)] w' (by omega) ent88 qt_head (fun _ => Nat.le_add_left ..) (fun r' w2 S3 hl hs2 => pdrv1_con gr g0 r' w2 (by omega) (by have h0 := hw'.at_ (k := 5) (g := g0) rfl; rw [hs2.frame g0 (lt_of_get h0) (by simp [dom, hne])]; exact h0) (by simp [dom, hne]))) (fun hb a2 z hok hx => hb _ _ (fun _ _ => trivial) (K7 a2 z hok hx)) (fun u S2 hu => ?_)
  obtain ⟨l28, c28, r8, rfl, hO28, hs28, hr28⟩ := hu
  have E28 := fun (a2 : PD) (z : Bs) (hok : okD a2) (hx : r = dtext a2 ++ z) => (hr28 _ _ (fun _ _ => trivial) (K7 a2 z hok hx)).1
  have K8 := fun (a2 : PD) (z : Bs) (hok : okD a2) (hx : r = dtext a2 ++ z) => (hr28 _ _ (fun _ _ => trivial) (K7 a2 z hok hx)).2
  obtain ⟨n28, A28, cap28, rfl, hn28⟩ := own_form hO28 (by decide)
  refine j_subl (S' := [c28, [RC gr r8], c21, F21, c13, [(g1, .cells [.string (bs t5), .string (bs []), .string (bs []), .slice none 0 0, .slice none 0 0, .slice A21 n21 cap21, .slice none 0 0, .slice A13 n13 cap13].toArray 28 (0, 0))], [(g0, .cells [rp gr].toArray 85 (0, 0))]]) (by repeat first | exact List.Sublist.refl _ | exact List.nil_sublist _ | apply List.Sublist.cons_cons | apply List.Sublist.cons) ?_
  refine j_q (qs_field Tryz.underlying28 rfl sz25 (by decide) rfl) ?_
  refine j_store (l := [.string (bs t5), .string (bs []), .string (bs []), .slice none 0 0, .slice none 0 0, .slice A21 n21 cap21, .slice none 0 0, .slice A13 n13 cap13]) (v := .slice A28 n28 cap28) 5 sz25 rfl rfl rfl rfl (by simp) (by simp) ?_
  refine j_q (qs_load (l := [rp gr]) 6 Tryz.underlying85 rfl rfl rfl rfl) ?_
  refine j_callB 1 ent81 rfl rfl rfl rfl (fun w' hw' => sign_con gr [44] r8 w' (by simp) (by omega)) (fun hb a2 z hok hx => hb ⟨_, K8 a2 z hok hx⟩) (fun u S2 hu => ?_)
  obtain ⟨rfl, r9, hr9, rfl⟩ := hu
  have K9 := fun (a2 : PD) (z : Bs) (hok : okD a2) (hx : r = dtext a2 ++ z) => List.append_cancel_left (hr9.symm.trans (K8 a2 z hok hx))
  have lr9 : r8.length = r9.length + 1 := by rw [hr9]; simp; try omega
  refine j_subl (S' := [[RC gr r9], c28, c21, F21, c13, [(g1, .cells [.string (bs t5), .string (bs []), .string (bs []), .slice none 0 0, .slice none 0 0, .slice A21 n21 cap21, .slice A28 n28 cap28, .slice A13 n13 cap13].toArray 28 (0, 0))], [(g0, .cells [rp gr].toArray 85 (0, 0))]]) (by repeat first | exact List.Sublist.refl _ | exact List.nil_sublist _ | apply List.Sublist.cons_cons | apply List.Sublist.cons) ?_
  refine j_q (qs_load (l := [rp gr]) 6 Tryz.underlying85 rfl rfl rfl rfl) ?_
  refine j_callB 0 ent82 rfl rfl rfl rfl (fun w' hw' => ptext_con gr r9 w' (by omega)) (fun hb a2 z hok hx => hb _ _ (K9 a2 z hok hx)) (fun u S2 hu => ?_)
  obtain ⟨t34, r10, rfl, rfl, lr10, hr10⟩ := hu
  have Et34 := fun (a2 : PD) (z : Bs) (hok : okD a2) (hx : r = dtext a2 ++ z) => (hr10 _ _ (K9 a2 z hok hx)).1
  have K10 := fun (a2 : PD) (z : Bs) (hok : okD a2) (hx : r = dtext a2 ++ z) => (hr10 _ _ (K9 a2 z hok hx)).2
  refine j_subl (S' := [[RC gr r10], c28, c21, F21, c13, [(g1, .cells [.string (bs t5), .string (bs []), .string (bs []), .slice none 0 0, .slice none 0 0, .slice A21 n21 cap21, .slice A28 n28 cap28, .slice A13 n13 cap13].toArray 28 (0, 0))], [(g0, .cells [rp gr].toArray 85 (0, 0))]]) (by repeat first | exact List.Sublist.refl _ | exact List.nil_sublist _ | apply List.Sublist.cons_cons | apply List.Sublist.cons) ?_
  refine j_q (qs_field Tryz.underlying28 rfl sz9 (by decide) rfl) ?_
  refine j_store (l := [.string (bs t5), .string (bs []), .string (bs []), .slice none 0 0, .slice none 0 0, .slice A21 n21 cap21, .slice A28 n28 cap28, .slice A13 n13 cap13]) (v := .string (bs t34)) 5 sz9 rfl rfl rfl rfl (by simp) (by simp) ?_
  refine j_q (qs_load (l := [rp gr]) 6 Tryz.underlying85 rfl rfl rfl rfl) ?_
  refine j_callB 0 ent81 rfl rfl rfl rfl (fun w' hw' => sign_con gr [44] r10 w' (by simp) (by omega)) (fun hb a2 z hok hx => hb ⟨_, K10 a2 z hok hx⟩) (fun u S2 hu => ?_)
  obtain ⟨rfl, r11, hr11, rfl⟩ := hu
  have K11 := fun (a2 : PD) (z : Bs) (hok : okD a2) (hx : r = dtext a2 ++ z) => List.append_cancel_left (hr11.symm.trans (K10 a2 z hok hx))
  have lr11 : r10.length = r11.length + 1 := by rw [hr11]; simp; try omega
  refine j_subl (S' := [[RC gr r11], c28, c21, F21, c13, [(g1, .cells [.string (bs t5), .string (bs t34), .string (bs []), .slice none 0 0, .slice none 0 0, .slice A21 n21 cap21, .slice A28 n28 cap28, .slice A13 n13 cap13].toArray 28 (0, 0))], [(g0, .cells [rp gr].toArray 85 (0, 0))]]) (by repeat first | exact List.Sublist.refl _ | exact List.nil_sublist _ | apply List.Sublist.cons_cons | apply List.Sublist.cons) ?_
  refine j_q (qs_load (l := [rp gr]) 6 Tryz.underlying85 rfl rfl rfl rfl) ?_
  refine j_callB 0 ent82 rfl rfl rfl rfl (fun w' hw' => ptext_con gr r11 w' (by omega)) (fun hb a2 z hok hx => hb _ _ (K11 a2 z hok hx)) (fun u S2 hu => ?_)
  obtain ⟨t40, r12, rfl, rfl, lr12, hr12⟩ := hu
  have Et40 := fun (a2 : PD) (z : Bs) (hok : okD a2) (hx : r = dtext a2 ++ z) => (hr12 _ _ (K11 a2 z hok hx)).1
  have K12 := fun (a2 : PD) (z : Bs) (hok : okD a2) (hx : r = dtext a2 ++ z) => (hr12 _ _ (K11 a2 z hok hx)).2
  refine j_subl (S' := [[RC gr r12], c28, c21, F21, c13, [(g1, .cells [.string (bs t5), .string (bs t34), .string (bs []), .slice none 0 0, .slice none 0 0, .slice A21 n21 cap21, .slice A28 n28 cap28, .slice A13 n13 cap13].toArray 28 (0, 0))], [(g0, .cells [rp gr].toArray 85 (0, 0))]]) (by repeat first | exact List.Sublist.refl _ | exact List.nil_sublist _ | apply List.Sublist.cons_cons | apply List.Sublist.cons) ?_
  refine j_q (qs_field Tryz.underlying28 rfl sz9 (by decide) rfl) ?_
  refine j_store (l := [.string (bs t5), .string (bs t34), .string (bs []), .slice none 0 0, .slice none 0 0, .slice A21 n21 cap21, .slice A28 n28 cap28, .slice A13 n13 cap13]) (v := .string (bs t40)) 5 sz9 rfl rfl rfl rfl (by simp) (by simp) ?_
  refine j_q (qs_load (l := [rp gr]) 6 Tryz.underlying85 rfl rfl rfl rfl) ?_
  refine j_callB 0 ent81 rfl rfl rfl rfl (fun w' hw' => sign_con gr [44] r12 w' (by simp) (by omega)) (fun hb a2 z hok hx => hb ⟨_, K12 a2 z hok hx⟩) (fun u S2 hu => ?_)
  obtain ⟨rfl, r13, hr13, rfl⟩ := hu
  have K13 := fun (a2 : PD) (z : Bs) (hok : okD a2) (hx : r = dtext a2 ++ z) => List.append_cancel_left (hr13.symm.trans (K12 a2 z hok hx))
  have lr13 : r12.length = r13.length + 1 := by rw [hr13]; simp; try omega
  refine j_subl (S' := [[RC gr r13], c28, c21, F21, c13, [(g1, .cells [.string (bs t5), .string (bs t34), .string (bs t40), .slice none 0 0, .slice none 0 0, .slice A21 n21 cap21, .slice A28 n28 cap28, .slice A13 n13 cap13].toArray 28 (0, 0))], [(g0, .cells [rp gr].toArray 85 (0, 0))]]) (by repeat first | exact List.Sublist.refl _ | exact List.nil_sublist _ | apply List.Sublist.cons_cons | apply List.Sublist.cons) ?_
  refine j_q (qs_load (l := [rp gr]) 6 Tryz.underlying85 rfl rfl rfl rfl) ?_
  refine j_q (qs_load (l := [rp gr]) 6 Tryz.underlying85 rfl rfl rfl rfl) ?_
  refine j_q (qs_mkfuncF rfl) ?_
  refine j_callB 0 ent89 rfl rfl rfl rfl (fun w' hw' => manyS_con gr r13 qt (fun _ => True) wS 82 #[rp gr] #[] w' (by omega) ent82 qt_head (fun _ => Nat.le_add_left ..) (fun r' w2 S3 hl hs2 => textS_con gr r' w2 (by omega))) (fun hb a2 z hok hx => hb _ _ (fun _ _ => trivial) (K13 a2 z hok hx)) (fun u S2 hu => ?_)
  obtain ⟨l48, c48, r14, rfl, hO48, hs48, hr48⟩ := hu
  have E48 := fun (a2 : PD) (z : Bs) (hok : okD a2) (hx : r = dtext a2 ++ z) => (hr48 _ _ (fun _ _ => trivial) (K13 a2 z hok hx)).1
  have K14 := fun (a2 : PD) (z : Bs) (hok : okD a2) (hx : r = dtext a2 ++ z) => (hr48 _ _ (fun _ _ => trivial) (K13 a2 z hok hx)).2
  obtain ⟨n48, A48, cap48, rfl, hn48⟩ := own_form hO48 (by decide)
  refine j_subl (S' := [c48, [RC gr r14], c28, c21, F21, c13, [(g1, .cells [.string (bs t5), .string (bs t34), .string (bs t40), .slice none 0 0, .slice none 0 0, .slice A21 n21 cap21, .slice A28 n28 cap28, .slice A13 n13 cap13].toArray 28 (0, 0))], [(g0, .cells [rp gr].toArray 85 (0, 0))]]) (by repeat first | exact List.Sublist.refl _ | exact List.nil_sublist _ | apply List.Sublist.cons_cons | apply List.Sublist.cons) ?_
  refine j_q (qs_field Tryz.underlying28 rfl sz22 (by decide) rfl) ?_
  refine j_store (l := [.string (bs t5), .string (bs t34), .string (bs t40), .slice none 0 0, .slice none 0 0, .slice A21 n21 cap21, .slice A28 n28 cap28, .slice A13 n13 cap13]) (v := .slice A48 n48 cap48) 6 sz22 rfl rfl rfl rfl (by simp) (by simp) ?_
  refine j_q (qs_load (l := [rp gr]) 7 Tryz.underlying85 rfl rfl rfl rfl) ?_
  refine j_callB 1 ent81 rfl rfl rfl rfl (fun w' hw' => sign_con gr [44] r14 w' (by simp) (by omega)) (fun hb a2 z hok hx => hb ⟨_, K14 a2 z hok hx⟩) (fun u S2 hu => ?_)
  obtain ⟨rfl, r15, hr15, rfl⟩ := hu
  have K15 := fun (a2 : PD) (z : Bs) (hok : okD a2) (hx : r = dtext a2 ++ z) => List.append_cancel_left (hr15.symm.trans (K14 a2 z hok hx))
  have lr15 : r14.length = r15.length + 1 := by rw [hr15]; simp; try omega
  refine j_subl (S' := [[RC gr r15], c48, c28, c21, F21, c13, [(g1, .cells [.string (bs t5), .string (bs t34), .string (bs t40), .slice A48 n48 cap48, .slice none 0 0, .slice A21 n21 cap21, .slice A28 n28 cap28, .slice A13 n13 cap13].toArray 28 (0, 0))], [(g0, .cells [rp gr].toArray 85 (0, 0))]]) (by repeat first | exact List.Sublist.refl _ | exact List.nil_sublist _ | apply List.Sublist.cons_cons | apply List.Sublist.cons) ?_
  refine j_q (qs_load (l := [rp gr]) 7 Tryz.underlying85 rfl rfl rfl rfl) ?_
  refine j_q (qs_load (l := [rp gr]) 7 Tryz.underlying85 rfl rfl rfl rfl) ?_
  refine j_q (qs_mkfuncF rfl) ?_
  refine j_callB 0 ent90 rfl rfl rfl rfl (fun w' hw' => manyV_con gr r15 tV (fun _ => True) wV 91 #[rp gr] #[] w' (by omega) ent91 tV_head (fun _ => Nat.le_add_left ..) (fun r' w2 S3 hl hs2 => pvar_con gr r' w2 (by omega))) (fun hb a2 z hok hx => hb _ _ (fun _ _ => trivial) (K15 a2 z hok hx)) (fun u S2 hu => ?_)
  obtain ⟨l56, c56, r16, rfl, hO56, hs56, hr56⟩ := hu
  have E56 := fun (a2 : PD) (z : Bs) (hok : okD a2) (hx : r = dtext a2 ++ z) => (hr56 _ _ (fun _ _ => trivial) (K15 a2 z hok hx)).1
  have K16 := fun (a2 : PD) (z : Bs) (hok : okD a2) (hx : r = dtext a2 ++ z) => (hr56 _ _ (fun _ _ => trivial) (K15 a2 z hok hx)).2
  obtain ⟨n56, A56, cap56, rfl, hn56⟩ := own_form hO56 (by decide)
  refine j_subl (S' := [c56, [RC gr r16], c48, c28, c21, F21, c13, [(g1, .cells [.string (bs t5), .string (bs t34), .string (bs t40), .slice A48 n48 cap48, .slice none 0 0, .slice A21 n21 cap21, .slice A28 n28 cap28, .slice A13 n13 cap13].toArray 28 (0, 0))], [(g0, .cells [rp gr].toArray 85 (0, 0))]]) (by repeat first | exact List.Sublist.refl _ | exact List.nil_sublist _ | apply List.Sublist.cons_cons | apply List.Sublist.cons) ?_
  refine j_q (qs_field Tryz.underlying28 rfl sz23 (by decide) rfl) ?_
  refine j_store (l := [.string (bs t5), .string (bs t34), .string (bs t40), .slice A48 n48 cap48, .slice none 0 0, .slice A21 n21 cap21, .slice A28 n28 cap28, .slice A13 n13 cap13]) (v := .slice A56 n56 cap56) 7 sz23 rfl rfl rfl rfl (by simp) (by simp) ?_
  refine j_q (qs_load (l := [rp gr]) 8 Tryz.underlying85 rfl rfl rfl rfl) ?_
  refine j_callB 1 ent81 rfl rfl rfl rfl (fun w' hw' => sign_con gr [41] r16 w' (by simp) (by omega)) (fun hb a2 z hok hx => hb ⟨_, K16 a2 z hok hx⟩) (fun u S2 hu => ?_)
  obtain ⟨rfl, r17, hr17, rfl⟩ := hu
  have K17 := fun (a2 : PD) (z : Bs) (hok : okD a2) (hx : r = dtext a2 ++ z) => List.append_cancel_left (hr17.symm.trans (K16 a2 z hok hx))
  have lr17 : r16.length = r17.length + 1 := by rw [hr17]; simp; try omega
  refine j_subl (S' := [[RC gr r17], c56, c48, c28, c21, F21, c13, [(g1, .cells [.string (bs t5), .string (bs t34), .string (bs t40), .slice A48 n48 cap48, .slice A56 n56 cap56, .slice A21 n21 cap21, .slice A28 n28 cap28, .slice A13 n13 cap13].toArray 28 (0, 0))], [(g0, .cells [rp gr].toArray 85 (0, 0))]]) (by repeat first | exact List.Sublist.refl _ | exact List.nil_sublist _ | apply List.Sublist.cons_cons | apply List.Sublist.cons) ?_
  refine j_q (qs_loadw (l := dcells (⟨t5, t34, t40, l48, l56, l21.map MI.pi, l28, l13⟩ : PD) (⟨.slice A48 n48 cap48, .slice A56 n56 cap56, .slice A21 n21 cap21, .slice A28 n28 cap28, .slice A13 n13 cap13, l21⟩ : DV)) 7 Tryz.underlying28 rfl sz28 rfl rfl rfl) ?_
  refine j_storew (l := dcells (⟨t5, t34, t40, l48, l56, l21.map MI.pi, l28, l13⟩ : PD) (⟨.slice A48 n48 cap48, .slice A56 n56 cap56, .slice A21 n21 cap21, .slice A28 n28 cap28, .slice A13 n13 cap13, l21⟩ : DV)) (vs := dcells (⟨t5, t34, t40, l48, l56, l21.map MI.pi, l28, l13⟩ : PD) (⟨.slice A48 n48 cap48, .slice A56 n56 cap56, .slice A21 n21 cap21, .slice A28 n28 cap28, .slice A13 n13 cap13, l21⟩ : DV)) 7 sz28 rfl rfl rfl (fun u hu => by simp only [dcells, List.mem_cons, List.not_mem_nil, or_false] at hu; rcases hu with rfl | rfl | rfl | rfl | rfl | rfl | rfl | rfl <;> rfl) rfl rfl ?_
  -- no @RET
  refine j_ret_conbs [[RC gr r17], c56, c48, c28, c21, F21, c13] (by repeat first | exact List.Sublist.refl _ | exact List.nil_sublist _ | apply List.Sublist.cons_cons | apply List.Sublist.cons) (vs := [_]) (fun w' hw' => ⟨rv_agg (l := dcells (⟨t5, t34, t40, l48, l56, l21.map MI.pi, l28, l13⟩ : PD) (⟨.slice A48 n48 cap48, .slice A56 n56 cap56, .slice A21 n21 cap21, .slice A28 n28 cap28, .slice A13 n13 cap13, l21⟩ : DV)) 7 Tryz.underlying28 rfl sz28 rfl rfl rfl hw', trivial⟩) ?_
  exact ⟨(⟨t5, t34, t40, l48, l56, l21.map MI.pi, l28, l13⟩ : PD), (⟨.slice A48 n48 cap48, .slice A56 n56 cap56, .slice A21 n21 cap21, .slice A28 n28 cap28, .slice A13 n13 cap13, l21⟩ : DV), r17, c13, c21, F21, c28, c48, c56, rfl, rfl, ⟨hO13, hO21, hm21, rfl, hb21, hO28, hO48, hO56⟩, by rw [big2_w]; simp only []; omega, fun a2 z hok hx => ⟨pd_eq (Et5 a2 z hok hx) (Et34 a2 z hok hx) (Et40 a2 z hok hx) (E48 a2 z hok hx) (E56 a2 z hok hx) (E21 a2 z hok hx) (E28 a2 z hok hx) (E13 a2 z hok hx), K17 a2 z hok hx⟩⟩
end Go.Proofs.YtfeabbeebkkhaaaGreat
