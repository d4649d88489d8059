/- Derivations: an output, an input, a variable read. -/
import Derived.Test.YtfeabbeebkkhaaaGreatTa
import Derived.Test.YtfeabbeebkkhaaaGreatDv16
namespace Go.Proofs.YtfeabbeebkkhaaaGreat
open Go Go.Sx
set_option maxRecDepth 100000
set_option maxHeartbeats 4000000
set_option linter.unusedVariables false
set_option linter.unusedSimpArgs false
attribute [local irreducible] J JQ QS Con W opW
theorem ent82 : Sx.Enters Tryz.prog 82 := ⟨_, Tryz.func82, by kernel_rfl, by kernel_rfl⟩
theorem ent89 : Sx.Enters Tryz.prog 89 := ⟨_, Tryz.func89, by kernel_rfl, by kernel_rfl⟩
theorem ent130 : Sx.Enters Tryz.prog 130 := ⟨_, Tryz.func130, by kernel_rfl, by kernel_rfl⟩

theorem conb_mono {P : Program} {pv : Value} {f : FuncId} {args : List Value} {w : World} {Fp : SH} {post post' : Value → List SH → Prop} {bad bad' : Prop} (h : ConB P pv f args w Fp post bad) (h1 : ∀ v S, post v S → post' v S) (h2 : bad → bad') : ConB P pv f args w Fp post' bad' := fun ho hd => (h ho hd).mono fun e w' hw => by
  rcases hw with ⟨v, S', he, hp, hs⟩ | ⟨he, hb, hs⟩
  · exact .inl ⟨v, S', he, h1 _ _ hp, hs⟩
  · exact .inr ⟨he, h2 hb, hs⟩
theorem tV_split (a : PV) (z : Bs) : tV a ++ z = [40] ++ (qt a.name ++ ([44] ++ (qt a.val ++ ([41] ++ z)))) := by
  unfold tV tup lst cms
  simp
theorem tI_split (a : PI) (z : Bs) : tI a ++ z = [40] ++ (qt a.drv ++ ([44] ++ (lst [91] (a.outs.map qt) [93] ++ ([41] ++ z)))) := by
  have e : tTs a.outs = lst [91] (a.outs.map qt) [93] := rfl
  rw [← e]
  unfold tI tup
  rw [show lst [40] [qt a.drv, tTs a.outs] [41] = [40] ++ qt a.drv ++ [44] ++ tTs a.outs ++ [41] by unfold lst cms; simp]
  simp only [List.append_assoc]
def tK (a : PO) : Bs := if a.fixed then sSha else []
def tH (a : PO) : Bs := if a.fixed then hex a.hash.1 else []
theorem tO_split (a : PO) (z : Bs) : tO a ++ z = [40] ++ (qt a.name ++ ([44] ++ (qt a.path ++ ([44] ++ (qt (tK a) ++ ([44] ++ (qt (tH a) ++ ([41] ++ z)))))))) := by
  have e : tO a = tup [qt a.name, qt a.path, qt (tK a), qt (tH a)] := rfl
  rw [e]
  unfold tup lst cms
  simp
def okOut (a : PO) : Prop := a.fixed = true ∨ a.hash = zHash
theorem pv_eq {n v : Bs} {a : PV} (h1 : n = a.name) (h2 : v = a.val) : (⟨n, v⟩ : PV) = a := by subst h1 h2; rfl
theorem pi_eq {n : Bs} {v : List Bs} {a : PI} (h1 : n = a.drv) (h2 : v = a.outs) : (⟨n, v⟩ : PI) = a := by subst h1 h2; rfl
theorem po_eqT {n p k t : Bs} {h : Hsh} {e : Int} {a : PO} (hc : (k == sSha) = true) (hh : ∀ y : Bs, y.length = 32 → t = hex y → h.1 = y ∧ e = 0) (h1 : n = a.name) (h2 : p = a.path) (h3 : k = tK a) (h4 : t = tH a) : (⟨n, p, true, h⟩ : PO) = a := by
  obtain ⟨an, ap, af, ah⟩ := a
  have hk : k = sSha := by simpa using hc
  have hf : af = true := by
    cases af with
    | true => rfl
    | false =>
      rw [hk] at h3
      exact absurd h3 (by unfold tK; simp)
  subst hf
  subst h1 h2
  have h5 := (hh ah.1 ah.2 (by rw [h4]; rfl)).1
  rw [show h = ah from Subtype.ext h5]
theorem po_eqF {n p k : Bs} {a : PO} (hc : (k == sSha) = false) (hok : okOut a) (h1 : n = a.name) (h2 : p = a.path) (h3 : k = tK a) : (⟨n, p, false, zHash⟩ : PO) = a := by
  obtain ⟨an, ap, af, ah⟩ := a
  cases af with
  | true =>
    rw [h3] at hc
    exact absurd hc (by unfold tK; simp)
  | false =>
    rcases hok with h | h
    · cases h
    · have : ah = zHash := h
      rw [this]
      subst h1 h2
      rfl
theorem qt_head (a : Bs) : ∃ c t, qt a = c :: t ∧ c ≠ 93 := ⟨34, _, rfl, by decide⟩
theorem tV_head (a : PV) : ∃ c t, tV a = c :: t ∧ c ≠ 93 := ⟨40, _, rfl, by decide⟩
theorem tI_head (a : PI) : ∃ c t, tI a = c :: t ∧ c ≠ 93 := ⟨40, _, rfl, by decide⟩
theorem tO_head (a : PO) : ∃ c t, tO a = c :: t ∧ c ≠ 93 := ⟨40, _, rfl, by decide⟩
theorem zero53e : zeroL Tryz.prog 53 = some (encO ⟨[], [], false, zHash⟩) := by kernel_rfl
theorem storeH {n p : Bs} {h : Bs} {f : Bool} {z : Hsh} (hl : h.length = 32) : List.take 3 (encO ⟨n, p, f, z⟩) ++ ints h ++ List.drop (3 + 32) (encO ⟨n, p, f, z⟩) = encO ⟨n, p, f, ⟨h, hl⟩⟩ := by
  rw [List.drop_of_length_le (by rw [encO_len]; omega), List.append_nil]
  rfl
abbrev wS (s : Bs) : Nat := s.length + 10
abbrev wV (a : PV) : Nat := a.name.length + a.val.length + 10
abbrev wO (a : PO) : Nat := a.name.length + a.path.length + 10
abbrev wI (a : PI) : Nat := a.drv.length + 10 * a.outs.length + 10
theorem sumS (l : List Bs) : (l.map wS).sum = sl l + 10 * l.length := by
  unfold sl
  induction l with
  | nil => rfl
  | cons a l ih =>
    have : wS a = a.length + 10 := rfl
    simp only [List.map_cons, List.sum_cons, List.length_cons] at ih ⊢
    omega
theorem sumS_mem {l : List Bs} {n : Nat} (h : (l.map wS).sum ≤ 10 * n) (hn : n ≤ 300000) : ∀ o ∈ l, o.length ≤ 3000000 := fun o ho => by
  induction l with
  | nil => cases ho
  | cons a l ih =>
    simp only [List.map_cons, List.sum_cons] at h
    rcases List.mem_cons.1 ho with rfl | ho
    · have : wS o ≤ 10 * n := by omega
      unfold wS at this
      omega
    · exact ih (by omega) ho
/-- a text read, as a member of a list -/
theorem textS_con (gr : Nat) (r : Bs) (w : World) (hr : r.length ≤ 1099511627776) : ConB Tryz.prog BADV 82 [rp gr] w [RC gr r] (fun v S' => ∃ (a : Bs) (r' : Bs), v = .string (bs a) ∧ S' = [[RC gr r']] ∧ wS a + 10 * r'.length ≤ 10 * r.length ∧ (∀ a2 z, True → r = qt a2 ++ z → a = a2 ∧ r' = z)) (∀ a2 z, True → r ≠ qt a2 ++ z) :=
  conb_mono (ptext_con gr r w hr) (fun v S ⟨t, r', h1, h2, h3, h4⟩ => ⟨t, r', h1, h2, by unfold wS; omega, fun a2 z _ hx => h4 a2 z hx⟩) (fun hb a2 z _ hx => hb a2 z hx)
attribute [local irreducible] es qt cms hex Tbl Half lst TxK MnK tl tV tI tO tK tH
/-- (*pantry.drv.reader).variable -/
theorem pvar_con (gr : Nat) (r : Bs) (w : World) (hr : r.length ≤ 300000) : ConB Tryz.prog BADV 91 [rp gr] w [RC gr r] (fun v S' => ∃ (a : PV) (r' : Bs), v = .agg (encV a).toArray ∧ S' = [[RC gr r']] ∧ wV a + 10 * r'.length ≤ 10 * r.length ∧ (∀ a2 z, (fun _ => True) a2 → r = tV a2 ++ z → a = a2 ∧ r' = z)) (∀ a2 z, (fun _ => True) a2 → r ≠ tV a2 ++ z) := by
  refine conb_of_tree mix Tryz.func91 T91_ok (by kernel_rfl) ?_
  unfold T91
  refine j_alloc zero48 (fun g0 hg0 hs0 => ?_)
  have K0 := fun (a2 : PV) (z : Bs) (hok : True) (hx : r = tV a2 ++ z) => hx.trans (tV_split a2 z)
  refine j_callB 1 ent81 rfl rfl rfl rfl (fun w' hw' => sign_con gr [40] r w' (by simp) (by omega)) (fun hb a2 z hok hx => hb ⟨_, K0 a2 z hok hx⟩) (fun u S2 hu => ?_)
  obtain ⟨rfl, r1, hr1, rfl⟩ := hu
  have K1 := fun (a2 : PV) (z : Bs) (hok : True) (hx : r = tV a2 ++ z) => List.append_cancel_left (hr1.symm.trans (K0 a2 z hok hx))
  have lr1 : r.length = r1.length + 1 := by rw [hr1]; simp; try omega
  refine j_subl (S' := [[RC gr r1], [(g0, .cells [.string (bs []), .string (bs [])].toArray 48 (0, 0))]]) (by repeat first | exact List.Sublist.refl _ | exact List.nil_sublist _ | apply List.Sublist.cons_cons | apply List.Sublist.cons) ?_
  refine j_callB 0 ent82 rfl rfl rfl rfl (fun w' hw' => ptext_con gr r1 w' (by omega)) (fun hb a2 z hok hx => hb _ _ (K1 a2 z hok hx)) (fun u S2 hu => ?_)
  obtain ⟨t2, r2, rfl, rfl, lr2, hr2⟩ := hu
  have Et2 := fun (a2 : PV) (z : Bs) (hok : True) (hx : r = tV a2 ++ z) => (hr2 _ _ (K1 a2 z hok hx)).1
  have K2 := fun (a2 : PV) (z : Bs) (hok : True) (hx : r = tV a2 ++ z) => (hr2 _ _ (K1 a2 z hok hx)).2
  refine j_subl (S' := [[RC gr r2], [(g0, .cells [.string (bs []), .string (bs [])].toArray 48 (0, 0))]]) (by repeat first | exact List.Sublist.refl _ | exact List.nil_sublist _ | apply List.Sublist.cons_cons | apply List.Sublist.cons) ?_
  refine j_q (qs_field Tryz.underlying48 rfl sz9 (by decide) rfl) ?_
  refine j_store (l := [.string (bs []), .string (bs [])]) (v := .string (bs t2)) 1 sz9 rfl rfl rfl rfl (by simp) (by simp) ?_
  refine j_callB 0 ent81 rfl rfl rfl rfl (fun w' hw' => sign_con gr [44] r2 w' (by simp) (by omega)) (fun hb a2 z hok hx => hb ⟨_, K2 a2 z hok hx⟩) (fun u S2 hu => ?_)
  obtain ⟨rfl, r3, hr3, rfl⟩ := hu
  have K3 := fun (a2 : PV) (z : Bs) (hok : True) (hx : r = tV a2 ++ z) => List.append_cancel_left (hr3.symm.trans (K2 a2 z hok hx))
  have lr3 : r2.length = r3.length + 1 := by rw [hr3]; simp; try omega
  refine j_subl (S' := [[RC gr r3], [(g0, .cells [.string (bs t2), .string (bs [])].toArray 48 (0, 0))]]) (by repeat first | exact List.Sublist.refl _ | exact List.nil_sublist _ | apply List.Sublist.cons_cons | apply List.Sublist.cons) ?_
  refine j_callB 0 ent82 rfl rfl rfl rfl (fun w' hw' => ptext_con gr r3 w' (by omega)) (fun hb a2 z hok hx => hb _ _ (K3 a2 z hok hx)) (fun u S2 hu => ?_)
  obtain ⟨t6, r4, rfl, rfl, lr4, hr4⟩ := hu
  have Et6 := fun (a2 : PV) (z : Bs) (hok : True) (hx : r = tV a2 ++ z) => (hr4 _ _ (K3 a2 z hok hx)).1
  have K4 := fun (a2 : PV) (z : Bs) (hok : True) (hx : r = tV a2 ++ z) => (hr4 _ _ (K3 a2 z hok hx)).2
  refine j_subl (S' := [[RC gr r4], [(g0, .cells [.string (bs t2), .string (bs [])].toArray 48 (0, 0))]]) (by repeat first | exact List.Sublist.refl _ | exact List.nil_sublist _ | apply List.Sublist.cons_cons | apply List.Sublist.cons) ?_
  refine j_q (qs_field Tryz.underlying48 rfl sz9 (by decide) rfl) ?_
  refine j_store (l := [.string (bs t2), .string (bs [])]) (v := .string (bs t6)) 1 sz9 rfl rfl rfl rfl (by simp) (by simp) ?_
  refine j_callB 0 ent81 rfl rfl rfl rfl (fun w' hw' => sign_con gr [41] r4 w' (by simp) (by omega)) (fun hb a2 z hok hx => hb ⟨_, K4 a2 z hok hx⟩) (fun u S2 hu => ?_)
  obtain ⟨rfl, r5, hr5, rfl⟩ := hu
  have K5 := fun (a2 : PV) (z : Bs) (hok : True) (hx : r = tV a2 ++ z) => List.append_cancel_left (hr5.symm.trans (K4 a2 z hok hx))
  have lr5 : r4.length = r5.length + 1 := by rw [hr5]; simp; try omega
  refine j_subl (S' := [[RC gr r5], [(g0, .cells [.string (bs t2), .string (bs t6)].toArray 48 (0, 0))]]) (by repeat first | exact List.Sublist.refl _ | exact List.nil_sublist _ | apply List.Sublist.cons_cons | apply List.Sublist.cons) ?_
  refine j_q (qs_loadw (l := encV ⟨t2, t6⟩) 1 Tryz.underlying48 rfl sz48 rfl rfl rfl) ?_
  refine j_storew (l := encV ⟨t2, t6⟩) (vs := encV ⟨t2, t6⟩) 1 sz48 rfl rfl rfl (encV_one _) rfl rfl ?_
  -- no @RET
  refine j_ret_conbs [[RC gr r5]] (by repeat first | exact List.Sublist.refl _ | exact List.nil_sublist _ | apply List.Sublist.cons_cons | apply List.Sublist.cons) (vs := [_]) (fun w' hw' => ⟨rv_agg (l := encV ⟨t2, t6⟩) 1 Tryz.underlying48 rfl sz48 rfl rfl rfl hw', trivial⟩) ?_
  exact ⟨⟨t2, t6⟩, r5, rfl, rfl, by unfold wV; simp only []; omega, fun a2 z hok hx => ⟨pv_eq (Et2 a2 z hok hx) (Et6 a2 z hok hx), K5 a2 z hok hx⟩⟩
/-- (*pantry.drv.reader).output -/
theorem pout_con (gr : Nat) (r : Bs) (w : World) (hr : r.length ≤ 300000) : ConB Tryz.prog BADV 84 [rp gr] w [RC gr r] (fun v S' => ∃ (a : PO) (r' : Bs), v = .agg (encO a).toArray ∧ S' = [[RC gr r']] ∧ wO a + 10 * r'.length ≤ 10 * r.length ∧ (∀ a2 z, okOut a2 → r = tO a2 ++ z → a = a2 ∧ r' = z)) (∀ a2 z, okOut a2 → r ≠ tO a2 ++ z) := by
  refine conb_of_tree mix Tryz.func84 T84_ok (by kernel_rfl) ?_
  unfold T84
  refine j_alloc zero53e (fun g0 hg0 hs0 => ?_)
  have K0 := fun (a2 : PO) (z : Bs) (hok : okOut a2) (hx : r = tO a2 ++ z) => hx.trans (tO_split a2 z)
  refine j_callB 1 ent81 rfl rfl rfl rfl (fun w' hw' => sign_con gr [40] r w' (by simp) (by omega)) (fun hb a2 z hok hx => hb ⟨_, K0 a2 z hok hx⟩) (fun u S2 hu => ?_)
  obtain ⟨rfl, r1, hr1, rfl⟩ := hu
  have K1 := fun (a2 : PO) (z : Bs) (hok : okOut a2) (hx : r = tO a2 ++ z) => List.append_cancel_left (hr1.symm.trans (K0 a2 z hok hx))
  have lr1 : r.length = r1.length + 1 := by rw [hr1]; simp; try omega
  refine j_subl (S' := [[RC gr r1], [(g0, .cells (encO ⟨[], [], false, zHash⟩).toArray 53 (0, 0))]]) (by repeat first | exact List.Sublist.refl _ | exact List.nil_sublist _ | apply List.Sublist.cons_cons | apply List.Sublist.cons) ?_
  refine j_callB 0 ent82 rfl rfl rfl rfl (fun w' hw' => ptext_con gr r1 w' (by omega)) (fun hb a2 z hok hx => hb _ _ (K1 a2 z hok hx)) (fun u S2 hu => ?_)
  obtain ⟨t2, r2, rfl, rfl, lr2, hr2⟩ := hu
  have Et2 := fun (a2 : PO) (z : Bs) (hok : okOut a2) (hx : r = tO a2 ++ z) => (hr2 _ _ (K1 a2 z hok hx)).1
  have K2 := fun (a2 : PO) (z : Bs) (hok : okOut a2) (hx : r = tO a2 ++ z) => (hr2 _ _ (K1 a2 z hok hx)).2
  refine j_subl (S' := [[RC gr r2], [(g0, .cells (encO ⟨[], [], false, zHash⟩).toArray 53 (0, 0))]]) (by repeat first | exact List.Sublist.refl _ | exact List.nil_sublist _ | apply List.Sublist.cons_cons | apply List.Sublist.cons) ?_
  refine j_q (qs_field Tryz.underlying53 rfl sz9 (by decide) rfl) ?_
  refine j_store (i := 0) (l := encO ⟨[], [], false, zHash⟩) (v := .string (bs t2)) 1 sz9 rfl rfl rfl rfl (by rw [encO_len]; omega) (by simp) ?_
  refine j_callB 0 ent81 rfl rfl rfl rfl (fun w' hw' => sign_con gr [44] r2 w' (by simp) (by omega)) (fun hb a2 z hok hx => hb ⟨_, K2 a2 z hok hx⟩) (fun u S2 hu => ?_)
  obtain ⟨rfl, r3, hr3, rfl⟩ := hu
  have K3 := fun (a2 : PO) (z : Bs) (hok : okOut a2) (hx : r = tO a2 ++ z) => List.append_cancel_left (hr3.symm.trans (K2 a2 z hok hx))
  have lr3 : r2.length = r3.length + 1 := by rw [hr3]; simp; try omega
  refine j_subl (S' := [[RC gr r3], [(g0, .cells (encO ⟨t2, [], false, zHash⟩).toArray 53 (0, 0))]]) (by repeat first | exact List.Sublist.refl _ | exact List.nil_sublist _ | apply List.Sublist.cons_cons | apply List.Sublist.cons) ?_
  refine j_callB 0 ent82 rfl rfl rfl rfl (fun w' hw' => ptext_con gr r3 w' (by omega)) (fun hb a2 z hok hx => hb _ _ (K3 a2 z hok hx)) (fun u S2 hu => ?_)
  obtain ⟨t6, r4, rfl, rfl, lr4, hr4⟩ := hu
  have Et6 := fun (a2 : PO) (z : Bs) (hok : okOut a2) (hx : r = tO a2 ++ z) => (hr4 _ _ (K3 a2 z hok hx)).1
  have K4 := fun (a2 : PO) (z : Bs) (hok : okOut a2) (hx : r = tO a2 ++ z) => (hr4 _ _ (K3 a2 z hok hx)).2
  refine j_subl (S' := [[RC gr r4], [(g0, .cells (encO ⟨t2, [], false, zHash⟩).toArray 53 (0, 0))]]) (by repeat first | exact List.Sublist.refl _ | exact List.nil_sublist _ | apply List.Sublist.cons_cons | apply List.Sublist.cons) ?_
  refine j_q (qs_field Tryz.underlying53 rfl sz49 (by decide) rfl) ?_
  refine j_store (i := 1) (l := encO ⟨t2, [], false, zHash⟩) (v := .string (bs t6)) 1 sz49 rfl rfl rfl rfl (by rw [encO_len]; omega) (by simp) ?_
  refine j_callB 0 ent81 rfl rfl rfl rfl (fun w' hw' => sign_con gr [44] r4 w' (by simp) (by omega)) (fun hb a2 z hok hx => hb ⟨_, K4 a2 z hok hx⟩) (fun u S2 hu => ?_)
  obtain ⟨rfl, r5, hr5, rfl⟩ := hu
  have K5 := fun (a2 : PO) (z : Bs) (hok : okOut a2) (hx : r = tO a2 ++ z) => List.append_cancel_left (hr5.symm.trans (K4 a2 z hok hx))
  have lr5 : r4.length = r5.length + 1 := by rw [hr5]; simp; try omega
  refine j_subl (S' := [[RC gr r5], [(g0, .cells (encO ⟨t2, t6, false, zHash⟩).toArray 53 (0, 0))]]) (by repeat first | exact List.Sublist.refl _ | exact List.nil_sublist _ | apply List.Sublist.cons_cons | apply List.Sublist.cons) ?_
  refine j_callB 0 ent82 rfl rfl rfl rfl (fun w' hw' => ptext_con gr r5 w' (by omega)) (fun hb a2 z hok hx => hb _ _ (K5 a2 z hok hx)) (fun u S2 hu => ?_)
  obtain ⟨t10, r6, rfl, rfl, lr6, hr6⟩ := hu
  have Et10 := fun (a2 : PO) (z : Bs) (hok : okOut a2) (hx : r = tO a2 ++ z) => (hr6 _ _ (K5 a2 z hok hx)).1
  have K6 := fun (a2 : PO) (z : Bs) (hok : okOut a2) (hx : r = tO a2 ++ z) => (hr6 _ _ (K5 a2 z hok hx)).2
  refine j_subl (S' := [[RC gr r6], [(g0, .cells (encO ⟨t2, t6, false, zHash⟩).toArray 53 (0, 0))]]) (by repeat first | exact List.Sublist.refl _ | exact List.nil_sublist _ | apply List.Sublist.cons_cons | apply List.Sublist.cons) ?_
  refine j_q (qs_seql rfl rfl) ?_
  refine j_q (qs_field Tryz.underlying53 rfl sz4 (by decide) rfl) ?_
  refine j_store (i := 2) (l := encO ⟨t2, t6, false, zHash⟩) (v := .bool (t10 == sSha)) 1 sz4 rfl rfl rfl rfl (by rw [encO_len]; omega) (by simp) ?_
  refine j_callB 0 ent81 rfl rfl rfl rfl (fun w' hw' => sign_con gr [44] r6 w' (by simp) (by omega)) (fun hb a2 z hok hx => hb ⟨_, K6 a2 z hok hx⟩) (fun u S2 hu => ?_)
  obtain ⟨rfl, r7, hr7, rfl⟩ := hu
  have K7 := fun (a2 : PO) (z : Bs) (hok : okOut a2) (hx : r = tO a2 ++ z) => List.append_cancel_left (hr7.symm.trans (K6 a2 z hok hx))
  have lr7 : r6.length = r7.length + 1 := by rw [hr7]; simp; try omega
  refine j_subl (S' := [[RC gr r7], [(g0, .cells (encO ⟨t2, t6, (t10 == sSha), zHash⟩).toArray 53 (0, 0))]]) (by repeat first | exact List.Sublist.refl _ | exact List.nil_sublist _ | apply List.Sublist.cons_cons | apply List.Sublist.cons) ?_
  refine j_callB 0 ent82 rfl rfl rfl rfl (fun w' hw' => ptext_con gr r7 w' (by omega)) (fun hb a2 z hok hx => hb _ _ (K7 a2 z hok hx)) (fun u S2 hu => ?_)
  obtain ⟨t15, r8, rfl, rfl, lr8, hr8⟩ := hu
  have Et15 := fun (a2 : PO) (z : Bs) (hok : okOut a2) (hx : r = tO a2 ++ z) => (hr8 _ _ (K7 a2 z hok hx)).1
  have K8 := fun (a2 : PO) (z : Bs) (hok : okOut a2) (hx : r = tO a2 ++ z) => (hr8 _ _ (K7 a2 z hok hx)).2
  refine j_subl (S' := [[RC gr r8], [(g0, .cells (encO ⟨t2, t6, (t10 == sSha), zHash⟩).toArray 53 (0, 0))]]) (by repeat first | exact List.Sublist.refl _ | exact List.nil_sublist _ | apply List.Sublist.cons_cons | apply List.Sublist.cons) ?_
  refine j_q (qs_field Tryz.underlying53 rfl sz4 (by decide) rfl) ?_
  refine j_q (qs_load (l := encO ⟨t2, t6, (t10 == sSha), zHash⟩) 1 Tryz.underlying4 rfl rfl rfl rfl) ?_
  refine j_cond rfl (fun hc0 => ?_) (fun hc0 => ?_)
  · skip
    have hc : (t10 == sSha) = true := hc0
    rw [hc]
    refine j_call0 ent130 rfl rfl rfl (fun w' hw' => fromHex_con t15 w' (by omega)) (fun u S2 hu => ?_)
    obtain ⟨hl, he, rfl, h32, hh⟩ := hu
    refine j_subl (S' := [[RC gr r8], [(g0, .cells (encO ⟨t2, t6, true, zHash⟩).toArray 53 (0, 0))]]) (List.sublist_append_right _ _) ?_
    refine j_q (qs_ext (vs := [.agg (ints hl).toArray, .int .i64 he]) rfl rfl) ?_
    refine j_q (qs_ext (vs := [.agg (ints hl).toArray, .int .i64 he]) rfl rfl) ?_
    refine j_q (qs_field Tryz.underlying53 rfl sz51 (by decide) rfl) ?_
    refine j_storea (l := encO ⟨t2, t6, true, zHash⟩) (vs := ints hl) (i := 3) 1 sz51 rfl rfl (by rw [ints_length]; exact h32) ints_one rfl (by rw [encO_len]; decide) (fun j _ _ h => by omega) ?_
    rw [storeH h32]
    refine j_subl (S' := [[RC gr r8], [(g0, .cells (encO ⟨t2, t6, true, ⟨hl, h32⟩⟩).toArray 53 (0, 0))]]) (by repeat first | exact List.Sublist.refl _ | exact List.nil_sublist _ | apply List.Sublist.cons_cons | apply List.Sublist.cons) ?_
    refine j_callB 0 ent81 rfl rfl rfl rfl (fun w' hw' => sign_con gr [41] r8 w' (by simp) (by omega)) (fun hb a2 z hok hx => hb ⟨_, K8 a2 z hok hx⟩) (fun u S2 hu => ?_)
    obtain ⟨rfl, r9, hr9, rfl⟩ := hu
    have K9 := fun (a2 : PO) (z : Bs) (hok : okOut a2) (hx : r = tO a2 ++ z) => List.append_cancel_left (hr9.symm.trans (K8 a2 z hok hx))
    have lr9 : r8.length = r9.length + 1 := by rw [hr9]; simp; try omega
    refine j_subl (S' := [[RC gr r9], [(g0, .cells (encO ⟨t2, t6, true, ⟨hl, h32⟩⟩).toArray 53 (0, 0))]]) (by repeat first | exact List.Sublist.refl _ | exact List.nil_sublist _ | apply List.Sublist.cons_cons | apply List.Sublist.cons) ?_
    refine j_q (qs_loadw (l := encO ⟨t2, t6, true, ⟨hl, h32⟩⟩) 1 Tryz.underlying53 rfl sz53 rfl rfl (encO_len _)) ?_
    refine j_storew (l := encO ⟨t2, t6, true, ⟨hl, h32⟩⟩) (vs := encO ⟨t2, t6, true, ⟨hl, h32⟩⟩) 1 sz53 rfl rfl (encO_len _) (encO_one _) rfl (encO_len _) ?_
    -- no @RET
    refine j_ret_conbs [[RC gr r9]] (by repeat first | exact List.Sublist.refl _ | exact List.nil_sublist _ | apply List.Sublist.cons_cons | apply List.Sublist.cons) (vs := [_]) (fun w' hw' => ⟨rv_agg (l := encO ⟨t2, t6, true, ⟨hl, h32⟩⟩) 1 Tryz.underlying53 rfl sz53 rfl rfl (encO_len _) hw', trivial⟩) ?_
    exact ⟨⟨t2, t6, true, ⟨hl, h32⟩⟩, r9, rfl, rfl, by unfold wO; simp only []; omega, fun a2 z hok hx => ⟨po_eqT hc hh (Et2 a2 z hok hx) (Et6 a2 z hok hx) (Et10 a2 z hok hx) (Et15 a2 z hok hx), K9 a2 z hok hx⟩⟩
  · skip
    have hc : (t10 == sSha) = false := hc0
    rw [hc]
    refine j_callB 0 ent81 rfl rfl rfl rfl (fun w' hw' => sign_con gr [41] r8 w' (by simp) (by omega)) (fun hb a2 z hok hx => hb ⟨_, K8 a2 z hok hx⟩) (fun u S2 hu => ?_)
    obtain ⟨rfl, r9, hr9, rfl⟩ := hu
    have K9 := fun (a2 : PO) (z : Bs) (hok : okOut a2) (hx : r = tO a2 ++ z) => List.append_cancel_left (hr9.symm.trans (K8 a2 z hok hx))
    have lr9 : r8.length = r9.length + 1 := by rw [hr9]; simp; try omega
    refine j_subl (S' := [[RC gr r9], [(g0, .cells (encO ⟨t2, t6, false, zHash⟩).toArray 53 (0, 0))]]) (by repeat first | exact List.Sublist.refl _ | exact List.nil_sublist _ | apply List.Sublist.cons_cons | apply List.Sublist.cons) ?_
    refine j_q (qs_loadw (l := encO ⟨t2, t6, false, zHash⟩) 1 Tryz.underlying53 rfl sz53 rfl rfl (encO_len _)) ?_
    refine j_storew (l := encO ⟨t2, t6, false, zHash⟩) (vs := encO ⟨t2, t6, false, zHash⟩) 1 sz53 rfl rfl (encO_len _) (encO_one _) rfl (encO_len _) ?_
    -- no @RET
    refine j_ret_conbs [[RC gr r9]] (by repeat first | exact List.Sublist.refl _ | exact List.nil_sublist _ | apply List.Sublist.cons_cons | apply List.Sublist.cons) (vs := [_]) (fun w' hw' => ⟨rv_agg (l := encO ⟨t2, t6, false, zHash⟩) 1 Tryz.underlying53 rfl sz53 rfl rfl (encO_len _) hw', trivial⟩) ?_
    exact ⟨⟨t2, t6, false, zHash⟩, r9, rfl, rfl, by unfold wO; simp only []; omega, fun a2 z hok hx => ⟨po_eqF hc hok (Et2 a2 z hok hx) (Et6 a2 z hok hx) (Et10 a2 z hok hx), K9 a2 z hok hx⟩⟩
/-- (*pantry.drv.reader).input -/
theorem pin_con (gr : Nat) (r : Bs) (w : World) (hr : r.length ≤ 300000) : ConB Tryz.prog BADV 86 [rp gr] w [RC gr r] (fun v S' => ∃ (a : MI) (r' : Bs) (F : SH), v = .agg (encI a).toArray ∧ S' = [[RC gr r'], F] ∧ wI a.pi + 10 * r'.length ≤ 10 * r.length ∧ (∀ a2 z, True → r = tI a2 ++ z → a.pi = a2 ∧ r' = z) ∧ Sx.Own 9 1 (strs a.outs) a.v F ∧ (∀ o ∈ a.outs, o.length ≤ 3000000)) (∀ a2 z, True → r ≠ tI a2 ++ z) := by
  refine conb_of_tree mix Tryz.func86 T86_ok (by kernel_rfl) ?_
  unfold T86
  refine j_alloc zero68 (fun g0 hg0 hs0 => ?_)
  have K0 := fun (a2 : PI) (z : Bs) (hok : True) (hx : r = tI a2 ++ z) => hx.trans (tI_split a2 z)
  refine j_callB 1 ent81 rfl rfl rfl rfl (fun w' hw' => sign_con gr [40] r w' (by simp) (by omega)) (fun hb a2 z hok hx => hb ⟨_, K0 a2 z hok hx⟩) (fun u S2 hu => ?_)
  obtain ⟨rfl, r1, hr1, rfl⟩ := hu
  have K1 := fun (a2 : PI) (z : Bs) (hok : True) (hx : r = tI a2 ++ z) => List.append_cancel_left (hr1.symm.trans (K0 a2 z hok hx))
  have lr1 : r.length = r1.length + 1 := by rw [hr1]; simp; try omega
  refine j_subl (S' := [[RC gr r1], [(g0, .cells [.string (bs []), .slice none 0 0].toArray 68 (0, 0))]]) (by repeat first | exact List.Sublist.refl _ | exact List.nil_sublist _ | apply List.Sublist.cons_cons | apply List.Sublist.cons) ?_
  refine j_callB 0 ent82 rfl rfl rfl rfl (fun w' hw' => ptext_con gr r1 w' (by omega)) (fun hb a2 z hok hx => hb _ _ (K1 a2 z hok hx)) (fun u S2 hu => ?_)
  obtain ⟨t2, r2, rfl, rfl, lr2, hr2⟩ := hu
  have Et2 := fun (a2 : PI) (z : Bs) (hok : True) (hx : r = tI a2 ++ z) => (hr2 _ _ (K1 a2 z hok hx)).1
  have K2 := fun (a2 : PI) (z : Bs) (hok : True) (hx : r = tI a2 ++ z) => (hr2 _ _ (K1 a2 z hok hx)).2
  refine j_subl (S' := [[RC gr r2], [(g0, .cells [.string (bs []), .slice none 0 0].toArray 68 (0, 0))]]) (by repeat first | exact List.Sublist.refl _ | exact List.nil_sublist _ | apply List.Sublist.cons_cons | apply List.Sublist.cons) ?_
  refine j_q (qs_field Tryz.underlying68 rfl sz49 (by decide) rfl) ?_
  refine j_store (l := [.string (bs []), .slice none 0 0]) (v := .string (bs t2)) 1 sz49 rfl rfl rfl rfl (by simp) (by simp) ?_
  refine j_callB 0 ent81 rfl rfl rfl rfl (fun w' hw' => sign_con gr [44] r2 w' (by simp) (by omega)) (fun hb a2 z hok hx => hb ⟨_, K2 a2 z hok hx⟩) (fun u S2 hu => ?_)
  obtain ⟨rfl, r3, hr3, rfl⟩ := hu
  have K3 := fun (a2 : PI) (z : Bs) (hok : True) (hx : r = tI a2 ++ z) => List.append_cancel_left (hr3.symm.trans (K2 a2 z hok hx))
  have lr3 : r2.length = r3.length + 1 := by rw [hr3]; simp; try omega
  refine j_subl (S' := [[RC gr r3], [(g0, .cells [.string (bs t2), .slice none 0 0].toArray 68 (0, 0))]]) (by repeat first | exact List.Sublist.refl _ | exact List.nil_sublist _ | apply List.Sublist.cons_cons | apply List.Sublist.cons) ?_
  refine j_q (qs_mkfuncF rfl) ?_
  refine j_callB 0 ent89 rfl rfl rfl rfl (fun w' hw' => manyS_con gr r3 qt (fun _ => True) wS 82 #[rp gr] #[] w' (by omega) ent82 qt_head (fun _ => Nat.le_add_left ..) (fun r' w2 S3 hl _ => textS_con gr r' w2 (by omega))) (fun hb a2 z hok hx => hb _ _ (fun _ _ => trivial) (K3 a2 z hok hx)) (fun u S2 hu => ?_)
  obtain ⟨l7, c7, r4, rfl, hO7, hs7, h7⟩ := hu
  have E7 := fun (a2 : PI) (z : Bs) (hok : True) (hx : r = tI a2 ++ z) => (h7 _ _ (fun _ _ => trivial) (K3 a2 z hok hx)).1
  have K4 := fun (a2 : PI) (z : Bs) (hok : True) (hx : r = tI a2 ++ z) => (h7 _ _ (fun _ _ => trivial) (K3 a2 z hok hx)).2
  obtain ⟨n7, A7, cap7, rfl, hn7⟩ := own_form hO7 (by decide)
  have hm7 := sumS_mem (l := l7) (n := r3.length) (by omega) (by omega)
  rw [sumS] at hs7
  refine j_subl (S' := [c7, [RC gr r4], [(g0, .cells [.string (bs t2), .slice none 0 0].toArray 68 (0, 0))]]) (by repeat first | exact List.Sublist.refl _ | exact List.nil_sublist _ | apply List.Sublist.cons_cons | apply List.Sublist.cons) ?_
  refine j_q (qs_field Tryz.underlying68 rfl sz22 (by decide) rfl) ?_
  refine j_store (l := [.string (bs t2), .slice none 0 0]) (v := .slice A7 n7 cap7) 2 sz22 rfl rfl rfl rfl (by simp) (by simp) ?_
  refine j_callB 1 ent81 rfl rfl rfl rfl (fun w' hw' => sign_con gr [41] r4 w' (by simp) (by omega)) (fun hb a2 z hok hx => hb ⟨_, K4 a2 z hok hx⟩) (fun u S2 hu => ?_)
  obtain ⟨rfl, r5, hr5, rfl⟩ := hu
  have K5 := fun (a2 : PI) (z : Bs) (hok : True) (hx : r = tI a2 ++ z) => List.append_cancel_left (hr5.symm.trans (K4 a2 z hok hx))
  have lr5 : r4.length = r5.length + 1 := by rw [hr5]; simp; try omega
  refine j_subl (S' := [[RC gr r5], c7, [(g0, .cells [.string (bs t2), .slice A7 n7 cap7].toArray 68 (0, 0))]]) (by repeat first | exact List.Sublist.refl _ | exact List.nil_sublist _ | apply List.Sublist.cons_cons | apply List.Sublist.cons) ?_
  refine j_q (qs_loadw (l := encI (⟨t2, l7, .slice A7 n7 cap7⟩ : MI)) 2 Tryz.underlying68 rfl sz68 rfl rfl rfl) ?_
  refine j_storew (l := encI (⟨t2, l7, .slice A7 n7 cap7⟩ : MI)) (vs := encI (⟨t2, l7, .slice A7 n7 cap7⟩ : MI)) 2 sz68 rfl rfl rfl (fun u hu => by simp only [encI, List.mem_cons, List.not_mem_nil, or_false] at hu; rcases hu with rfl | rfl <;> rfl) rfl rfl ?_
  -- no @RET
  refine j_ret_conbs [[RC gr r5], c7] (by repeat first | exact List.Sublist.refl _ | exact List.nil_sublist _ | apply List.Sublist.cons_cons | apply List.Sublist.cons) (vs := [_]) (fun w' hw' => ⟨rv_agg (l := encI (⟨t2, l7, .slice A7 n7 cap7⟩ : MI)) 2 Tryz.underlying68 rfl sz68 rfl rfl rfl hw', trivial⟩) ?_
  exact ⟨(⟨t2, l7, .slice A7 n7 cap7⟩ : MI), r5, c7, rfl, rfl, by unfold wI MI.pi; simp only []; omega, fun a2 z hok hx => ⟨pi_eq (Et2 a2 z hok hx) (E7 a2 z hok hx), K5 a2 z hok hx⟩, hO7, hm7⟩
end Go.Proofs.YtfeabbeebkkhaaaGreat
