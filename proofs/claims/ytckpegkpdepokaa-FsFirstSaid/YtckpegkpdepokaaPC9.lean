/- Part 9. -/
import Derived.Test.YtckpegkpdepokaaPC2
import Derived.Test.YtckpegkpdepokaaPC3
import Derived.Test.YtckpegkpdepokaaPC8
import Derived.Lib.SmallJoins
import Derived.SizedLaws
import Derived.SliceStrings
import Derived.Test.YtckpegkpdepokaaRows
import Derived.Test.YtckpegkpdepokaaPC6
import Derived.ProofKit
import Derived.Carry
/-! Rg10 -/
namespace Go.Proofs.Ytckpegkpdepokaa
open Go Go.Sx
set_option maxRecDepth 100000
set_option maxHeartbeats 4000000
set_option linter.unusedVariables false
set_option linter.unusedSimpArgs false
attribute [local irreducible] J JQ QS Con W opW
open Go.MapKept Go.WideMaps Go.Maps
def nodeK (s : AS) (n : List UInt8) : Int := match alook s.nm n with | none => 0 | some i => (cntA s.nm i : Int)
def nodeF (s : AS) (n : List UInt8) : List UInt8 := match alook s.nm n with | none => [] | some i => ((sortS (s.nm.map Prod.fst)).find? fun m => decide (alook s.nm m = some i)).getD []
theorem mem_sortS {l : List (List UInt8)} {x : List UInt8} : x ∈ sortS l ↔ x ∈ l := by unfold sortS; exact List.mem_mergeSort
theorem find_at {α : Type} {p : α → Bool} {l : List α} {i : Nat} {d : α} (hi : i < l.length) (hp : p (l.getD i d) = true) (hb : ∀ j, j < i → p (l.getD j d) = false) : l.find? p = some (l.getD i d) := by
  induction l generalizing i with
  | nil => simp at hi
  | cons a l ih =>
    cases i with
    | zero =>
      rw [List.getD_cons_zero] at hp ⊢
      exact List.find?_cons_of_pos hp
    | succ i =>
      have h0 := hb 0 (Nat.succ_pos _)
      rw [List.getD_cons_zero] at h0
      rw [List.find?_cons_of_neg (by rw [h0]; simp), List.getD_cons_succ] 
      rw [List.getD_cons_succ] at hp
      exact ih (by simpa using hi) hp fun j hj => by
        have := hb (j + 1) (by omega)
        rwa [List.getD_cons_succ] at this
theorem sort_names {r : FR} {a : AF} (h : r.Ok a) : sortS (r.now.ml.map Prod.fst) = sortS (a.now.nm.map Prod.fst) := by
  refine sortS_perm ?_
  have h1 := h.now.rep.nm.map Prod.fst
  rw [List.map_map] at h1
  exact h1
theorem look_id {r : FR} {a : AF} (h : r.Ok a) {x : FL} (hx : x ∈ r.now.fs) (m : List UInt8) : alook r.now.ml m = some (x.g, x.id) ↔ alook a.now.nm m = some x.id := by
  rw [← h.now.rep.look h.now.raw m]
  cases hl : alook r.now.ml m with
  | none => simp
  | some p =>
    obtain ⟨f, hf, h1, h2, _⟩ := look_fs h.now.raw hl
    constructor
    · intro e
      injection e with e
      rw [e]
      rfl
    · intro e
      injection e with e
      have : x = f := id_uniq h.now.raw hf hx (h2.trans e ▸ rfl)
      subst this
      exact congrArg some (Prod.ext h1.symm h2.symm)
theorem nodeR_con (r : FR) (a : AF) (n : List UInt8) (w : World) (hin : In w r.heap) (hok : r.Ok a) (hn : strOk n) : Con Try.prog 17 [r.ptr, .string (bs n)] w [] fun u _ => u = .tuple #[.string (bs (nodeF a.now n)), .int .i64 (nodeK a.now n)] := by
  cases h : alook a.now.nm n with
  | none =>
    refine (nodeZ_con r.fm a.pend.length n w hin (hok.fm (Nat.le_refl _)) hn (look_rep0 hok.now.raw hok.now.rep h)).mono (fun u S' hu => ?_)
    rw [hu.1]
    simp only [nodeF, nodeK, h]
  | some i =>
    obtain ⟨x, hx, hl, hi, hxs⟩ := look_rep hok.now.raw hok.now.rep h
    have hml : r.now.ml.length ≤ 1000000 := by
      have h9 : a.now.nm.length ≤ 16384 := (okA_end hok.ok).2
      rw [hok.now.rep.len]
      omega
    refine (node_con r.fm a.pend.length n w hin (hok.fm (Nat.le_refl _)) hn x hx hl hml).mono (fun u S' hu => ?_)
    obtain ⟨first, rfl, h1, h2⟩ := hu
    have hk : x.k = (cntA a.now.nm i : Int) := by
      have := hok.now.ex.kc x hx
      rw [this, hok.now.rep.cnt, hi]
      show _ + (0 : Int) = _
      omega
    have hnk : nodeK a.now n = x.k := by simp only [nodeK, h, hk]
    rw [hnk]
    have hfirst : nodeF a.now n = first := by
      simp only [nodeF, h]
      by_cases hk1 : x.k = 1
      · rw [h1 hk1]
        have hn1 : n ∈ sortS (a.now.nm.map Prod.fst) := mem_sortS.2 (List.mem_map.2 ⟨_, alook_mem h, rfl⟩)
        cases hf : (sortS (a.now.nm.map Prod.fst)).find? fun m => decide (alook a.now.nm m = some i) with
        | none => exact absurd (List.find?_eq_none.1 hf n hn1) (by simp [h])
        | some m =>
          have hm : alook a.now.nm m = some i := by simpa using List.find?_some hf
          have hc : cntA a.now.nm i = 1 := by omega
          obtain ⟨q, hq⟩ := List.length_eq_one_iff.1 hc
          have e1 : ((m, i) : List UInt8 × Nat) ∈ [q] := by rw [← hq]; exact List.mem_filter.2 ⟨alook_mem hm, by simp⟩
          have e2 : ((n, i) : List UInt8 × Nat) ∈ [q] := by rw [← hq]; exact List.mem_filter.2 ⟨alook_mem h, by simp⟩
          rw [List.mem_singleton] at e1 e2
          have := e1.trans e2.symm
          injection this with e3
      · obtain ⟨j, hj, e, hlk, hbef⟩ := h2 hk1
        have hs : sortS (r.fm.now.ml.map Prod.fst) = sortS (a.now.nm.map Prod.fst) := sort_names hok
        rw [hs] at hj e hbef
        have hfa := find_at (p := fun m => decide (alook a.now.nm m = some i)) (d := []) hj (by rw [← e, decide_eq_true_eq, ← hi]; exact (look_id hok hx _).1 hlk) (fun k hk => by
          rw [decide_eq_false_iff_not, ← hi]
          exact fun q => hbef k hk ((look_id hok hx _).2 q))
        rw [hfa, e]
        rfl
    rw [hfirst]
theorem namesA_ok {r : FR} {a : AF} (h : r.Ok a) {p m : List UInt8} (hm : m ∈ namesA a.now p) : strOk m := by
  unfold namesA at hm
  have h1 := (List.mem_filter.1 (mem_sortS.1 hm)).1
  obtain ⟨q, hq, rfl⟩ := List.mem_map.1 h1
  obtain ⟨z, hz, rfl⟩ := List.mem_map.1 (h.now.rep.nm.mem_iff.2 hq)
  exact h.now.raw.map.keys (z.1, fptr z.2) (List.mem_map.2 ⟨z, hz, rfl⟩)
theorem namesA_len {r : FR} {a : AF} (h : r.Ok a) (p : List UInt8) : (namesA a.now p).length ≤ 16384 := by
  unfold namesA
  rw [sortS_length]
  have h9 : a.now.nm.length ≤ 16384 := (okA_end h.ok).2
  have h2 := List.length_filter_le (preB p) (a.now.nm.map Prod.fst)
  rw [List.length_map] at h2
  omega
abbrev PD (pd : List AT) : AF := { AF0 1048576 with pend := pd }
theorem nextF_PD {pd : List AT} {x : St} (h1 : 1 ≤ x.kind) (h5 : x.kind ≤ 5) (u : Int) (j : Nat) : nextF (PD pd) u x j = PD pd ∨ ∃ t, nextF (PD pd) u x j = PD (pd ++ [t]) := by
  have h : x.kind = 1 ∨ x.kind = 2 ∨ x.kind = 3 ∨ x.kind = 4 ∨ x.kind = 5 := by omega
  have key : ∀ (c : Int) (t : AT), (if c = 0 then stepF (PD pd) t else PD pd) = PD pd ∨ ∃ t', (if c = 0 then stepF (PD pd) t else PD pd) = PD (pd ++ [t']) := fun c t => by
    split
    · exact .inr ⟨t, rfl⟩
    · exact .inl rfl
  unfold nextF
  rcases h with h | h | h | h | h <;> rw [h]
  · rw [if_pos rfl]; exact key _ _
  · rw [if_neg (by decide), if_pos rfl]; exact key _ _
  · rw [if_neg (by decide), if_neg (by decide), if_pos rfl]; exact key _ _
  · rw [if_neg (by decide), if_neg (by decide), if_neg (by decide), if_pos rfl]; exact key _ _
  · rw [if_neg (by decide), if_neg (by decide), if_neg (by decide), if_neg (by decide), if_pos rfl]; exact key _ _
theorem take_ids {pd : List AT} {i k : Nat} (h : IdsLe (PD pd) i) : IdsLe (PD (pd.take k)) i := ⟨h.b, fun n xs j hm => h.p n xs j (List.mem_of_mem_take hm)⟩
theorem first_now (pd : List AT) (keep : Int) (h : 0 ≤ keep) : (crashF (PD pd) keep).now = (PD (pd.take keep.toNat)).now := by
  show runA AS0 (pd.take (keepN pd.length keep)) = runA AS0 (pd.take keep.toNat)
  have : pd.take (keepN pd.length keep) = pd.take keep.toNat := by
    rw [List.take_eq_take_iff]
    unfold keepN
    omega
  rw [this]
theorem fsFirstW_con (rs : List St) (vl : Value) (keep : Int) (w : World) (hs : Script w vl rs) (hkb : intOk keep) : Con Try.prog 7 [vl, .int .i64 keep] w [] fun u _ => u = .bool true := by
  refine con_of_tree mix Try.func7 T7_ok (by kernel_rfl) ?_
  unfold T7
  obtain ⟨A, cap, g, off, hvl, hcap, hA⟩ := script_form hs
  subst hvl
  refine j_q (qs_ac) ?_
  refine j_call0 ent22 rfl rfl rfl (fun w' hw' => heavy_con rs _ w' (script_keep hs hw')) (fun u S2 hu => ?_)
  obtain ⟨hv, rfl, hhv⟩ := hu
  refine j_subl (S' := [[]]) (List.sublist_append_right _ _) ?_
  refine j_g rfl (fun hb => qs_mt rfl) ?_
  refine j_g rfl (fun hb => qs_lss (gd_eq hb) rfl) ?_
  refine j_q (qs_or rfl rfl) ?_
  refine j_cond rfl (fun hc0 => ?_) (fun hc0 => ?_)
  · skip
    refine j_call0 ent9 rfl rfl rfl (fun w' hw' => known_con w') (fun u S2 hu => ?_)
    subst hu
    refine j_ret_con (vs := [_]) (fun w' hw' => ⟨rfl, trivial⟩) ?_
    rfl
  · skip
    have hhv0 : hv = false ∧ 0 ≤ keep := by
      cases hv with
      | true => simp at hc0
      | false =>
        simp [gd] at hc0
        exact ⟨rfl, by omega⟩
    have hkp := hhv0.2
    have hhv9 := hhv hhv0.1
    refine j_call0 ent10 rfl rfl rfl (fun w' hw' => newR_con 1048576 w' (by decide) (by decide)) (fun u S2 hu => ?_)
    obtain ⟨r0, rfl, rfl, hok0⟩ := hu
    refine j_subl (S' := [r0.heap]) (by repeat first | exact slR _ | exact slN _ | apply slC | apply slD) ?_
    refine j_q (qs_ext (vs := [r0.ptr, .int .i64 0]) rfl rfl) ?_
    refine j_q (qs_ext (vs := [r0.ptr, .int .i64 0]) rfl rfl) ?_
    refine j_call0 ent10 rfl rfl rfl (fun w' hw' => newR_con 1048576 w' (by decide) (by decide)) (fun u S2 hu => ?_)
    obtain ⟨s0, rfl, rfl, hos0⟩ := hu
    refine j_q (qs_ext (vs := [s0.ptr, .int .i64 0]) rfl rfl) ?_
    refine j_q (qs_ext (vs := [s0.ptr, .int .i64 0]) rfl rfl) ?_
    refine j_q (qs_neq rfl rfl) ?_
    rw [show ((0 : Int) != 0) = false from rfl]
    refine j_gt rfl (qs_mt rfl) ?_
    refine j_gt rfl (qs_neq rfl rfl) ?_
    rw [show ((0 : Int) != 0) = false from rfl]
    refine j_q (v := .bool false) (qs_or (b0 := false) (b1 := false) rfl rfl) ?_
    refine j_gt rfl (qs_mt rfl) ?_
    refine j_gt rfl (qs_pnil Try.underlying25 rfl) ?_
    refine j_q (v := .bool false) (qs_or (b0 := false) (b1 := false) rfl rfl) ?_
    refine j_gt rfl (qs_mt rfl) ?_
    refine j_gt rfl (qs_pnil Try.underlying25 rfl) ?_
    refine j_q (v := .bool false) (qs_or (b0 := false) (b1 := false) rfl rfl) ?_
    refine j_cond rfl (fun hc1 => ?_) (fun hc1 => ?_)
    · skip
      simp at hc1
    · skip
      refine j_call0 ent23 rfl rfl rfl (fun w' hw' => rnew_con 1048576 w' (by decide) (by decide)) (fun u S2 hu => ?_)
      obtain ⟨q0, rfl, rfl, hq0⟩ := hu
      refine j_q (qs_ext (vs := [q0.ptr, .int .i64 0]) rfl rfl) ?_
      refine j_q (qs_ext (vs := [q0.ptr, .int .i64 0]) rfl rfl) ?_
      refine j_call0 ent23 rfl rfl rfl (fun w' hw' => rnew_con 1048576 w' (by decide) (by decide)) (fun u S2 hu => ?_)
      obtain ⟨p0, rfl, rfl, hp0⟩ := hu
      refine j_perm (S' := [r0.heap, q0.heap, s0.heap, p0.heap]) (by
        classical
        refine List.perm_iff_count.2 fun x => ?_
        simp only [List.set, List.flatten_cons, List.flatten_nil, List.append_nil, List.nil_append, List.cons_append, List.count_append, List.count_nil] <;> omega) ?_
      refine j_q (qs_ext (vs := [p0.ptr, .int .i64 0]) rfl rfl) ?_
      refine j_q (qs_ext (vs := [p0.ptr, .int .i64 0]) rfl rfl) ?_
      refine j_q (qs_ac) ?_
      refine j_q (qs_ac) ?_
      refine j_loop (fun m vs S' => ∃ (i : Nat) (pd : List AT) (r s : FR) (q p : RF) (b b2 : AF), vs = [.int .i64 (pd.length : Int), .int .i64 (i : Int)] ∧ S' = [r.heap, q.heap, s.heap, p.heap] ∧ r.gf = r0.gf ∧ s.gf = s0.gf ∧ q.gf = q0.gf ∧ p.gf = p0.gf ∧ r.Ok (PD pd) ∧ s.Ok (PD (pd.take keep.toNat)) ∧ q.Ok b ∧ p.Ok b2 ∧ pd.length ≤ i ∧ b.pend.length ≤ i ∧ b2.pend.length ≤ i ∧ IdsLe (PD pd) i ∧ IdsLe b i ∧ IdsLe b2 i ∧ i ≤ rs.length ∧ i ≤ 120 ∧ m = rs.length - i) ⟨_, 0, [], r0, s0, q0, p0, AF0 1048576, AF0 1048576, rfl, rfl, rfl, rfl, rfl, rfl, hok0, (by rw [List.take_nil]; exact hos0), hq0, hp0, Nat.le_refl _, Nat.le_refl _, Nat.le_refl _, af0_ids _, af0_ids _, af0_ids _, Nat.zero_le _, Nat.zero_le _, rfl⟩ ?_
      rintro m vs S' hlen ⟨i, pd, r, s, q, p, b, b2, rfl, rfl, hgr, hgs2, hgq, hgp, hok, hos, hq, hp, hpl, hbl, hbl2, hia, hib, hib2, hi, hi120, rfl⟩
      refine j_q (qs_lenl Try.underlying44 rfl) ?_
      refine j_q (qs_lss rfl rfl) ?_
      refine j_g rfl (fun hb => qs_mt rfl) ?_
      refine j_g rfl (fun hb => qs_lss (gd_eq hb) rfl) ?_
      refine j_q (qs_and rfl rfl) ?_
      refine j_cond rfl (fun hc2 => ?_) (fun hc2 => ?_)
      · skip
        have hb2 : i < rs.length ∧ i < 120 := by
          simp only [gd, Bool.and_eq_true, decide_eq_true_eq] at hc2
          omega
        obtain ⟨hi1, hi2⟩ := hb2
        obtain ⟨rfl, hgs, hcl⟩ := hA (by omega)
        refine j_q (qs_ixn (g := g) (off := off) (n := rs.length) (c := cap) (i := i) Try.underlying44 sz50 rfl rfl hi1) ?_
        refine j_q (qs_field Try.underlying50 rfl sz3 (by decide) rfl) ?_
        refine j_q (qs_loadR (v := (.int .i64 (rs.getD i St0).kind)) (a := ⟨g, off, none⟩) (i := i * 5 + 0) (rd_cells hcl (by simp)) Try.underlying3 rfl (congrArg (fun z => Value.pointer (some z)) (off5 g off i 0)) (steps_get hi1 rfl)) ?_
        refine j_q (qs_lss rfl rfl) ?_
        refine j_g rfl (fun hb => qs_mt rfl) ?_
        refine j_g rfl (fun hb => qs_mt rfl) ?_
        refine j_g rfl (fun hb => qs_ixn (g := g) (off := off) (n := rs.length) (c := cap) (i := i) Try.underlying44 sz50 (gd_eq hb) (gd_eq hb) hi1) ?_
        refine j_g rfl (fun hb => qs_field Try.underlying50 rfl sz3 (by decide) (gd_eq hb)) ?_
        refine j_g (v := (.int .i64 (rs.getD i St0).kind)) rfl (fun hb => qs_loadR (a := ⟨g, off, none⟩) (i := i * 5 + 0) (rd_cells hcl (by simp)) Try.underlying3 rfl ((gd_eq hb).trans (congrArg (fun z => Value.pointer (some z)) (off5 g off i 0))) (steps_get hi1 rfl)) ?_
        refine j_g rfl (fun hb => qs_gtr (gd_eq hb) rfl) ?_
        refine j_q (qs_or rfl rfl) ?_
        refine j_cond rfl (fun hc3 => ?_) (fun hc3 => ?_)
        · skip
          refine j_q (qs_add64 rfl rfl (by first | omega | (simp only [bnA] at *; omega))) ?_
          refine j_back rfl ?_
          exact ⟨rs.length - (i + 1), by omega, i + 1, pd, r, s, q, p, b, b2, rfl, rfl, hgr, hgs2, hgq, hgp, hok, hos, hq, hp, by omega, by omega, by omega, hia.up, hib.up, hib2.up, hi1, hi2, rfl⟩
        · skip
          have hkd : 1 ≤ (rs.getD i St0).kind ∧ (rs.getD i St0).kind ≤ 5 := by
            by_cases h1 : (rs.getD i St0).kind < 1
            · rw [show decide ((rs.getD i St0).kind < 1) = true from decide_eq_true h1] at hc3
              simp at hc3
            · rw [show decide ((rs.getD i St0).kind < 1) = false from decide_eq_false h1] at hc3
              simp only [gd, if_pos, Bool.false_or] at hc3
              have h2 := of_decide_eq_false hc3
              omega
          refine j_q (qs_ixn (g := g) (off := off) (n := rs.length) (c := cap) (i := i) Try.underlying44 sz50 rfl rfl hi1) ?_
          refine j_q (qs_loadrecw (encA := encS) (rs := rs) (d := St0) (i := i) encS_len (rd_cells hcl (by simp)) hi1 Try.underlying50 rfl sz50 rfl) ?_
          obtain ⟨hxk, hxn, hxa2, hxt, hxb, hxl⟩ := script_ok hs hi1
          have hpr : r0.ptr = r.ptr := by simp only [FR.ptr, hgr]
          have hps : s0.ptr = s.ptr := by simp only [FR.ptr, hgs2]
          have hpq : q0.ptr = q.ptr := by simp only [RF.ptr, hgq]
          have hpp : p0.ptr = p.ptr := by simp only [RF.ptr, hgp]
          rw [hpr, hps, hpq, hpp]
          refine j_perm (S' := [r.heap ++ q.heap, s.heap, p.heap]) (by
            classical
            refine List.perm_iff_count.2 fun x => ?_
            simp only [List.set, List.flatten_cons, List.flatten_nil, List.append_nil, List.nil_append, List.cons_append, List.count_append, List.count_nil] <;> omega) ?_
          refine j_call 0 ent24 rfl rfl rfl rfl (fun w' hw' => stp_con r q (PD pd) b (rs.getD i St0) (i + 1) w' hok hq (by show (1048576 : Int) ≤ 1073741824; decide) (by show List.length pd < 16384; omega) (by omega) (str_ok hxa2) (str_ok hxt) hxn (br0 hxb hw') (base_sep hxb hw' 0 rfl) (hhv9 i hi1 hi2) (fun z hz => by have := hia.now z hz; omega) (fun z hz => by have := hib.now z hz; omega)) (fun u S5 h5 => ?_)
          obtain ⟨ok, rfl, _, r', q', rfl, hok', hq', hgr', hgq'⟩ := h5
          refine j_subl (S' := [r'.heap, q'.heap, s.heap, p.heap]) (by repeat first | exact slR _ | exact slN _ | apply slC | apply slD) ?_
          have hnx9 := nextF_PD hkd.1 hkd.2 (PD pd).now.used (i + 1) (pd := pd)
          have hids9 := hia.next (PD pd).now.used (rs.getD i St0)
          obtain ⟨pd2, hpd2, hcase⟩ : ∃ pd2, nextF (PD pd) (PD pd).now.used (rs.getD i St0) (i + 1) = PD pd2 ∧ (pd2 = pd ∨ ∃ t, pd2 = pd ++ [t]) := by
            rcases hnx9 with h | ⟨t, h⟩
            · exact ⟨pd, h, .inl rfl⟩
            · exact ⟨_, h, .inr ⟨t, rfl⟩⟩
          rw [hpd2] at hok' hids9
          have h8 := nextF_len b (usedN b.now) (rs.getD i St0) (i + 1)
          have hpr2 : r.ptr = r'.ptr := by simp only [FR.ptr, hgr']
          rw [hpr2]
          have hpd3 : pd2.length ≤ i + 1 := by
            rcases hcase with rfl | ⟨t, rfl⟩
            · omega
            · rw [List.length_append, List.length_singleton]
              omega
          refine j_q (qs_call ent25 rfl rfl rfl (fun w' hw' => (pending_con r' (PD pd2) w' (in_own hw' 0 rfl) hok').mono (fun u S h => h.1))) ?_
          refine j_q (qs_gtr rfl rfl) ?_
          refine j_g rfl (fun hb => qs_mt rfl) ?_
          refine j_g rfl (fun hb => qs_call ent25 rfl rfl (args1 (gd_eq hb)) (fun w' hw' => (pending_con r' (PD pd2) w' (in_own hw' 0 rfl) hok').mono (fun u S h => h.1))) ?_
          refine j_g rfl (fun hb => qs_mt rfl) ?_
          refine j_g rfl (fun hb => qs_leq (gd_eq hb) (gd_eq hb)) ?_
          refine j_q (qs_and rfl rfl) ?_
          refine j_cond rfl (fun hc4 => ?_) (fun hc4 => ?_)
          · skip
            have hcc : pd.length < pd2.length ∧ (pd2.length : Int) ≤ keep := by
              by_cases h1 : pd.length < pd2.length
              · refine ⟨h1, ?_⟩
                have h2 : decide ((pd2.length : Int) > (pd.length : Int)) = true := decide_eq_true (by omega)
                rw [h2] at hc4
                simp only [gd, if_pos, Bool.true_and] at hc4
                exact of_decide_eq_true hc4
              · have h2 : decide ((pd2.length : Int) > (pd.length : Int)) = false := decide_eq_false (by omega)
                rw [h2] at hc4
                simp at hc4
            have hpk : pd.take keep.toNat = pd := List.take_of_length_le (by omega)
            have hpk2 : pd2.take keep.toNat = pd2 := List.take_of_length_le (by omega)
            refine j_q (qs_ixn (g := g) (off := off) (n := rs.length) (c := cap) (i := i) Try.underlying44 sz50 rfl rfl hi1) ?_
            refine j_q (qs_loadrecw (encA := encS) (rs := rs) (d := St0) (i := i) encS_len (rd_cells hcl (by simp)) hi1 Try.underlying50 rfl sz50 rfl) ?_
            refine j_perm (S' := [s.heap ++ p.heap, r'.heap, q'.heap]) (by
              classical
              refine List.perm_iff_count.2 fun x => ?_
              simp only [List.set, List.flatten_cons, List.flatten_nil, List.append_nil, List.nil_append, List.cons_append, List.count_append, List.count_nil] <;> omega) ?_
            refine j_call 0 ent24 rfl rfl rfl rfl (fun w' hw' => stp_con s p (PD (pd.take keep.toNat)) b2 (rs.getD i St0) (i + 1) w' hos hp (by show (1048576 : Int) ≤ 1073741824; decide) (by show (pd.take keep.toNat).length < 16384; rw [List.length_take]; omega) (by omega) (str_ok hxa2) (str_ok hxt) hxn (br0 hxb hw') (base_sep hxb hw' 0 rfl) (hhv9 i hi1 hi2) (fun z hz => by have := (take_ids hia).now z hz; omega) (fun z hz => by have := hib2.now z hz; omega)) (fun u S5 h5 => ?_)
            obtain ⟨ok2, rfl, _, s', p', rfl, hos', hp', hgs', hgp'⟩ := h5
            refine j_subl (S' := [s'.heap, p'.heap, r'.heap, q'.heap]) (by repeat first | exact slR _ | exact slN _ | apply slC | apply slD) ?_
            refine j_perm (S' := [r'.heap, q'.heap, s'.heap, p'.heap]) (by
              classical
              refine List.perm_iff_count.2 fun x => ?_
              simp only [List.set, List.flatten_cons, List.flatten_nil, List.append_nil, List.nil_append, List.cons_append, List.count_append, List.count_nil] <;> omega) ?_
            rw [hpk, hpd2] at hos'
            refine j_q (qs_call ent25 rfl rfl rfl (fun w' hw' => (pending_con r' (PD pd2) w' (in_own hw' 0 rfl) hok').mono (fun u S h => h.1))) ?_
            refine j_q (qs_add64 rfl rfl (by first | omega | (simp only [bnA] at *; omega))) ?_
            refine j_back rfl ?_
            have h9 := nextF_len b2 (usedN b2.now) (rs.getD i St0) (i + 1)
            exact ⟨rs.length - (i + 1), by omega, i + 1, pd2, r', s', q', p', _, _, rfl, rfl, hgr'.trans hgr, hgs'.trans hgs2, hgq'.trans hgq, hgp'.trans hgp, hok', by rw [hpk2]; exact hos', hq', hp', hpd3, by omega, by omega, hids9, hib.next _ _, hib2.next _ _, hi1, hi2, rfl⟩
          · skip
            have hpk : pd2.take keep.toNat = pd.take keep.toNat := by
              rcases hcase with rfl | ⟨t, rfl⟩
              · rfl
              · have h3 : ¬ ((pd ++ [t]).length : Int) ≤ keep := fun h4 => by
                  have h2 : decide (((pd ++ [t]).length : Int) > (pd.length : Int)) = true := decide_eq_true (by rw [List.length_append, List.length_singleton]; omega)
                  rw [h2] at hc4
                  simp only [gd, if_pos, Bool.true_and] at hc4
                  exact absurd h4 (of_decide_eq_false hc4)
                rw [List.length_append, List.length_singleton] at h3
                rw [List.take_append_of_le_length (by omega)]
            refine j_q (qs_call ent25 rfl rfl rfl (fun w' hw' => (pending_con r' (PD pd2) w' (in_own hw' 0 rfl) hok').mono (fun u S h => h.1))) ?_
            refine j_q (qs_add64 rfl rfl (by first | omega | (simp only [bnA] at *; omega))) ?_
            refine j_back rfl ?_
            exact ⟨rs.length - (i + 1), by omega, i + 1, pd2, r', s, q', p, _, b2, rfl, rfl, hgr'.trans hgr, hgs2, hgq'.trans hgq, hgp, hok', by rw [hpk]; exact hos, hq', hp, hpd3, by omega, by omega, hids9, hib.next _ _, hib2.up, hi1, hi2, rfl⟩
      · skip
        have hpr : r0.ptr = r.ptr := by simp only [FR.ptr, hgr]
        have hps : s0.ptr = s.ptr := by simp only [FR.ptr, hgs2]
        have hpq : q0.ptr = q.ptr := by simp only [RF.ptr, hgq]
        have hpp : p0.ptr = p.ptr := by simp only [RF.ptr, hgp]
        rw [hpr, hps, hpq, hpp]
        refine j_call 0 ent21 rfl rfl rfl rfl (fun w' hw' => (crash_con r (PD pd) keep w' hok).mono (fun u S5 h5 => by
          obtain ⟨r', h2, h3, h4⟩ := h5
          exact (⟨r', h2, h3, h4.gf⟩ : ∃ r' : FR, S5 = [r'.heap] ∧ r'.Ok (crashF (PD pd) keep) ∧ r'.gf = r.gf))) (fun u S5 h5 => ?_)
        obtain ⟨r5, rfl, hok5, hgf5⟩ := h5
        refine j_subl (S' := [r5.heap, s.heap]) (by repeat first | exact slR _ | exact slN _ | apply slC | apply slD) ?_
        have hp5 : r.ptr = r5.ptr := by simp only [FR.ptr, hgf5]
        rw [hp5]
        have hnow := first_now pd keep hkp
        refine j_call0 ent19 rfl rfl rfl (fun w' hw' => names_con r5 _ [] w' (in_own hw' 0 rfl) hok5 (Nat.zero_le _)) (fun u S5 h5 => ?_)
        obtain ⟨cx, rfl, hox⟩ := h5
        rw [hnow] at hox
        obtain ⟨nx, Ax, capx, hvx, hnx⟩ := own_form hox (by decide)
        rw [strs_length, Nat.mul_one] at hnx
        subst hnx
        subst hvx
        refine j_call0 ent19 rfl rfl rfl (fun w' hw' => names_con s _ [] w' (in_own hw' 2 rfl) hos (Nat.zero_le _)) (fun u S5 h5 => ?_)
        obtain ⟨cy, rfl, hoy⟩ := h5
        have hxl9 := namesA_len hos []
        refine j_q (qs_call ent26 rfl rfl rfl (fun w' hw' => texts_con (namesA (PD (pd.take keep.toNat)).now []) (namesA (PD (pd.take keep.toNat)).now []) _ _ w' (rsl_own hox 1 rfl hw') (rsl_own hoy 0 rfl hw') (by omega) (by omega))) ?_
        rw [beq_self_eq_true]
        refine j_subl (S' := [cx, r5.heap, s.heap]) (by repeat first | exact slR _ | exact slN _ | apply slC | apply slD) ?_
        refine j_q (v := .bool false) (qs_not (b0 := true) rfl) ?_
        refine j_gt rfl (qs_mt rfl) ?_
        refine j_gt rfl (qs_call ent12 rfl rfl rfl (fun w' hw' => usedR_con r5 _ w' (in_own hw' 1 rfl) hok5)) ?_
        rw [hnow]
        refine j_gt rfl (qs_mt rfl) ?_
        refine j_gt rfl (qs_call ent12 rfl rfl rfl (fun w' hw' => usedR_con s _ w' (in_own hw' 2 rfl) hos)) ?_
        refine j_gt rfl (qs_neq rfl rfl) ?_
        rw [show ((PD (pd.take keep.toNat)).now.used != (PD (pd.take keep.toNat)).now.used) = false by simp]
        refine j_q (v := .bool false) (qs_or (b0 := false) (b1 := false) rfl rfl) ?_
        refine j_cond rfl (fun hc5 => ?_) (fun hc5 => ?_)
        · skip
          cases hc5
        · skip
          refine j_q (qs_ac) ?_
          refine j_loop (fun m vs S' => ∃ i : Nat, vs = [.int .i64 (i : Int)] ∧ S' = [cx, r5.heap, s.heap] ∧ i ≤ (namesA (PD (pd.take keep.toNat)).now []).length ∧ m = (namesA (PD (pd.take keep.toNat)).now []).length - i) ⟨_, 0, rfl, rfl, Nat.zero_le _, rfl⟩ ?_
          rintro m vs S' hlen ⟨i, rfl, rfl, hi, rfl⟩
          refine j_q (qs_lenl (n := (namesA (PD (pd.take keep.toNat)).now []).length) (A := Ax) (c := capx) Try.underlying41 rfl) ?_
          refine j_q (qs_lss rfl rfl) ?_
          refine j_cond rfl (fun hc6 => ?_) (fun hc6 => ?_)
          · skip
            have hi1 : i < (namesA (PD (pd.take keep.toNat)).now []).length := by
              simp only [bnA] at *
              omega
            obtain ⟨gx, rfl⟩ := own_addr hox (by rw [strs_length]; omega)
            have hnx : strOk ((namesA (PD (pd.take keep.toNat)).now []).getD i []) := namesA_ok hos (by rw [List.getD_eq_getElem?_getD, List.getElem?_eq_getElem hi1]; exact List.getElem_mem hi1)
            refine j_q (qs_ixn (g := gx) (off := 0) (n := (namesA (PD (pd.take keep.toNat)).now []).length) (c := capx) (i := i) Try.underlying41 sz9 rfl rfl hi1) ?_
            refine j_q (qs_loadR (v := .string (bs ((namesA (PD (pd.take keep.toNat)).now []).getD i []))) (a := ⟨gx, 0, none⟩) (i := i) (own_rd hox 0 rfl) Try.underlying9 rfl (by rw [add_off]; show Value.pointer (some ⟨gx, 0 + i * 1, none⟩) = _; rw [Nat.mul_one]) (str_get hi1)) ?_
            refine j_call0 ent11 rfl rfl rfl (fun w' hw' => readRO_con r5 _ _ w' (in_own hw' 1 rfl) hok5 hnx) (fun u S5 h5 => ?_)
            obtain ⟨v82, c82, rfl, rfl, ho82⟩ := h5
            rw [hnow] at ho82 ⊢
            refine j_q (qs_ext (vs := [v82, .int .i64 (readE (PD (pd.take keep.toNat)).now ((namesA (PD (pd.take keep.toNat)).now []).getD i []))]) rfl rfl) ?_
            refine j_q (qs_ext (vs := [v82, .int .i64 (readE (PD (pd.take keep.toNat)).now ((namesA (PD (pd.take keep.toNat)).now []).getD i []))]) rfl rfl) ?_
            refine j_q (qs_ixn (g := gx) (off := 0) (n := (namesA (PD (pd.take keep.toNat)).now []).length) (c := capx) (i := i) Try.underlying41 sz9 rfl rfl hi1) ?_
            refine j_q (qs_loadR (v := .string (bs ((namesA (PD (pd.take keep.toNat)).now []).getD i []))) (a := ⟨gx, 0, none⟩) (i := i) (own_rd hox 1 rfl) Try.underlying9 rfl (by rw [add_off]; show Value.pointer (some ⟨gx, 0 + i * 1, none⟩) = _; rw [Nat.mul_one]) (str_get hi1)) ?_
            refine j_call0 ent11 rfl rfl rfl (fun w' hw' => readRO_con s _ _ w' (in_own hw' 3 rfl) hos hnx) (fun u S5 h5 => ?_)
            obtain ⟨v87, c87, rfl, rfl, ho87⟩ := h5
            refine j_q (qs_ext (vs := [v87, .int .i64 (readE (PD (pd.take keep.toNat)).now ((namesA (PD (pd.take keep.toNat)).now []).getD i []))]) rfl rfl) ?_
            refine j_q (qs_ext (vs := [v87, .int .i64 (readE (PD (pd.take keep.toNat)).now ((namesA (PD (pd.take keep.toNat)).now []).getD i []))]) rfl rfl) ?_
            refine j_q (qs_ixn (g := gx) (off := 0) (n := (namesA (PD (pd.take keep.toNat)).now []).length) (c := capx) (i := i) Try.underlying41 sz9 rfl rfl hi1) ?_
            refine j_q (qs_loadR (v := .string (bs ((namesA (PD (pd.take keep.toNat)).now []).getD i []))) (a := ⟨gx, 0, none⟩) (i := i) (own_rd hox 2 rfl) Try.underlying9 rfl (by rw [add_off]; show Value.pointer (some ⟨gx, 0 + i * 1, none⟩) = _; rw [Nat.mul_one]) (str_get hi1)) ?_
            refine j_q (qs_call ent17 rfl rfl rfl (fun w' hw' => nodeR_con r5 _ _ w' (in_own hw' 3 rfl) hok5 hnx)) ?_
            rw [hnow]
            refine j_q (qs_ext (vs := [.string (bs (nodeF (PD (pd.take keep.toNat)).now ((namesA (PD (pd.take keep.toNat)).now []).getD i []))), .int .i64 (nodeK (PD (pd.take keep.toNat)).now ((namesA (PD (pd.take keep.toNat)).now []).getD i []))]) rfl rfl) ?_
            refine j_q (qs_ext (vs := [.string (bs (nodeF (PD (pd.take keep.toNat)).now ((namesA (PD (pd.take keep.toNat)).now []).getD i []))), .int .i64 (nodeK (PD (pd.take keep.toNat)).now ((namesA (PD (pd.take keep.toNat)).now []).getD i []))]) rfl rfl) ?_
            refine j_q (qs_ixn (g := gx) (off := 0) (n := (namesA (PD (pd.take keep.toNat)).now []).length) (c := capx) (i := i) Try.underlying41 sz9 rfl rfl hi1) ?_
            refine j_q (qs_loadR (v := .string (bs ((namesA (PD (pd.take keep.toNat)).now []).getD i []))) (a := ⟨gx, 0, none⟩) (i := i) (own_rd hox 2 rfl) Try.underlying9 rfl (by rw [add_off]; show Value.pointer (some ⟨gx, 0 + i * 1, none⟩) = _; rw [Nat.mul_one]) (str_get hi1)) ?_
            refine j_q (qs_call ent17 rfl rfl rfl (fun w' hw' => nodeR_con s _ _ w' (in_own hw' 4 rfl) hos hnx)) ?_
            refine j_q (qs_ext (vs := [.string (bs (nodeF (PD (pd.take keep.toNat)).now ((namesA (PD (pd.take keep.toNat)).now []).getD i []))), .int .i64 (nodeK (PD (pd.take keep.toNat)).now ((namesA (PD (pd.take keep.toNat)).now []).getD i []))]) rfl rfl) ?_
            refine j_q (qs_ext (vs := [.string (bs (nodeF (PD (pd.take keep.toNat)).now ((namesA (PD (pd.take keep.toNat)).now []).getD i []))), .int .i64 (nodeK (PD (pd.take keep.toNat)).now ((namesA (PD (pd.take keep.toNat)).now []).getD i []))]) rfl rfl) ?_
            refine j_q (qs_call ent14 rfl rfl rfl (fun w' hw' => same_con _ _ _ _ w' (own_br ho82 1 rfl hw') (own_br ho87 0 rfl hw') (contA_le hos _))) ?_
            rw [beq_self_eq_true]
            refine j_q (v := .bool false) (qs_not (b0 := true) rfl) ?_
            refine j_gt rfl (qs_mt rfl) ?_
            refine j_gt rfl (qs_mt rfl) ?_
            refine j_gt rfl (qs_sneq (l := nodeF (PD (pd.take keep.toNat)).now ((namesA (PD (pd.take keep.toNat)).now []).getD i [])) (l' := nodeF (PD (pd.take keep.toNat)).now ((namesA (PD (pd.take keep.toNat)).now []).getD i [])) rfl rfl) ?_
            rw [beq_self_eq_true]
            refine j_q (v := .bool false) (qs_or (b0 := false) (b1 := false) rfl rfl) ?_
            refine j_gt rfl (qs_mt rfl) ?_
            refine j_gt rfl (qs_mt rfl) ?_
            refine j_gt rfl (qs_neq rfl rfl) ?_
            rw [show (nodeK (PD (pd.take keep.toNat)).now ((namesA (PD (pd.take keep.toNat)).now []).getD i []) != nodeK (PD (pd.take keep.toNat)).now ((namesA (PD (pd.take keep.toNat)).now []).getD i [])) = false by simp]
            refine j_q (v := .bool false) (qs_or (b0 := false) (b1 := false) rfl rfl) ?_
            refine j_cond rfl (fun hc7 => ?_) (fun hc7 => ?_)
            · skip
              cases hc7
            · skip
              refine j_q (qs_add64 rfl rfl (by first | omega | (simp only [bnA] at *; omega))) ?_
              refine j_subl (S' := [cx, r5.heap, s.heap]) (by repeat first | exact slR _ | exact slN _ | apply slC | apply slD) ?_
              refine j_back rfl ?_
              exact ⟨(namesA (PD (pd.take keep.toNat)).now []).length - (i + 1), by omega, i + 1, rfl, rfl, by omega, rfl⟩
          · skip
            refine j_call0 ent9 rfl rfl rfl (fun w' hw' => known_con w') (fun u S2 hu => ?_)
            subst hu
            refine j_ret_con (vs := [_]) (fun w' hw' => ⟨rfl, trivial⟩) ?_
            rfl
end Go.Proofs.Ytckpegkpdepokaa
/-! Arg44 -/
namespace Go.Proofs.Ytckpegkpdepokaa
open Go Go.Sx Go.ChangeShapes Go.WideShapes Go.ChangeAt Go.RowKit
set_option linter.unusedVariables false
set_option maxRecDepth 100000
theorem trod_struct5 {H : Type} {enc : TypeId × Value → H} {P : Program} {w : World} {base : Nat} {spare : Nat → Bool} {held : Bool} {t : TypeId} {f0 f1 f2 f3 f4 : Field} {fuel : Nat} {cs : List Value} {x : DataW H × List MemPlace} (ht : P.underlying t = some (.struct #[f0, f1, f2, f3, f4])) (h : DataW.trod enc P w base spare held fuel t cs = some x) :
    ∃ y0 y1 y2 y3 y4 n, x = (.agg [y0.1, y1.1, y2.1, y3.1, y4.1], y0.2 ++ (y1.2 ++ (y2.2 ++ (y3.2 ++ y4.2)))) ∧ cs.length = P.cellsOf t ∧ DataW.trod enc P w base spare held n f0.type ((cs.drop f0.offset).take (P.cellsOf f0.type)) = some y0 ∧
      DataW.trod enc P w base spare held n f1.type ((cs.drop f1.offset).take (P.cellsOf f1.type)) = some y1 ∧ DataW.trod enc P w base spare held n f2.type ((cs.drop f2.offset).take (P.cellsOf f2.type)) = some y2 ∧
      DataW.trod enc P w base spare held n f3.type ((cs.drop f3.offset).take (P.cellsOf f3.type)) = some y3 ∧ DataW.trod enc P w base spare held n f4.type ((cs.drop f4.offset).take (P.cellsOf f4.type)) = some y4 := by
  obtain ⟨xs, n, _, rfl, hl, hlen, hf⟩ := DataW.trod_struct ht h
  match xs, hlen with
  | [y0, y1, y2, y3, y4], _ => exact ⟨y0, y1, y2, y3, y4, n, by simp, hl, by simpa using hf 0 f0 rfl, by simpa using hf 1 f1 rfl, by simpa using hf 2 f2 rfl, by simpa using hf 3 f3 rfl, by simpa using hf 4 f4 rfl⟩
theorem intOk_wf {n : Int} (h : (Lit.int .i64 n).wf = true) : intOk n := by
  have h1 : IntKind.i64.min = -9223372036854775808 := rfl
  have h2 : IntKind.i64.max = 9223372036854775807 := rfl
  simp only [Lit.wf, h1, h2, Bool.and_eq_true, decide_eq_true_eq] at h
  exact h
theorem st_trod {H : Type} {enc : TypeId × Value → H} {w : World} {b0 : Nat} {sp : Nat → Bool} {held : Bool} (fuel : Nat) (cs : List Value) (y : DataW H × List MemPlace) (h : DataW.trod enc Try.prog w b0 sp held fuel 50 cs = some y) (hw : (y.1.weights Try.prog 50).all (· ≤ reachBytes) = true) :
    ∃ a : St, a.Ok w ∧ cs = encS a := by
  obtain ⟨y0, y1, y2, y3, y4, n, rfl, hl, h0, h1, h2, h3, h4⟩ := trod_struct5 Try.underlying50 h
  have hc : Try.prog.cellsOf 50 = 5 := by kernel_rfl
  rw [hc] at hl
  match cs, hl with
  | [c0, c1, c2, c3, c4], _ =>
    have e3 : Try.prog.cellsOf 3 = 1 := by kernel_rfl
    have e9 : Try.prog.cellsOf 9 = 1 := by kernel_rfl
    have e23 : Try.prog.cellsOf 23 = 1 := by kernel_rfl
    simp only [e3, e9, e23, List.drop_zero, List.take_succ_cons, List.take_zero, List.drop_succ_cons] at h0 h1 h2 h3 h4
    obtain ⟨k0, hk0, e0, w0⟩ := DataW.trod_int Try.underlying3 h0
    obtain ⟨k1, hk1, e1, w1⟩ := DataW.trod_int Try.underlying3 h1
    obtain ⟨s2, hs2, e2, w2⟩ := DataW.trod_string Try.underlying9 h2
    obtain ⟨s3, hs3, e3', w3⟩ := DataW.trod_string Try.underlying9 h3
    unfold DataW.weights at hw
    rw [Try.underlying50] at hw
    simp only [List.map_cons, List.map_nil, DataW.weightsEach, List.all_append, List.all_nil, Bool.and_eq_true, Bool.and_true] at hw
    obtain ⟨hw0, hw1, hw2, hw3, hw4⟩ := hw
    obtain ⟨p4, ⟨hp4, hp5⟩, hb4⟩ := row_trod n [c4] y4 h4 hw4
    injection hk0 with hk0
    injection hk1 with hk1
    injection hs2 with hs2
    injection hs3 with hs3
    injection hb4 with hb4
    subst hk0 hk1 hs2 hs3 hb4
    have hreach : reachBytes = 140737488351232 := rfl
    refine ⟨⟨k0, k1, s2.data.toList, s3.data.toList, p4.1, p4.2⟩, ⟨intOk_wf w0, intOk_wf w1, ?_, ?_, brz_br hp4, hp5⟩, ?_⟩
    · subst e2
      simp only [DataW.weights, List.all_cons, List.all_nil, Bool.and_true, decide_eq_true_eq] at hw2
      show s2.data.toList.length ≤ 140737488351232
      omega
    · subst e3'
      simp only [DataW.weights, List.all_cons, List.all_nil, Bool.and_true, decide_eq_true_eq] at hw3
      show s3.data.toList.length ≤ 140737488351232
      omega
    · unfold encS
      simp only [← bs_of]
theorem open_script {H : Type} {enc : TypeId × Value → H} {w : World} {r : Go.Reach} {base b0 : Nat} {sp : Nat → Bool} {held : Bool} {v : Value} {x : DataW H × List MemPlace} (hv : Value.okWide Try.prog w r base 44 v)
    (h : ∃ fuel, DataW.trod enc Try.prog w b0 sp held fuel 44 v.cells.toList = some x) (hw : (x.1.weights Try.prog 44).all (· ≤ reachBytes) = true) : ∃ rs : List St, Script w v rs ∧ rs.length ≤ 4611686018427387903 := by
  obtain ⟨rs, h1, h2, h3⟩ := open_sln (α := St) encS (St.Ok w) encS_len (by decide) Try.underlying44 (by kernel_rfl) hv st_trod h hw
  have hb : Try.prog.bytesOf 50 = 72 := by kernel_rfl
  have hreach : reachBytes = 140737488351232 := rfl
  rw [hb] at h3
  exact ⟨rs, ⟨h1, h2⟩, by omega⟩
theorem fsFirst_con (rs : List St) (vl : Value) (keep : Int) (w : World) (hs : Script w vl rs) (_ : rs.length ≤ 4611686018427387903) (hk : -9223372036854775808 ≤ keep ∧ keep ≤ 9223372036854775807) : Con Try.prog 7 [vl, .int .i64 keep] w [] fun u _ => u = .bool true := fsFirstW_con rs vl keep w hs hk
end Go.Proofs.Ytckpegkpdepokaa
/-! SxT -/
namespace Go.Sx
open Go Go.ChangeShapes Go.WideShapes Go.ChangeAt Go.RowKit
set_option linter.unusedVariables false
end Go.Sx
/-! RowC -/
namespace Go.Proofs.Ytckpegkpdepokaa
open Go Go.Sx Go.ChangeShapes Go.WideShapes Go.ChangeAt Go.RowKit
set_option linter.unusedVariables false
theorem own_fsFirst : ownKnob Try.prog.godebug = none := by kernel_rfl
theorem laid_fsFirst : laidOutB Try.prog = true := by kernel_rfl
set_option maxRecDepth 100000 in
theorem fsFirst_lifted (os : Os) (started : os.Started) (H : Type) (enc : TypeId × Value → H) :
    ReturnsInHanded {} Try.checked os 7 .any (Rows.fsFirstSpec.pre6 enc Try.prog Try.f7 Rows.fsFirstRow.domain false) (Rows.fsFirstSpec.post enc Try.prog Try.f7 false true false false) := by
  refine returnsInHanded_of_change_sized (C := Try.checked) own_fsFirst started (by kernel_rfl) Try.func7
    (ChangeSpec.witness6 (enc := enc) (C := Try.checked) false ⟨#[], #[.slice none 0 0, .int .i64 0], []⟩ 8 (by kernel_rfl) (by kernel_rfl) (by kernel_rfl) (by kernel_rfl)) ?_
  intro W base args ds gs before hval0 hW hcnd hsz0 _
  have hsz : (DataW.weightsEach Try.prog (Try.f7.params.toList ++ Rows.fsFirstSpec.plain.varTypes Try.prog) (ds ++ gs)).all (· ≤ reachBytes) = true := hsz0
  have hreach : reachBytes = 140737488351232 := rfl
  have hval : ∀ (j : Nat) t v, Try.f7.params[j]? = some t → args[j]? = some v → Value.okWide Try.prog W .any base t v := hval0
  have hW' := hW
  obtain ⟨p, q, hA0, hV, rfl, hfz, hnd⟩ := hW
  have hA : DataW.TrodAll enc Try.prog W 0 (fun _ => true) true Try.f7.params.toList args.toList ds p := hA0
  rw [Try.params7] at hA hval
  obtain ⟨v0, v1, d0, d1, p0, p1, rfl, rfl, rfl, h0, h1⟩ := trodAll_two hA
  obtain ⟨rfl, rfl⟩ := trodVars_none hV
  obtain ⟨a0, wa0_0, wa0_1⟩ := open_script (hval 0 44 v0 rfl rfl) h0 (weights_at hsz (j := 0) (t := 44) (by rw [Try.params7]; rfl) rfl)
  obtain ⟨a1, rfl, rfl, rfl, wa1⟩ := open_int Try.underlying3 (hval 1 3 v1 rfl rfl) h1
  clear hA0 hval0
  have hc := fsFirst_con a0 v0 a1 W wa0_0 wa0_1 (int_wf wa1) (by simp) (by simp)
  refine hc.mono fun e W' h => ?_
  obtain ⟨v, S', rfl, rfl, hS⟩ := h
  exact ⟨_, rfl, post_law hW' rfl rfl laid_fsFirst (by decide +kernel) rfl Try.underlying4 (below_of_sig hS)⟩
theorem fsFirst_holds : Rows.FsFirstSaid :=
  OpenClaim.holds_of_wide 7 Try.f7 rfl rfl rfl rfl rfl rfl rfl ⟨rfl, rfl, rfl, rfl, rfl⟩ rfl rfl rfl rfl rfl (by kernel_rfl) Try.func7 (by kernel_rfl)
    (of_decide_eq_true (by kernel_rfl)) (by unfold Func.isWrapper; first | (rw [if_pos (by decide +kernel)]; kernel_rfl) | (rw [if_neg (by decide +kernel)]; exact ⟨rfl, rfl⟩))
    (fun os started H enc _ => fsFirst_lifted os started H enc)
end Go.Proofs.Ytckpegkpdepokaa
