/- Files that forget: Append's and Link's things; bytes copied. -/
import Derived.Test.YtckpegkpdepokaaTa
import Derived.Test.YtckpegkpdepokaaFs3
namespace Go.Proofs.Ytckpegkpdepokaa
open Go Go.Sx
set_option maxRecDepth 100000
set_option maxHeartbeats 4000000
set_option linter.unusedVariables false
set_option linter.unusedSimpArgs false
attribute [local irreducible] J JQ QS Con W opW
theorem sb5 : (Try.prog.info? 5).map (fun i => (i.size, i.bytes)) = some (1, 1) := by kernel_rfl
theorem zero5 : zeroL Try.prog 5 = some ([.int .u8 0]) := by kernel_rfl

open Go.MapKept Go.WideMaps Go.Maps
/-- bytes behind a file's -/
def app1 (id : Nat) (v : Value) (xs : List UInt8) (f : FL) : FL := if f.id = id then { f with v := v, xs := f.xs ++ xs } else f
def appM (s : SM) (id : Nat) (v : Value) (xs : List UInt8) : SM := { s with fs := s.fs.map (app1 id v xs), used := s.used + (xs.length : Int) }
theorem app_split {a b : List FL} {f : FL} {v : Value} {xs : List UInt8} (h : ((a ++ f :: b).map FL.id).Nodup) : (a ++ f :: b).map (app1 f.id v xs) = a ++ { f with v := v, xs := f.xs ++ xs } :: b := by
  obtain ⟨h1, h2⟩ := off_ids h
  have off : ∀ {c : List FL}, (∀ x ∈ c, x.id ≠ f.id) → c.map (app1 f.id v xs) = c := fun {c} hc => by
    conv => rhs; rw [← List.map_id c]
    exact List.map_congr_left fun x hx => by unfold app1; rw [if_neg (hc x hx)]; rfl
  rw [List.map_append, List.map_cons, off h1, off h2]
  congr 2
  unfold app1
  rw [if_pos rfl]
theorem app_id (id : Nat) (v : Value) (xs : List UInt8) (f : FL) : (app1 id v xs f).id = f.id ∧ (app1 id v xs f).g = f.g ∧ (app1 id v xs f).k = f.k := by
  unfold app1
  split <;> exact ⟨rfl, rfl, rfl⟩
theorem raw_app {s : SM} (h : Raw s) {f : FL} (hf : f ∈ s.fs) {v : Value} {xs : List UInt8} (hv : ∃ A cap, v = .slice A (f.xs ++ xs).length cap) (hl : (f.xs ++ xs).length ≤ 1000000000) (hu : s.used + (xs.length : Int) ≤ 1000000000000000) : Raw (appM s f.id v xs) := by
  obtain ⟨a, b, hab⟩ := List.append_of_mem hf
  have hids := h.ids
  rw [hab] at hids
  have hfs : s.fs.map (app1 f.id v xs) = a ++ { f with v := v, xs := f.xs ++ xs } :: b := by rw [hab]; exact app_split hids
  have hus := h.us
  refine ⟨h.map, h.nd, ?_, ?_, fun q hq => ?_, fun x hx => ?_, fun x hx => ?_, ?_⟩
  · show ((s.fs.map (app1 f.id v xs)).map FL.id).Nodup
    rw [List.map_map]
    have e : s.fs.map (FL.id ∘ app1 f.id v xs) = s.fs.map FL.id := List.map_congr_left fun x _ => (app_id _ _ _ x).1
    rw [e]
    exact h.ids
  · show ((s.fs.map (app1 f.id v xs)).map FL.g).Nodup
    rw [List.map_map]
    have e : s.fs.map (FL.g ∘ app1 f.id v xs) = s.fs.map FL.g := List.map_congr_left fun x _ => (app_id _ _ _ x).2.1
    rw [e]
    exact h.gnd
  · obtain ⟨x, hx, h1, h2⟩ := h.has q hq
    exact ⟨app1 f.id v xs x, List.mem_map.2 ⟨x, hx, rfl⟩, (app_id _ _ _ x).2.1.trans h1, (app_id _ _ _ x).1.trans h2⟩
  · have hx' : x ∈ a ++ { f with v := v, xs := f.xs ++ xs } :: b := by rw [← hfs]; exact hx
    rcases List.mem_append.1 hx' with hx' | hx'
    · exact h.form x (by rw [hab]; exact List.mem_append_left _ hx')
    · rcases List.mem_cons.1 hx' with rfl | hx'
      · obtain ⟨A, cap, e⟩ := hv
        exact ⟨A, cap, e, hl⟩
      · exact h.form x (by rw [hab]; exact List.mem_append_right _ (List.mem_cons_of_mem _ hx'))
  · obtain ⟨y, hy, rfl⟩ := List.mem_map.1 hx
    rw [(app_id _ _ _ y).1, (app_id _ _ _ y).2.2]
    exact h.le y hy
  · show (tot (s.fs.map (app1 f.id v xs)) : Int) ≤ s.used + (xs.length : Int) + 2000000000 ∧ s.used + (xs.length : Int) ≤ 1000000000000000
    have t1 := tot_split a b f
    have t2 := tot_split a b { f with v := v, xs := f.xs ++ xs }
    rw [← hab] at t1
    rw [hfs, t2]
    simp only [List.length_append]
    exact ⟨by omega, hu⟩
/-- bytes that can be read -/
def BR (w : World) (v : Value) (xs : List UInt8) : Prop := (v = .slice none 0 0 ∧ xs = []) ∨ ∃ a cap, v = .slice (some a) xs.length cap ∧ xs.length ≤ cap ∧ (0 < xs.length → a.block < w.heap.size) ∧ Cells w a (ints xs)
theorem br_form {w : World} {v : Value} {xs : List UInt8} (h : BR w v xs) : ∃ A cap, v = .slice A xs.length cap ∧ xs.length ≤ cap := by
  rcases h with ⟨rfl, rfl⟩ | ⟨a, cap, rfl, h, _⟩
  · exact ⟨none, 0, rfl, Nat.le_refl _⟩
  · exact ⟨_, cap, rfl, h⟩
theorem br_rsl {w : World} {v : Value} {xs : List UInt8} (h : RSl w v (ints xs)) : BR w v xs := by
  rcases h with ⟨rfl, h⟩ | ⟨g, off, cap, rfl, h1, h2, h3⟩
  · refine .inl ⟨rfl, ?_⟩
    have := congrArg List.length h
    rw [ints_length] at this
    exact List.eq_nil_of_length_eq_zero this
  · rw [ints_length] at h2 ⊢
    exact .inr ⟨_, cap, rfl, h2, fun _ => h1, h3⟩
theorem br_rv {w : World} {P : List BK} {v : Value} {xs : List UInt8} (h : RV P v xs) (hin : In w (ph P)) : BR w v xs := by
  rcases h with h | ⟨b, hb, cap, rfl, h2, h3⟩
  · exact .inl h
  · have hg : w.heap[b.g]? = some (.cells (ints b.xs ++ b.rest).toArray 5 b.fz) := hin b.h (List.mem_map.2 ⟨b, hb, rfl⟩)
    refine .inr ⟨_, cap, rfl, h3, fun _ => lt_of_get hg, fun j u hu => ?_⟩
    rw [add_off, Nat.zero_add, cell_of hg]
    obtain ⟨t, ht⟩ := h2
    rw [← ht, ints_append, List.append_assoc]
    rw [List.getElem?_append_left (List.getElem?_eq_some_iff.1 hu).1]
    exact hu
theorem own_pool {xs : List UInt8} {v : Value} {c : SH} (h : Sx.Own 5 1 (ints xs) v c) : ∃ Q : List BK, c = ph Q ∧ RV Q v xs := by
  rcases h with ⟨rfl, h, rfl⟩ | ⟨g, n, cap, rest, fz, rfl, rfl, h1, h2, h3, h4⟩
  · refine ⟨[], rfl, .inl ⟨rfl, ?_⟩⟩
    have := congrArg List.length h
    rw [ints_length] at this
    exact List.eq_nil_of_length_eq_zero this
  · rw [ints_length, Nat.mul_one] at h1
    subst h1
    exact ⟨[⟨g, xs, rest, fz, 0⟩], rfl, .inr ⟨⟨g, xs, rest, fz, 0⟩, by simp, cap, rfl, List.prefix_refl _, h3⟩⟩
/-- bytes.Clone -/
theorem clone_con (v : Value) (xs : List UInt8) (w : World) (h : BR w v xs) (hl : xs.length ≤ 1000000000) : Con Try.prog 31 [v] w [] fun u S' => ∃ Q : List BK, S' = [ph Q] ∧ RV Q u xs := by
  refine con_of_tree mix Try.func31 T31_ok (by kernel_rfl) ?_
  unfold T31
  have hf := br_form h
  obtain ⟨A, cap, hv, hcap⟩ := hf
  subst hv
  refine j_q (qs_ac) ?_
  refine j_q (qs_slnil Try.underlying23 rfl) ?_
  refine j_cond rfl (fun hc0 => ?_) (fun hc0 => ?_)
  · skip
    have h0 : A = none := by cases A with
      | none => rfl
      | some a => simp at hc0
    subst h0
    have hx0 : xs = [] := by
      rcases h with ⟨_, h⟩ | ⟨a, c, e, _⟩
      · exact h
      · cases e
    subst hx0
    refine j_q (qs_ac) ?_
    refine j_perm (S' := [ph []]) (by simp [ph]) ?_
    refine j_ret_con (vs := [_]) (fun w' hw' => ⟨rfl, trivial⟩) ?_
    exact ⟨[], rfl, .inl ⟨rfl, rfl⟩⟩
  · skip
    obtain ⟨a, rfl⟩ : ∃ a, A = some a := by
      cases A with
      | none => simp at hc0
      | some a => exact ⟨a, rfl⟩
    have hcl : Cells w a (ints xs) := by
      rcases h with ⟨e, _⟩ | ⟨a', c, e, _, _, h⟩
      · cases e
      · injection e with e1 e2 e3
        injection e1 with e1
        rw [e1]
        exact h
    refine j_lit (vs := []) Try.underlying23 sz5 zero5 rfl (by simp [oneV]) ⟨rfl, by decide⟩ (fun g3 v3 c3 hv3 hc3 ho3 => ?_)
    subst hv3 hc3
    refine j_append 0 Try.underlying23 Try.underlying23 (.inr ⟨_, rfl⟩) sb5 zero5 rfl ho3 rfl (src_sl (rd_cells hcl (by simp)) (by rw [ints_length, Nat.mul_one])) ints_one ⟨(by rw [ints_length]; simp only [List.length_nil]; omega), (by decide)⟩ (fun v4 c4 ho4 => ?_)
    rw [List.nil_append] at ho4
    obtain ⟨Q, hQ, hrv⟩ := own_pool ho4
    refine j_subl (S' := [c4]) (by repeat first | exact List.Sublist.refl _ | exact List.nil_sublist _ | apply List.Sublist.cons_cons | apply List.Sublist.cons) ?_
    refine j_ret_con (vs := [_]) (fun w' hw' => ⟨rfl, trivial⟩) ?_
    exact ⟨Q, by rw [hQ], hrv⟩
/-- (*pantry.fs.FS).Append$1 -/
theorem ap_con (s : SM) (P : List BK) (n : List UInt8) (f : FL) (bv : Value) (xs : List UInt8) (g1 g2 : Nat) (w : World) (h : Raw s) (hf : f ∈ s.fs) (hl : alook s.ml n = some (f.g, f.id)) (hvw : Vw P f.g f.v f.xs) (hrv : RV P bv xs) (hxl : (f.xs ++ xs).length ≤ 1000000000) (hu : -1000000000000000 ≤ s.used ∧ s.used + (xs.length : Int) ≤ 1000000000000000) (hn : strOk n) (h1 : w.heap[g1]? = some (.cells [.string (bs n)].toArray 9 (0, 0))) (hd1 : g1 ∉ dom (s.heap ++ ph P)) (h2 : w.heap[g2]? = some (.cells [bv].toArray 23 (0, 0))) (hd2 : g2 ∉ dom (s.heap ++ ph P)) : Con Try.prog 40 [s.ptr, .pointer (some ⟨g1, 0, none⟩), .pointer (some ⟨g2, 0, none⟩)] w (s.heap ++ ph P) fun _ S' => ∃ (v' : Value) (P' : List BK), S' = [SM.heap (appM s f.id v' xs), ph P'] ∧ Vw P' f.g v' (f.xs ++ xs) ∧ PLe f.g P P' ∧ Raw (appM s f.id v' xs) := by
  refine con_of_tree mix Try.func40 T40_ok (by kernel_rfl) ?_
  unfold T40
  obtain ⟨a, b, hab⟩ := List.append_of_mem hf
  have hids := h.ids
  rw [hab] at hids
  obtain ⟨bA, bc, hbv, hbc, _⟩ := hrv.form
  subst hbv
  rw [List.length_append] at hxl
  refine j_perm (S' := [[(s.gs, s.sobj)], [(s.gm, .map s.es s.ck)], [f.h], rest a b, ph P]) (by
    have h0 := (SM.open_ hab).append_right (ph P)
    simpa using h0) ?_
  refine j_draw ?_
  refine jq_q (qs_nil rfl) ?_
  refine jq_q (qs_field Try.underlying66 rfl sz64 (by decide) rfl) ?_
  refine jq_q (qs_load (l := smcells s) 0 Try.underlying64 rfl rfl rfl rfl) ?_
  refine jq_q (qs_loadO (rdo_base h1 hd1) Try.underlying9 rfl rfl rfl) ?_
  refine jq_q (qs_lookup (key := n) strKey 1 Try.underlying64 zv63 rfl rfl rfl h.map hn) ?_
  rw [mlook_map fptr, getD_fptr, hl, Option.map_some]
  refine jq_nil ?_
  refine j_mix [[f.h]] (Le.of_sub (by repeat first | exact List.Sublist.refl _ | exact List.nil_sublist _ | apply List.Sublist.cons_cons | apply List.Sublist.cons)) ?_
  refine j_mq (qs_nil rfl) ?_
  refine j_mq (qs_field Try.underlying73 rfl sz23 (by decide) rfl) ?_
  refine j_mq (qs_load (l := flcells f) 0 Try.underlying23 rfl rfl rfl rfl) ?_
  refine j_mq (qs_loadO (rdo_base h2 hd2) Try.underlying23 rfl rfl rfl) ?_
  refine j_appendP (xs := f.xs) (news := xs) (P := P) (o := f.g) 4 rfl hvw (src_rv hrv (fun k hk => mem_flatten_of (k := 4) rfl (List.mem_map.2 ⟨k, hk, rfl⟩))) (by omega) (fun v9 P9 hv9 hp9 => ?_)
  refine j_mD0 (Le.of_sub (by repeat first | exact List.Sublist.refl _ | exact List.nil_sublist _ | apply List.Sublist.cons_cons | apply List.Sublist.cons)) ?_
  refine j_mq (qs_nil rfl) ?_
  refine j_mq (qs_field Try.underlying73 rfl sz23 (by decide) rfl) ?_
  refine j_store (l := flcells f) 2 sz23 rfl rfl (by obtain ⟨A', c', e', _⟩ := hv9.rv.form; show oneV v9 = true; rw [e']; rfl) rfl (by simp) (by simp) ?_
  refine j_mR _ (.refl _) ?_
  refine j_mend ?_
  refine j_draw ?_
  refine jq_q (qs_nil rfl) ?_
  refine jq_q (qs_field Try.underlying66 rfl sz3 (by decide) rfl) ?_
  refine jq_q (qs_load (l := smcells s) 0 Try.underlying3 rfl rfl rfl rfl) ?_
  refine jq_q (qs_loadO (rdo_base h2 hd2) Try.underlying23 rfl rfl rfl) ?_
  refine jq_q (qs_lenl Try.underlying23 rfl) ?_
  refine jq_q (qs_add64 rfl rfl (by first | omega | (simp only [Bool.and_eq_true, Bool.or_eq_true, Bool.and_eq_false_iff, Bool.or_eq_false_iff, Bool.not_eq_true', Bool.not_eq_false', decide_eq_true_eq, decide_eq_false_iff_not, beq_iff_eq, beq_eq_false_iff_ne, bne_iff_ne, bne_eq_false_iff_eq, ne_eq, Int.toNat_natCast] at *; omega))) ?_
  refine jq_q (qs_nil rfl) ?_
  refine jq_q (qs_field Try.underlying66 rfl sz3 (by decide) rfl) ?_
  refine jq_nil ?_
  refine j_store (l := smcells s) 0 sz3 rfl rfl rfl rfl (by simp) (by simp) ?_
  refine j_perm (S' := [SM.heap (appM s f.id v9 xs), ph P9]) (by
    have e : (appM s f.id v9 xs).fs = a ++ ({ f with v := v9, xs := f.xs ++ xs } : FL) :: b := by
      show s.fs.map (app1 f.id v9 xs) = _
      rw [hab]
      exact app_split hids
    have h0 := (SM.open_ e).append_right (ph P9)
    refine List.Perm.trans ?_ (List.Perm.trans h0.symm (List.Perm.of_eq (by simp)))
    refine List.Perm.of_eq ?_
    simp [appM, FL.h, smcells, flcells, SM.sobj, List.set]
    exact ⟨rfl, rfl⟩) ?_
  refine j_ret_con (vs := []) (fun w' hw' => trivial) ?_
  obtain ⟨A', c', e', _⟩ := hv9.rv.form
  exact ⟨v9, P9, rfl, hv9, hp9, raw_app h hf ⟨A', c', e'⟩ (by rw [List.length_append]; omega) hu.2⟩
/-- (*pantry.fs.FS).Link$1 -/
theorem li_con (s : SM) (P : List BK) (n old : List UInt8) (f : FL) (g1 g2 : Nat) (w : World) (h : Raw s) (hf : f ∈ s.fs) (hk : f.k + 1 ≤ 1000000) (hl : alook s.ml old = some (f.g, f.id)) (hn : strOk n) (ho : strOk old) (h1 : w.heap[g1]? = some (.cells [.string (bs n)].toArray 9 (0, 0))) (hd1 : g1 ∉ dom (s.heap ++ ph P)) (h2 : w.heap[g2]? = some (.cells [.string (bs old)].toArray 9 (0, 0))) (hd2 : g2 ∉ dom (s.heap ++ ph P)) : Con Try.prog 39 [s.ptr, .pointer (some ⟨g1, 0, none⟩), .pointer (some ⟨g2, 0, none⟩)] w (s.heap ++ ph P) fun _ S' => ∃ (es : Array MapEntry) (ck : Nat), S' = [SM.heap { givesM s n (f.g, f.id) with es := es, ck := ck }, ph P] ∧ Raw { givesM s n (f.g, f.id) with es := es, ck := ck } := by
  refine con_of_tree mix Try.func39 T39_ok (by kernel_rfl) ?_
  unfold T39
  refine j_perm (S' := [[(s.gs, s.sobj)], [(s.gm, .map s.es s.ck)], s.fs.map FL.h, ph P]) (by
    have h0 := s.split.append_right (ph P)
    simpa using h0) ?_
  refine j_mix _ (.refl _) ?_
  refine j_mq (qs_loadO (rdo_base h1 hd1) Try.underlying9 rfl rfl rfl) ?_
  refine j_mq (qs_nil rfl) ?_
  refine j_mq (qs_field Try.underlying66 rfl sz64 (by decide) rfl) ?_
  refine j_mq (qs_load (l := smcells s) 0 Try.underlying64 rfl rfl rfl rfl) ?_
  refine j_mq (qs_loadO (rdo_base h2 hd2) Try.underlying9 rfl rfl rfl) ?_
  refine j_mq (qs_lookup (key := old) strKey 1 Try.underlying64 zv63 rfl rfl rfl h.map ho) ?_
  rw [mlook_map fptr, getD_fptr, hl, Option.map_some]
  refine j_perm (S' := [s.heap, ph P]) (by
    have h0 := s.split.symm.append_right (ph P)
    simpa using h0) ?_
  refine j_call 0 ent38 rfl rfl rfl rfl (fun w' hw' => gives_con s n f w' h hn hf hk) (fun u S2 hu => ?_)
  obtain ⟨es1, ck1, rfl, hr1⟩ := hu
  refine j_subl (S' := [SM.heap { givesM s n (f.g, f.id) with es := es1, ck := ck1 }, ph P]) (by repeat first | exact List.Sublist.refl _ | exact List.nil_sublist _ | apply List.Sublist.cons_cons | apply List.Sublist.cons) ?_
  refine j_mR _ (.refl _) ?_
  refine j_mend ?_
  refine j_ret_con (vs := []) (fun w' hw' => trivial) ?_
  exact ⟨es1, ck1, rfl, hr1⟩
end Go.Proofs.Ytckpegkpdepokaa
