/- Locks by names, as the document has them: a lock's row goes on; a task holds no more. -/
import Derived.Test.YtlgfpoelhjlifaaTa
import Derived.Test.YtlgfpoelhjlifaaRk2
namespace Go.Proofs.Ytlgfpoelhjlifaa
open Go Go.Sx
set_option maxRecDepth 100000
set_option maxHeartbeats 4000000
set_option linter.unusedVariables false
set_option linter.unusedSimpArgs false
attribute [local irreducible] J JQ QS Con W opW
theorem zero117 : zeroL Try.prog 117 = some ([.int .i64 0, .bool false]) := by kernel_rfl

theorem addz (g i : Nat) : Value.pointer (some ⟨g, 0 + i * 1, none⟩) = Value.pointer (some ((⟨g, 0, none⟩ : Addr).add i)) := by rw [add_off, Nat.zero_add, Nat.zero_add, Nat.mul_one]
def goesH : List (Int × Bool) → List Int → Bool → List Int → List Int × List (Int × Bool) × Bool × List Int
  | [], holds, sh, out => (holds, [], sh, out)
  | x :: r, holds, sh, out => if holds.isEmpty || (sh && x.2) then goesH r (holds ++ [x.1]) x.2 (out ++ [x.1]) else (holds, x :: r, sh, out)
theorem goesH_hit {x : Int × Bool} {r : List (Int × Bool)} {holds out : List Int} {sh : Bool} (h : (holds.isEmpty || (sh && x.2)) = true) : goesH (x :: r) holds sh out = goesH r (holds ++ [x.1]) x.2 (out ++ [x.1]) := by rw [goesH, if_pos h]
theorem goesH_miss {x : Int × Bool} {r : List (Int × Bool)} {holds out : List Int} {sh : Bool} (h : (holds.isEmpty || (sh && x.2)) = false) : goesH (x :: r) holds sh out = (holds, x :: r, sh, out) := by rw [goesH, if_neg (by rw [h]; decide)]
def outs (t : Int) (l : List Int) : List Int := l.filter fun x => decide (x ≠ t)
theorem outs_take {l : List Int} {i : Nat} (t : Int) (h : i < l.length) : outs t (l.take (i + 1)) = outs t (l.take i) ++ if l.getD i 0 = t then [] else [l.getD i 0] := by
  unfold outs
  rw [List.take_add_one, List.getElem?_eq_getElem h, List.filter_append, List.getD_eq_getElem?_getD, List.getElem?_eq_getElem h]
  simp only [Option.toList_some, Option.getD_some, List.filter_cons, List.filter_nil]
  by_cases he : l[i] = t
  · rw [if_neg (by simpa using he), if_pos he]
  · rw [if_pos (by simpa using he), if_neg he]
theorem outs_len (t : Int) (l : List Int) : (outs t l).length ≤ l.length := List.length_filter_le _ _
theorem hold_form {l : List Int} {v : Value} {c : SH} (ho : Sx.Own 3 1 (ks .i64 l) v c) : ∃ A cap g, v = .slice A l.length cap ∧ l.length ≤ cap ∧ (0 < l.length → A = some ⟨g, 0, none⟩) := by
  obtain ⟨n, A, cap, rfl, hn⟩ := own_form ho (by decide)
  rw [ks_length, Nat.mul_one] at hn
  subst hn
  by_cases h0 : 0 < l.length
  · obtain ⟨g, rfl⟩ := own_addr ho (by rw [ks_length]; exact h0)
    exact ⟨_, cap, g, rfl, own_cap ho, fun _ => rfl⟩
  · exact ⟨A, cap, 0, rfl, own_cap ho, fun h => absurd h h0⟩
/-- (*pantry.pantryref12.Lock).gives -/
theorem rgives_con (B : Nat) (hB : B ≤ 1000000) (l : RL) (t : Int) (w : World) (hok : l.Ok B) : Con Try.prog 52 [ptrR l, .int .i64 t] w l.heap fun v S' => ∃ l' : RL, S' = [l'.heap] ∧ l'.Ok B ∧ l'.g = l.g ∧ l'.name = l.name ∧ l'.sh = l.sh ∧ l'.row = l.row ∧ l'.holds = outs t l.holds := by
  refine con_of_tree mix Try.func52 T52_ok (by kernel_rfl) ?_
  unfold T52
  obtain ⟨Ah, caph, gh, hhv, hcaph, hAh⟩ := hold_form hok.h
  have hbk := hok.b
  refine j_perm (S' := [[(l.g, l.obj)], l.hc, l.rc, []]) (by simp [RL.heap]) ?_
  unfold ptrR
  refine j_q (qs_ac) ?_
  refine j_q (qs_ac) ?_
  refine j_loop (fun m vs S' => ∃ (i : Nat) (nv : Value) (nc : SH), vs = [nv, .int .i64 (i : Int)] ∧ S' = [[(l.g, l.obj)], l.hc, l.rc, nc] ∧ Sx.Own 3 1 (ks .i64 (outs t (l.holds.take i))) nv nc ∧ i ≤ l.holds.length ∧ m = l.holds.length - i) ⟨_, 0, _, [], rfl, rfl, own_nil, Nat.zero_le _, rfl⟩ ?_
  rintro m vs S' hlen ⟨i, nv, nc, rfl, rfl, hn, hi, rfl⟩
  refine j_q (qs_nil rfl) ?_
  refine j_q (qs_field Try.underlying115 rfl sz36 (by decide) rfl) ?_
  refine j_q (qs_load (l := rlcells l) 0 Try.underlying36 rfl rfl rfl rfl) ?_
  refine j_q (qs_lenl (n := l.holds.length) (A := Ah) (c := caph) Try.underlying36 (Eq.trans rfl hhv)) ?_
  refine j_q (qs_lss rfl rfl) ?_
  refine j_cond rfl (fun hc0 => ?_) (fun hc0 => ?_)
  · skip
    have hi1 : i < l.holds.length := by
      simp only [Bool.and_eq_true, Bool.or_eq_true, Bool.and_eq_false_iff, Bool.or_eq_false_iff, Bool.not_eq_true', Bool.not_eq_false', decide_eq_true_eq, decide_eq_false_iff_not, beq_iff_eq, beq_eq_false_iff_ne, bne_iff_ne, bne_eq_false_iff_eq, ne_eq, Int.toNat_natCast] at *
      omega
    have hho : Sx.Own 3 1 (ks .i64 l.holds) (.slice (some ⟨gh, 0, none⟩) l.holds.length caph) l.hc := by
      have h1 := hok.h
      rw [hhv, hAh (by omega)] at h1
      exact h1
    have hot := outs_take t hi1
    have hol := outs_len t (l.holds.take i)
    rw [List.length_take, Nat.min_eq_left (by omega)] at hol
    refine j_q (qs_nil rfl) ?_
    refine j_q (qs_field Try.underlying115 rfl sz36 (by decide) rfl) ?_
    refine j_q (qs_load (l := rlcells l) 0 Try.underlying36 rfl rfl rfl rfl) ?_
    refine j_q (qs_ixn (g := gh) (off := 0) (n := l.holds.length) (c := caph) Try.underlying36 sz3 (Eq.trans rfl (hhv.trans (by rw [hAh (by omega)]))) rfl hi1) ?_
    refine j_q (qs_loadR (v := .int .i64 (l.holds.getD i 0)) (a := ⟨gh, 0, none⟩) (i := i) (own_rd hho 1 rfl) Try.underlying3 rfl (addz gh i) (ks_get hi1)) ?_
    refine j_q (qs_neq rfl rfl) ?_
    refine j_cond rfl (fun hc1 => ?_) (fun hc1 => ?_)
    · skip
      have hne : l.holds.getD i 0 ≠ t := by simpa using hc1
      rw [if_neg hne] at hot
      refine j_q (qs_nil rfl) ?_
      refine j_q (qs_field Try.underlying115 rfl sz36 (by decide) rfl) ?_
      refine j_q (qs_load (l := rlcells l) 0 Try.underlying36 rfl rfl rfl rfl) ?_
      refine j_q (qs_ixn (g := gh) (off := 0) (n := l.holds.length) (c := caph) Try.underlying36 sz3 (Eq.trans rfl (hhv.trans (by rw [hAh (by omega)]))) rfl hi1) ?_
      refine j_q (qs_loadR (v := .int .i64 (l.holds.getD i 0)) (a := ⟨gh, 0, none⟩) (i := i) (own_rd hho 1 rfl) Try.underlying3 rfl (addz gh i) (ks_get hi1)) ?_
      refine j_lit (vs := [.int .i64 _]) Try.underlying36 sz3 zero3 rfl (by simp [oneV]) ⟨rfl, by decide⟩ (fun g18 v18 c18 hv18 hc18 ho18 => ?_)
      subst hv18 hc18
      refine j_append 4 Try.underlying36 Try.underlying36 (.inr ⟨_, rfl⟩) sb3 zero3 rfl hn rfl (.inl ⟨_, _, rfl, own_rd ho18 0 rfl, rfl⟩) (by intro u hu; rw [List.mem_singleton] at hu; rw [hu]; rfl) ⟨(by simp only [ks_length, List.length_singleton]; omega), (by decide)⟩ (fun v19 c19 ho19 => ?_)
      have hn' : Sx.Own 3 1 (ks .i64 (outs t (l.holds.take (i + 1)))) v19 c19 := by
        have e : ks .i64 (outs t (l.holds.take (i + 1))) = ks .i64 (outs t (l.holds.take i)) ++ [Value.int .i64 (l.holds.getD i 0)] := by
          rw [hot]
          simp [ks]
        rw [e]
        exact ho19
      refine j_subl (S' := [[(l.g, l.obj)], l.hc, l.rc, c19]) (by repeat first | exact List.Sublist.refl _ | exact List.nil_sublist _ | apply List.Sublist.cons_cons | apply List.Sublist.cons) ?_
      refine j_q (qs_add64 rfl rfl (by first | omega | (simp only [Bool.and_eq_true, Bool.or_eq_true, Bool.and_eq_false_iff, Bool.or_eq_false_iff, Bool.not_eq_true', Bool.not_eq_false', decide_eq_true_eq, decide_eq_false_iff_not, beq_iff_eq, beq_eq_false_iff_ne, bne_iff_ne, bne_eq_false_iff_eq, ne_eq, Int.toNat_natCast] at *; omega))) ?_
      refine j_back rfl ?_
      exact ⟨l.holds.length - (i + 1), by omega, i + 1, _, c19, rfl, rfl, hn', by omega, rfl⟩
    · skip
      have hne : l.holds.getD i 0 = t := by simpa using hc1
      rw [if_pos hne, List.append_nil] at hot
      refine j_q (qs_add64 rfl rfl (by first | omega | (simp only [Bool.and_eq_true, Bool.or_eq_true, Bool.and_eq_false_iff, Bool.or_eq_false_iff, Bool.not_eq_true', Bool.not_eq_false', decide_eq_true_eq, decide_eq_false_iff_not, beq_iff_eq, beq_eq_false_iff_ne, bne_iff_ne, bne_eq_false_iff_eq, ne_eq, Int.toNat_natCast] at *; omega))) ?_
      refine j_back rfl ?_
      exact ⟨l.holds.length - (i + 1), by omega, i + 1, _, nc, rfl, rfl, by rw [hot]; exact hn, by omega, rfl⟩
  · skip
    obtain rfl : i = l.holds.length := by
      simp only [Bool.and_eq_true, Bool.or_eq_true, Bool.and_eq_false_iff, Bool.or_eq_false_iff, Bool.not_eq_true', Bool.not_eq_false', decide_eq_true_eq, decide_eq_false_iff_not, beq_iff_eq, beq_eq_false_iff_ne, bne_iff_ne, bne_eq_false_iff_eq, ne_eq, Int.toNat_natCast] at *
      omega
    rw [List.take_of_length_le (Nat.le_refl _)] at hn
    refine j_q (qs_nil rfl) ?_
    refine j_q (qs_field Try.underlying115 rfl sz36 (by decide) rfl) ?_
    refine j_store (l := rlcells l) 0 sz36 rfl rfl (by obtain ⟨n', A', cap', e', _⟩ := own_form hn (by decide); show oneV nv = true; rw [e']; rfl) rfl (by simp) (by simp) ?_
    refine j_subl (S' := [[(l.g, .cells [.string (bs l.name), .bool l.sh, nv, l.rv].toArray 115 (0, 0))], l.rc, nc]) (by repeat first | exact List.Sublist.refl _ | exact List.nil_sublist _ | apply List.Sublist.cons_cons | apply List.Sublist.cons) ?_
    refine j_perm (S' := [RL.heap { l with holds := outs t l.holds, hv := nv, hc := nc }]) (by
      classical
      refine List.perm_iff_count.2 fun a => ?_
      simp only [RL.heap, RL.obj, rlcells, List.flatten_cons, List.flatten_nil, List.append_nil, List.nil_append, List.cons_append, List.count_append, List.count_cons, List.count_nil] <;> omega) ?_
    refine j_ret_con (vs := []) (fun w' hw' => trivial) ?_
    exact ⟨_, rfl, ⟨hn, hok.r, hok.n, by have := outs_len t l.holds; show (outs t l.holds).length + l.row.length ≤ B; omega⟩, rfl, rfl, rfl, rfl, rfl⟩
/-- (*pantry.pantryref12.Lock).goes -/
theorem rgoes_con (B : Nat) (hB : B ≤ 1000000) (l : RL) (w : World) (hok : l.Ok B) : Con Try.prog 53 [ptrR l] w l.heap fun v S' => ∃ (l' : RL) (out : List Int) (oc : SH), S' = [l'.heap, oc] ∧ Sx.Own 3 1 (ks .i64 out) v oc ∧ l'.Ok B ∧ l'.g = l.g ∧ l'.name = l.name ∧ goesH l.row l.holds l.sh [] = (l'.holds, l'.row, l'.sh, out) ∧ out.length ≤ B := by
  refine con_of_tree mix Try.func53 T53_ok (by kernel_rfl) ?_
  unfold T53
  have hbk0 := hok.b
  refine j_perm (S' := [[(l.g, l.obj)], l.hc, l.rc, []]) (by simp [RL.heap]) ?_
  unfold ptrR
  refine j_q (qs_ac) ?_
  refine j_q (qs_ac) ?_
  refine j_loop (fun m vs S' => ∃ (cur : RL) (out : List Int) (ov : Value) (oc : SH), vs = [ov] ∧ S' = [[(cur.g, cur.obj)], cur.hc, cur.rc, oc] ∧ cur.g = l.g ∧ cur.name = l.name ∧ cur.Ok B ∧ Sx.Own 3 1 (ks .i64 out) ov oc ∧ goesH cur.row cur.holds cur.sh out = goesH l.row l.holds l.sh [] ∧ out.length + cur.row.length ≤ B ∧ m = cur.row.length) ⟨_, l, [], _, [], rfl, rfl, rfl, rfl, hok, own_nil, rfl, by simp; omega, rfl⟩ ?_
  rintro m vs S' hlen ⟨cur, out, ov, oc, rfl, rfl, hg, hnm, hcok, ho, hgoes, hol, hm0⟩
  obtain ⟨n1, A1, cap1, gr, ro, hrv, hn1, hcap1, hA⟩ := row_first hcok.r
  have hcb := hcok.b
  rw [← hg]
  refine j_q (qs_nil rfl) ?_
  refine j_q (qs_field Try.underlying115 rfl sz113 (by decide) rfl) ?_
  refine j_q (qs_load (l := rlcells cur) 0 Try.underlying113 rfl rfl rfl rfl) ?_
  refine j_q (qs_lenl Try.underlying113 hrv) ?_
  refine j_q (qs_gtr rfl rfl) ?_
  refine j_cond rfl (fun hc0 => ?_) (fun hc0 => ?_)
  · skip
    have hne : cur.row ≠ [] := by
      intro e
      rw [e] at hn1
      simp [hn1] at hc0
    obtain ⟨x, r, hxr⟩ := List.exists_cons_of_ne_nil hne
    have hrow : OwnO 117 2 (askers cur.row) (.slice (some ⟨gr, ro, none⟩) n1 cap1) cur.rc := by
      rw [← hA hne, ← hrv]
      exact hcok.r
    obtain ⟨Ah, caph, gh, hhv, hcaph, hAh⟩ := hold_form hcok.h
    have hrl : cur.row.length = r.length + 1 := by rw [hxr]; rfl
    refine j_q (qs_nil rfl) ?_
    refine j_q (qs_field Try.underlying115 rfl sz113 (by decide) rfl) ?_
    refine j_q (qs_load (l := rlcells cur) 0 Try.underlying113 rfl rfl rfl rfl) ?_
    refine j_q (qs_ixn (g := gr) (off := ro) (i := 0) (n := n1) (c := cap1) Try.underlying113 sz117 (hrv.trans (by rw [hA hne])) rfl (by have := List.length_pos_iff.2 hne; omega)) ?_
    rw [Nat.zero_mul, Nat.add_zero]
    refine j_q (qs_loadwR (vs := [.int .i64 x.1, .bool x.2]) (rd_pre (ys := askers r) (by have := ownO_rd (b := ⟨w, dom l.heap⟩) (S := [[(cur.g, cur.obj)], cur.hc, cur.rc, oc]) hrow 2 rfl; rw [hxr, askers_cons] at this; exact this)) Try.underlying117 rfl sz117 rfl rfl) ?_
    refine j_alloc zero117 (fun g12 hg12 hs12 => ?_)
    refine j_storew 0 sz117 rfl rfl rfl (by simp [oneV]) rfl rfl ?_
    refine j_q (qs_nil rfl) ?_
    refine j_q (qs_field Try.underlying115 rfl sz36 (by decide) rfl) ?_
    refine j_q (qs_load (l := rlcells cur) 1 Try.underlying36 rfl rfl rfl rfl) ?_
    refine j_q (qs_lenl (n := cur.holds.length) (A := Ah) (c := caph) Try.underlying36 hhv) ?_
    refine j_q (qs_gtr rfl rfl) ?_
    refine j_g rfl (fun hb => qs_mt rfl) ?_
    refine j_g rfl (fun hb => qs_nil (gd_eq hb)) ?_
    refine j_g rfl (fun hb => qs_field Try.underlying115 rfl sz4 (by decide) (gd_eq hb)) ?_
    refine j_g rfl (fun hb => qs_load (l := rlcells cur) 1 Try.underlying4 rfl (gd_eq hb) rfl rfl) ?_
    refine j_g rfl (fun hb => qs_move (gd_eq hb)) ?_
    refine j_gg rfl (fun hb hb1 => qs_field Try.underlying117 rfl sz4 (by decide) rfl) ?_
    refine j_gg rfl (fun hb hb1 => qs_load (l := [.int .i64 x.1, .bool x.2]) 0 Try.underlying4 rfl (gd_eq2 hb hb1) rfl rfl) ?_
    refine j_g rfl (fun hb => qs_and (gd_eq hb) (gd_eq hb)) ?_
    refine j_g rfl (fun hb => qs_not (gd_eq hb)) ?_
    refine j_q (qs_and rfl rfl) ?_
    refine j_cond rfl (fun hc1 => ?_) (fun hc1 => ?_)
    · skip
      have hgo : (cur.holds.isEmpty || (cur.sh && x.2)) = false := by
        cases hh : cur.holds <;> rw [hh] at hc1 <;> simp [gd] at hc1 ⊢
        cases h1 : cur.sh <;> cases h2 : x.2 <;> simp [h1, h2] at hc1 ⊢
      have hend : goesH cur.row cur.holds cur.sh out = (cur.holds, cur.row, cur.sh, out) := by rw [hxr]; exact goesH_miss hgo
      refine j_subl (S' := [[(cur.g, cur.obj)], cur.hc, cur.rc, oc]) (by repeat first | exact List.Sublist.refl _ | exact List.nil_sublist _ | apply List.Sublist.cons_cons | apply List.Sublist.cons) ?_
      refine j_perm (S' := [cur.heap, oc]) (by
        classical
        refine List.perm_iff_count.2 fun a => ?_
        simp only [RL.heap, List.flatten_cons, List.flatten_nil, List.append_nil, List.nil_append, List.cons_append, List.count_append, List.count_cons, List.count_nil] <;> omega) ?_
      refine j_ret_con (vs := [_]) (fun w' hw' => ⟨rfl, trivial⟩) ?_
      refine ⟨cur, out, oc, rfl, ho, hcok, rfl, hnm, ?_, by omega⟩
      rw [← hgoes, hend]
    · skip
      have hgo : (cur.holds.isEmpty || (cur.sh && x.2)) = true := by
        cases hh : cur.holds <;> rw [hh] at hc1 <;> simp [gd] at hc1 ⊢
        cases h1 : cur.sh <;> cases h2 : x.2 <;> simp [h1, h2] at hc1 ⊢
      refine j_q (qs_nil rfl) ?_
      refine j_q (qs_field Try.underlying115 rfl sz113 (by decide) rfl) ?_
      refine j_q (qs_load (l := rlcells cur) 1 Try.underlying113 rfl rfl rfl rfl) ?_
      refine j_q (qs_cutl (a := 1) (z := n1) Try.underlying113 sz117 hrv ⟨.i64, rfl⟩ rfl (by have := List.length_pos_iff.2 hne; omega) (by omega)) ?_
      refine j_q (qs_nil rfl) ?_
      refine j_q (qs_field Try.underlying115 rfl sz113 (by decide) rfl) ?_
      refine j_store (l := rlcells cur) 1 sz113 rfl rfl rfl rfl (by simp) (by simp) ?_
      refine j_perm (S' := [[(g12, .cells [Value.int .i64 x.1, .bool x.2].toArray 117 (0, 0))], [(cur.g, .cells [.string (bs cur.name), .bool cur.sh, cur.hv, .slice (if cap1 = 1 then A1 else A1.map (fun a : Addr => a.add (1 * 2))) (n1 - 1) (cap1 - 1)].toArray 115 (0, 0))], cur.hc, cur.rc, oc]) (List.Perm.of_eq rfl) ?_
      refine j_mix [[(g12, .cells [Value.int .i64 x.1, .bool x.2].toArray 117 (0, 0))], [(cur.g, .cells [.string (bs cur.name), .bool cur.sh, cur.hv, .slice (if cap1 = 1 then A1 else A1.map (fun a : Addr => a.add (1 * 2))) (n1 - 1) (cap1 - 1)].toArray 115 (0, 0))]] (Le.of_sub (by repeat first | exact List.Sublist.refl _ | exact List.nil_sublist _ | apply List.Sublist.cons_cons | apply List.Sublist.cons)) ?_
      refine j_mq (qs_nil rfl) ?_
      refine j_mq (qs_field Try.underlying115 rfl sz36 (by decide) rfl) ?_
      refine j_mq (qs_load (l := [.string (bs cur.name), .bool cur.sh, cur.hv, .slice (if cap1 = 1 then A1 else A1.map (fun a : Addr => a.add (1 * 2))) (n1 - 1) (cap1 - 1)]) 1 Try.underlying36 rfl rfl rfl rfl) ?_
      refine j_mq (qs_field Try.underlying117 rfl sz3 (by decide) rfl) ?_
      refine j_mq (qs_load (l := [.int .i64 x.1, .bool x.2]) 0 Try.underlying3 rfl rfl rfl rfl) ?_
      refine j_lit (vs := [.int .i64 _]) Try.underlying36 sz3 zero3 rfl (by simp [oneV]) ⟨rfl, by decide⟩ (fun g41 v41 c41 hv41 hc41 ho41 => ?_)
      subst hv41 hc41
      refine j_mD0 (Le.of_sub (by repeat first | exact List.Sublist.refl _ | exact List.nil_sublist _ | apply List.Sublist.cons_cons | apply List.Sublist.cons)) ?_
      refine j_append 3 Try.underlying36 Try.underlying36 (.inr ⟨_, rfl⟩) sb3 zero3 rfl hcok.h rfl (.inl ⟨_, _, rfl, own_rd ho41 0 rfl, rfl⟩) (by intro u hu; rw [List.mem_singleton] at hu; rw [hu]; rfl) ⟨(by simp only [ks_length, List.length_singleton]; omega), (by decide)⟩ (fun v42 c42 ho42 => ?_)
      refine j_mD0 (Le.of_sub (by repeat first | exact List.Sublist.refl _ | exact List.nil_sublist _ | apply List.Sublist.cons_cons | apply List.Sublist.cons)) ?_
      refine j_mq (qs_nil rfl) ?_
      refine j_mq (qs_field Try.underlying115 rfl sz36 (by decide) rfl) ?_
      refine j_store (l := [.string (bs cur.name), .bool cur.sh, cur.hv, .slice (if cap1 = 1 then A1 else A1.map (fun a : Addr => a.add (1 * 2))) (n1 - 1) (cap1 - 1)]) 2 sz36 rfl rfl (by obtain ⟨n', A', cap', e', _⟩ := own_form ho42 (by decide); show oneV v42 = true; rw [e']; rfl) rfl (by simp) (by simp) ?_
      refine j_mR _ (.refl _) ?_
      refine j_mend ?_
      refine j_q (qs_field Try.underlying117 rfl sz4 (by decide) rfl) ?_
      refine j_q (qs_load (l := [.int .i64 x.1, .bool x.2]) 1 Try.underlying4 rfl rfl rfl rfl) ?_
      refine j_q (qs_nil rfl) ?_
      refine j_q (qs_field Try.underlying115 rfl sz4 (by decide) rfl) ?_
      refine j_store (l := [.string (bs cur.name), .bool cur.sh, v42, .slice (if cap1 = 1 then A1 else A1.map (fun a : Addr => a.add (1 * 2))) (n1 - 1) (cap1 - 1)]) 2 sz4 rfl rfl rfl rfl (by simp) (by simp) ?_
      refine j_q (qs_field Try.underlying117 rfl sz3 (by decide) rfl) ?_
      refine j_q (qs_load (l := [.int .i64 x.1, .bool x.2]) 1 Try.underlying3 rfl rfl rfl rfl) ?_
      refine j_lit (vs := [.int .i64 _]) Try.underlying36 sz3 zero3 rfl (by simp [oneV]) ⟨rfl, by decide⟩ (fun g53 v53 c53 hv53 hc53 ho53 => ?_)
      subst hv53 hc53
      refine j_append 6 Try.underlying36 Try.underlying36 (.inr ⟨_, rfl⟩) sb3 zero3 rfl ho rfl (.inl ⟨_, _, rfl, own_rd ho53 0 rfl, rfl⟩) (by intro u hu; rw [List.mem_singleton] at hu; rw [hu]; rfl) ⟨(by simp only [ks_length, List.length_singleton]; omega), (by decide)⟩ (fun v54 c54 ho54 => ?_)
      have ho54' : Sx.Own 3 1 (ks .i64 (out ++ [x.1])) v54 c54 := by
        have e : ks .i64 (out ++ [x.1]) = ks .i64 out ++ [Value.int .i64 x.1] := by simp [ks]
        rw [e]
        exact ho54
      have ho42' : Sx.Own 3 1 (ks .i64 (cur.holds ++ [x.1])) v42 c42 := by
        have e : ks .i64 (cur.holds ++ [x.1]) = ks .i64 cur.holds ++ [Value.int .i64 x.1] := by simp [ks]
        rw [e]
        exact ho42
      refine j_subl (S' := [[(cur.g, RL.obj ({ cur with sh := x.2, holds := cur.holds ++ [x.1], hv := v42, hc := c42, row := r, rv := .slice (if cap1 = 1 then A1 else A1.map (fun a : Addr => a.add (1 * 2))) (n1 - 1) (cap1 - 1) } : RL))], c42, cur.rc, c54]) (by repeat first | exact List.Sublist.refl _ | exact List.nil_sublist _ | apply List.Sublist.cons_cons | apply List.Sublist.cons) ?_
      refine j_back rfl ?_
      exact ⟨r.length, by omega, ({ cur with sh := x.2, holds := cur.holds ++ [x.1], hv := v42, hc := c42, row := r, rv := .slice (if cap1 = 1 then A1 else A1.map (fun a : Addr => a.add (1 * 2))) (n1 - 1) (cap1 - 1) } : RL), out ++ [x.1], _, c54, rfl, rfl, rfl, hnm, ⟨ho42', by
        have h := hcok.r
        rw [hrv, hxr, askers_cons] at h
        exact ownO_tail h rfl (by decide), hcok.n, by show (cur.holds ++ [x.1]).length + r.length ≤ B; rw [List.length_append, List.length_singleton]; omega⟩, ho54', by show goesH r (cur.holds ++ [x.1]) x.2 (out ++ [x.1]) = _; rw [← hgoes, hxr, goesH_hit hgo], by show (out ++ [x.1]).length + r.length ≤ B; rw [List.length_append, List.length_singleton]; omega, rfl⟩
  · skip
    have hne : cur.row = [] := by
      refine List.eq_nil_of_length_eq_zero ?_
      have h1 : ¬ ((n1 : Int) > 0) := by simpa using hc0
      omega
    have hend : goesH cur.row cur.holds cur.sh out = (cur.holds, cur.row, cur.sh, out) := by rw [hne]; rfl
    refine j_perm (S' := [cur.heap, oc]) (by
      classical
      refine List.perm_iff_count.2 fun a => ?_
      simp only [RL.heap, List.flatten_cons, List.flatten_nil, List.append_nil, List.nil_append, List.cons_append, List.count_append, List.count_cons, List.count_nil] <;> omega) ?_
    refine j_ret_con (vs := [_]) (fun w' hw' => ⟨rfl, trivial⟩) ?_
    refine ⟨cur, out, oc, rfl, ho, hcok, rfl, hnm, ?_, by omega⟩
    rw [← hgoes, hend]
end Go.Proofs.Ytlgfpoelhjlifaa
