/- One path's digits in the place of another one's: what the program's and the document's functions answer; the law ScanRewrites. -/
import Derived.Test.YtkafaodhppikfaaDoorTa
import Derived.Test.YtkafaodhppikfaaDoorScan5
namespace Go.Proofs.YtkafaodhppikfaaDoor
open Go Go.Sx
set_option maxRecDepth 100000
set_option maxHeartbeats 4000000
set_option linter.unusedVariables false
set_option linter.unusedSimpArgs false
attribute [local irreducible] J JQ QS Con W opW
theorem ent13 : Sx.Enters Tryd.prog 13 := ⟨_, Tryd.func13, by kernel_rfl, by kernel_rfl⟩
theorem ent18 : Sx.Enters Tryd.prog 18 := ⟨_, Tryd.func18, by kernel_rfl, by kernel_rfl⟩
theorem sb3 : (Tryd.prog.info? 3).map (fun i => (i.size, i.bytes)) = some (1, 8) := by kernel_rfl
theorem sz3 : (Tryd.prog.info? 3).map (·.size) = some 1 := by kernel_rfl
theorem zero3 : zeroL Tryd.prog 3 = some ([.int .i64 0]) := by kernel_rfl

/-- where digits stand, from behind one on to the next -/
def plc (l d : List UInt8) (i : Nat) : List Nat :=
  if i + 32 ≤ l.length then if (l.drop i).take 32 = d then i :: plc l d (i + 32) else plc l d (i + 1) else []
termination_by l.length - i
theorem plc_end {l d : List UInt8} {i : Nat} (h : l.length < i + 32) : plc l d i = [] := by
  rw [plc, if_neg (by omega)]
theorem plc_hit {l d : List UInt8} {i : Nat} (h : i + 32 ≤ l.length) (hd : (l.drop i).take 32 = d) : plc l d i = i :: plc l d (i + 32) := by
  rw [plc, if_pos h, if_pos hd]
theorem plc_miss {l d : List UInt8} {i : Nat} (h : i + 32 ≤ l.length) (hd : (l.drop i).take 32 ≠ d) : plc l d i = plc l d (i + 1) := by
  rw [plc, if_pos h, if_neg hd]
theorem plc_le {l d : List UInt8} : ∀ (n i : Nat), l.length - i ≤ n → (∀ j ∈ plc l d i, j + 32 ≤ l.length) ∧ (plc l d i).length ≤ l.length - i
  | 0, i, h => by rw [plc_end (by omega)]; simp
  | n + 1, i, h => by
    by_cases h1 : i + 32 ≤ l.length
    · by_cases hd : (l.drop i).take 32 = d
      · rw [plc_hit h1 hd]
        obtain ⟨a, b⟩ := plc_le (l := l) (d := d) n (i + 32) (by omega)
        refine ⟨fun j hj => ?_, by simp only [List.length_cons]; omega⟩
        rcases List.mem_cons.1 hj with rfl | hj
        · exact h1
        · exact a j hj
      · rw [plc_miss h1 hd]
        obtain ⟨a, b⟩ := plc_le (l := l) (d := d) n (i + 1) (by omega)
        exact ⟨a, by omega⟩
    · rw [plc_end (by omega)]; simp
/-- numbers as cells -/
def nats (l : List Nat) : List Value := ks .i64 (l.map fun n : Nat => (n : Int))
theorem nats_length (l : List Nat) : (nats l).length = l.length := by simp [nats, ks_length]
theorem nats_append (l m : List Nat) : nats (l ++ m) = nats l ++ nats m := by simp [nats, ks]
theorem nats_one {l : List Nat} : ∀ u ∈ nats l, oneV u = true := ks_one
theorem nats_get {l : List Nat} {i : Nat} (h : i < l.length) : (nats l)[i]? = some (.int .i64 ((l.getD i 0 : Nat) : Int)) := by
  simp [nats, ks, List.getElem?_eq_getElem h, List.getD_eq_getElem?_getD]
/-- bytes laid over others -/
def over (o : List UInt8) (i : Nat) (t : List UInt8) : List UInt8 := o.take i ++ t ++ o.drop (i + t.length)
theorem over_len {o t : List UInt8} {i : Nat} (h : i + t.length ≤ o.length) : (over o i t).length = o.length := by
  unfold over
  simp only [List.length_append, List.length_take, List.length_drop]
  omega
def rew (l f t : List UInt8) : List UInt8 := (plc l f 0).foldl (fun o i => over o i t) l
theorem over_row {o t : List UInt8} {rest : List Value} {i : Nat} (h : i + t.length ≤ o.length) : (ints o ++ rest).take i ++ ints t ++ (ints o ++ rest).drop (i + t.length) = ints (over o i t) ++ rest := by
  unfold over
  rw [List.take_append_of_le_length (by rw [ints_length]; omega), List.drop_append_of_le_length (by rw [ints_length]; omega), ints_take, ints_drop, ints_append, ints_append]
  simp only [List.append_assoc]
theorem own_over {e : TypeId} {o t : List UInt8} {g n cap i : Nat} {rest : List Value} {fz : Nat × Nat} (h : i + t.length ≤ o.length) (h1 : (ints o).length = n * 1) (h2 : (ints o ++ rest).length = cap * 1) (h3 : n ≤ cap) (h4 : ∀ j, j < (ints o ++ rest).length → ¬ (fz.1 ≤ j ∧ j < fz.2)) :
    Sx.Own e 1 (ints (over o i t)) (.slice (some ⟨g, 0, none⟩) n cap) [(g, .cells (ints (over o i t) ++ rest).toArray e fz)] := by
  rw [ints_length] at h1
  rw [List.length_append, ints_length] at h2 h4
  refine .inr ⟨g, n, cap, rest, fz, rfl, rfl, by rw [ints_length, over_len h]; exact h1, by rw [List.length_append, ints_length, over_len h]; exact h2, h3, fun j hj => h4 j (by rw [List.length_append, ints_length, over_len h] at hj; exact hj)⟩
def rwOk (f t : List UInt8) : Bool := isPath f && isPath t
def rwB (l f t : List UInt8) : List UInt8 := if rwOk f t then rew l (f.take 32) (t.take 32) else []
def rwN (l f t : List UInt8) : Nat := if rwOk f t then (plc l (f.take 32) 0).length else 0
def rwE (f t : List UInt8) : Int := if rwOk f t then 0 else 3
theorem rw_no {l f t : List UInt8} (h : rwOk f t = false) : rwB l f t = [] ∧ rwN l f t = 0 ∧ rwE f t = 3 := by
  unfold rwB rwN rwE; rw [h]; exact ⟨rfl, rfl, rfl⟩
theorem rw_yes {l f t : List UInt8} (h : rwOk f t = true) : rwB l f t = rew l (f.take 32) (t.take 32) ∧ rwN l f t = (plc l (f.take 32) 0).length ∧ rwE f t = 0 := by
  unfold rwB rwN rwE; rw [h]; exact ⟨rfl, rfl, rfl⟩
theorem rew_len (l f t : List UInt8) (ht : t.length = 32) : (rew l f t).length = l.length := by
  have key : ∀ (ps : List Nat) (o : List UInt8), (∀ j ∈ ps, j + 32 ≤ o.length) → (ps.foldl (fun o i => over o i t) o).length = o.length := by
    intro ps
    induction ps with
    | nil => intro o _; rfl
    | cons p ps ih =>
      intro o h
      have hp := over_len (o := o) (t := t) (i := p) (by rw [ht]; exact h p (by simp))
      rw [List.foldl_cons, ih _ (fun j hj => by rw [hp]; exact h j (by simp [hj])), hp]
  exact key _ _ (plc_le l.length 0 (by omega)).1
theorem rwB_len (l f t : List UInt8) : (rwB l f t).length ≤ l.length := by
  cases h : rwOk f t
  · rw [(rw_no h).1]; simp
  · have ht : isPath t = true := by unfold rwOk at h; simp only [Bool.and_eq_true] at h; exact h.2
    rw [(rw_yes h).1, rew_len _ _ _ (path_take_len ht)]
    exact Nat.le_refl _
theorem fold_snoc {l f t : List UInt8} {i : Nat} (h : i < (plc l f 0).length) : ((plc l f 0).take (i + 1)).foldl (fun o i => over o i t) l = over (((plc l f 0).take i).foldl (fun o i => over o i t) l) ((plc l f 0).getD i 0) t := by
  rw [List.take_add_one, List.getElem?_eq_getElem h, List.foldl_append, List.getD_eq_getElem?_getD, List.getElem?_eq_getElem h]
  rfl
theorem byte_beq (a c : UInt8) : ((a.toNat : Int) == (c.toNat : Int)) = (a == c) := by
  rw [Bool.eq_iff_iff, beq_iff_eq, beq_iff_eq]
  exact ⟨fun h => UInt8.toNat_inj.1 (by omega), fun h => by rw [h]⟩
attribute [local irreducible] isName isPath spA spB spE cp sortS rise dg PT ofDig Fnd RunOk Win isDig standsB rew over rwB rwN rwE rwOk
/-- pantry.scan.places -/
theorem places_con (l d : List UInt8) (v : Value) (w : World) (hv : RSl w v (ints l)) (hd : d.length = 32) (hl : l.length ≤ 100000) : Con Tryd.prog 13 [v, .agg (ints d).toArray] w [] fun u S' => ∃ c, S' = [c] ∧ Sx.Own 3 1 (nats (plc l d 0)) u c := by
  refine con_of_tree mix Tryd.func13 T13_ok (by kernel_rfl) ?_
  unfold T13
  obtain ⟨A, cap, rfl, hcap⟩ := rsl_form hv
  rw [ints_length] at hv hcap ⊢
  refine j_box rfl (fun g0 hg0 hs0 => ?_)
  refine j_q (qs_ac) ?_
  refine j_q (qs_ac) ?_
  refine j_q qs_ac ?_
  refine j_perm (S' := [[], [(g0, .cells (ints d).toArray 40 (0, 0))]]) (by simp) ?_
  refine j_loop (fun m vs S' => ∃ (i : Nat) (acc : List Nat) (ov : Value) (c : SH), vs = [ov, .int .i64 (i : Int)] ∧ S' = [c, [(g0, .cells (ints d).toArray 40 (0, 0))]] ∧ Sx.Own 3 1 (nats acc) ov c ∧ acc ++ plc l d i = plc l d 0 ∧ acc.length ≤ i ∧ i ≤ l.length ∧ m = l.length - i) ⟨_, 0, [], _, [], rfl, rfl, own_nil, rfl, Nat.zero_le _, Nat.zero_le _, rfl⟩ ?_
  rintro m vs S' hlen ⟨i, acc, ov, c, rfl, rfl, ho, hacc, hal, hin, rfl⟩
  refine j_q (qs_add64 rfl rfl (by first | omega | (simp only [Bool.and_eq_true, Bool.or_eq_true, Bool.and_eq_false_iff, Bool.or_eq_false_iff, Bool.not_eq_true', Bool.not_eq_false', decide_eq_true_eq, decide_eq_false_iff_not, beq_iff_eq, beq_eq_false_iff_ne, bne_iff_ne, bne_eq_false_iff_eq, ne_eq, Int.toNat_natCast] at *; omega))) ?_
  refine j_q (qs_lenl Tryd.underlying22 rfl) ?_
  refine j_q (qs_leq rfl rfl) ?_
  refine j_cond rfl (fun hc0 => ?_) (fun hc0 => ?_)
  · skip
    have hi : i + 32 ≤ l.length := by
      simp only [Bool.and_eq_true, Bool.or_eq_true, Bool.and_eq_false_iff, Bool.or_eq_false_iff, Bool.not_eq_true', Bool.not_eq_false', decide_eq_true_eq, decide_eq_false_iff_not, beq_iff_eq, beq_eq_false_iff_ne, bne_iff_ne, bne_eq_false_iff_eq, ne_eq, Int.toNat_natCast] at *
      omega
    obtain ⟨ga, off, rfl, hga, hcells⟩ := rsl_addr hv (by rw [ints_length]; omega)
    refine j_mix [[(g0, .cells (ints d).toArray 40 (0, 0))]] (Le.of_sub (by repeat first | exact List.Sublist.refl _ | exact List.nil_sublist _ | apply List.Sublist.cons_cons | apply List.Sublist.cons)) ?_
    refine j_mq (qs_ixl0 Tryd.underlying22 sz5 rfl rfl ⟨(by first | omega | (simp only [Bool.and_eq_true, Bool.or_eq_true, Bool.and_eq_false_iff, Bool.or_eq_false_iff, Bool.not_eq_true', Bool.not_eq_false', decide_eq_true_eq, decide_eq_false_iff_not, beq_iff_eq, beq_eq_false_iff_ne, bne_iff_ne, bne_eq_false_iff_eq, ne_eq, Int.toNat_natCast] at *; omega)), (by first | omega | (simp only [Bool.and_eq_true, Bool.or_eq_true, Bool.and_eq_false_iff, Bool.or_eq_false_iff, Bool.not_eq_true', Bool.not_eq_false', decide_eq_true_eq, decide_eq_false_iff_not, beq_iff_eq, beq_eq_false_iff_ne, bne_iff_ne, bne_eq_false_iff_eq, ne_eq, Int.toNat_natCast] at *; omega))⟩) ?_
    refine j_mq (qs_loadr8 (rd_cells hcells (by simp)) Tryd.underlying5 rfl (by simp only [Int.toNat_natCast]; omega)) ?_
    simp only [Int.toNat_natCast]
    refine j_mq (qs_ix0 Tryd.underlying40 sz5 rfl rfl ⟨(by first | omega | (simp only [Bool.and_eq_true, Bool.or_eq_true, Bool.and_eq_false_iff, Bool.or_eq_false_iff, Bool.not_eq_true', Bool.not_eq_false', decide_eq_true_eq, decide_eq_false_iff_not, beq_iff_eq, beq_eq_false_iff_ne, bne_iff_ne, bne_eq_false_iff_eq, ne_eq, Int.toNat_natCast] at *; omega)), (by first | omega | (simp only [Bool.and_eq_true, Bool.or_eq_true, Bool.and_eq_false_iff, Bool.or_eq_false_iff, Bool.not_eq_true', Bool.not_eq_false', decide_eq_true_eq, decide_eq_false_iff_not, beq_iff_eq, beq_eq_false_iff_ne, bne_iff_ne, bne_eq_false_iff_eq, ne_eq, Int.toNat_natCast] at *; omega))⟩) ?_
    refine j_mq (qs_loadi 0 Tryd.underlying5 rfl rfl (by rw [hd]; decide)) ?_
    rw [show (0 : Int).toNat = 0 from rfl]
    refine j_mq (qs_eql rfl rfl) ?_
    rw [byte_beq]
    refine j_mg rfl (fun hb => qs_mt rfl) ?_
    refine j_mg rfl (fun hb => qs_mt rfl) ?_
    refine j_mg rfl (fun hb => qs_mt rfl) ?_
    refine j_mg rfl (fun hb => qs_add64 (gd_eq hb) rfl (by first | omega | (simp only [Bool.and_eq_true, Bool.or_eq_true, Bool.and_eq_false_iff, Bool.or_eq_false_iff, Bool.not_eq_true', Bool.not_eq_false', decide_eq_true_eq, decide_eq_false_iff_not, beq_iff_eq, beq_eq_false_iff_ne, bne_iff_ne, bne_eq_false_iff_eq, ne_eq, Int.toNat_natCast] at *; omega))) ?_
    refine j_mg rfl (fun hb => qs_cutl (a := i) (z := i + 32) Tryd.underlying22 sz5 (gd_eq hb) ⟨_, gd_eq hb⟩ ⟨.i64, gd_eq hb⟩ (by omega) (by omega)) ?_
    rw [if_neg (show ¬ cap = i by omega), show i + 32 - i = ((l.drop i).take 32).length by rw [List.length_take, List.length_drop]; omega]
    simp only [Option.map_some, add_off, Nat.mul_one]
    first
      | refine j_mg rfl (fun hb => qs_loadw 0 Tryd.underlying40 rfl sz40 rfl rfl (by first | (rw [ints_length]; exact hd) | rfl)) ?_
      | refine j_mg rfl (fun hb => qs_loadw 1 Tryd.underlying40 rfl sz40 rfl rfl (by first | (rw [ints_length]; exact hd) | rfl)) ?_
      | refine j_mg rfl (fun hb => qs_loadw 2 Tryd.underlying40 rfl sz40 rfl rfl (by first | (rw [ints_length]; exact hd) | rfl)) ?_
    refine j_g rfl (fun hb => qs_arrp Tryd.underlying40 (gd_eq hb) (by rw [List.length_take, List.length_drop]; omega)) ?_
    refine j_mD0 (Le.of_sub (by repeat first | exact List.Sublist.refl _ | exact List.nil_sublist _ | apply List.Sublist.cons_cons | apply List.Sublist.cons)) ?_
    refine j_mg rfl (fun hb => qs_loadwR (vs := ints ((l.drop i).take 32)) (rd_cells (win_cells hcells (by omega)) (by simp)) Tryd.underlying40 rfl sz40 (gd_eq hb) (by rw [ints_length, List.length_take, List.length_drop]; omega)) ?_
    refine j_mg rfl (fun hb => qs_aeq (e := 5) Tryd.underlying40 Tryd.underlying5 (by kernel_rfl) (by kernel_rfl) (by kernel_rfl) (gd_eq hb) (gd_eq hb) (by rw [List.length_take, List.length_drop]; omega) hd) ?_
    refine j_mq (qs_and rfl rfl) ?_
    refine j_mend ?_
    refine j_cond rfl (fun hc1 => ?_) (fun hc1 => ?_)
    · skip
      have hwin : ((l.drop i).take 32) = d := by
        simp only [Bool.and_eq_true, beq_iff_eq] at hc1
        exact hc1.2
      refine j_lit (vs := [.int .i64 _]) Tryd.underlying43 sz3 zero3 rfl (by simp [oneV]) ⟨rfl, by decide⟩ (fun g22 v22 c22 hv22 hc22 ho22 => ?_)
      subst hv22 hc22
      refine j_append 1 Tryd.underlying43 Tryd.underlying43 (.inr ⟨_, rfl⟩) sb3 zero3 rfl ho rfl (.inl ⟨_, _, rfl, own_rd ho22 0 rfl, rfl⟩) (by intro u hu; rw [List.mem_singleton] at hu; rw [hu]; rfl) ⟨(by simp only [nats_length, List.length_singleton]; omega), (by decide)⟩ (fun v23 c23 ho23 => ?_)
      rw [show [Value.int .i64 (i : Int)] = nats [i] from rfl, ← nats_append] at ho23
      refine j_subl (S' := [c23, [(g0, .cells (ints d).toArray 40 (0, 0))]]) (by repeat first | exact List.Sublist.refl _ | exact List.nil_sublist _ | apply List.Sublist.cons_cons | apply List.Sublist.cons) ?_
      refine j_q (qs_add64 rfl rfl (by first | omega | (simp only [Bool.and_eq_true, Bool.or_eq_true, Bool.and_eq_false_iff, Bool.or_eq_false_iff, Bool.not_eq_true', Bool.not_eq_false', decide_eq_true_eq, decide_eq_false_iff_not, beq_iff_eq, beq_eq_false_iff_ne, bne_iff_ne, bne_eq_false_iff_eq, ne_eq, Int.toNat_natCast] at *; omega))) ?_
      refine j_back rfl ?_
      exact ⟨l.length - (i + 32), by omega, i + 32, acc ++ [i], _, _, rfl, rfl, ho23, by rw [List.append_assoc, List.singleton_append, ← plc_hit hi hwin]; exact hacc, by rw [List.length_append, List.length_singleton]; omega, by omega, rfl⟩
    · skip
      have hwin : ((l.drop i).take 32) ≠ d := fun h => by
        have h0 : l.getD i 0 = d.getD 0 0 := by
          rw [← h, win_get (by omega)]
          rfl
        rw [h, h0] at hc1
        simp at hc1
      refine j_q (qs_add64 rfl rfl (by first | omega | (simp only [Bool.and_eq_true, Bool.or_eq_true, Bool.and_eq_false_iff, Bool.or_eq_false_iff, Bool.not_eq_true', Bool.not_eq_false', decide_eq_true_eq, decide_eq_false_iff_not, beq_iff_eq, beq_eq_false_iff_ne, bne_iff_ne, bne_eq_false_iff_eq, ne_eq, Int.toNat_natCast] at *; omega))) ?_
      refine j_back rfl ?_
      exact ⟨l.length - (i + 1), by omega, i + 1, acc, ov, c, rfl, rfl, ho, by rw [← plc_miss hi hwin]; exact hacc, by omega, by omega, rfl⟩
  · skip
    have hi : l.length < i + 32 := by
      simp only [Bool.and_eq_true, Bool.or_eq_true, Bool.and_eq_false_iff, Bool.or_eq_false_iff, Bool.not_eq_true', Bool.not_eq_false', decide_eq_true_eq, decide_eq_false_iff_not, beq_iff_eq, beq_eq_false_iff_ne, bne_iff_ne, bne_eq_false_iff_eq, ne_eq, Int.toNat_natCast] at *
      omega
    refine j_subl (S' := [c]) (by repeat first | exact List.Sublist.refl _ | exact List.nil_sublist _ | apply List.Sublist.cons_cons | apply List.Sublist.cons) ?_
    refine j_ret_con (vs := [_]) (fun w' hw' => ⟨rfl, trivial⟩) ?_
    rw [plc_end (by omega), List.append_nil] at hacc
    exact ⟨c, rfl, by rw [← hacc]; exact ho⟩
/-- pantry.pantryref6.places -/
theorem rplaces_con (l d : List UInt8) (v : Value) (w : World) (hv : RSl w v (ints l)) (hd : d.length = 32) (hl : l.length ≤ 100000) : Con Tryd.prog 18 [v, .string (bs d)] w [] fun u S' => ∃ c, S' = [c] ∧ Sx.Own 3 1 (nats (plc l d 0)) u c := by
  refine con_of_tree mix Tryd.func18 T18_ok (by kernel_rfl) ?_
  unfold T18
  obtain ⟨A, cap, rfl, hcap⟩ := rsl_form hv
  rw [ints_length] at hv hcap ⊢
  refine j_q (qs_ac) ?_
  refine j_q (qs_ac) ?_
  refine j_q (qs_ac) ?_
  refine j_loop (fun m vs S' => ∃ (i : Nat) (acc : List Nat) (ov : Value) (c : SH), vs = [ov, .int .i64 (i : Int)] ∧ S' = [c] ∧ Sx.Own 3 1 (nats acc) ov c ∧ acc ++ plc l d i = plc l d 0 ∧ acc.length ≤ i ∧ i ≤ l.length ∧ m = l.length - i) ⟨_, 0, [], _, [], rfl, rfl, own_nil, rfl, Nat.zero_le _, Nat.zero_le _, rfl⟩ ?_
  rintro m vs S' hlen ⟨i, acc, ov, c, rfl, rfl, ho, hacc, hal, hin, rfl⟩
  refine j_q (qs_lens Tryd.underlying9 rfl) ?_
  refine j_q (qs_add64 rfl rfl (by first | omega | (simp only [Bool.and_eq_true, Bool.or_eq_true, Bool.and_eq_false_iff, Bool.or_eq_false_iff, Bool.not_eq_true', Bool.not_eq_false', decide_eq_true_eq, decide_eq_false_iff_not, beq_iff_eq, beq_eq_false_iff_ne, bne_iff_ne, bne_eq_false_iff_eq, ne_eq, Int.toNat_natCast] at *; omega))) ?_
  refine j_q (qs_lenl Tryd.underlying22 rfl) ?_
  refine j_q (qs_leq rfl rfl) ?_
  refine j_cond rfl (fun hc0 => ?_) (fun hc0 => ?_)
  · skip
    have hi : i + 32 ≤ l.length := by
      simp only [Bool.and_eq_true, Bool.or_eq_true, Bool.and_eq_false_iff, Bool.or_eq_false_iff, Bool.not_eq_true', Bool.not_eq_false', decide_eq_true_eq, decide_eq_false_iff_not, beq_iff_eq, beq_eq_false_iff_ne, bne_iff_ne, bne_eq_false_iff_eq, ne_eq, Int.toNat_natCast] at *
      omega
    obtain ⟨ga, off, rfl, hga, hcells⟩ := rsl_addr hv (by rw [ints_length]; omega)
    refine j_q (qs_lens Tryd.underlying9 rfl) ?_
    refine j_q (qs_add64 rfl rfl (by first | omega | (simp only [Bool.and_eq_true, Bool.or_eq_true, Bool.and_eq_false_iff, Bool.or_eq_false_iff, Bool.not_eq_true', Bool.not_eq_false', decide_eq_true_eq, decide_eq_false_iff_not, beq_iff_eq, beq_eq_false_iff_ne, bne_iff_ne, bne_eq_false_iff_eq, ne_eq, Int.toNat_natCast] at *; omega))) ?_
    refine j_q (qs_cutl (a := i) (z := i + 32) Tryd.underlying22 sz5 rfl ⟨.i64, rfl⟩ ⟨.i64, by show Value.int .i64 ((i : Int) + (d.length : Int)) = _; rw [hd]; rfl⟩ (by omega) (by omega)) ?_
    rw [if_neg (show ¬ cap = i by omega), show i + 32 - i = ((l.drop i).take 32).length by rw [List.length_take, List.length_drop]; omega]
    simp only [Option.map_some, add_off, Nat.mul_one]
    refine j_q (qs_str Tryd.underlying22 Tryd.underlying5 Tryd.underlying9 rfl (rd_cells (win_cells hcells (by omega)) (by simp))) ?_
    refine j_q (qs_seql rfl rfl) ?_
    refine j_cond rfl (fun hc1 => ?_) (fun hc1 => ?_)
    · skip
      have hwin : ((l.drop i).take 32) = d := by simpa using hc1
      refine j_lit (vs := [.int .i64 _]) Tryd.underlying43 sz3 zero3 rfl (by simp [oneV]) ⟨rfl, by decide⟩ (fun g12 v12 c12 hv12 hc12 ho12 => ?_)
      subst hv12 hc12
      refine j_append 1 Tryd.underlying43 Tryd.underlying43 (.inr ⟨_, rfl⟩) sb3 zero3 rfl ho rfl (.inl ⟨_, _, rfl, own_rd ho12 0 rfl, rfl⟩) (by intro u hu; rw [List.mem_singleton] at hu; rw [hu]; rfl) ⟨(by simp only [nats_length, List.length_singleton]; omega), (by decide)⟩ (fun v13 c13 ho13 => ?_)
      rw [show [Value.int .i64 (i : Int)] = nats [i] from rfl, ← nats_append] at ho13
      refine j_q (qs_lens Tryd.underlying9 rfl) ?_
      refine j_q (qs_add64 rfl rfl (by first | omega | (simp only [Bool.and_eq_true, Bool.or_eq_true, Bool.and_eq_false_iff, Bool.or_eq_false_iff, Bool.not_eq_true', Bool.not_eq_false', decide_eq_true_eq, decide_eq_false_iff_not, beq_iff_eq, beq_eq_false_iff_ne, bne_iff_ne, bne_eq_false_iff_eq, ne_eq, Int.toNat_natCast] at *; omega))) ?_
      rw [hd]
      refine j_subl (S' := [c13]) (by repeat first | exact List.Sublist.refl _ | exact List.nil_sublist _ | apply List.Sublist.cons_cons | apply List.Sublist.cons) ?_
      refine j_back rfl ?_
      exact ⟨l.length - (i + 32), by omega, i + 32, acc ++ [i], _, _, rfl, rfl, ho13, by rw [List.append_assoc, List.singleton_append, ← plc_hit hi hwin]; exact hacc, by rw [List.length_append, List.length_singleton]; omega, by omega, rfl⟩
    · skip
      have hwin : ((l.drop i).take 32) ≠ d := by simpa using hc1
      refine j_q (qs_add64 rfl rfl (by first | omega | (simp only [Bool.and_eq_true, Bool.or_eq_true, Bool.and_eq_false_iff, Bool.or_eq_false_iff, Bool.not_eq_true', Bool.not_eq_false', decide_eq_true_eq, decide_eq_false_iff_not, beq_iff_eq, beq_eq_false_iff_ne, bne_iff_ne, bne_eq_false_iff_eq, ne_eq, Int.toNat_natCast] at *; omega))) ?_
      refine j_back rfl ?_
      exact ⟨l.length - (i + 1), by omega, i + 1, acc, ov, c, rfl, rfl, ho, by rw [← plc_miss hi hwin]; exact hacc, by omega, by omega, rfl⟩
  · skip
    have hi : l.length < i + 32 := by
      simp only [Bool.and_eq_true, Bool.or_eq_true, Bool.and_eq_false_iff, Bool.or_eq_false_iff, Bool.not_eq_true', Bool.not_eq_false', decide_eq_true_eq, decide_eq_false_iff_not, beq_iff_eq, beq_eq_false_iff_ne, bne_iff_ne, bne_eq_false_iff_eq, ne_eq, Int.toNat_natCast] at *
      omega
    refine j_ret_con (vs := [_]) (fun w' hw' => ⟨rfl, trivial⟩) ?_
    rw [plc_end (by omega), List.append_nil] at hacc
    exact ⟨c, rfl, by rw [← hacc]; exact ho⟩
/-- pantry.scan.rewrite -/
theorem rewrite_con (l f t : List UInt8) (v : Value) (w : World) (hv : RSl w v (ints l)) (hf : f.length = 32) (ht : t.length = 32) (hl : l.length ≤ 100000) : Con Tryd.prog 14 [v, .agg (ints f).toArray, .agg (ints t).toArray] w [] fun u S' => ∃ ov c, u = .tuple #[ov, .int .i64 ((plc l f 0).length : Int)] ∧ S' = [c] ∧ Sx.Own 5 1 (ints (rew l f t)) ov c := by
  refine con_of_tree mix Tryd.func14 T14_ok (by kernel_rfl) ?_
  unfold T14
  obtain ⟨A, cap, rfl, hcap⟩ := rsl_form hv
  rw [ints_length] at hv hcap ⊢
  refine j_box rfl (fun g0 hg0 hs0 => ?_)
  refine j_box rfl (fun g1 hg1 hs1 => ?_)
  refine j_q (qs_ac) ?_
  refine j_q (qs_ac) ?_
  refine j_append 2 Tryd.underlying22 Tryd.underlying22 (.inr ⟨_, rfl⟩) sb5 zero5 rfl own_nil rfl (src_rsl hv (fun _ _ => by simp)) ints_one ⟨(by simp [ints_length]; omega), (by decide)⟩ (fun v4 c4 ho4 => ?_)
  rw [List.nil_append] at ho4
  obtain ⟨n4, A4, cap4, rfl, hn4⟩ := own_form ho4 (by decide)
  first
    | refine j_q (qs_loadw 0 Tryd.underlying40 rfl sz40 rfl rfl (by first | (rw [ints_length]; exact hf) | (rw [ints_length]; exact ht) | rfl)) ?_
    | refine j_q (qs_loadw 1 Tryd.underlying40 rfl sz40 rfl rfl (by first | (rw [ints_length]; exact hf) | (rw [ints_length]; exact ht) | rfl)) ?_
    | refine j_q (qs_loadw 2 Tryd.underlying40 rfl sz40 rfl rfl (by first | (rw [ints_length]; exact hf) | (rw [ints_length]; exact ht) | rfl)) ?_
    | refine j_q (qs_loadw 3 Tryd.underlying40 rfl sz40 rfl rfl (by first | (rw [ints_length]; exact hf) | (rw [ints_length]; exact ht) | rfl)) ?_
  refine j_call0 ent13 rfl rfl rfl (fun w' hw' => places_con l f _ w' (rsl_keep hv hw') hf hl) (fun u S2 hu => ?_)
  obtain ⟨cp6, rfl, hop⟩ := hu
  obtain ⟨n6, A6, cap6, rfl, hn6⟩ := own_form hop (by decide)
  rw [nats_length, Nat.mul_one] at hn6
  subst hn6
  have hpl := (plc_le (l := l) (d := f) l.length 0 (by omega)).2
  refine j_subl (S' := [cp6, [(g1, .cells (ints t).toArray 40 (0, 0))], c4]) (by repeat first | exact List.Sublist.refl _ | exact List.nil_sublist _ | apply List.Sublist.cons_cons | apply List.Sublist.cons) ?_
  refine j_perm (S' := [c4, cp6, [(g1, .cells (ints t).toArray 40 (0, 0))]]) (by simp only [List.flatten_cons, List.flatten_nil, List.append_nil]; rw [← List.append_assoc]; exact List.perm_append_comm) ?_
  refine j_q (qs_lenl Tryd.underlying43 rfl) ?_
  refine j_q (qs_mc) ?_
  refine j_loop (fun m vs S' => ∃ (i : Nat) (c : SH), vs = [.int .i64 (i : Int)] ∧ S' = [c, cp6, [(g1, .cells (ints t).toArray 40 (0, 0))]] ∧ Sx.Own 5 1 (ints (((plc l f 0).take i).foldl (fun o i => over o i t) l)) (.slice A4 n4 cap4) c ∧ (((plc l f 0).take i).foldl (fun o i => over o i t) l).length = l.length ∧ i ≤ (plc l f 0).length ∧ m = (plc l f 0).length - i) ⟨_, 0, c4, rfl, rfl, ho4, rfl, Nat.zero_le _, rfl⟩ ?_
  rintro m vs S' hlen ⟨i, c, rfl, rfl, ho, hlo, hin, rfl⟩
  refine j_q (qs_lss rfl rfl) ?_
  refine j_cond rfl (fun hc0 => ?_) (fun hc0 => ?_)
  · skip
    have hi : i < (plc l f 0).length := by
      simp only [Bool.and_eq_true, Bool.or_eq_true, Bool.and_eq_false_iff, Bool.or_eq_false_iff, Bool.not_eq_true', Bool.not_eq_false', decide_eq_true_eq, decide_eq_false_iff_not, beq_iff_eq, beq_eq_false_iff_ne, bne_iff_ne, bne_eq_false_iff_eq, ne_eq, Int.toNat_natCast] at *
      omega
    obtain ⟨gp, rfl⟩ := own_addr hop (by rw [nats_length]; omega)
    have hple := (plc_le (l := l) (d := f) l.length 0 (by omega)).1 ((plc l f 0).getD i 0) (by rw [List.getD_eq_getElem?_getD, List.getElem?_eq_getElem hi]; exact List.getElem_mem hi)
    obtain ⟨ga, rfl⟩ := own_addr ho (by rw [ints_length, hlo]; omega)
    obtain ⟨rest, fz, rfl, ho1, ho2, ho3, ho4⟩ := own_row ho
    have ho1' : l.length = n4 := by rw [ints_length, hlo] at ho1; omega
    have hlr : (ints (((plc l f 0).take i).foldl (fun o i => over o i t) l) ++ rest).length = cap4 := by omega
    refine j_q (qs_ixl0 Tryd.underlying43 sz3 rfl rfl ⟨(by first | omega | (simp only [Bool.and_eq_true, Bool.or_eq_true, Bool.and_eq_false_iff, Bool.or_eq_false_iff, Bool.not_eq_true', Bool.not_eq_false', decide_eq_true_eq, decide_eq_false_iff_not, beq_iff_eq, beq_eq_false_iff_ne, bne_iff_ne, bne_eq_false_iff_eq, ne_eq, Int.toNat_natCast] at *; omega)), (by first | omega | (simp only [Bool.and_eq_true, Bool.or_eq_true, Bool.and_eq_false_iff, Bool.or_eq_false_iff, Bool.not_eq_true', Bool.not_eq_false', decide_eq_true_eq, decide_eq_false_iff_not, beq_iff_eq, beq_eq_false_iff_ne, bne_iff_ne, bne_eq_false_iff_eq, ne_eq, Int.toNat_natCast] at *; omega))⟩) ?_
    refine j_q (qs_loadR (vs := nats (plc l f 0)) (own_rd hop 1 rfl) Tryd.underlying3 rfl rfl (by simp only [Int.toNat_natCast]; exact nats_get hi)) ?_
    simp only [Int.toNat_natCast]
    refine j_draw ?_
    refine jq_q (qs_cutl (a := (plc l f 0).getD i 0) (z := n4) Tryd.underlying22 sz5 rfl ⟨_, rfl⟩ rfl (by first | omega | (simp only [Bool.and_eq_true, Bool.or_eq_true, Bool.and_eq_false_iff, Bool.or_eq_false_iff, Bool.not_eq_true', Bool.not_eq_false', decide_eq_true_eq, decide_eq_false_iff_not, beq_iff_eq, beq_eq_false_iff_ne, bne_iff_ne, bne_eq_false_iff_eq, ne_eq, Int.toNat_natCast] at *; omega)) (by first | omega | (simp only [Bool.and_eq_true, Bool.or_eq_true, Bool.and_eq_false_iff, Bool.or_eq_false_iff, Bool.not_eq_true', Bool.not_eq_false', decide_eq_true_eq, decide_eq_false_iff_not, beq_iff_eq, beq_eq_false_iff_ne, bne_iff_ne, bne_eq_false_iff_eq, ne_eq, Int.toNat_natCast] at *; omega))) ?_
    rw [if_neg (show ¬ cap4 = (plc l f 0).getD i 0 by omega)]
    simp only [Option.map_some, add_off, Nat.zero_add, Nat.mul_one]
    refine jq_q (qs_cuta (a := 0) (z := 32) Tryd.underlying40 sz5 rfl rfl rfl (by first | omega | (simp only [Bool.and_eq_true, Bool.or_eq_true, Bool.and_eq_false_iff, Bool.or_eq_false_iff, Bool.not_eq_true', Bool.not_eq_false', decide_eq_true_eq, decide_eq_false_iff_not, beq_iff_eq, beq_eq_false_iff_ne, bne_iff_ne, bne_eq_false_iff_eq, ne_eq, Int.toNat_natCast] at *; omega)) (by first | omega | (simp only [Bool.and_eq_true, Bool.or_eq_true, Bool.and_eq_false_iff, Bool.or_eq_false_iff, Bool.not_eq_true', Bool.not_eq_false', decide_eq_true_eq, decide_eq_false_iff_not, beq_iff_eq, beq_eq_false_iff_ne, bne_iff_ne, bne_eq_false_iff_eq, ne_eq, Int.toNat_natCast] at *; omega))) ?_
    refine jq_nil ?_
    refine j_copy (off := (plc l f 0).getD i 0) (l := ints (((plc l f 0).take i).foldl (fun o i => over o i t) l) ++ rest) 0 Tryd.underlying22 sz5 rfl (.inl ⟨_, _, rfl, rd_own (off := 0) (n := 32) 2 rfl (by rw [List.drop_zero, List.take_of_length_le (by rw [ints_length]; omega)]), by rw [ints_length]; exact ht⟩) rfl ints_one (by omega) (fun j h1 h2 => ho4 j (by omega)) ?_
    rw [Nat.min_eq_left (show 32 ≤ n4 - (plc l f 0).getD i 0 by omega), List.take_of_length_le (show (ints t).length ≤ 32 by rw [ints_length]; omega)]
    rw [show (plc l f 0).getD i 0 + 32 = (plc l f 0).getD i 0 + t.length by rw [ht], over_row (by rw [hlo, ht]; exact hple)]
    refine j_q (qs_add64 rfl rfl (by first | omega | (simp only [Bool.and_eq_true, Bool.or_eq_true, Bool.and_eq_false_iff, Bool.or_eq_false_iff, Bool.not_eq_true', Bool.not_eq_false', decide_eq_true_eq, decide_eq_false_iff_not, beq_iff_eq, beq_eq_false_iff_ne, bne_iff_ne, bne_eq_false_iff_eq, ne_eq, Int.toNat_natCast] at *; omega))) ?_
    refine j_back rfl ?_
    exact ⟨(plc l f 0).length - (i + 1), by omega, i + 1, _, rfl, rfl, by rw [fold_snoc hi]; exact own_over (by rw [hlo, ht]; exact hple) ho1 ho2 ho3 ho4, by rw [fold_snoc hi, over_len (by rw [hlo, ht]; exact hple)]; exact hlo, by omega, rfl⟩
  · skip
    obtain rfl : i = (plc l f 0).length := by
      simp only [Bool.and_eq_true, Bool.or_eq_true, Bool.and_eq_false_iff, Bool.or_eq_false_iff, Bool.not_eq_true', Bool.not_eq_false', decide_eq_true_eq, decide_eq_false_iff_not, beq_iff_eq, beq_eq_false_iff_ne, bne_iff_ne, bne_eq_false_iff_eq, ne_eq, Int.toNat_natCast] at *
      omega
    rw [List.take_of_length_le (Nat.le_refl _)] at ho hlo
    refine j_q (qs_lenl Tryd.underlying43 rfl) ?_
    refine j_subl (S' := [c]) (by repeat first | exact List.Sublist.refl _ | exact List.nil_sublist _ | apply List.Sublist.cons_cons | apply List.Sublist.cons) ?_
    refine j_ret_con (vs := [_, _]) (fun w' hw' => ⟨rfl, rfl, trivial⟩) ?_
    exact ⟨_, c, rfl, rfl, by unfold rew; exact ho⟩
/-- pantry.pantryref6.replace -/
theorem replace_con (l f t : List UInt8) (v : Value) (w : World) (hv : RSl w v (ints l)) (hf : f.length = 32) (ht : t.length = 32) (hl : l.length ≤ 100000) : Con Tryd.prog 19 [v, .string (bs f), .string (bs t)] w [] fun u S' => ∃ ov c, u = .tuple #[ov, .int .i64 ((plc l f 0).length : Int)] ∧ S' = [c] ∧ Sx.Own 5 1 (ints (rew l f t)) ov c := by
  refine con_of_tree mix Tryd.func19 T19_ok (by kernel_rfl) ?_
  unfold T19
  obtain ⟨A, cap, rfl, hcap⟩ := rsl_form hv
  rw [ints_length] at hv hcap ⊢
  refine j_q (qs_ac) ?_
  refine j_q (qs_ac) ?_
  refine j_lit (vs := []) Tryd.underlying22 sz5 zero5 rfl (by simp [oneV]) ⟨rfl, by decide⟩ (fun g2 v2 c2 hv2 hc2 ho2 => ?_)
  subst hv2 hc2
  refine j_append 0 Tryd.underlying22 Tryd.underlying22 (.inr ⟨_, rfl⟩) sb5 zero5 rfl ho2 rfl (src_rsl hv (fun _ _ => by simp)) ints_one ⟨(by simp [ints_length]; omega), (by decide)⟩ (fun v3 c3 ho3 => ?_)
  rw [List.nil_append] at ho3
  obtain ⟨n4, A4, cap4, rfl, hn4⟩ := own_form ho3 (by decide)
  refine j_call0 ent18 rfl rfl rfl (fun w' hw' => rplaces_con l f _ w' (rsl_keep hv hw') hf hl) (fun u S2 hu => ?_)
  obtain ⟨cp6, rfl, hop⟩ := hu
  obtain ⟨n6, A6, cap6, rfl, hn6⟩ := own_form hop (by decide)
  rw [nats_length, Nat.mul_one] at hn6
  subst hn6
  have hpl := (plc_le (l := l) (d := f) l.length 0 (by omega)).2
  refine j_subl (S' := [cp6, c3]) (by repeat first | exact List.Sublist.refl _ | exact List.nil_sublist _ | apply List.Sublist.cons_cons | apply List.Sublist.cons) ?_
  refine j_swap ?_
  refine j_q (qs_ac) ?_
  refine j_loop (fun m vs S' => ∃ (i : Nat) (c : SH), vs = [.int .i64 (i : Int)] ∧ S' = [c, cp6] ∧ Sx.Own 5 1 (ints (((plc l f 0).take i).foldl (fun o i => over o i t) l)) (.slice A4 n4 cap4) c ∧ (((plc l f 0).take i).foldl (fun o i => over o i t) l).length = l.length ∧ i ≤ (plc l f 0).length ∧ m = (plc l f 0).length - i) ⟨_, 0, c3, rfl, rfl, ho3, rfl, Nat.zero_le _, rfl⟩ ?_
  rintro m vs S' hlen ⟨i, c, rfl, rfl, ho, hlo, hin, rfl⟩
  refine j_q (qs_lenl Tryd.underlying43 rfl) ?_
  refine j_q (qs_lss rfl rfl) ?_
  refine j_cond rfl (fun hc0 => ?_) (fun hc0 => ?_)
  · skip
    have hi : i < (plc l f 0).length := by
      simp only [Bool.and_eq_true, Bool.or_eq_true, Bool.and_eq_false_iff, Bool.or_eq_false_iff, Bool.not_eq_true', Bool.not_eq_false', decide_eq_true_eq, decide_eq_false_iff_not, beq_iff_eq, beq_eq_false_iff_ne, bne_iff_ne, bne_eq_false_iff_eq, ne_eq, Int.toNat_natCast] at *
      omega
    obtain ⟨gp, rfl⟩ := own_addr hop (by rw [nats_length]; omega)
    have hple := (plc_le (l := l) (d := f) l.length 0 (by omega)).1 ((plc l f 0).getD i 0) (by rw [List.getD_eq_getElem?_getD, List.getElem?_eq_getElem hi]; exact List.getElem_mem hi)
    obtain ⟨ga, rfl⟩ := own_addr ho (by rw [ints_length, hlo]; omega)
    obtain ⟨rest, fz, rfl, ho1, ho2, ho3, ho4⟩ := own_row ho
    have ho1' : l.length = n4 := by rw [ints_length, hlo] at ho1; omega
    have hlr : (ints (((plc l f 0).take i).foldl (fun o i => over o i t) l) ++ rest).length = cap4 := by omega
    refine j_q (qs_ixl0 Tryd.underlying43 sz3 rfl rfl ⟨(by first | omega | (simp only [Bool.and_eq_true, Bool.or_eq_true, Bool.and_eq_false_iff, Bool.or_eq_false_iff, Bool.not_eq_true', Bool.not_eq_false', decide_eq_true_eq, decide_eq_false_iff_not, beq_iff_eq, beq_eq_false_iff_ne, bne_iff_ne, bne_eq_false_iff_eq, ne_eq, Int.toNat_natCast] at *; omega)), (by first | omega | (simp only [Bool.and_eq_true, Bool.or_eq_true, Bool.and_eq_false_iff, Bool.or_eq_false_iff, Bool.not_eq_true', Bool.not_eq_false', decide_eq_true_eq, decide_eq_false_iff_not, beq_iff_eq, beq_eq_false_iff_ne, bne_iff_ne, bne_eq_false_iff_eq, ne_eq, Int.toNat_natCast] at *; omega))⟩) ?_
    refine j_q (qs_loadR (vs := nats (plc l f 0)) (own_rd hop 1 rfl) Tryd.underlying3 rfl rfl (by simp only [Int.toNat_natCast]; exact nats_get hi)) ?_
    simp only [Int.toNat_natCast]
    refine j_q (qs_cutl (a := (plc l f 0).getD i 0) (z := n4) Tryd.underlying22 sz5 rfl ⟨_, rfl⟩ rfl (by first | omega | (simp only [Bool.and_eq_true, Bool.or_eq_true, Bool.and_eq_false_iff, Bool.or_eq_false_iff, Bool.not_eq_true', Bool.not_eq_false', decide_eq_true_eq, decide_eq_false_iff_not, beq_iff_eq, beq_eq_false_iff_ne, bne_iff_ne, bne_eq_false_iff_eq, ne_eq, Int.toNat_natCast] at *; omega)) (by first | omega | (simp only [Bool.and_eq_true, Bool.or_eq_true, Bool.and_eq_false_iff, Bool.or_eq_false_iff, Bool.not_eq_true', Bool.not_eq_false', decide_eq_true_eq, decide_eq_false_iff_not, beq_iff_eq, beq_eq_false_iff_ne, bne_iff_ne, bne_eq_false_iff_eq, ne_eq, Int.toNat_natCast] at *; omega))) ?_
    rw [if_neg (show ¬ cap4 = (plc l f 0).getD i 0 by omega)]
    simp only [Option.map_some, add_off, Nat.zero_add, Nat.mul_one]
    refine j_copy (off := (plc l f 0).getD i 0) (l := ints (((plc l f 0).take i).foldl (fun o i => over o i t) l) ++ rest) 0 Tryd.underlying22 sz5 rfl (.inr (.inr ⟨t, rfl, rfl, rfl, rfl⟩)) rfl ints_one (by omega) (fun j h1 h2 => ho4 j (by omega)) ?_
    rw [ht]
    rw [Nat.min_eq_left (show 32 ≤ n4 - (plc l f 0).getD i 0 by omega), List.take_of_length_le (show (ints t).length ≤ 32 by rw [ints_length]; omega)]
    rw [show (plc l f 0).getD i 0 + 32 = (plc l f 0).getD i 0 + t.length by rw [ht], over_row (by rw [hlo, ht]; exact hple)]
    refine j_q (qs_add64 rfl rfl (by first | omega | (simp only [Bool.and_eq_true, Bool.or_eq_true, Bool.and_eq_false_iff, Bool.or_eq_false_iff, Bool.not_eq_true', Bool.not_eq_false', decide_eq_true_eq, decide_eq_false_iff_not, beq_iff_eq, beq_eq_false_iff_ne, bne_iff_ne, bne_eq_false_iff_eq, ne_eq, Int.toNat_natCast] at *; omega))) ?_
    refine j_back rfl ?_
    exact ⟨(plc l f 0).length - (i + 1), by omega, i + 1, _, rfl, rfl, by rw [fold_snoc hi]; exact own_over (by rw [hlo, ht]; exact hple) ho1 ho2 ho3 ho4, by rw [fold_snoc hi, over_len (by rw [hlo, ht]; exact hple)]; exact hlo, by omega, rfl⟩
  · skip
    obtain rfl : i = (plc l f 0).length := by
      simp only [Bool.and_eq_true, Bool.or_eq_true, Bool.and_eq_false_iff, Bool.or_eq_false_iff, Bool.not_eq_true', Bool.not_eq_false', decide_eq_true_eq, decide_eq_false_iff_not, beq_iff_eq, beq_eq_false_iff_ne, bne_iff_ne, bne_eq_false_iff_eq, ne_eq, Int.toNat_natCast] at *
      omega
    rw [List.take_of_length_le (Nat.le_refl _)] at ho hlo
    refine j_q (qs_lenl Tryd.underlying43 rfl) ?_
    refine j_subl (S' := [c]) (by repeat first | exact List.Sublist.refl _ | exact List.nil_sublist _ | apply List.Sublist.cons_cons | apply List.Sublist.cons) ?_
    refine j_ret_con (vs := [_, _]) (fun w' hw' => ⟨rfl, rfl, trivial⟩) ?_
    exact ⟨_, c, rfl, rfl, by unfold rew; exact ho⟩
end Go.Proofs.YtkafaodhppikfaaDoor
