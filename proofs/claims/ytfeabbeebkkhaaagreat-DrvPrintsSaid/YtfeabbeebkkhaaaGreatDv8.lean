/- Derivations: the document's text in its signs, and lists of texts. -/
import Derived.Test.YtfeabbeebkkhaaaGreatTa
import Derived.Test.YtfeabbeebkkhaaaGreatDv7
namespace Go.Proofs.YtfeabbeebkkhaaaGreat
open Go Go.Sx
set_option maxRecDepth 100000
set_option maxHeartbeats 4000000
set_option linter.unusedVariables false
set_option linter.unusedSimpArgs false
attribute [local irreducible] J JQ QS Con W opW
theorem ent29 : Sx.Enters Tryz.prog 29 := ⟨_, Tryz.func29, by kernel_rfl, by kernel_rfl⟩
theorem ent76 : Sx.Enters Tryz.prog 76 := ⟨_, Tryz.func76, by kernel_rfl, by kernel_rfl⟩

theorem byte_is {c d : UInt8} (h : ((c.toNat : Int) == (d.toNat : Int)) = true) : c = d := by
  rw [beq_iff_eq] at h
  exact UInt8.toNat_inj.1 (by omega)
theorem byte_not {c d : UInt8} (h : ((c.toNat : Int) == (d.toNat : Int)) = false) : c ≠ d := fun e => by
  rw [e, beq_self_eq_true] at h
  cases h
theorem esc34 {c : UInt8} (h : ((c.toNat : Int) == 34) = true) : esc c = [92, c] := by rw [byte_is (d := 34) h]; rfl
theorem esc92 {c : UInt8} (h : ((c.toNat : Int) == 92) = true) : esc c = [92, c] := by rw [byte_is (d := 92) h]; rfl
theorem esc10 {c : UInt8} (h : ((c.toNat : Int) == 10) = true) : esc c = [92, 110] := by rw [byte_is (d := 10) h]; rfl
theorem esc13 {c : UInt8} (h : ((c.toNat : Int) == 13) = true) : esc c = [92, 114] := by rw [byte_is (d := 13) h]; rfl
theorem esc09 {c : UInt8} (h : ((c.toNat : Int) == 9) = true) : esc c = [92, 116] := by rw [byte_is (d := 9) h]; rfl
theorem esc00 {c : UInt8} (h1 : ((c.toNat : Int) == 34) = false) (h2 : ((c.toNat : Int) == 92) = false) (h3 : ((c.toNat : Int) == 10) = false) (h4 : ((c.toNat : Int) == 13) = false) (h5 : ((c.toNat : Int) == 9) = false) : esc c = [c] := by
  unfold esc
  rw [if_neg (byte_not (d := 34) h1), if_neg (byte_not (d := 92) h2), if_neg (byte_not (d := 10) h3), if_neg (byte_not (d := 13) h4), if_neg (byte_not (d := 9) h5)]
theorem bools2 {v v' : Value} {a a' : Int} (h1 : v = v') (h2 : a = a') : [v, Value.int .i64 a] = [v', .int .i64 a'] := by rw [h1, h2]
/-- blocks of what is owned are new where nothing was handed over -/
theorem own_new {w w' : World} {S : List SH} (hw : Sig ⟨w, dom []⟩ S w') {c : SH} (k : Nat) (hk : S[k]? = some c) : ∀ q ∈ dom c, w.heap.size ≤ q := fun q hq => by
  have hm : q ∈ dom S.flatten := by
    obtain ⟨p, hp, rfl⟩ := List.mem_map.1 hq
    exact List.mem_map_of_mem (mem_flatten_of hk hp)
  rcases hw.dom_ q hm with h | h
  · simp at h
  · exact h
attribute [local irreducible] es qt cms hex Tbl Half lst isName isPath isDrvP leB chkO chkOuts chkN chkI chkIns firstE spA spB spE chkS chkV dtext chk chk0
/-- pantry.pantryref14.quote -/
theorem rquote_con (b : Bs) (bv : Value) (c : SH) (ho : Sx.Own 5 1 (ints b) bv c) (s : Bs) (hb : b.length ≤ 1099511627776) (hs : s.length ≤ 1099511627776) (w : World) : Con Tryz.prog 76 [bv, .string (bs s)] w c fun v S' => ∃ c', S' = [c'] ∧ Sx.Own 5 1 (ints (b ++ qt s)) v c' := by
  refine con_of_tree mix Tryz.func76 T76_ok (by kernel_rfl) ?_
  unfold T76
  have hel := es_len s
  refine j_q (qs_ac) ?_
  refine j_lit (vs := [.int .u8 _]) Tryz.underlying46 sz5 zero5 rfl (by simp [oneV]) ⟨rfl, by decide⟩ (fun g1 v1 c1 hv1 hc1 ho1 => ?_)
  subst hv1 hc1
  refine j_append 1 Tryz.underlying46 Tryz.underlying46 (.inr ⟨_, rfl⟩) sb5 zero5 rfl ho rfl (.inl ⟨_, _, rfl, rd_own (off := 0) (n := 1) 0 rfl rfl, rfl⟩) (by simp [oneV]) ⟨(by simp only [ints_length, List.drop_zero, List.take_succ_cons, List.take_zero, List.length_append, List.length_cons, List.length_nil]; omega), (by decide)⟩ (fun v2 c2 ho2 => ?_)
  have ho2 : Sx.Own 5 1 (ints (b ++ [34])) v2 c2 := by
    rw [ints_append]
    exact ho2
  refine j_subl (S' := [c2]) (by repeat first | exact List.Sublist.refl _ | exact List.nil_sublist _ | apply List.Sublist.cons_cons | apply List.Sublist.cons) ?_
  refine j_q (qs_ac) ?_
  refine j_loop (fun m vs S' => ∃ (i : Nat) (bv : Value) (cb : SH), vs = [bv, .int .i64 (i : Int)] ∧ S' = [cb] ∧ Sx.Own 5 1 (ints (b ++ [34] ++ es (s.take i))) bv cb ∧ i ≤ s.length ∧ m = s.length - i) ⟨_, 0, v2, c2, rfl, rfl, by rw [List.take_zero, show es [] = [] by unfold es; rfl, List.append_nil]; exact ho2, Nat.zero_le _, rfl⟩ ?_
  rintro m vs S' hlen ⟨i, bv, cb, rfl, rfl, hob, hin, rfl⟩
  refine j_q (qs_lens Tryz.underlying9 rfl) ?_
  refine j_q (qs_lss rfl rfl) ?_
  refine j_cond rfl (fun hc0 => ?_) (fun hc0 => ?_)
  · skip
    have hi : i < s.length := by
      simp only [Bool.and_eq_true, Bool.or_eq_true, Bool.and_eq_false_iff, Bool.or_eq_false_iff, Bool.not_eq_true', Bool.not_eq_false', decide_eq_true_eq, decide_eq_false_iff_not, beq_iff_eq, beq_eq_false_iff_ne, bne_iff_ne, bne_eq_false_iff_eq, ne_eq, Int.toNat_natCast] at *
      omega
    have hst := es_take hi
    have hpre := es_pre s i
    refine j_q (qs_idx Tryz.underlying9 rfl rfl ⟨(by first | omega | (simp only [Bool.and_eq_true, Bool.or_eq_true, Bool.and_eq_false_iff, Bool.or_eq_false_iff, Bool.not_eq_true', Bool.not_eq_false', decide_eq_true_eq, decide_eq_false_iff_not, beq_iff_eq, beq_eq_false_iff_ne, bne_iff_ne, bne_eq_false_iff_eq, ne_eq, Int.toNat_natCast] at *; omega)), (by first | omega | (simp only [Bool.and_eq_true, Bool.or_eq_true, Bool.and_eq_false_iff, Bool.or_eq_false_iff, Bool.not_eq_true', Bool.not_eq_false', decide_eq_true_eq, decide_eq_false_iff_not, beq_iff_eq, beq_eq_false_iff_ne, bne_iff_ne, bne_eq_false_iff_eq, ne_eq, Int.toNat_natCast] at *; omega))⟩) ?_
    simp only [Int.toNat_natCast]
    refine j_q (qs_eql rfl rfl) ?_
    refine j_cond rfl (fun hc1 => ?_) (fun hc1 => ?_)
    · skip
      refine j_cond rfl (fun hc2 => ?_) (fun hc2 => ?_)
      · skip
        refine j_q (qs_idx Tryz.underlying9 rfl rfl ⟨(by first | omega | (simp only [Bool.and_eq_true, Bool.or_eq_true, Bool.and_eq_false_iff, Bool.or_eq_false_iff, Bool.not_eq_true', Bool.not_eq_false', decide_eq_true_eq, decide_eq_false_iff_not, beq_iff_eq, beq_eq_false_iff_ne, bne_iff_ne, bne_eq_false_iff_eq, ne_eq, Int.toNat_natCast] at *; omega)), (by first | omega | (simp only [Bool.and_eq_true, Bool.or_eq_true, Bool.and_eq_false_iff, Bool.or_eq_false_iff, Bool.not_eq_true', Bool.not_eq_false', decide_eq_true_eq, decide_eq_false_iff_not, beq_iff_eq, beq_eq_false_iff_ne, bne_iff_ne, bne_eq_false_iff_eq, ne_eq, Int.toNat_natCast] at *; omega))⟩) ?_
        simp only [Int.toNat_natCast]
        refine j_lit (vs := [.int .u8 _, .int .u8 _]) Tryz.underlying46 sz5 zero5 rfl (by simp [oneV]) ⟨rfl, by decide⟩ (fun g9 v9 c9 hv9 hc9 ho9 => ?_)
        subst hv9 hc9
        refine j_append 1 Tryz.underlying46 Tryz.underlying46 (.inr ⟨_, rfl⟩) sb5 zero5 rfl hob rfl (.inl ⟨_, _, rfl, rd_own (off := 0) (n := 2) 0 rfl rfl, rfl⟩) (by simp [oneV]) ⟨(by simp only [ints_length, List.drop_zero, List.take_succ_cons, List.take_zero, List.length_append, List.length_cons, List.length_nil]; omega), (by decide)⟩ (fun v10 c10 ho10 => ?_)
        have ho10 : Sx.Own 5 1 (ints (b ++ [34] ++ es (s.take (i + 1)))) v10 c10 := by
          rw [hst, esc34 hc1, ← List.append_assoc, ints_append]
          exact ho10
        refine j_subl (S' := [c10]) (by repeat first | exact List.Sublist.refl _ | exact List.nil_sublist _ | apply List.Sublist.cons_cons | apply List.Sublist.cons) ?_
        refine j_q (qs_add64 rfl rfl (by first | omega | (simp only [Bool.and_eq_true, Bool.or_eq_true, Bool.and_eq_false_iff, Bool.or_eq_false_iff, Bool.not_eq_true', Bool.not_eq_false', decide_eq_true_eq, decide_eq_false_iff_not, beq_iff_eq, beq_eq_false_iff_ne, bne_iff_ne, bne_eq_false_iff_eq, ne_eq, Int.toNat_natCast] at *; omega))) ?_
        refine j_back rfl ?_
        exact ⟨s.length - (i + 1), by omega, i + 1, v10, c10, bools2 rfl (by omega), rfl, ho10, by omega, rfl⟩
      · skip
        rw [hc1] at hc2
        cases hc2
    · skip
      refine j_q (qs_eql rfl rfl) ?_
      refine j_cond rfl (fun hc6 => ?_) (fun hc6 => ?_)
      · skip
        refine j_q (qs_idx Tryz.underlying9 rfl rfl ⟨(by first | omega | (simp only [Bool.and_eq_true, Bool.or_eq_true, Bool.and_eq_false_iff, Bool.or_eq_false_iff, Bool.not_eq_true', Bool.not_eq_false', decide_eq_true_eq, decide_eq_false_iff_not, beq_iff_eq, beq_eq_false_iff_ne, bne_iff_ne, bne_eq_false_iff_eq, ne_eq, Int.toNat_natCast] at *; omega)), (by first | omega | (simp only [Bool.and_eq_true, Bool.or_eq_true, Bool.and_eq_false_iff, Bool.or_eq_false_iff, Bool.not_eq_true', Bool.not_eq_false', decide_eq_true_eq, decide_eq_false_iff_not, beq_iff_eq, beq_eq_false_iff_ne, bne_iff_ne, bne_eq_false_iff_eq, ne_eq, Int.toNat_natCast] at *; omega))⟩) ?_
        simp only [Int.toNat_natCast]
        refine j_lit (vs := [.int .u8 _, .int .u8 _]) Tryz.underlying46 sz5 zero5 rfl (by simp [oneV]) ⟨rfl, by decide⟩ (fun g30 v30 c30 hv30 hc30 ho30 => ?_)
        subst hv30 hc30
        refine j_append 1 Tryz.underlying46 Tryz.underlying46 (.inr ⟨_, rfl⟩) sb5 zero5 rfl hob rfl (.inl ⟨_, _, rfl, rd_own (off := 0) (n := 2) 0 rfl rfl, rfl⟩) (by simp [oneV]) ⟨(by simp only [ints_length, List.drop_zero, List.take_succ_cons, List.take_zero, List.length_append, List.length_cons, List.length_nil]; omega), (by decide)⟩ (fun v31 c31 ho31 => ?_)
        have ho31 : Sx.Own 5 1 (ints (b ++ [34] ++ es (s.take (i + 1)))) v31 c31 := by
          rw [hst, esc92 hc6, ← List.append_assoc, ints_append]
          exact ho31
        refine j_subl (S' := [c31]) (by repeat first | exact List.Sublist.refl _ | exact List.nil_sublist _ | apply List.Sublist.cons_cons | apply List.Sublist.cons) ?_
        refine j_q (qs_add64 rfl rfl (by first | omega | (simp only [Bool.and_eq_true, Bool.or_eq_true, Bool.and_eq_false_iff, Bool.or_eq_false_iff, Bool.not_eq_true', Bool.not_eq_false', decide_eq_true_eq, decide_eq_false_iff_not, beq_iff_eq, beq_eq_false_iff_ne, bne_iff_ne, bne_eq_false_iff_eq, ne_eq, Int.toNat_natCast] at *; omega))) ?_
        refine j_back rfl ?_
        exact ⟨s.length - (i + 1), by omega, i + 1, v31, c31, bools2 rfl (by omega), rfl, ho31, by omega, rfl⟩
      · skip
        refine j_q (qs_eql rfl rfl) ?_
        refine j_cond rfl (fun hc7 => ?_) (fun hc7 => ?_)
        · skip
          refine j_lit (vs := [.int .u8 _, .int .u8 _]) Tryz.underlying46 sz5 zero5 rfl (by simp [oneV]) ⟨rfl, by decide⟩ (fun g34 v34 c34 hv34 hc34 ho34 => ?_)
          subst hv34 hc34
          refine j_append 1 Tryz.underlying46 Tryz.underlying46 (.inr ⟨_, rfl⟩) sb5 zero5 rfl hob rfl (.inl ⟨_, _, rfl, rd_own (off := 0) (n := 2) 0 rfl rfl, rfl⟩) (by simp [oneV]) ⟨(by simp only [ints_length, List.drop_zero, List.take_succ_cons, List.take_zero, List.length_append, List.length_cons, List.length_nil]; omega), (by decide)⟩ (fun v35 c35 ho35 => ?_)
          have ho35 : Sx.Own 5 1 (ints (b ++ [34] ++ es (s.take (i + 1)))) v35 c35 := by
            rw [hst, esc10 hc7, ← List.append_assoc, ints_append]
            exact ho35
          refine j_subl (S' := [c35]) (by repeat first | exact List.Sublist.refl _ | exact List.nil_sublist _ | apply List.Sublist.cons_cons | apply List.Sublist.cons) ?_
          refine j_q (qs_add64 rfl rfl (by first | omega | (simp only [Bool.and_eq_true, Bool.or_eq_true, Bool.and_eq_false_iff, Bool.or_eq_false_iff, Bool.not_eq_true', Bool.not_eq_false', decide_eq_true_eq, decide_eq_false_iff_not, beq_iff_eq, beq_eq_false_iff_ne, bne_iff_ne, bne_eq_false_iff_eq, ne_eq, Int.toNat_natCast] at *; omega))) ?_
          refine j_back rfl ?_
          exact ⟨s.length - (i + 1), by omega, i + 1, v35, c35, bools2 rfl (by omega), rfl, ho35, by omega, rfl⟩
        · skip
          refine j_q (qs_eql rfl rfl) ?_
          refine j_cond rfl (fun hc8 => ?_) (fun hc8 => ?_)
          · skip
            refine j_lit (vs := [.int .u8 _, .int .u8 _]) Tryz.underlying46 sz5 zero5 rfl (by simp [oneV]) ⟨rfl, by decide⟩ (fun g38 v38 c38 hv38 hc38 ho38 => ?_)
            subst hv38 hc38
            refine j_append 1 Tryz.underlying46 Tryz.underlying46 (.inr ⟨_, rfl⟩) sb5 zero5 rfl hob rfl (.inl ⟨_, _, rfl, rd_own (off := 0) (n := 2) 0 rfl rfl, rfl⟩) (by simp [oneV]) ⟨(by simp only [ints_length, List.drop_zero, List.take_succ_cons, List.take_zero, List.length_append, List.length_cons, List.length_nil]; omega), (by decide)⟩ (fun v39 c39 ho39 => ?_)
            have ho39 : Sx.Own 5 1 (ints (b ++ [34] ++ es (s.take (i + 1)))) v39 c39 := by
              rw [hst, esc13 hc8, ← List.append_assoc, ints_append]
              exact ho39
            refine j_subl (S' := [c39]) (by repeat first | exact List.Sublist.refl _ | exact List.nil_sublist _ | apply List.Sublist.cons_cons | apply List.Sublist.cons) ?_
            refine j_q (qs_add64 rfl rfl (by first | omega | (simp only [Bool.and_eq_true, Bool.or_eq_true, Bool.and_eq_false_iff, Bool.or_eq_false_iff, Bool.not_eq_true', Bool.not_eq_false', decide_eq_true_eq, decide_eq_false_iff_not, beq_iff_eq, beq_eq_false_iff_ne, bne_iff_ne, bne_eq_false_iff_eq, ne_eq, Int.toNat_natCast] at *; omega))) ?_
            refine j_back rfl ?_
            exact ⟨s.length - (i + 1), by omega, i + 1, v39, c39, bools2 rfl (by omega), rfl, ho39, by omega, rfl⟩
          · skip
            refine j_q (qs_eql rfl rfl) ?_
            refine j_cond rfl (fun hc9 => ?_) (fun hc9 => ?_)
            · skip
              refine j_lit (vs := [.int .u8 _, .int .u8 _]) Tryz.underlying46 sz5 zero5 rfl (by simp [oneV]) ⟨rfl, by decide⟩ (fun g42 v42 c42 hv42 hc42 ho42 => ?_)
              subst hv42 hc42
              refine j_append 1 Tryz.underlying46 Tryz.underlying46 (.inr ⟨_, rfl⟩) sb5 zero5 rfl hob rfl (.inl ⟨_, _, rfl, rd_own (off := 0) (n := 2) 0 rfl rfl, rfl⟩) (by simp [oneV]) ⟨(by simp only [ints_length, List.drop_zero, List.take_succ_cons, List.take_zero, List.length_append, List.length_cons, List.length_nil]; omega), (by decide)⟩ (fun v43 c43 ho43 => ?_)
              have ho43 : Sx.Own 5 1 (ints (b ++ [34] ++ es (s.take (i + 1)))) v43 c43 := by
                rw [hst, esc09 hc9, ← List.append_assoc, ints_append]
                exact ho43
              refine j_subl (S' := [c43]) (by repeat first | exact List.Sublist.refl _ | exact List.nil_sublist _ | apply List.Sublist.cons_cons | apply List.Sublist.cons) ?_
              refine j_q (qs_add64 rfl rfl (by first | omega | (simp only [Bool.and_eq_true, Bool.or_eq_true, Bool.and_eq_false_iff, Bool.or_eq_false_iff, Bool.not_eq_true', Bool.not_eq_false', decide_eq_true_eq, decide_eq_false_iff_not, beq_iff_eq, beq_eq_false_iff_ne, bne_iff_ne, bne_eq_false_iff_eq, ne_eq, Int.toNat_natCast] at *; omega))) ?_
              refine j_back rfl ?_
              exact ⟨s.length - (i + 1), by omega, i + 1, v43, c43, bools2 rfl (by omega), rfl, ho43, by omega, rfl⟩
            · skip
              refine j_q (qs_idx Tryz.underlying9 rfl rfl ⟨(by first | omega | (simp only [Bool.and_eq_true, Bool.or_eq_true, Bool.and_eq_false_iff, Bool.or_eq_false_iff, Bool.not_eq_true', Bool.not_eq_false', decide_eq_true_eq, decide_eq_false_iff_not, beq_iff_eq, beq_eq_false_iff_ne, bne_iff_ne, bne_eq_false_iff_eq, ne_eq, Int.toNat_natCast] at *; omega)), (by first | omega | (simp only [Bool.and_eq_true, Bool.or_eq_true, Bool.and_eq_false_iff, Bool.or_eq_false_iff, Bool.not_eq_true', Bool.not_eq_false', decide_eq_true_eq, decide_eq_false_iff_not, beq_iff_eq, beq_eq_false_iff_ne, bne_iff_ne, bne_eq_false_iff_eq, ne_eq, Int.toNat_natCast] at *; omega))⟩) ?_
              simp only [Int.toNat_natCast]
              refine j_lit (vs := [.int .u8 _]) Tryz.underlying46 sz5 zero5 rfl (by simp [oneV]) ⟨rfl, by decide⟩ (fun g46 v46 c46 hv46 hc46 ho46 => ?_)
              subst hv46 hc46
              refine j_append 1 Tryz.underlying46 Tryz.underlying46 (.inr ⟨_, rfl⟩) sb5 zero5 rfl hob rfl (.inl ⟨_, _, rfl, rd_own (off := 0) (n := 1) 0 rfl rfl, rfl⟩) (by simp [oneV]) ⟨(by simp only [ints_length, List.drop_zero, List.take_succ_cons, List.take_zero, List.length_append, List.length_cons, List.length_nil]; omega), (by decide)⟩ (fun v47 c47 ho47 => ?_)
              have ho47 : Sx.Own 5 1 (ints (b ++ [34] ++ es (s.take (i + 1)))) v47 c47 := by
                rw [hst, esc00 hc1 hc6 hc7 hc8 hc9, ← List.append_assoc, ints_append]
                exact ho47
              refine j_subl (S' := [c47]) (by repeat first | exact List.Sublist.refl _ | exact List.nil_sublist _ | apply List.Sublist.cons_cons | apply List.Sublist.cons) ?_
              refine j_q (qs_add64 rfl rfl (by first | omega | (simp only [Bool.and_eq_true, Bool.or_eq_true, Bool.and_eq_false_iff, Bool.or_eq_false_iff, Bool.not_eq_true', Bool.not_eq_false', decide_eq_true_eq, decide_eq_false_iff_not, beq_iff_eq, beq_eq_false_iff_ne, bne_iff_ne, bne_eq_false_iff_eq, ne_eq, Int.toNat_natCast] at *; omega))) ?_
              refine j_back rfl ?_
              exact ⟨s.length - (i + 1), by omega, i + 1, v47, c47, bools2 rfl (by omega), rfl, ho47, by omega, rfl⟩
  · skip
    obtain rfl : i = s.length := by
      simp only [Bool.and_eq_true, Bool.or_eq_true, Bool.and_eq_false_iff, Bool.or_eq_false_iff, Bool.not_eq_true', Bool.not_eq_false', decide_eq_true_eq, decide_eq_false_iff_not, beq_iff_eq, beq_eq_false_iff_ne, bne_iff_ne, bne_eq_false_iff_eq, ne_eq, Int.toNat_natCast] at *
      omega
    rw [List.take_length] at hob
    refine j_lit (vs := [.int .u8 _]) Tryz.underlying46 sz5 zero5 rfl (by simp [oneV]) ⟨rfl, by decide⟩ (fun g49 v49 c49 hv49 hc49 ho49 => ?_)
    subst hv49 hc49
    refine j_append 1 Tryz.underlying46 Tryz.underlying46 (.inr ⟨_, rfl⟩) sb5 zero5 rfl hob rfl (.inl ⟨_, _, rfl, rd_own (off := 0) (n := 1) 0 rfl rfl, rfl⟩) (by simp [oneV]) ⟨(by simp only [ints_length, List.drop_zero, List.take_succ_cons, List.take_zero, List.length_append, List.length_cons, List.length_nil]; omega), (by decide)⟩ (fun v50 c50 ho50 => ?_)
    have ho50 : Sx.Own 5 1 (ints (b ++ qt s)) v50 c50 := by
      have e : b ++ qt s = b ++ [34] ++ es s ++ [34] := by unfold qt; simp
      rw [e, ints_append]
      exact ho50
    refine j_subl (S' := [c50]) (by repeat first | exact List.Sublist.refl _ | exact List.nil_sublist _ | apply List.Sublist.cons_cons | apply List.Sublist.cons) ?_
    refine j_ret_con (vs := [_]) (fun w' hw' => ⟨rfl, trivial⟩) ?_
    exact ⟨c50, rfl, ho50⟩
/-- pantry.pantryref14.list -/
theorem rlist_con (b : Bs) (bv : Value) (c : SH) (ho : Sx.Own 5 1 (ints b) bv c) (l : List Bs) (v : Value) (w : World) (hv : StrZ w v l) (hsep : ∀ a n k, v = .slice (some a) n k → 0 < n → a.block ∉ dom c) (hb : b.length ≤ 500000000000) (hm : ∀ x ∈ l, x.length ≤ 1099511627776) (hn : l.length ≤ 1000000) (hl : (tTs l).length ≤ 500000000000) : Con Tryz.prog 77 [bv, v] w c fun v S' => ∃ c', S' = [c'] ∧ Sx.Own 5 1 (ints (b ++ tTs l)) v c' := by
  refine con_of_tree mix Tryz.func77 T77_ok (by kernel_rfl) ?_
  unfold T77
  obtain ⟨A, cap, rfl, hcap⟩ := strz_form hv
  have hcl := cms_take_le qt l
  have hlen2 := hl
  simp only [tTs, lst, List.length_append] at hlen2
  refine j_q (qs_ac) ?_
  refine j_lit (vs := [.int .u8 _]) Tryz.underlying46 sz5 zero5 rfl (by simp [oneV]) ⟨rfl, by decide⟩ (fun g1 v1 c1 hv1 hc1 ho1 => ?_)
  subst hv1 hc1
  refine j_append 1 Tryz.underlying46 Tryz.underlying46 (.inr ⟨_, rfl⟩) sb5 zero5 rfl ho rfl (.inl ⟨_, _, rfl, rd_own (off := 0) (n := 1) 0 rfl rfl, rfl⟩) (by simp [oneV]) ⟨(by simp only [ints_length, List.drop_zero, List.take_succ_cons, List.take_zero, List.length_append, List.length_cons, List.length_nil]; omega), (by decide)⟩ (fun v2 c2 ho2 => ?_)
  have ho2 : Sx.Own 5 1 (ints (b ++ [91])) v2 c2 := by
    rw [ints_append]
    exact ho2
  refine j_subl (S' := [c2]) (by repeat first | exact List.Sublist.refl _ | exact List.nil_sublist _ | apply List.Sublist.cons_cons | apply List.Sublist.cons) ?_
  refine j_q (qs_ac) ?_
  refine j_loop (fun m vs S' => ∃ (i : Nat) (bv : Value) (cb : SH), vs = [bv, .int .i64 (i : Int)] ∧ S' = [cb] ∧ Sx.Own 5 1 (ints (b ++ [91] ++ cms ((l.take i).map qt))) bv cb ∧ i ≤ l.length ∧ m = l.length - i) ⟨_, 0, v2, c2, rfl, rfl, by rw [List.take_zero, show cms (([] : List Bs).map qt) = [] by unfold cms; rfl, List.append_nil]; exact ho2, Nat.zero_le _, rfl⟩ ?_
  rintro m vs S' hlen ⟨i, bv, cb, rfl, rfl, hob, hin, rfl⟩
  refine j_q (qs_lenl Tryz.underlying22 rfl) ?_
  refine j_q (qs_lss rfl rfl) ?_
  refine j_cond rfl (fun hc0 => ?_) (fun hc0 => ?_)
  · skip
    have hi : i < l.length := by
      simp only [Bool.and_eq_true, Bool.or_eq_true, Bool.and_eq_false_iff, Bool.or_eq_false_iff, Bool.not_eq_true', Bool.not_eq_false', decide_eq_true_eq, decide_eq_false_iff_not, beq_iff_eq, beq_eq_false_iff_ne, bne_iff_ne, bne_eq_false_iff_eq, ne_eq, Int.toNat_natCast] at *
      omega
    obtain ⟨ga, off, rfl, hga, hcells⟩ := strz_addr hv (by omega)
    have hci := hcl i
    have hci1 := hcl (i + 1)
    refine j_q (qs_gtr rfl rfl) ?_
    refine j_cond rfl (fun hc1 => ?_) (fun hc1 => ?_)
    · skip
      have h0 : ¬ i = 0 := by
        simp only [Bool.and_eq_true, Bool.or_eq_true, Bool.and_eq_false_iff, Bool.or_eq_false_iff, Bool.not_eq_true', Bool.not_eq_false', decide_eq_true_eq, decide_eq_false_iff_not, beq_iff_eq, beq_eq_false_iff_ne, bne_iff_ne, bne_eq_false_iff_eq, ne_eq, Int.toNat_natCast] at *
        omega
      have hstep := cms_step qt (d := []) hi
      rw [if_neg h0] at hstep
      rw [hstep] at hci1
      simp only [List.length_append, List.length_cons] at hci1
      refine j_lit (vs := [.int .u8 _]) Tryz.underlying46 sz5 zero5 rfl (by simp [oneV]) ⟨rfl, by decide⟩ (fun g7 v7 c7 hv7 hc7 ho7 => ?_)
      subst hv7 hc7
      refine j_append 1 Tryz.underlying46 Tryz.underlying46 (.inr ⟨_, rfl⟩) sb5 zero5 rfl hob rfl (.inl ⟨_, _, rfl, rd_own (off := 0) (n := 1) 0 rfl rfl, rfl⟩) (by simp [oneV]) ⟨(by simp only [ints_length, List.drop_zero, List.take_succ_cons, List.take_zero, List.length_append, List.length_cons, List.length_nil]; omega), (by decide)⟩ (fun v8 c8 ho8 => ?_)
      have ho8 : Sx.Own 5 1 (ints ((b ++ [91] ++ cms ((l.take i).map qt)) ++ [44])) v8 c8 := by
        rw [ints_append]
        exact ho8
      refine j_subl (S' := [c8]) (by repeat first | exact List.Sublist.refl _ | exact List.nil_sublist _ | apply List.Sublist.cons_cons | apply List.Sublist.cons) ?_
      refine j_q (qs_ixl0 Tryz.underlying22 sz9 rfl rfl (by omega)) ?_
      refine j_q (qs_loadrs (rd_cells hcells (hsep _ _ _ rfl (by omega))) Tryz.underlying9 rfl (by simp only [Int.toNat_natCast]; omega)) ?_
      simp only [Int.toNat_natCast]
      refine j_call 0 ent76 rfl rfl rfl rfl (fun w' hw' => rquote_con _ _ _ ho8 _ (by simp only [ints_length, List.drop_zero, List.take_succ_cons, List.take_zero, List.length_append, List.length_cons, List.length_nil]; omega) (by have := hm _ (getD_mem (d := []) hi); omega) w') (fun u S2 hu => ?_)
      obtain ⟨c11, rfl, ho11⟩ := hu
      have ho11 : Sx.Own 5 1 (ints (b ++ [91] ++ cms ((l.take (i + 1)).map qt))) u c11 := by
        rw [hstep]
        simp only [List.append_assoc, List.cons_append, List.nil_append] at ho11 ⊢
        exact ho11
      refine j_subl (S' := [c11]) (by repeat first | exact List.Sublist.refl _ | exact List.nil_sublist _ | apply List.Sublist.cons_cons | apply List.Sublist.cons) ?_
      refine j_q (qs_add64 rfl rfl (by first | omega | (simp only [Bool.and_eq_true, Bool.or_eq_true, Bool.and_eq_false_iff, Bool.or_eq_false_iff, Bool.not_eq_true', Bool.not_eq_false', decide_eq_true_eq, decide_eq_false_iff_not, beq_iff_eq, beq_eq_false_iff_ne, bne_iff_ne, bne_eq_false_iff_eq, ne_eq, Int.toNat_natCast] at *; omega))) ?_
      refine j_back rfl ?_
      exact ⟨l.length - (i + 1), by omega, i + 1, u, c11, bools2 rfl (by omega), rfl, ho11, by omega, rfl⟩
    · skip
      have h0 : i = 0 := by
        simp only [Bool.and_eq_true, Bool.or_eq_true, Bool.and_eq_false_iff, Bool.or_eq_false_iff, Bool.not_eq_true', Bool.not_eq_false', decide_eq_true_eq, decide_eq_false_iff_not, beq_iff_eq, beq_eq_false_iff_ne, bne_iff_ne, bne_eq_false_iff_eq, ne_eq, Int.toNat_natCast] at *
        omega
      have hstep := cms_step qt (d := []) hi
      rw [if_pos h0] at hstep
      rw [hstep] at hci1
      have hcm0 : cms ((l.take i).map qt) = [] := by
        rw [h0, List.take_zero]
        unfold cms
        rfl
      refine j_q (qs_ixl0 Tryz.underlying22 sz9 rfl rfl (by omega)) ?_
      refine j_q (qs_loadrs (rd_cells hcells (hsep _ _ _ rfl (by omega))) Tryz.underlying9 rfl (by simp only [Int.toNat_natCast]; omega)) ?_
      simp only [Int.toNat_natCast]
      refine j_call 0 ent76 rfl rfl rfl rfl (fun w' hw' => rquote_con _ _ _ hob _ (by simp only [ints_length, List.drop_zero, List.take_succ_cons, List.take_zero, List.length_append, List.length_cons, List.length_nil]; omega) (by have := hm _ (getD_mem (d := []) hi); omega) w') (fun u S2 hu => ?_)
      obtain ⟨c15, rfl, ho15⟩ := hu
      have ho15 : Sx.Own 5 1 (ints (b ++ [91] ++ cms ((l.take (i + 1)).map qt))) u c15 := by
        rw [hstep]
        rw [hcm0, List.append_nil] at ho15
        exact ho15
      refine j_subl (S' := [c15]) (by repeat first | exact List.Sublist.refl _ | exact List.nil_sublist _ | apply List.Sublist.cons_cons | apply List.Sublist.cons) ?_
      refine j_q (qs_add64 rfl rfl (by first | omega | (simp only [Bool.and_eq_true, Bool.or_eq_true, Bool.and_eq_false_iff, Bool.or_eq_false_iff, Bool.not_eq_true', Bool.not_eq_false', decide_eq_true_eq, decide_eq_false_iff_not, beq_iff_eq, beq_eq_false_iff_ne, bne_iff_ne, bne_eq_false_iff_eq, ne_eq, Int.toNat_natCast] at *; omega))) ?_
      refine j_back rfl ?_
      exact ⟨l.length - (i + 1), by omega, i + 1, u, c15, bools2 rfl (by omega), rfl, ho15, by omega, rfl⟩
  · skip
    obtain rfl : i = l.length := by
      simp only [Bool.and_eq_true, Bool.or_eq_true, Bool.and_eq_false_iff, Bool.or_eq_false_iff, Bool.not_eq_true', Bool.not_eq_false', decide_eq_true_eq, decide_eq_false_iff_not, beq_iff_eq, beq_eq_false_iff_ne, bne_iff_ne, bne_eq_false_iff_eq, ne_eq, Int.toNat_natCast] at *
      omega
    rw [List.take_length] at hob
    refine j_lit (vs := [.int .u8 _]) Tryz.underlying46 sz5 zero5 rfl (by simp [oneV]) ⟨rfl, by decide⟩ (fun g17 v17 c17 hv17 hc17 ho17 => ?_)
    subst hv17 hc17
    refine j_append 1 Tryz.underlying46 Tryz.underlying46 (.inr ⟨_, rfl⟩) sb5 zero5 rfl hob rfl (.inl ⟨_, _, rfl, rd_own (off := 0) (n := 1) 0 rfl rfl, rfl⟩) (by simp [oneV]) ⟨(by simp only [ints_length, List.drop_zero, List.take_succ_cons, List.take_zero, List.length_append, List.length_cons, List.length_nil]; omega), (by decide)⟩ (fun v18 c18 ho18 => ?_)
    have ho18 : Sx.Own 5 1 (ints (b ++ tTs l)) v18 c18 := by
      have e : b ++ tTs l = b ++ [91] ++ cms (l.map qt) ++ [93] := by unfold tTs lst; simp
      rw [e, ints_append]
      exact ho18
    refine j_subl (S' := [c18]) (by repeat first | exact List.Sublist.refl _ | exact List.nil_sublist _ | apply List.Sublist.cons_cons | apply List.Sublist.cons) ?_
    refine j_ret_con (vs := [_]) (fun w' hw' => ⟨rfl, trivial⟩) ?_
    exact ⟨c18, rfl, ho18⟩
/-- pantry.pantryref14.IsDrv -/
theorem risDrv_con (p : Bs) (w : World) (hp : p.length ≤ 9223372036854775807) : Con Tryz.prog 80 [.string (bs p)] w [] fun v _ => v = .bool (isDrvP p) := by
  refine con_of_tree mix Tryz.func80 T80_ok (by kernel_rfl) ?_
  unfold T80
  have hspl : (spB p).length ≤ p.length := by unfold spB; split <;> simp
  refine j_q (qs_ac) ?_
  refine j_q (qs_call ent29 rfl rfl rfl (fun w' hw' => rsplit_con p w' hp)) ?_
  unfold spl
  refine j_q (qs_ext (vs := [.string (bs (spA p)), .string (bs (spB p)), .int .i64 (spE p)]) rfl rfl) ?_
  refine j_q (qs_ext (vs := [.string (bs (spA p)), .string (bs (spB p)), .int .i64 (spE p)]) rfl rfl) ?_
  refine j_q (qs_ext (vs := [.string (bs (spA p)), .string (bs (spB p)), .int .i64 (spE p)]) rfl rfl) ?_
  refine j_q (qs_eql rfl rfl) ?_
  refine j_g rfl (fun hb => qs_mt rfl) ?_
  refine j_g rfl (fun hb => qs_lens Tryz.underlying9 (gd_eq hb)) ?_
  refine j_g rfl (fun hb => qs_gtr (gd_eq hb) rfl) ?_
  refine j_q (qs_and rfl rfl) ?_
  refine j_g rfl (fun hb => qs_mt rfl) ?_
  refine j_g rfl (fun hb => qs_mt rfl) ?_
  refine j_g rfl (fun hb => qs_lens Tryz.underlying9 (gd_eq hb)) ?_
  refine j_g rfl (fun hb => qs_sub64 (gd_eq hb) rfl (by first | omega | (simp only [Bool.and_eq_true, Bool.or_eq_true, Bool.and_eq_false_iff, Bool.or_eq_false_iff, Bool.not_eq_true', Bool.not_eq_false', decide_eq_true_eq, decide_eq_false_iff_not, beq_iff_eq, beq_eq_false_iff_ne, bne_iff_ne, bne_eq_false_iff_eq, ne_eq, Int.toNat_natCast] at *; omega))) ?_
  refine j_g rfl (fun hb => qs_cuts (a := (spB p).length - 4) (z := (spB p).length) Tryz.underlying9 (gd_eq hb) ⟨.i64, (gd_eq hb).trans (congrArg (Value.int .i64) (by simp only [Bool.and_eq_true, Bool.or_eq_true, Bool.and_eq_false_iff, Bool.or_eq_false_iff, Bool.not_eq_true', Bool.not_eq_false', decide_eq_true_eq, decide_eq_false_iff_not, beq_iff_eq, beq_eq_false_iff_ne, bne_iff_ne, bne_eq_false_iff_eq, ne_eq, Int.toNat_natCast] at *; omega))⟩ rfl (by omega) (by omega)) ?_
  rw [List.take_length]
  refine j_g rfl (fun hb => qs_seql (l' := sDrv) (gd_eq hb) rfl) ?_
  refine j_q (qs_and rfl rfl) ?_
  refine j_ret_con (vs := [_]) (fun w' hw' => ⟨rfl, trivial⟩) ?_
  show Value.bool _ = _
  congr 1
  unfold spE spB isDrvP
  cases hp : isPath p
  · rfl
  · rw [if_pos rfl, if_pos rfl]
    have h : decide (((p.drop 33).length : Int) > 4) = decide (4 < (p.drop 33).length) := by
      rw [Bool.eq_iff_iff, decide_eq_true_eq, decide_eq_true_eq]
      omega
    rw [h]
    rfl
end Go.Proofs.YtfeabbeebkkhaaaGreat
