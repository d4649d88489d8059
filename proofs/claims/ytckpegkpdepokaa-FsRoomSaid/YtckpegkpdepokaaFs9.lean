/- Files that forget: a nil one; two rows of bytes held against each other. -/
import Derived.Test.YtckpegkpdepokaaTa
import Derived.Test.YtckpegkpdepokaaFs8
namespace Go.Proofs.Ytckpegkpdepokaa
open Go Go.Sx
set_option maxRecDepth 100000
set_option maxHeartbeats 4000000
set_option linter.unusedVariables false
set_option linter.unusedSimpArgs false
attribute [local irreducible] J JQ QS Con W opW
theorem ent33 : Sx.Enters Try.prog 33 := ⟨_, Try.func33, by kernel_rfl, by kernel_rfl⟩
theorem ent41 : Sx.Enters Try.prog 41 := ⟨_, Try.func41, by kernel_rfl, by kernel_rfl⟩
theorem ent42 : Sx.Enters Try.prog 42 := ⟨_, Try.func42, by kernel_rfl, by kernel_rfl⟩
theorem ent43 : Sx.Enters Try.prog 43 := ⟨_, Try.func43, by kernel_rfl, by kernel_rfl⟩
theorem ent44 : Sx.Enters Try.prog 44 := ⟨_, Try.func44, by kernel_rfl, by kernel_rfl⟩
theorem ent48 : Sx.Enters Try.prog 48 := ⟨_, Try.func48, by kernel_rfl, by kernel_rfl⟩
theorem ent63 : Sx.Enters Try.prog 63 := ⟨_, Try.func63, by kernel_rfl, by kernel_rfl⟩
theorem sb9 : (Try.prog.info? 9).map (fun i => (i.size, i.bytes)) = some (1, 16) := by kernel_rfl
/-- (*pantry.fs.FS).may -/
theorem mayN_con (w : World) (v : Value) : Con Try.prog 32 [.pointer none, v] w [] fun v _ => v = .int .i64 1 := by
  refine con_of_tree mix Try.func32 T32_ok (by kernel_rfl) ?_
  unfold T32
  refine j_q (qs_ac) ?_
  refine j_q (qs_pnil Try.underlying25 rfl) ?_
  refine j_cond rfl (fun hc0 => ?_) (fun hc0 => ?_)
  · skip
    refine j_q (qs_ac) ?_
    refine j_ret_con (vs := [_]) (fun w' hw' => ⟨rfl, trivial⟩) ?_
    rfl
  · skip
    simp at hc0
/-- (*pantry.fs.FS).Fuse -/
theorem fuseN_con (w : World) (n : Int) : Con Try.prog 18 [.pointer none, .int .i64 n] w [] fun v _ => v = .tuple #[] := by
  refine con_of_tree mix Try.func18 T18_ok (by kernel_rfl) ?_
  unfold T18
  refine j_q (qs_pnnil Try.underlying25 rfl) ?_
  refine j_cond rfl (fun hc0 => ?_) (fun hc0 => ?_)
  · skip
    simp at hc0
  · skip
    refine j_ret_con (vs := []) (fun w' hw' => trivial) ?_
    rfl
/-- (*pantry.fs.FS).Crash -/
theorem crashN_con (w : World) (n : Int) : Con Try.prog 21 [.pointer none, .int .i64 n] w [] fun v _ => v = .tuple #[] := by
  refine con_of_tree mix Try.func21 T21_ok (by kernel_rfl) ?_
  unfold T21
  refine j_q (qs_pnil Try.underlying25 rfl) ?_
  refine j_cond rfl (fun hc0 => ?_) (fun hc0 => ?_)
  · skip
    refine j_ret_con (vs := []) (fun w' hw' => trivial) ?_
    rfl
  · skip
    simp at hc0
/-- (*pantry.fs.FS).Pending -/
theorem pendN_con (w : World) : Con Try.prog 25 [.pointer none] w [] fun v _ => v = .int .i64 0 := by
  refine con_of_tree mix Try.func25 T25_ok (by kernel_rfl) ?_
  unfold T25
  refine j_q (qs_ac) ?_
  refine j_q (qs_pnil Try.underlying25 rfl) ?_
  refine j_cond rfl (fun hc0 => ?_) (fun hc0 => ?_)
  · skip
    refine j_q (qs_ac) ?_
    refine j_ret_con (vs := [_]) (fun w' hw' => ⟨rfl, trivial⟩) ?_
    rfl
  · skip
    simp at hc0
/-- (*pantry.fs.FS).Copy -/
theorem copyN_con (w : World) : Con Try.prog 29 [.pointer none] w [] fun v _ => v = .pointer none := by
  refine con_of_tree mix Try.func29 T29_ok (by kernel_rfl) ?_
  unfold T29
  refine j_q (qs_ac) ?_
  refine j_q (qs_pnil Try.underlying25 rfl) ?_
  refine j_cond rfl (fun hc0 => ?_) (fun hc0 => ?_)
  · skip
    refine j_q (qs_ac) ?_
    refine j_ret_con (vs := [_]) (fun w' hw' => ⟨rfl, trivial⟩) ?_
    rfl
  · skip
    simp at hc0
/-- (*pantry.fs.FS).Used -/
theorem usedN_con (w : World) : Con Try.prog 12 [.pointer none] w [] fun v _ => v = .int .i64 0 := by
  refine con_of_tree mix Try.func12 T12_ok (by kernel_rfl) ?_
  unfold T12
  refine j_q (qs_ac) ?_
  refine j_q (qs_pnil Try.underlying25 rfl) ?_
  refine j_gf rfl (by simp) ?_
  refine j_gf rfl (by simp) ?_
  refine j_gf rfl (by simp) ?_
  refine j_gf rfl (by simp) ?_
  refine j_gf rfl (by simp) ?_
  refine j_q (qs_or (b0 := true) (b1 := false) rfl rfl) ?_
  refine j_cond rfl (fun hc0 => ?_) (fun hc0 => ?_)
  · skip
    refine j_q (qs_ac) ?_
    refine j_ret_con (vs := [_]) (fun w' hw' => ⟨rfl, trivial⟩) ?_
    rfl
  · skip
    simp at hc0
/-- (*pantry.fs.FS).Names -/
theorem namesN_con (w : World) (n : List UInt8) : Con Try.prog 19 [.pointer none, .string (bs n)] w [] fun v _ => v = .slice none 0 0 := by
  refine con_of_tree mix Try.func19 T19_ok (by kernel_rfl) ?_
  unfold T19
  refine j_q (qs_ac) ?_
  refine j_q (qs_pnil Try.underlying25 rfl) ?_
  refine j_gf rfl (by simp) ?_
  refine j_gf rfl (by simp) ?_
  refine j_gf rfl (by simp) ?_
  refine j_gf rfl (by simp) ?_
  refine j_gf rfl (by simp) ?_
  refine j_q (qs_or (b0 := true) (b1 := false) rfl rfl) ?_
  refine j_cond rfl (fun hc0 => ?_) (fun hc0 => ?_)
  · skip
    refine j_q (qs_ac) ?_
    refine j_ret_con (vs := [_]) (fun w' hw' => ⟨rfl, trivial⟩) ?_
    rfl
  · skip
    simp at hc0
/-- (*pantry.fs.FS).Read -/
theorem readN_con (w : World) (n : List UInt8) : Con Try.prog 11 [.pointer none, .string (bs n)] w [] fun v _ => v = .tuple #[.slice none 0 0, .int .i64 7] := by
  refine con_of_tree mix Try.func11 T11_ok (by kernel_rfl) ?_
  unfold T11
  refine j_q (qs_ac) ?_
  refine j_q (qs_ac) ?_
  refine j_q (qs_pnil Try.underlying25 rfl) ?_
  refine j_gf rfl (by simp) ?_
  refine j_gf rfl (by simp) ?_
  refine j_gf rfl (by simp) ?_
  refine j_gf rfl (by simp) ?_
  refine j_gf rfl (by simp) ?_
  refine j_q (qs_or (b0 := true) (b1 := false) rfl rfl) ?_
  refine j_gf rfl (by simp) ?_
  refine j_gf rfl (by simp) ?_
  refine j_gf rfl (by simp) ?_
  refine j_gf rfl (by simp) ?_
  refine j_gf rfl (by simp) ?_
  refine j_gf rfl (by simp) ?_
  refine j_gf rfl (by simp) ?_
  refine j_gf rfl (by simp) ?_
  refine j_gf rfl (by simp) ?_
  refine j_gf rfl (by simp) ?_
  refine j_q (qs_or (b0 := true) (b1 := false) rfl rfl) ?_
  refine j_cond rfl (fun hc0 => ?_) (fun hc0 => ?_)
  · skip
    refine j_q (qs_ac) ?_
    refine j_q (qs_ac) ?_
    refine j_ret_con (vs := [_, _]) (fun w' hw' => ⟨rfl, rfl, trivial⟩) ?_
    rfl
  · skip
    simp at hc0
/-- (*pantry.fs.FS).Node -/
theorem nodeN_con (w : World) (n : List UInt8) : Con Try.prog 17 [.pointer none, .string (bs n)] w [] fun v _ => v = .tuple #[.string (bs []), .int .i64 0] := by
  refine con_of_tree mix Try.func17 T17_ok (by kernel_rfl) ?_
  unfold T17
  refine j_q (qs_ac) ?_
  refine j_q (qs_ac) ?_
  refine j_q (qs_pnil Try.underlying25 rfl) ?_
  refine j_gf rfl (by simp) ?_
  refine j_gf rfl (by simp) ?_
  refine j_gf rfl (by simp) ?_
  refine j_gf rfl (by simp) ?_
  refine j_gf rfl (by simp) ?_
  refine j_q (qs_or (b0 := true) (b1 := false) rfl rfl) ?_
  refine j_gf rfl (by simp) ?_
  refine j_gf rfl (by simp) ?_
  refine j_gf rfl (by simp) ?_
  refine j_gf rfl (by simp) ?_
  refine j_gf rfl (by simp) ?_
  refine j_gf rfl (by simp) ?_
  refine j_gf rfl (by simp) ?_
  refine j_gf rfl (by simp) ?_
  refine j_gf rfl (by simp) ?_
  refine j_gf rfl (by simp) ?_
  refine j_q (qs_or (b0 := true) (b1 := false) rfl rfl) ?_
  refine j_cond rfl (fun hc0 => ?_) (fun hc0 => ?_)
  · skip
    refine j_q (qs_ac) ?_
    refine j_q (qs_ac) ?_
    refine j_ret_con (vs := [_, _]) (fun w' hw' => ⟨rfl, rfl, trivial⟩) ?_
    rfl
  · skip
    simp at hc0
/-- (*pantry.fs.FS).Write -/
theorem writeN_con (w : World) (n : List UInt8) (bv : Value) (xs : List UInt8) (hbr : BR w bv xs) : Con Try.prog 13 [.pointer none, .string (bs n), bv] w [] fun v _ => v = .int .i64 1 := by
  refine con_of_tree mix Try.func13 T13_ok (by kernel_rfl) ?_
  unfold T13
  obtain ⟨A, cap, hbv, hcap⟩ := br_form hbr
  refine j_box (l := [.string (bs n)]) rfl (fun g0 hg0 hs0 => ?_)
  refine j_box (l := [bv]) (by show bv.cells = #[bv]; rw [hbv]; rfl) (fun g1 hg1 hs1 => ?_)
  refine j_q (qs_ac) ?_
  refine j_q (qs_load (l := [.string (bs n)]) 1 Try.underlying9 rfl rfl rfl rfl) ?_
  refine j_lit (vs := [.string (bs _)]) Try.underlying41 sz9 zero9 rfl (by simp [oneV]) ⟨rfl, by decide⟩ (fun g4 v4 c4 hv4 hc4 ho4 => ?_)
  subst hv4 hc4
  refine j_q (qs_call ent32 rfl rfl rfl (fun w' hw' => mayN_con w' _)) ?_
  refine j_q (qs_neq rfl rfl) ?_
  refine j_cond rfl (fun hc0 => ?_) (fun hc0 => ?_)
  · skip
    refine j_ret_con (vs := [_]) (fun w' hw' => ⟨rfl, trivial⟩) ?_
    rfl
  · skip
    simp at hc0
/-- (*pantry.fs.FS).Append -/
theorem appendN_con (w : World) (n : List UInt8) (bv : Value) (xs : List UInt8) (hbr : BR w bv xs) : Con Try.prog 16 [.pointer none, .string (bs n), bv] w [] fun v _ => v = .int .i64 1 := by
  refine con_of_tree mix Try.func16 T16_ok (by kernel_rfl) ?_
  unfold T16
  obtain ⟨A, cap, hbv, hcap⟩ := br_form hbr
  refine j_box (l := [.string (bs n)]) rfl (fun g0 hg0 hs0 => ?_)
  refine j_box (l := [bv]) (by show bv.cells = #[bv]; rw [hbv]; rfl) (fun g1 hg1 hs1 => ?_)
  refine j_q (qs_ac) ?_
  refine j_q (qs_load (l := [.string (bs n)]) 1 Try.underlying9 rfl rfl rfl rfl) ?_
  refine j_lit (vs := [.string (bs _)]) Try.underlying41 sz9 zero9 rfl (by simp [oneV]) ⟨rfl, by decide⟩ (fun g4 v4 c4 hv4 hc4 ho4 => ?_)
  subst hv4 hc4
  refine j_q (qs_call ent32 rfl rfl rfl (fun w' hw' => mayN_con w' _)) ?_
  refine j_q (qs_neq rfl rfl) ?_
  refine j_cond rfl (fun hc0 => ?_) (fun hc0 => ?_)
  · skip
    refine j_ret_con (vs := [_]) (fun w' hw' => ⟨rfl, trivial⟩) ?_
    rfl
  · skip
    simp at hc0
/-- (*pantry.fs.FS).Link -/
theorem linkN_con (w : World) (n m : List UInt8) : Con Try.prog 15 [.pointer none, .string (bs n), .string (bs m)] w [] fun v _ => v = .int .i64 1 := by
  refine con_of_tree mix Try.func15 T15_ok (by kernel_rfl) ?_
  unfold T15
  refine j_box (l := [.string (bs n)]) rfl (fun g0 hg0 hs0 => ?_)
  refine j_box (l := [.string (bs m)]) rfl (fun g1 hg1 hs1 => ?_)
  refine j_q (qs_ac) ?_
  refine j_q (qs_load (l := [.string (bs n)]) 1 Try.underlying9 rfl rfl rfl rfl) ?_
  refine j_q (qs_load (l := [.string (bs m)]) 0 Try.underlying9 rfl rfl rfl rfl) ?_
  refine j_lit (vs := [.string (bs _), .string (bs _)]) Try.underlying41 sz9 zero9 rfl (by simp [oneV]) ⟨rfl, by decide⟩ (fun g5 v5 c5 hv5 hc5 ho5 => ?_)
  subst hv5 hc5
  refine j_q (qs_call ent32 rfl rfl rfl (fun w' hw' => mayN_con w' _)) ?_
  refine j_q (qs_neq rfl rfl) ?_
  refine j_cond rfl (fun hc0 => ?_) (fun hc0 => ?_)
  · skip
    refine j_ret_con (vs := [_]) (fun w' hw' => ⟨rfl, trivial⟩) ?_
    rfl
  · skip
    simp at hc0
/-- (*pantry.fs.FS).Rename -/
theorem renameN_con (w : World) (n m : List UInt8) : Con Try.prog 27 [.pointer none, .string (bs n), .string (bs m)] w [] fun v _ => v = .int .i64 1 := by
  refine con_of_tree mix Try.func27 T27_ok (by kernel_rfl) ?_
  unfold T27
  refine j_box (l := [.string (bs n)]) rfl (fun g0 hg0 hs0 => ?_)
  refine j_box (l := [.string (bs m)]) rfl (fun g1 hg1 hs1 => ?_)
  refine j_q (qs_ac) ?_
  refine j_q (qs_load (l := [.string (bs n)]) 1 Try.underlying9 rfl rfl rfl rfl) ?_
  refine j_q (qs_load (l := [.string (bs m)]) 0 Try.underlying9 rfl rfl rfl rfl) ?_
  refine j_lit (vs := [.string (bs _), .string (bs _)]) Try.underlying41 sz9 zero9 rfl (by simp [oneV]) ⟨rfl, by decide⟩ (fun g5 v5 c5 hv5 hc5 ho5 => ?_)
  subst hv5 hc5
  refine j_q (qs_call ent32 rfl rfl rfl (fun w' hw' => mayN_con w' _)) ?_
  refine j_q (qs_neq rfl rfl) ?_
  refine j_cond rfl (fun hc0 => ?_) (fun hc0 => ?_)
  · skip
    refine j_ret_con (vs := [_]) (fun w' hw' => ⟨rfl, trivial⟩) ?_
    rfl
  · skip
    simp at hc0
/-- (*pantry.fs.FS).Remove -/
theorem removeN_con (w : World) (n : List UInt8) : Con Try.prog 28 [.pointer none, .string (bs n)] w [] fun v _ => v = .int .i64 1 := by
  refine con_of_tree mix Try.func28 T28_ok (by kernel_rfl) ?_
  unfold T28
  refine j_box (l := [.string (bs n)]) rfl (fun g0 hg0 hs0 => ?_)
  refine j_q (qs_ac) ?_
  refine j_q (qs_load (l := [.string (bs n)]) 0 Try.underlying9 rfl rfl rfl rfl) ?_
  refine j_lit (vs := [.string (bs _)]) Try.underlying41 sz9 zero9 rfl (by simp [oneV]) ⟨rfl, by decide⟩ (fun g3 v3 c3 hv3 hc3 ho3 => ?_)
  subst hv3 hc3
  refine j_q (qs_call ent32 rfl rfl rfl (fun w' hw' => mayN_con w' _)) ?_
  refine j_q (qs_neq rfl rfl) ?_
  refine j_cond rfl (fun hc0 => ?_) (fun hc0 => ?_)
  · skip
    refine j_ret_con (vs := [_]) (fun w' hw' => ⟨rfl, trivial⟩) ?_
    rfl
  · skip
    simp at hc0
/-- (*pantry.fs.FS).Sync -/
theorem syncN_con (w : World) : Con Try.prog 20 [.pointer none] w [] fun v _ => v = .int .i64 1 := by
  refine con_of_tree mix Try.func20 T20_ok (by kernel_rfl) ?_
  unfold T20
  refine j_q (qs_ac) ?_
  refine j_q (qs_call ent32 rfl rfl rfl (fun w' hw' => mayN_con w' _)) ?_
  refine j_q (qs_neq rfl rfl) ?_
  refine j_cond rfl (fun hc0 => ?_) (fun hc0 => ?_)
  · skip
    refine j_ret_con (vs := [_]) (fun w' hw' => ⟨rfl, trivial⟩) ?_
    rfl
  · skip
    simp at hc0
/-- pantry.pantrylaw7.same -/
theorem same_con (xs ys : List UInt8) (v1 v2 : Value) (w : World) (h1 : BR w v1 xs) (h2 : BR w v2 ys) (hl : xs.length ≤ 1000000000) : Con Try.prog 14 [v1, v2] w [] fun u _ => u = .bool (xs == ys) := by
  refine con_of_tree mix Try.func14 T14_ok (by kernel_rfl) ?_
  unfold T14
  obtain ⟨A1, c1, hv1, hc1'⟩ := br_form h1
  obtain ⟨A2, c2, hv2, hc2'⟩ := br_form h2
  subst hv1 hv2
  refine j_q (qs_ac) ?_
  refine j_q (qs_lenl Try.underlying23 rfl) ?_
  refine j_q (qs_lenl Try.underlying23 rfl) ?_
  refine j_q (qs_neq rfl rfl) ?_
  refine j_cond rfl (fun hc0 => ?_) (fun hc0 => ?_)
  · skip
    have hne : xs.length ≠ ys.length := by
      simp only [Bool.and_eq_true, Bool.or_eq_true, Bool.and_eq_false_iff, Bool.or_eq_false_iff, Bool.not_eq_true', Bool.not_eq_false', decide_eq_true_eq, decide_eq_false_iff_not, beq_iff_eq, beq_eq_false_iff_ne, bne_iff_ne, bne_eq_false_iff_eq, ne_eq, Int.toNat_natCast] at *
      omega
    refine j_q (qs_ac) ?_
    refine j_ret_con (vs := [_]) (fun w' hw' => ⟨rfl, trivial⟩) ?_
    show Value.bool _ = _
    congr 1
    symm
    rw [beq_eq_false_iff_ne]
    exact fun e => hne (by rw [e])
  · skip
    have heq : xs.length = ys.length := by
      simp only [Bool.and_eq_true, Bool.or_eq_true, Bool.and_eq_false_iff, Bool.or_eq_false_iff, Bool.not_eq_true', Bool.not_eq_false', decide_eq_true_eq, decide_eq_false_iff_not, beq_iff_eq, beq_eq_false_iff_ne, bne_iff_ne, bne_eq_false_iff_eq, ne_eq, Int.toNat_natCast] at *
      omega
    refine j_q (qs_ac) ?_
    refine j_loop (fun m vs S' => ∃ i : Nat, vs = [.int .i64 (i : Int)] ∧ S' = [[]] ∧ (∀ j, j < i → xs.getD j 0 = ys.getD j 0) ∧ i ≤ xs.length ∧ m = xs.length - i) ⟨_, 0, rfl, rfl, (fun j hj => by omega), Nat.zero_le _, rfl⟩ ?_
    rintro m vs S' hlen ⟨i, rfl, rfl, hall, hin, rfl⟩
    refine j_q (qs_lenl Try.underlying23 rfl) ?_
    refine j_q (qs_lss rfl rfl) ?_
    refine j_cond rfl (fun hc1 => ?_) (fun hc1 => ?_)
    · skip
      have hi : i < xs.length := by
        simp only [Bool.and_eq_true, Bool.or_eq_true, Bool.and_eq_false_iff, Bool.or_eq_false_iff, Bool.not_eq_true', Bool.not_eq_false', decide_eq_true_eq, decide_eq_false_iff_not, beq_iff_eq, beq_eq_false_iff_ne, bne_iff_ne, bne_eq_false_iff_eq, ne_eq, Int.toNat_natCast] at *
        omega
      have hi2 : i < ys.length := by omega
      obtain ⟨a1, rfl, hcl1⟩ : ∃ a, A1 = some a ∧ Cells w a (ints xs) := by
        rcases h1 with ⟨_, e⟩ | ⟨a, c, e, _, _, hcc⟩
        · rw [e] at hi; simp at hi
        · injection e with e1
          exact ⟨a, e1, hcc⟩
      obtain ⟨a2, rfl, hcl2⟩ : ∃ a, A2 = some a ∧ Cells w a (ints ys) := by
        rcases h2 with ⟨_, e⟩ | ⟨a, c, e, _, _, hcc⟩
        · rw [e] at hi2; simp at hi2
        · injection e with e1
          exact ⟨a, e1, hcc⟩
      refine j_draw ?_
      refine jq_q (qs_ixl0 Try.underlying23 sz5 rfl rfl ⟨(by first | omega | (simp only [Bool.and_eq_true, Bool.or_eq_true, Bool.and_eq_false_iff, Bool.or_eq_false_iff, Bool.not_eq_true', Bool.not_eq_false', decide_eq_true_eq, decide_eq_false_iff_not, beq_iff_eq, beq_eq_false_iff_ne, bne_iff_ne, bne_eq_false_iff_eq, ne_eq, Int.toNat_natCast] at *; omega)), (by first | omega | (simp only [Bool.and_eq_true, Bool.or_eq_true, Bool.and_eq_false_iff, Bool.or_eq_false_iff, Bool.not_eq_true', Bool.not_eq_false', decide_eq_true_eq, decide_eq_false_iff_not, beq_iff_eq, beq_eq_false_iff_ne, bne_iff_ne, bne_eq_false_iff_eq, ne_eq, Int.toNat_natCast] at *; omega))⟩) ?_
      refine jq_q (qs_loadR (v := .int .u8 ((xs.getD i 0).toNat : Int)) (a := a1) (i := i) (rd_cells hcl1 (by simp)) Try.underlying5 rfl (by show Value.pointer (some (Addr.add a1 (i : Int).toNat)) = _; rw [Int.toNat_natCast]) (ints_get_lt hi)) ?_
      refine jq_q (qs_ixl0 Try.underlying23 sz5 rfl rfl ⟨(by first | omega | (simp only [Bool.and_eq_true, Bool.or_eq_true, Bool.and_eq_false_iff, Bool.or_eq_false_iff, Bool.not_eq_true', Bool.not_eq_false', decide_eq_true_eq, decide_eq_false_iff_not, beq_iff_eq, beq_eq_false_iff_ne, bne_iff_ne, bne_eq_false_iff_eq, ne_eq, Int.toNat_natCast] at *; omega)), (by first | omega | (simp only [Bool.and_eq_true, Bool.or_eq_true, Bool.and_eq_false_iff, Bool.or_eq_false_iff, Bool.not_eq_true', Bool.not_eq_false', decide_eq_true_eq, decide_eq_false_iff_not, beq_iff_eq, beq_eq_false_iff_ne, bne_iff_ne, bne_eq_false_iff_eq, ne_eq, Int.toNat_natCast] at *; omega))⟩) ?_
      refine jq_q (qs_loadR (v := .int .u8 ((ys.getD i 0).toNat : Int)) (a := a2) (i := i) (rd_cells hcl2 (by simp)) Try.underlying5 rfl (by show Value.pointer (some (Addr.add a2 (i : Int).toNat)) = _; rw [Int.toNat_natCast]) (ints_get_lt hi2)) ?_
      refine jq_q (qs_neq rfl rfl) ?_
      refine jq_nil ?_
      refine j_cond rfl (fun hc2 => ?_) (fun hc2 => ?_)
      · skip
        have hd : xs.getD i 0 ≠ ys.getD i 0 := fun e => by rw [e] at hc2; simp at hc2
        refine j_q (qs_ac) ?_
        refine j_ret_con (vs := [_]) (fun w' hw' => ⟨rfl, trivial⟩) ?_
        show Value.bool _ = _
        congr 1
        symm
        rw [beq_eq_false_iff_ne]
        exact fun e => hd (by rw [e])
      · skip
        have hd : xs.getD i 0 = ys.getD i 0 := by
          have h3 : ((xs.getD i 0).toNat : Int) = ((ys.getD i 0).toNat : Int) := by simpa using hc2
          exact UInt8.toNat_inj.1 (by omega)
        refine j_q (qs_add64 rfl rfl (by first | omega | (simp only [Bool.and_eq_true, Bool.or_eq_true, Bool.and_eq_false_iff, Bool.or_eq_false_iff, Bool.not_eq_true', Bool.not_eq_false', decide_eq_true_eq, decide_eq_false_iff_not, beq_iff_eq, beq_eq_false_iff_ne, bne_iff_ne, bne_eq_false_iff_eq, ne_eq, Int.toNat_natCast] at *; omega))) ?_
        refine j_back rfl ?_
        exact ⟨xs.length - (i + 1), by omega, i + 1, rfl, rfl, fun j hj => by
          rcases Nat.lt_or_ge j i with h | h
          · exact hall j h
          · obtain rfl : j = i := by omega
            exact hd, by omega, rfl⟩
    · skip
      have hi : i = xs.length := by
        simp only [Bool.and_eq_true, Bool.or_eq_true, Bool.and_eq_false_iff, Bool.or_eq_false_iff, Bool.not_eq_true', Bool.not_eq_false', decide_eq_true_eq, decide_eq_false_iff_not, beq_iff_eq, beq_eq_false_iff_ne, bne_iff_ne, bne_eq_false_iff_eq, ne_eq, Int.toNat_natCast] at *
        omega
      refine j_q (qs_ac) ?_
      refine j_ret_con (vs := [_]) (fun w' hw' => ⟨rfl, trivial⟩) ?_
      show Value.bool _ = _
      congr 1
      symm
      rw [beq_iff_eq]
      apply List.ext_getElem heq
      intro j h3 h4
      have h5 := hall j (by omega)
      rw [List.getD_eq_getElem?_getD, List.getD_eq_getElem?_getD, List.getElem?_eq_getElem h3, List.getElem?_eq_getElem h4] at h5
      simpa using h5
end Go.Proofs.Ytckpegkpdepokaa
