/- Locks by names: nil ones; the law LocksOfNothing. -/
import Derived.Test.YtlgfpoelhjlifaaTa
import Derived.Test.YtlgfpoelhjlifaaLk7
namespace Go.Proofs.Ytlgfpoelhjlifaa
open Go Go.Sx
set_option maxRecDepth 100000
set_option maxHeartbeats 4000000
set_option linter.unusedVariables false
set_option linter.unusedSimpArgs false
attribute [local irreducible] J JQ QS Con W opW
theorem ent9 : Sx.Enters Try.prog 9 := ⟨_, Try.func9, by kernel_rfl, by kernel_rfl⟩
theorem ent12 : Sx.Enters Try.prog 12 := ⟨_, Try.func12, by kernel_rfl, by kernel_rfl⟩
theorem ent13 : Sx.Enters Try.prog 13 := ⟨_, Try.func13, by kernel_rfl, by kernel_rfl⟩
theorem ent14 : Sx.Enters Try.prog 14 := ⟨_, Try.func14, by kernel_rfl, by kernel_rfl⟩
theorem ent18 : Sx.Enters Try.prog 18 := ⟨_, Try.func18, by kernel_rfl, by kernel_rfl⟩
theorem ent20 : Sx.Enters Try.prog 20 := ⟨_, Try.func20, by kernel_rfl, by kernel_rfl⟩
theorem ent29 : Sx.Enters Try.prog 29 := ⟨_, Try.func29, by kernel_rfl, by kernel_rfl⟩
theorem ent31 : Sx.Enters Try.prog 31 := ⟨_, Try.func31, by kernel_rfl, by kernel_rfl⟩
theorem ent37 : Sx.Enters Try.prog 37 := ⟨_, Try.func37, by kernel_rfl, by kernel_rfl⟩
theorem ent38 : Sx.Enters Try.prog 38 := ⟨_, Try.func38, by kernel_rfl, by kernel_rfl⟩
theorem ent39 : Sx.Enters Try.prog 39 := ⟨_, Try.func39, by kernel_rfl, by kernel_rfl⟩
theorem ent41 : Sx.Enters Try.prog 41 := ⟨_, Try.func41, by kernel_rfl, by kernel_rfl⟩
theorem ent42 : Sx.Enters Try.prog 42 := ⟨_, Try.func42, by kernel_rfl, by kernel_rfl⟩
theorem sb78 : (Try.prog.info? 78).map (fun i => (i.size, i.bytes)) = some (1, 8) := by kernel_rfl
theorem sz70 : (Try.prog.info? 70).map (·.size) = some 1 := by kernel_rfl
theorem sz75 : (Try.prog.info? 75).map (·.size) = some 1 := by kernel_rfl
theorem sz78 : (Try.prog.info? 78).map (·.size) = some 1 := by kernel_rfl
theorem sz88 : (Try.prog.info? 88).map (·.size) = some 3 := by kernel_rfl
theorem zero78 : zeroL Try.prog 78 = some ([.pointer none]) := by kernel_rfl
/-- (*pantry.locks.Table).Take -/
theorem takeN_con (w : World) (t : Int) (n : List UInt8) (s : Bool) : Con Try.prog 24 [.pointer none, .int .i64 t, .string (bs n), .bool s] w [] fun v _ => v = .tuple #[.bool false, .int .i64 1] := by
  refine con_of_tree mix Try.func24 T24_ok (by kernel_rfl) ?_
  unfold T24
  refine j_q (qs_ac) ?_
  refine j_q (qs_ac) ?_
  refine j_q (qs_pnil Try.underlying45 rfl) ?_
  refine j_gf rfl (by simp) ?_
  refine j_gf rfl (by simp) ?_
  refine j_q (qs_or (b0 := true) (b1 := false) rfl rfl) ?_
  refine j_cond rfl (fun hc0 => ?_) (fun hc0 => ?_)
  · skip
    refine j_q (qs_ac) ?_
    refine j_q (qs_ac) ?_
    refine j_ret_con (vs := [_, _]) (fun w' hw' => ⟨rfl, rfl, trivial⟩) ?_
    rfl
  · skip
    simp at hc0
/-- (*pantry.locks.Table).Give -/
theorem giveN_con (w : World) (t : Int) (n : List UInt8) : Con Try.prog 26 [.pointer none, .int .i64 t, .string (bs n)] w [] fun v _ => v = .tuple #[.slice none 0 0, .int .i64 1] := by
  refine con_of_tree mix Try.func26 T26_ok (by kernel_rfl) ?_
  unfold T26
  refine j_q (qs_ac) ?_
  refine j_q (qs_ac) ?_
  refine j_q (qs_pnil Try.underlying45 rfl) ?_
  refine j_cond rfl (fun hc0 => ?_) (fun hc0 => ?_)
  · skip
    refine j_q (qs_ac) ?_
    refine j_q (qs_ac) ?_
    refine j_ret_con (vs := [_, _]) (fun w' hw' => ⟨rfl, rfl, trivial⟩) ?_
    rfl
  · skip
    simp at hc0
/-- (*pantry.locks.Table).Waits -/
theorem waitsN_con (w : World) (t : Int) : Con Try.prog 31 [.pointer none, .int .i64 t] w [] fun v _ => v = .tuple #[.string (bs []), .bool false] := by
  refine con_of_tree mix Try.func31 T31_ok (by kernel_rfl) ?_
  unfold T31
  refine j_q (qs_ac) ?_
  refine j_q (qs_ac) ?_
  refine j_q (qs_pnil Try.underlying45 rfl) ?_
  refine j_cond rfl (fun hc0 => ?_) (fun hc0 => ?_)
  · skip
    refine j_q (qs_ac) ?_
    refine j_q (qs_ac) ?_
    refine j_ret_con (vs := [_, _]) (fun w' hw' => ⟨rfl, rfl, trivial⟩) ?_
    rfl
  · skip
    simp at hc0
/-- (*pantry.locks.Table).Holds -/
theorem holdsN_con (w : World) (t : Int) (n : List UInt8) : Con Try.prog 33 [.pointer none, .int .i64 t, .string (bs n)] w [] fun v _ => v = .bool false := by
  refine con_of_tree mix Try.func33 T33_ok (by kernel_rfl) ?_
  unfold T33
  refine j_q (qs_ac) ?_
  refine j_q (qs_pnil Try.underlying45 rfl) ?_
  refine j_gf rfl (by simp) ?_
  refine j_gf rfl (by simp) ?_
  refine j_gf rfl (by simp) ?_
  refine j_gf rfl (by simp) ?_
  refine j_gf rfl (by simp) ?_
  refine j_gf rfl (by simp) ?_
  refine j_gf rfl (by simp) ?_
  refine j_q (qs_or (b0 := true) (b1 := false) rfl rfl) ?_
  refine j_cond rfl (fun hc0 => ?_) (fun hc0 => ?_)
  · skip
    refine j_q (qs_ac) ?_
    refine j_ret_con (vs := [_]) (fun w' hw' => ⟨rfl, trivial⟩) ?_
    rfl
  · skip
    simp at hc0
/-- (*pantry.locks.Table).Leave -/
theorem leaveN_con (w : World) (t : Int) : Con Try.prog 29 [.pointer none, .int .i64 t] w [] fun v _ => v = .slice none 0 0 := by
  refine con_of_tree mix Try.func29 T29_ok (by kernel_rfl) ?_
  unfold T29
  refine j_box (l := [.int .i64 t]) rfl (fun g0 hg0 hs0 => ?_)
  refine j_q (qs_ac) ?_
  refine j_q (qs_pnil Try.underlying45 rfl) ?_
  refine j_cond rfl (fun hc0 => ?_) (fun hc0 => ?_)
  · skip
    refine j_q (qs_ac) ?_
    refine j_ret_con (vs := [_]) (fun w' hw' => ⟨rfl, trivial⟩) ?_
    rfl
  · skip
    simp at hc0
/-- (*pantry.locks.Run).Step -/
theorem stepN_con (w : World) (t : Int) : Con Try.prog 12 [.pointer none, .int .i64 t] w [] fun v _ => v = .tuple #[.int .i64 (-1), .bool false] := by
  refine con_of_tree mix Try.func12 T12_ok (by kernel_rfl) ?_
  unfold T12
  refine j_box (l := [.pointer none]) rfl (fun g0 hg0 hs0 => ?_)
  refine j_q (qs_ac) ?_
  refine j_q (qs_ac) ?_
  refine j_q (qs_load 0 Try.underlying23 rfl rfl rfl rfl) ?_
  refine j_q (qs_pnil Try.underlying23 rfl) ?_
  refine j_gf rfl (by simp) ?_
  refine j_gf rfl (by simp) ?_
  refine j_gf rfl (by simp) ?_
  refine j_gf rfl (by simp) ?_
  refine j_q (qs_or (b0 := true) (b1 := false) rfl rfl) ?_
  refine j_cond rfl (fun hc0 => ?_) (fun hc0 => ?_)
  · skip
    refine j_q (qs_ac) ?_
    refine j_q (qs_ac) ?_
    refine j_ret_con (vs := [_, _]) (fun w' hw' => ⟨rfl, rfl, trivial⟩) ?_
    rfl
  · skip
    simp at hc0
/-- (*pantry.locks.Run).Left -/
theorem leftN_con (w : World) : Con Try.prog 14 [.pointer none] w [] fun v _ => v = .tuple #[.int .i64 0, .int .i64 0] := by
  refine con_of_tree mix Try.func14 T14_ok (by kernel_rfl) ?_
  unfold T14
  refine j_q (qs_ac) ?_
  refine j_q (qs_ac) ?_
  refine j_q (qs_pnil Try.underlying23 rfl) ?_
  refine j_cond rfl (fun hc0 => ?_) (fun hc0 => ?_)
  · skip
    refine j_q (qs_ac) ?_
    refine j_q (qs_ac) ?_
    refine j_ret_con (vs := [_, _]) (fun w' hw' => ⟨rfl, rfl, trivial⟩) ?_
    rfl
  · skip
    simp at hc0
/-- (*pantry.locks.Run).Add -/
theorem addN_con (w : World) (fv : Value) : Con Try.prog 13 [.pointer none, fv] w [] fun v _ => v = .int .i64 (-1) := by
  refine con_of_tree mix Try.func13 T13_ok (by kernel_rfl) ?_
  unfold T13
  refine j_q (qs_ac) ?_
  refine j_q (qs_pnil Try.underlying23 rfl) ?_
  refine j_gf rfl (by simp) ?_
  refine j_gf rfl (by simp) ?_
  refine j_q (qs_or (b0 := true) (b1 := false) rfl rfl) ?_
  refine j_gf rfl (by simp) ?_
  refine j_gf rfl (by simp) ?_
  refine j_gf rfl (by simp) ?_
  refine j_gf rfl (by simp) ?_
  refine j_gf rfl (by simp) ?_
  refine j_q (qs_or (b0 := true) (b1 := false) rfl rfl) ?_
  refine j_cond rfl (fun hc0 => ?_) (fun hc0 => ?_)
  · skip
    refine j_q (qs_ac) ?_
    refine j_ret_con (vs := [_]) (fun w' hw' => ⟨rfl, trivial⟩) ?_
    rfl
  · skip
    simp at hc0
/-- (*pantry.locks.Run).of -/
theorem ofN_con (w : World) (t : Int) : Con Try.prog 42 [.pointer none, .int .i64 t] w [] fun v _ => v = .pointer none := by
  refine con_of_tree mix Try.func42 T42_ok (by kernel_rfl) ?_
  unfold T42
  refine j_q (qs_ac) ?_
  refine j_q (qs_pnil Try.underlying23 rfl) ?_
  refine j_gf rfl (by simp) ?_
  refine j_gf rfl (by simp) ?_
  refine j_q (qs_or (b0 := true) (b1 := false) rfl rfl) ?_
  refine j_gf rfl (by simp) ?_
  refine j_gf rfl (by simp) ?_
  refine j_gf rfl (by simp) ?_
  refine j_gf rfl (by simp) ?_
  refine j_gf rfl (by simp) ?_
  refine j_gf rfl (by simp) ?_
  refine j_gf rfl (by simp) ?_
  refine j_q (qs_or (b0 := true) (b1 := false) rfl rfl) ?_
  refine j_gf rfl (by simp) ?_
  refine j_gf rfl (by simp) ?_
  refine j_gf rfl (by simp) ?_
  refine j_gf rfl (by simp) ?_
  refine j_gf rfl (by simp) ?_
  refine j_gf rfl (by simp) ?_
  refine j_gf rfl (by simp) ?_
  refine j_gf rfl (by simp) ?_
  refine j_gf rfl (by simp) ?_
  refine j_gf rfl (by simp) ?_
  refine j_q (qs_or (b0 := true) (b1 := false) rfl rfl) ?_
  refine j_cond rfl (fun hc0 => ?_) (fun hc0 => ?_)
  · skip
    refine j_q (qs_ac) ?_
    refine j_ret_con (vs := [_]) (fun w' hw' => ⟨rfl, trivial⟩) ?_
    rfl
  · skip
    simp at hc0
/-- (*pantry.locks.Run).Block -/
theorem blockN_con (w : World) (t : Int) : Con Try.prog 18 [.pointer none, .int .i64 t] w [] fun v _ => v = .bool false := by
  refine con_of_tree mix Try.func18 T18_ok (by kernel_rfl) ?_
  unfold T18
  refine j_q (qs_ac) ?_
  refine j_q (qs_call ent42 rfl rfl rfl (fun w' hw' => ofN_con w' t)) ?_
  refine j_q (qs_pnnil Try.underlying78 rfl) ?_
  refine j_cond rfl (fun hc0 => ?_) (fun hc0 => ?_)
  · skip
    simp at hc0
  · skip
    refine j_q (qs_pnnil Try.underlying78 rfl) ?_
    refine j_ret_con (vs := [_]) (fun w' hw' => ⟨rfl, trivial⟩) ?_
    rfl
/-- (*pantry.locks.Run).Wake -/
theorem wakeN_con (w : World) (t : Int) : Con Try.prog 20 [.pointer none, .int .i64 t] w [] fun v _ => v = .bool false := by
  refine con_of_tree mix Try.func20 T20_ok (by kernel_rfl) ?_
  unfold T20
  refine j_q (qs_ac) ?_
  refine j_q (qs_call ent42 rfl rfl rfl (fun w' hw' => ofN_con w' t)) ?_
  refine j_q (qs_pnnil Try.underlying78 rfl) ?_
  refine j_cond rfl (fun hc0 => ?_) (fun hc0 => ?_)
  · skip
    simp at hc0
  · skip
    refine j_q (qs_pnnil Try.underlying78 rfl) ?_
    refine j_ret_con (vs := [_]) (fun w' hw' => ⟨rfl, trivial⟩) ?_
    rfl
/-- pantry.pantrylaw12.LocksOfNothing -/
theorem locksOfNothing_con (t : Int) (n : List UInt8) (w : World) (hn : n.length ≤ 9223372036854775807) : Con Try.prog 8 [.int .i64 t, .string (bs n)] w [] fun u _ => u = .bool true := by
  refine con_of_tree mix Try.func8 T8_ok (by kernel_rfl) ?_
  unfold T8
  refine j_q (qs_ac) ?_
  refine j_q (qs_lens Try.underlying9 rfl) ?_
  refine j_q (qs_gtr rfl rfl) ?_
  refine j_cond rfl (fun hc0 => ?_) (fun hc0 => ?_)
  · skip
    refine j_q (qs_ac) ?_
    refine j_ret_con (vs := [_]) (fun w' hw' => ⟨rfl, trivial⟩) ?_
    rfl
  · skip
    refine j_q (qs_ac) ?_
    refine j_q (qs_ac) ?_
    refine j_q (qs_call ent24 rfl rfl rfl (fun w' hw' => takeN_con w' t n true)) ?_
    refine j_q (qs_ext (vs := [.bool false, .int .i64 1]) rfl rfl) ?_
    refine j_q (qs_ext (vs := [.bool false, .int .i64 1]) rfl rfl) ?_
    refine j_q (qs_call ent26 rfl rfl rfl (fun w' hw' => giveN_con w' t n)) ?_
    refine j_q (qs_ext (vs := [.slice none 0 0, .int .i64 1]) rfl rfl) ?_
    refine j_q (qs_ext (vs := [.slice none 0 0, .int .i64 1]) rfl rfl) ?_
    refine j_q (qs_call ent31 rfl rfl rfl (fun w' hw' => waitsN_con w' t)) ?_
    refine j_q (qs_ext (vs := [.string (bs []), .bool false]) rfl rfl) ?_
    refine j_q (qs_ext (vs := [.string (bs []), .bool false]) rfl rfl) ?_
    refine j_q (qs_call ent12 rfl rfl rfl (fun w' hw' => stepN_con w' t)) ?_
    refine j_q (qs_ext (vs := [.int .i64 (-1), .bool false]) rfl rfl) ?_
    refine j_q (qs_ext (vs := [.int .i64 (-1), .bool false]) rfl rfl) ?_
    refine j_q (qs_call ent14 rfl rfl rfl (fun w' hw' => leftN_con w')) ?_
    refine j_q (qs_ext (vs := [.int .i64 0, .int .i64 0]) rfl rfl) ?_
    refine j_q (qs_ext (vs := [.int .i64 0, .int .i64 0]) rfl rfl) ?_
    refine j_q (qs_not rfl) ?_
    refine j_g rfl (fun hb => qs_mt rfl) ?_
    refine j_g rfl (fun hb => qs_eql (gd_eq hb) rfl) ?_
    refine j_q (qs_and rfl rfl) ?_
    refine j_g rfl (fun hb => qs_mt rfl) ?_
    refine j_g rfl (fun hb => qs_lenl Try.underlying36 (gd_eq hb)) ?_
    refine j_g rfl (fun hb => qs_eql (gd_eq hb) rfl) ?_
    refine j_q (qs_and rfl rfl) ?_
    refine j_g rfl (fun hb => qs_mt rfl) ?_
    refine j_g rfl (fun hb => qs_eql (gd_eq hb) rfl) ?_
    refine j_q (qs_and rfl rfl) ?_
    refine j_g rfl (fun hb => qs_mt rfl) ?_
    refine j_g rfl (fun hb => qs_mt rfl) ?_
    refine j_g rfl (fun hb => qs_call ent29 rfl rfl (args2 (gd_eq hb) (gd_eq hb)) (fun w' hw' => leaveN_con w' t)) ?_
    refine j_g rfl (fun hb => qs_lenl Try.underlying36 (gd_eq hb)) ?_
    refine j_g rfl (fun hb => qs_eql (gd_eq hb) rfl) ?_
    refine j_q (qs_and rfl rfl) ?_
    refine j_g rfl (fun hb => qs_mt rfl) ?_
    refine j_g rfl (fun hb => qs_mt rfl) ?_
    refine j_g rfl (fun hb => qs_mt rfl) ?_
    refine j_g rfl (fun hb => qs_call ent33 rfl rfl (args3 (gd_eq hb) (gd_eq hb) (gd_eq hb)) (fun w' hw' => holdsN_con w' t n)) ?_
    refine j_g rfl (fun hb => qs_not (gd_eq hb)) ?_
    refine j_q (qs_and rfl rfl) ?_
    refine j_g rfl (fun hb => qs_mt rfl) ?_
    refine j_g rfl (fun hb => qs_seql (gd_eq hb) rfl) ?_
    refine j_q (qs_and rfl rfl) ?_
    refine j_g rfl (fun hb => qs_mt rfl) ?_
    refine j_g rfl (fun hb => qs_not (gd_eq hb)) ?_
    refine j_q (qs_and rfl rfl) ?_
    refine j_g rfl (fun hb => qs_mt rfl) ?_
    refine j_g rfl (fun hb => qs_call ent13 rfl rfl (args2 (gd_eq hb) rfl) (fun w' hw' => addN_con w' _)) ?_
    refine j_g rfl (fun hb => qs_eql (gd_eq hb) rfl) ?_
    refine j_q (qs_and rfl rfl) ?_
    refine j_g rfl (fun hb => qs_mt rfl) ?_
    refine j_g rfl (fun hb => qs_eql (gd_eq hb) rfl) ?_
    refine j_q (qs_and rfl rfl) ?_
    refine j_g rfl (fun hb => qs_mt rfl) ?_
    refine j_g rfl (fun hb => qs_not (gd_eq hb)) ?_
    refine j_q (qs_and rfl rfl) ?_
    refine j_g rfl (fun hb => qs_mt rfl) ?_
    refine j_g rfl (fun hb => qs_mt rfl) ?_
    refine j_g rfl (fun hb => qs_call ent18 rfl rfl (args2 (gd_eq hb) (gd_eq hb)) (fun w' hw' => blockN_con w' t)) ?_
    refine j_g rfl (fun hb => qs_not (gd_eq hb)) ?_
    refine j_q (qs_and rfl rfl) ?_
    refine j_g rfl (fun hb => qs_mt rfl) ?_
    refine j_g rfl (fun hb => qs_mt rfl) ?_
    refine j_g rfl (fun hb => qs_call ent20 rfl rfl (args2 (gd_eq hb) (gd_eq hb)) (fun w' hw' => wakeN_con w' t)) ?_
    refine j_g rfl (fun hb => qs_not (gd_eq hb)) ?_
    refine j_q (qs_and rfl rfl) ?_
    refine j_g rfl (fun hb => qs_mt rfl) ?_
    refine j_g rfl (fun hb => qs_mt rfl) ?_
    refine j_g rfl (fun hb => qs_add64 (gd_eq hb) (gd_eq hb) (by first | omega | (simp only [Bool.and_eq_true, Bool.or_eq_true, Bool.and_eq_false_iff, Bool.or_eq_false_iff, Bool.not_eq_true', Bool.not_eq_false', decide_eq_true_eq, decide_eq_false_iff_not, beq_iff_eq, beq_eq_false_iff_ne, bne_iff_ne, bne_eq_false_iff_eq, ne_eq, Int.toNat_natCast] at *; omega))) ?_
    refine j_g rfl (fun hb => qs_eql (gd_eq hb) rfl) ?_
    refine j_q (qs_and rfl rfl) ?_
    refine j_g rfl (fun hb => qs_call ent9 rfl rfl (args0) (fun w' hw' => known_con w')) ?_
    refine j_q (qs_and rfl rfl) ?_
    refine j_ret_con (vs := [_]) (fun w' hw' => ⟨rfl, trivial⟩) ?_
    show Value.bool _ = _
    congr 1
end Go.Proofs.Ytlgfpoelhjlifaa
