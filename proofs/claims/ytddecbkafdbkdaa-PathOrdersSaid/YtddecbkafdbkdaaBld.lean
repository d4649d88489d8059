/- Package strings' Builder: what its methods do to it. -/
import Derived.Test.YtddecbkafdbkdaaTa
import Derived.Test.YtddecbkafdbkdaaSx12
import Derived.Test.YtddecbkafdbkdaaPath5
namespace Go.Proofs.Ytddecbkafdbkdaa
open Go Go.Sx
set_option maxRecDepth 100000
set_option maxHeartbeats 4000000
set_option linter.unusedVariables false
set_option linter.unusedSimpArgs false
attribute [local irreducible] J JQ QS Con W opW
theorem ent59 : Sx.Enters Try.prog 59 := ⟨_, Try.func59, by kernel_rfl, by kernel_rfl⟩
theorem sz48 : (Try.prog.info? 48).map (·.size) = some 1 := by kernel_rfl
theorem sz78 : (Try.prog.info? 78).map (·.size) = some 1 := by kernel_rfl
theorem sz80 : (Try.prog.info? 80).map (·.size) = some 2 := by kernel_rfl
/-- (*strings.Builder).copyCheck -/
theorem copyCheck_con (g : Nat) (A : Option Addr) (hA : A = none ∨ A = some ⟨g, 0, none⟩) (bv : Value) (w : World) : Con Try.prog 59 [.pointer (some ⟨g, 0, none⟩)] w [(g, .cells [.pointer A, bv].toArray 80 (0, 0))] fun v S' => v = .tuple #[] ∧ S' = [[(g, .cells [.pointer (some ⟨g, 0, none⟩), bv].toArray 80 (0, 0))]] := by
  refine con_of_tree mix Try.func59 T59_ok (by kernel_rfl) ?_
  unfold T59
  refine j_q (qs_nil rfl) ?_
  refine j_q (qs_field Try.underlying80 rfl sz78 (by decide) rfl) ?_
  refine j_q (qs_load 0 Try.underlying78 rfl rfl rfl rfl) ?_
  refine j_q (qs_pnil Try.underlying78 rfl) ?_
  refine j_cond rfl (fun hc0 => ?_) (fun hc0 => ?_)
  · skip
    obtain rfl : A = none := by simpa using hc0
    refine j_q (qs_tounsafe 0 Try.underlying78 Try.underlying98 sz80 (by decide) rfl rfl (by simp)) ?_
    refine j_q (qs_extern Try.func66 (by kernel_rfl) (by kernel_rfl) (by kernel_rfl) (e := Extern.AbiNoEscape.same) (by kernel_rfl) rfl rfl rfl (v := .pointer (some ⟨g, 0, none⟩)) (fun w => rfl)) ?_
    refine j_q (qs_fromunsafe 0 Try.underlying98 Try.underlying78 sz80 rfl rfl (by kernel_rfl)) ?_
    refine j_q (qs_nil rfl) ?_
    refine j_q (qs_field Try.underlying80 rfl sz78 (by decide) rfl) ?_
    refine j_store 0 sz78 rfl rfl rfl rfl (by simp) (by first | omega | (simp only [Bool.and_eq_true, Bool.or_eq_true, Bool.and_eq_false_iff, Bool.or_eq_false_iff, Bool.not_eq_true', Bool.not_eq_false', decide_eq_true_eq, decide_eq_false_iff_not, beq_iff_eq, beq_eq_false_iff_ne, bne_iff_ne, bne_eq_false_iff_eq, ne_eq, Int.toNat_natCast] at *; omega)) ?_
    refine j_ret_con (vs := []) (fun w' hw' => trivial) ?_
    exact ⟨rfl, rfl⟩
  · skip
    obtain rfl : A = some ⟨g, 0, none⟩ := hA.resolve_left (by rintro rfl; cases hc0)
    refine j_q (qs_nil rfl) ?_
    refine j_q (qs_field Try.underlying80 rfl sz78 (by decide) rfl) ?_
    refine j_q (qs_load 0 Try.underlying78 rfl rfl rfl rfl) ?_
    refine j_q (qs_psame Try.underlying78 sz80 rfl rfl) ?_
    refine j_cond rfl (fun hc1 => ?_) (fun hc1 => ?_)
    · skip
      cases hc1
    · skip
      refine j_ret_con (vs := []) (fun w' hw' => trivial) ?_
      exact ⟨rfl, rfl⟩
/-- (*strings.Builder).WriteString -/
theorem writeString_con (g : Nat) (A : Option Addr) (hA : A = none ∨ A = some ⟨g, 0, none⟩) (bv : Value) (c : SH) (l s : List UInt8) (ho : Sx.Own 5 1 (ints l) bv c) (hl : l.length + s.length ≤ 70368744177664) (w : World) : Con Try.prog 47 [.pointer (some ⟨g, 0, none⟩), .string (bs s)] w ((g, .cells [.pointer A, bv].toArray 80 (0, 0)) :: c) fun v S' => v = .tuple #[.int .i64 s.length, .nilIface] ∧ ∃ bv' c', S' = [(g, .cells [.pointer (some ⟨g, 0, none⟩), bv'].toArray 80 (0, 0)) :: c'] ∧ Sx.Own 5 1 (ints (l ++ s)) bv' c' := by
  refine con_of_tree mix Try.func47 T47_ok (by kernel_rfl) ?_
  unfold T47
  refine j_perm (S' := [[(g, .cells [.pointer A, bv].toArray 80 (0, 0))], c]) (by simp) ?_
  refine j_q (qs_ac) ?_
  refine j_q (qs_ac) ?_
  refine j_call 0 ent59 rfl rfl rfl rfl (fun w' hw' => copyCheck_con g A hA bv w') (fun u S2 hu => ?_)
  obtain ⟨rfl, rfl⟩ := hu
  refine j_q (qs_nil rfl) ?_
  refine j_q (qs_field Try.underlying80 rfl sz48 (by decide) rfl) ?_
  refine j_q (qs_load 0 Try.underlying48 rfl rfl rfl rfl) ?_
  refine j_append 2 Try.underlying48 Try.underlying9 (.inl rfl) sb5 zero5 rfl ho rfl (.inr (.inr ⟨s, rfl, rfl, rfl, rfl⟩)) ints_one ⟨(by rw [ints_length, ints_length]; omega), (by decide)⟩ (fun v6 c6 ho6 => ?_)
  rw [← ints_append] at ho6
  obtain ⟨n6, A6, cap6, rfl, hn6⟩ := own_form ho6 (by decide)
  refine j_q (qs_nil rfl) ?_
  refine j_q (qs_field Try.underlying80 rfl sz48 (by decide) rfl) ?_
  refine j_store 0 sz48 rfl rfl rfl rfl (by simp) (by first | omega | (simp only [Bool.and_eq_true, Bool.or_eq_true, Bool.and_eq_false_iff, Bool.or_eq_false_iff, Bool.not_eq_true', Bool.not_eq_false', decide_eq_true_eq, decide_eq_false_iff_not, beq_iff_eq, beq_eq_false_iff_ne, bne_iff_ne, bne_eq_false_iff_eq, ne_eq, Int.toNat_natCast] at *; omega)) ?_
  refine j_q (qs_lens Try.underlying9 rfl) ?_
  refine j_q (qs_ac) ?_
  refine j_perm (S' := [(g, .cells [.pointer (some ⟨g, 0, none⟩), .slice A6 n6 cap6].toArray 80 (0, 0)) :: c6]) (by simp; exact List.Perm.refl _) ?_
  refine j_ret_con (vs := [_, _]) (fun w' hw' => ⟨rfl, rfl, trivial⟩) ?_
  exact ⟨rfl, _, _, rfl, ho6⟩
/-- (*strings.Builder).String -/
theorem string_con (g : Nat) (A : Value) (bv : Value) (c : SH) (l : List UInt8) (h0 : l ≠ []) (hl : l.length ≤ 9223372036854775807) (ho : Sx.Own 5 1 (ints l) bv c) (w : World) : Con Try.prog 51 [.pointer (some ⟨g, 0, none⟩)] w ((g, .cells [A, bv].toArray 80 (0, 0)) :: c) fun v S' => v = .string (bs l) ∧ S' = [] := by
  refine con_of_tree mix Try.func51 T51_ok (by kernel_rfl) ?_
  unfold T51
  obtain ⟨g2, n, cap, rfl⟩ := own_some ho (by intro h; exact h0 (by simpa [ints] using h))
  obtain ⟨rest, fz, rfl, ho1, ho2, ho3, ho4⟩ := own_row ho
  have hn : n = l.length := by rw [ints_length] at ho1; omega
  have hl0 : 0 < l.length := List.length_pos_iff.2 h0
  subst hn
  refine j_perm (S' := [[(g, .cells [A, .slice (some ⟨g2, 0, none⟩) l.length cap].toArray 80 (0, 0))], [(g2, .cells (ints l ++ rest).toArray 5 fz)]]) (by simp) ?_
  refine j_q (qs_ac) ?_
  refine j_draw ?_
  refine jq_q (qs_nil rfl) ?_
  refine jq_q (qs_field Try.underlying80 rfl sz48 (by decide) rfl) ?_
  refine jq_q (qs_load 0 Try.underlying48 rfl rfl rfl rfl) ?_
  refine jq_q (qs_usd rfl (by omega)) ?_
  refine jq_q (qs_nil rfl) ?_
  refine jq_q (qs_field Try.underlying80 rfl sz48 (by decide) rfl) ?_
  refine jq_q (qs_load 0 Try.underlying48 rfl rfl rfl rfl) ?_
  refine jq_q (qs_lenl Try.underlying48 rfl) ?_
  refine jq_nil ?_
  refine j_ustr (l := l) (rest := rest) 1 Try.underlying96 (by kernel_rfl) rfl rfl rfl h0 hl ?_
  refine j_sub (S' := []) (by simp) ?_
  refine j_ret_con (vs := [_]) (fun w' hw' => ⟨rfl, trivial⟩) ?_
  exact ⟨rfl, rfl⟩
end Go.Proofs.Ytddecbkafdbkdaa
