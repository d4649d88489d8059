/- Package strings' Builder: what its methods do to it. -/
import Derived.Test.YtfeabbeebkkhaaaGreatTa
import Derived.Test.YtfeabbeebkkhaaaGreatSx12
import Derived.Test.YtfeabbeebkkhaaaGreatSpl
namespace Go.Proofs.YtfeabbeebkkhaaaGreat
open Go Go.Sx
set_option maxRecDepth 100000
set_option maxHeartbeats 4000000
set_option linter.unusedVariables false
set_option linter.unusedSimpArgs false
attribute [local irreducible] J JQ QS Con W opW
theorem ent143 : Sx.Enters Tryz.prog 143 := ⟨_, Tryz.func143, by kernel_rfl, by kernel_rfl⟩
theorem sz46 : (Tryz.prog.info? 46).map (·.size) = some 1 := by kernel_rfl
theorem sz167 : (Tryz.prog.info? 167).map (·.size) = some 1 := by kernel_rfl
theorem sz169 : (Tryz.prog.info? 169).map (·.size) = some 2 := by kernel_rfl
/-- (*strings.Builder).copyCheck -/
theorem copyCheck_con (g : Nat) (A : Option Addr) (hA : A = none ∨ A = some ⟨g, 0, none⟩) (bv : Value) (w : World) : Con Tryz.prog 143 [.pointer (some ⟨g, 0, none⟩)] w [(g, .cells [.pointer A, bv].toArray 169 (0, 0))] fun v S' => v = .tuple #[] ∧ S' = [[(g, .cells [.pointer (some ⟨g, 0, none⟩), bv].toArray 169 (0, 0))]] := by
  refine con_of_tree mix Tryz.func143 T143_ok (by kernel_rfl) ?_
  unfold T143
  refine j_q (qs_nil rfl) ?_
  refine j_q (qs_field Tryz.underlying169 rfl sz167 (by decide) rfl) ?_
  refine j_q (qs_load 0 Tryz.underlying167 rfl rfl rfl rfl) ?_
  refine j_q (qs_pnil Tryz.underlying167 rfl) ?_
  refine j_cond rfl (fun hc0 => ?_) (fun hc0 => ?_)
  · skip
    obtain rfl : A = none := by simpa using hc0
    refine j_q (qs_tounsafe 0 Tryz.underlying167 Tryz.underlying223 sz169 (by decide) rfl rfl (by simp)) ?_
    refine j_q (qs_extern Tryz.func164 (by kernel_rfl) (by kernel_rfl) (by kernel_rfl) (e := Extern.AbiNoEscape.same) (by kernel_rfl) rfl rfl rfl (v := .pointer (some ⟨g, 0, none⟩)) (fun w => rfl)) ?_
    refine j_q (qs_fromunsafe 0 Tryz.underlying223 Tryz.underlying167 sz169 rfl rfl (by kernel_rfl)) ?_
    refine j_q (qs_nil rfl) ?_
    refine j_q (qs_field Tryz.underlying169 rfl sz167 (by decide) rfl) ?_
    refine j_store 0 sz167 rfl rfl rfl rfl (by simp) (by first | omega | (simp only [Bool.and_eq_true, Bool.or_eq_true, Bool.and_eq_false_iff, Bool.or_eq_false_iff, Bool.not_eq_true', Bool.not_eq_false', decide_eq_true_eq, decide_eq_false_iff_not, beq_iff_eq, beq_eq_false_iff_ne, bne_iff_ne, bne_eq_false_iff_eq, ne_eq, Int.toNat_natCast] at *; omega)) ?_
    refine j_ret_con (vs := []) (fun w' hw' => trivial) ?_
    exact ⟨rfl, rfl⟩
  · skip
    obtain rfl : A = some ⟨g, 0, none⟩ := hA.resolve_left (by rintro rfl; cases hc0)
    refine j_q (qs_nil rfl) ?_
    refine j_q (qs_field Tryz.underlying169 rfl sz167 (by decide) rfl) ?_
    refine j_q (qs_load 0 Tryz.underlying167 rfl rfl rfl rfl) ?_
    refine j_q (qs_psame Tryz.underlying167 sz169 rfl rfl) ?_
    refine j_cond rfl (fun hc1 => ?_) (fun hc1 => ?_)
    · skip
      cases hc1
    · skip
      refine j_ret_con (vs := []) (fun w' hw' => trivial) ?_
      exact ⟨rfl, rfl⟩
/-- (*strings.Builder).WriteString -/
theorem writeString_con (g : Nat) (A : Option Addr) (hA : A = none ∨ A = some ⟨g, 0, none⟩) (bv : Value) (c : SH) (l s : List UInt8) (ho : Sx.Own 5 1 (ints l) bv c) (hl : l.length + s.length ≤ 70368744177664) (w : World) : Con Tryz.prog 115 [.pointer (some ⟨g, 0, none⟩), .string (bs s)] w ((g, .cells [.pointer A, bv].toArray 169 (0, 0)) :: c) fun v S' => v = .tuple #[.int .i64 s.length, .nilIface] ∧ ∃ bv' c', S' = [(g, .cells [.pointer (some ⟨g, 0, none⟩), bv'].toArray 169 (0, 0)) :: c'] ∧ Sx.Own 5 1 (ints (l ++ s)) bv' c' := by
  refine con_of_tree mix Tryz.func115 T115_ok (by kernel_rfl) ?_
  unfold T115
  refine j_perm (S' := [[(g, .cells [.pointer A, bv].toArray 169 (0, 0))], c]) (by simp) ?_
  refine j_q (qs_ac) ?_
  refine j_q (qs_ac) ?_
  refine j_call 0 ent143 rfl rfl rfl rfl (fun w' hw' => copyCheck_con g A hA bv w') (fun u S2 hu => ?_)
  obtain ⟨rfl, rfl⟩ := hu
  refine j_q (qs_nil rfl) ?_
  refine j_q (qs_field Tryz.underlying169 rfl sz46 (by decide) rfl) ?_
  refine j_q (qs_load 0 Tryz.underlying46 rfl rfl rfl rfl) ?_
  refine j_append 2 Tryz.underlying46 Tryz.underlying9 (.inl rfl) sb5 zero5 rfl ho rfl (.inr (.inr ⟨s, rfl, rfl, rfl, rfl⟩)) ints_one ⟨(by rw [ints_length, ints_length]; omega), (by decide)⟩ (fun v6 c6 ho6 => ?_)
  rw [← ints_append] at ho6
  obtain ⟨n6, A6, cap6, rfl, hn6⟩ := own_form ho6 (by decide)
  refine j_q (qs_nil rfl) ?_
  refine j_q (qs_field Tryz.underlying169 rfl sz46 (by decide) rfl) ?_
  refine j_store 0 sz46 rfl rfl rfl rfl (by simp) (by first | omega | (simp only [Bool.and_eq_true, Bool.or_eq_true, Bool.and_eq_false_iff, Bool.or_eq_false_iff, Bool.not_eq_true', Bool.not_eq_false', decide_eq_true_eq, decide_eq_false_iff_not, beq_iff_eq, beq_eq_false_iff_ne, bne_iff_ne, bne_eq_false_iff_eq, ne_eq, Int.toNat_natCast] at *; omega)) ?_
  refine j_q (qs_lens Tryz.underlying9 rfl) ?_
  refine j_q (qs_ac) ?_
  refine j_perm (S' := [(g, .cells [.pointer (some ⟨g, 0, none⟩), .slice A6 n6 cap6].toArray 169 (0, 0)) :: c6]) (by simp; exact List.Perm.refl _) ?_
  refine j_ret_con (vs := [_, _]) (fun w' hw' => ⟨rfl, rfl, trivial⟩) ?_
  exact ⟨rfl, _, _, rfl, ho6⟩
/-- (*strings.Builder).String -/
theorem string_con (g : Nat) (A : Value) (bv : Value) (c : SH) (l : List UInt8) (h0 : l ≠ []) (hl : l.length ≤ 9223372036854775807) (ho : Sx.Own 5 1 (ints l) bv c) (w : World) : Con Tryz.prog 117 [.pointer (some ⟨g, 0, none⟩)] w ((g, .cells [A, bv].toArray 169 (0, 0)) :: c) fun v S' => v = .string (bs l) ∧ S' = [] := by
  refine con_of_tree mix Tryz.func117 T117_ok (by kernel_rfl) ?_
  unfold T117
  obtain ⟨g2, n, cap, rfl⟩ := own_some ho (by intro h; exact h0 (by simpa [ints] using h))
  obtain ⟨rest, fz, rfl, ho1, ho2, ho3, ho4⟩ := own_row ho
  have hn : n = l.length := by rw [ints_length] at ho1; omega
  have hl0 : 0 < l.length := List.length_pos_iff.2 h0
  subst hn
  refine j_perm (S' := [[(g, .cells [A, .slice (some ⟨g2, 0, none⟩) l.length cap].toArray 169 (0, 0))], [(g2, .cells (ints l ++ rest).toArray 5 fz)]]) (by simp) ?_
  refine j_q (qs_ac) ?_
  refine j_mix _ (.refl _) ?_
  refine j_mq (qs_nil rfl) ?_
  refine j_mq (qs_field Tryz.underlying169 rfl sz46 (by decide) rfl) ?_
  refine j_mq (qs_load 0 Tryz.underlying46 rfl rfl rfl rfl) ?_
  refine j_mq (qs_nil rfl) ?_
  refine j_mq (qs_field Tryz.underlying169 rfl sz46 (by decide) rfl) ?_
  refine j_mq (qs_load 0 Tryz.underlying46 rfl rfl rfl rfl) ?_
  refine j_mq (qs_lenl Tryz.underlying46 rfl) ?_
  refine j_q (qs_usd rfl (by omega)) ?_
  refine j_mD0 (Le.of_sub (by repeat first | exact List.Sublist.refl _ | exact List.nil_sublist _ | apply List.Sublist.cons_cons | apply List.Sublist.cons)) ?_
  refine j_ustr (l := l) (rest := rest) 1 Tryz.underlying196 (by kernel_rfl) rfl rfl rfl h0 hl ?_
  refine j_mR _ (.refl _) ?_
  refine j_mend ?_
  refine j_sub (S' := []) (by simp) ?_
  refine j_ret_con (vs := [_]) (fun w' hw' => ⟨rfl, trivial⟩) ?_
  exact ⟨rfl, rfl⟩
/-- (*strings.Builder).WriteByte -/
theorem writeByte_con (g : Nat) (A : Option Addr) (hA : A = none ∨ A = some ⟨g, 0, none⟩) (bv : Value) (c : SH) (l : List UInt8) (s : Int) (hs : 0 ≤ s ∧ s ≤ 255) (ho : Sx.Own 5 1 (ints l) bv c) (hl : l.length + 1 ≤ 70368744177664) (w : World) : Con Tryz.prog 116 [.pointer (some ⟨g, 0, none⟩), .int .u8 s] w ((g, .cells [.pointer A, bv].toArray 169 (0, 0)) :: c) fun v S' => v = .nilIface ∧ ∃ bv' c', S' = [(g, .cells [.pointer (some ⟨g, 0, none⟩), bv'].toArray 169 (0, 0)) :: c'] ∧ Sx.Own 5 1 (ints (l ++ [by8 s])) bv' c' := by
  refine con_of_tree mix Tryz.func116 T116_ok (by kernel_rfl) ?_
  unfold T116
  refine j_perm (S' := [[(g, .cells [.pointer A, bv].toArray 169 (0, 0))], c]) (by simp) ?_
  refine j_q (qs_ac) ?_
  refine j_call 0 ent143 rfl rfl rfl rfl (fun w' hw' => copyCheck_con g A hA bv w') (fun u S2 hu => ?_)
  obtain ⟨rfl, rfl⟩ := hu
  refine j_q (qs_nil rfl) ?_
  refine j_q (qs_field Tryz.underlying169 rfl sz46 (by decide) rfl) ?_
  first
    | refine j_q (qs_load 0 Tryz.underlying46 rfl rfl rfl rfl) ?_
    | refine j_q (qs_load 1 Tryz.underlying46 rfl rfl rfl rfl) ?_
  have hone : ints l ++ [.int .u8 s] = ints (l ++ [by8 s]) := by
    rw [ints_append]
    congr 1
    simp only [ints, List.map_cons, List.map_nil]
    have h1 := wrap_by8 s
    have h2 : IntKind.u8.wrap s = s := by rw [IntKind.wrap_u8]; omega
    rw [← h1, h2]
  refine j_lit (vs := [.int .u8 _]) Tryz.underlying46 sz5 zero5 rfl (by simp [oneV]) ⟨rfl, by decide⟩ (fun g5 v5 c5 hv5 hc5 ho5 => ?_)
  subst hv5 hc5
  refine j_append 3 Tryz.underlying46 Tryz.underlying46 (.inr ⟨_, rfl⟩) sb5 zero5 rfl ho rfl (.inl ⟨_, _, rfl, rd_own (off := 0) (n := 1) 0 rfl rfl, rfl⟩) (by simp [oneV]) ⟨(by rw [ints_length]; simp; omega), (by decide)⟩ (fun v6 c6 ho6 => ?_)
  have ho6 : Sx.Own 5 1 (ints (l ++ [by8 s])) v6 c6 := by
    rw [← hone]
    exact ho6
  obtain ⟨n6, A6, cap6, rfl, hn6⟩ := own_form ho6 (by decide)
  refine j_q (qs_nil rfl) ?_
  refine j_q (qs_field Tryz.underlying169 rfl sz46 (by decide) rfl) ?_
  first
    | refine j_store 0 sz46 rfl rfl rfl rfl (by simp) (by first | omega | (simp only [Bool.and_eq_true, Bool.or_eq_true, Bool.and_eq_false_iff, Bool.or_eq_false_iff, Bool.not_eq_true', Bool.not_eq_false', decide_eq_true_eq, decide_eq_false_iff_not, beq_iff_eq, beq_eq_false_iff_ne, bne_iff_ne, bne_eq_false_iff_eq, ne_eq, Int.toNat_natCast] at *; omega)) ?_
    | refine j_store 1 sz46 rfl rfl rfl rfl (by simp) (by first | omega | (simp only [Bool.and_eq_true, Bool.or_eq_true, Bool.and_eq_false_iff, Bool.or_eq_false_iff, Bool.not_eq_true', Bool.not_eq_false', decide_eq_true_eq, decide_eq_false_iff_not, beq_iff_eq, beq_eq_false_iff_ne, bne_iff_ne, bne_eq_false_iff_eq, ne_eq, Int.toNat_natCast] at *; omega)) ?_
  refine j_q (qs_ac) ?_
  refine j_sub (S' := [(g, .cells [.pointer (some ⟨g, 0, none⟩), .slice A6 n6 cap6].toArray 169 (0, 0)) :: c6]) (by simp only [List.set_cons_succ, List.set_cons_zero, List.cons_append, List.nil_append, List.flatten_cons, List.flatten_nil, List.append_nil]; exact List.Sublist.cons _ (List.Sublist.refl _)) ?_
  refine j_ret_con (vs := [_]) (fun w' hw' => ⟨rfl, trivial⟩) ?_
  exact ⟨rfl, _, _, rfl, ho6⟩
end Go.Proofs.YtfeabbeebkkhaaaGreat
