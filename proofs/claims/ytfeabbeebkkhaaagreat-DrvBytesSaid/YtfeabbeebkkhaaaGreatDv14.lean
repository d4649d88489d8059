/- Derivations: how a text is read: signs, texts. -/
import Derived.Test.YtfeabbeebkkhaaaGreatTa
import Derived.Test.YtfeabbeebkkhaaaGreatDvk
import Derived.Test.YtfeabbeebkkhaaaGreatSx24
namespace Go.Proofs.YtfeabbeebkkhaaaGreat
open Go Go.Sx
set_option maxRecDepth 100000
set_option maxHeartbeats 4000000
set_option linter.unusedVariables false
set_option linter.unusedSimpArgs false
attribute [local irreducible] J JQ QS Con W opW
theorem ent81 : Sx.Enters Tryz.prog 81 := ⟨_, Tryz.func81, by kernel_rfl, by kernel_rfl⟩
theorem ent127 : Sx.Enters Tryz.prog 127 := ⟨_, Tryz.func127, by kernel_rfl, by kernel_rfl⟩
theorem ent148 : Sx.Enters Tryz.prog 148 := ⟨_, Tryz.func148, by kernel_rfl, by kernel_rfl⟩
theorem ent150 : Sx.Enters Tryz.prog 150 := ⟨_, Tryz.func150, by kernel_rfl, by kernel_rfl⟩
theorem sz84 : (Tryz.prog.info? 84).map (·.size) = some 0 := by kernel_rfl
theorem sz85 : (Tryz.prog.info? 85).map (·.size) = some 1 := by kernel_rfl
theorem sz87 : (Tryz.prog.info? 87).map (·.size) = some 1 := by kernel_rfl
theorem zero87 : zeroL Tryz.prog 87 = some ([.string (bs [])]) := by kernel_rfl

abbrev BADV : Value := .iface 84 (.agg #[])
abbrev RC (gr : Nat) (r : Bs) : Nat × Obj := (gr, .cells [Value.string (bs r)].toArray 87 (0, 0))
abbrev rp (gr : Nat) : Value := .pointer (some ⟨gr, 0, none⟩)
theorem byt_is {c d : UInt8} (h : ((c.toNat : Int) == (d.toNat : Int)) = true) : c = d := by
  have h2 := beq_iff_eq.1 h
  exact UInt8.toNat_inj.1 (by omega)
theorem byt_not {c d : UInt8} (h : ((c.toNat : Int) == (d.toNat : Int)) = false) : c ≠ d := fun e => by
  rw [e] at h
  simp at h
theorem pre_iff {s r : Bs} : (decide (s.length ≤ r.length) && (r.take s.length == s)) = true ↔ ∃ r', r = s ++ r' := by
  simp only [Bool.and_eq_true, decide_eq_true_eq, beq_iff_eq]
  constructor
  · rintro ⟨h1, h2⟩
    exact ⟨r.drop s.length, by conv => lhs; rw [← List.take_append_drop s.length r, h2]⟩
  · rintro ⟨r', rfl⟩
    simp
/-- what a sign means behind another one -/
def unesc (c : UInt8) : UInt8 := ([34, 92, 10, 13, 9] : Bs).getD (firstIdx (bs [34, 92, 110, 114, 116]) c).toNat 0
theorem idx_rng (c : UInt8) : firstIdx (bs [34, 92, 110, 114, 116]) c < 0 ∨ (0 ≤ firstIdx (bs [34, 92, 110, 114, 116]) c ∧ firstIdx (bs [34, 92, 110, 114, 116]) c < 5) := by
  have : ∀ k : Fin 256, firstIdx (bs [34, 92, 110, 114, 116]) (UInt8.ofNat k.val) < 0 ∨ (0 ≤ firstIdx (bs [34, 92, 110, 114, 116]) (UInt8.ofNat k.val) ∧ firstIdx (bs [34, 92, 110, 114, 116]) (UInt8.ofNat k.val) < 5) := by decide +kernel
  have h := this ⟨c.toNat, c.toNat_lt⟩
  rwa [ofNat_lt] at h
theorem esc_first {c : UInt8} {t : Bs} : ∃ x u, esc c ++ t = x :: u ∧ x ≠ 34 := by
  unfold esc
  repeat' split
  all_goals first | exact ⟨92, _, rfl, by decide⟩ | exact ⟨c, _, rfl, by assumption⟩
theorem esc_92 {c e : UInt8} {t u : Bs} (h : esc c ++ t = 92 :: e :: u) : 0 ≤ firstIdx (bs [34, 92, 110, 114, 116]) e ∧ unesc e = c ∧ t = u := by
  unfold esc at h
  split at h
  · rename_i hc
    simp only [List.cons_append, List.nil_append, List.cons.injEq, true_and] at h
    obtain ⟨rfl, rfl⟩ := h
    exact ⟨by decide +kernel, by rw [hc]; decide +kernel, rfl⟩
  · split at h
    · rename_i hc
      simp only [List.cons_append, List.nil_append, List.cons.injEq, true_and] at h
      obtain ⟨rfl, rfl⟩ := h
      exact ⟨by decide +kernel, by rw [hc]; decide +kernel, rfl⟩
    · split at h
      · rename_i hc
        simp only [List.cons_append, List.nil_append, List.cons.injEq, true_and] at h
        obtain ⟨rfl, rfl⟩ := h
        exact ⟨by decide +kernel, by rw [hc]; decide +kernel, rfl⟩
      · split at h
        · rename_i hc
          simp only [List.cons_append, List.nil_append, List.cons.injEq, true_and] at h
          obtain ⟨rfl, rfl⟩ := h
          exact ⟨by decide +kernel, by rw [hc]; decide +kernel, rfl⟩
        · split at h
          · rename_i hc
            simp only [List.cons_append, List.nil_append, List.cons.injEq, true_and] at h
            obtain ⟨rfl, rfl⟩ := h
            exact ⟨by decide +kernel, by rw [hc]; decide +kernel, rfl⟩
          · rename_i h2 _ _ _
            simp only [List.cons_append, List.nil_append, List.cons.injEq] at h
            exact absurd h.1 h2
theorem esc_one {c d : UInt8} {t u : Bs} (hd : d ≠ 92) (h : esc c ++ t = d :: u) : c = d ∧ t = u := by
  unfold esc at h
  repeat' split at h
  all_goals (simp only [List.cons_append, List.nil_append, List.cons.injEq] at h)
  all_goals first | exact absurd h.1.symm hd | exact ⟨h.1, h.2⟩
theorem es_cons (c : UInt8) (s : Bs) : es (c :: s) = esc c ++ es s := by simp [es]
/-- what has been read of a text, whatever text it was -/
def TxK (r r1 acc : Bs) (i : Nat) : Prop := ∀ x z, r = qt x ++ z → ∃ x2, x = acc ++ x2 ∧ r1.drop i = es x2 ++ ([34] ++ z)
theorem txk_start {r r1 : Bs} (h : r = [34] ++ r1) : TxK r r1 [] 0 := fun x z hx => by
  refine ⟨x, rfl, ?_⟩
  rw [hx] at h
  unfold qt at h
  simp only [List.append_assoc, List.cons_append, List.nil_append, List.cons.injEq, true_and] at h
  rw [List.drop_zero, ← h]
  rfl
theorem drop_at {r1 : Bs} {i : Nat} (hi : i < r1.length) : r1.drop i = r1.getD i 0 :: r1.drop (i + 1) := by
  rw [List.drop_eq_getElem_cons hi, List.getD_eq_getElem?_getD, List.getElem?_eq_getElem hi]
  rfl
theorem txk_quote {r r1 acc : Bs} {i : Nat} (h : TxK r r1 acc i) (hi : i < r1.length) (hc : r1.getD i 0 = 34) : ∀ x z, r = qt x ++ z → acc = x ∧ r1.drop (i + 1) = z := fun x z hx => by
  obtain ⟨x2, h1, h2⟩ := h x z hx
  rw [drop_at hi, hc] at h2
  cases x2 with
  | nil =>
    simp only [es, List.map_nil, List.flatten_nil, List.cons_append, List.nil_append, List.cons.injEq, true_and] at h2
    exact ⟨by rw [h1, List.append_nil], h2⟩
  | cons c x2 =>
    rw [es_cons, List.append_assoc] at h2
    obtain ⟨y, u, h3, h4⟩ := esc_first (c := c) (t := es x2 ++ ([34] ++ z))
    rw [h3] at h2
    injection h2 with h2
    exact absurd h2.symm h4
theorem txk_end {r r1 acc : Bs} {i : Nat} (h : TxK r r1 acc i) (hi : r1.length ≤ i) : ∀ x z, r ≠ qt x ++ z := fun x z hx => by
  obtain ⟨x2, h1, h2⟩ := h x z hx
  rw [List.drop_of_length_le hi] at h2
  have := congrArg List.length h2
  simp at this
theorem txk_plain {r r1 acc : Bs} {i : Nat} (h : TxK r r1 acc i) (hi : i < r1.length) (h34 : r1.getD i 0 ≠ 34) (h92 : r1.getD i 0 ≠ 92) : TxK r r1 (acc ++ [r1.getD i 0]) (i + 1) := fun x z hx => by
  obtain ⟨x2, h1, h2⟩ := h x z hx
  rw [drop_at hi] at h2
  cases x2 with
  | nil =>
    simp only [es, List.map_nil, List.flatten_nil, List.cons_append, List.nil_append, List.cons.injEq] at h2
    exact absurd h2.1 h34
  | cons c x2 =>
    rw [es_cons, List.append_assoc] at h2
    obtain ⟨h3, h4⟩ := esc_one h92 h2.symm
    exact ⟨x2, by rw [h1, h3]; simp, h4.symm⟩
theorem txk_esc {r r1 acc : Bs} {i : Nat} (h : TxK r r1 acc i) (hi : i < r1.length) (hc : r1.getD i 0 = 92) : ∀ x z, r = qt x ++ z → i + 1 < r1.length ∧ 0 ≤ firstIdx (bs [34, 92, 110, 114, 116]) (r1.getD (i + 1) 0) ∧ ∃ x2, x = (acc ++ [unesc (r1.getD (i + 1) 0)]) ++ x2 ∧ r1.drop (i + 1 + 1) = es x2 ++ ([34] ++ z) := fun x z hx => by
  obtain ⟨x2, h1, h2⟩ := h x z hx
  rw [drop_at hi, hc] at h2
  cases x2 with
  | nil =>
    simp only [es, List.map_nil, List.flatten_nil, List.cons_append, List.nil_append, List.cons.injEq] at h2
    exact absurd h2.1 (by decide)
  | cons c x2 =>
    rw [es_cons, List.append_assoc] at h2
    have hlt : i + 1 < r1.length := by
      rcases Nat.lt_or_ge (i + 1) r1.length with h | h
      · exact h
      · rw [List.drop_of_length_le h] at h2
        have := congrArg List.length h2
        have hl := esc_len c
        simp only [List.length_append, List.length_cons, List.length_nil] at this
        omega
    rw [drop_at hlt] at h2
    obtain ⟨h3, h4, h5⟩ := esc_92 h2.symm
    exact ⟨hlt, h3, x2, by rw [h1, h4]; simp, h5.symm⟩
theorem bts3 {a : Bs} {v v' : Value} {m n : Int} (h1 : v = v') (h2 : m = n) : [Value.string (bs a), v, .int .i64 m] = [Value.string (bs a), v', .int .i64 n] := by rw [h1, h2]
attribute [local irreducible] es qt cms hex Tbl Half lst TxK
/-- internal.stringslite.HasPrefix -/
theorem hasPre0_con (s r : Bs) (w : World) (hs : s.length ≤ 9223372036854775807) (hr : r.length ≤ 9223372036854775807) : Con Tryz.prog 150 [.string (bs r), .string (bs s)] w [] fun v _ => v = .bool (decide (s.length ≤ r.length) && (r.take s.length == s)) := by
  refine con_of_tree mix Tryz.func150 T150_ok (by kernel_rfl) ?_
  unfold T150
  refine j_q (qs_ac) ?_
  refine j_q (qs_lens Tryz.underlying9 rfl) ?_
  refine j_q (qs_lens Tryz.underlying9 rfl) ?_
  refine j_q (qs_geq rfl rfl) ?_
  refine j_g rfl (fun hb => qs_mt rfl) ?_
  refine j_g rfl (fun hb => qs_mt rfl) ?_
  refine j_g rfl (fun hb => qs_lens Tryz.underlying9 (gd_eq hb)) ?_
  refine j_g rfl (fun hb => qs_cuts (a := 0) (z := s.length) Tryz.underlying9 (gd_eq hb) rfl ⟨.i64, gd_eq hb⟩ (by omega) (by simp only [Bool.and_eq_true, Bool.or_eq_true, Bool.and_eq_false_iff, Bool.or_eq_false_iff, Bool.not_eq_true', Bool.not_eq_false', decide_eq_true_eq, decide_eq_false_iff_not, beq_iff_eq, beq_eq_false_iff_ne, bne_iff_ne, bne_eq_false_iff_eq, ne_eq, Int.toNat_natCast] at *; omega)) ?_
  rw [List.drop_zero]
  refine j_g rfl (fun hb => qs_mt rfl) ?_
  refine j_g rfl (fun hb => qs_seql (gd_eq hb) (gd_eq hb)) ?_
  refine j_q (qs_and rfl rfl) ?_
  refine j_ret_con (vs := [_]) (fun w' hw' => ⟨rfl, trivial⟩) ?_
  show Value.bool _ = _
  congr 2
  rw [Bool.eq_iff_iff, decide_eq_true_eq, decide_eq_true_eq]
  omega
/-- strings.HasPrefix -/
theorem hasPre_con (s r : Bs) (w : World) (hs : s.length ≤ 9223372036854775807) (hr : r.length ≤ 9223372036854775807) : Con Tryz.prog 129 [.string (bs r), .string (bs s)] w [] fun v _ => v = .bool (decide (s.length ≤ r.length) && (r.take s.length == s)) := by
  refine con_of_tree mix Tryz.func129 T129_ok (by kernel_rfl) ?_
  unfold T129
  refine j_q (qs_ac) ?_
  refine j_q (qs_call ent150 rfl rfl rfl (fun w' hw' => hasPre0_con s r w' hs hr)) ?_
  refine j_ret_con (vs := [_]) (fun w' hw' => ⟨rfl, trivial⟩) ?_
  rfl
/-- internal.stringslite.CutPrefix -/
theorem cutPre0_con (s r : Bs) (w : World) (hs : s.length ≤ 9223372036854775807) (hr : r.length ≤ 9223372036854775807) : Con Tryz.prog 148 [.string (bs r), .string (bs s)] w [] fun v _ => v = .tuple #[.string (bs (if (decide (s.length ≤ r.length) && (r.take s.length == s)) then r.drop s.length else r)), .bool (decide (s.length ≤ r.length) && (r.take s.length == s))] := by
  refine con_of_tree mix Tryz.func148 T148_ok (by kernel_rfl) ?_
  unfold T148
  refine j_q (qs_ac) ?_
  refine j_q (qs_ac) ?_
  refine j_q (qs_call ent150 rfl rfl rfl (fun w' hw' => hasPre0_con s r w' hs hr)) ?_
  refine j_q (qs_not rfl) ?_
  refine j_cond rfl (fun hc0 => ?_) (fun hc0 => ?_)
  · skip
    refine j_q (qs_ac) ?_
    refine j_ret_con (vs := [_, _]) (fun w' hw' => ⟨rfl, rfl, trivial⟩) ?_
    have hb : (decide (s.length ≤ r.length) && (r.take s.length == s)) = false := by first | exact hc0 | exact Bool.eq_false_iff.2 hc0 | (cases h : (decide (s.length ≤ r.length) && (r.take s.length == s)) <;> simp_all)
    rw [hb]
    rfl
  · skip
    refine j_q (qs_lens Tryz.underlying9 rfl) ?_
    refine j_q (qs_cuts (a := s.length) (z := r.length) Tryz.underlying9 rfl ⟨.i64, rfl⟩ rfl (by have := hc0; simp only [Bool.and_eq_true, Bool.or_eq_true, Bool.and_eq_false_iff, Bool.or_eq_false_iff, Bool.not_eq_true', Bool.not_eq_false', decide_eq_true_eq, decide_eq_false_iff_not, beq_iff_eq, beq_eq_false_iff_ne, bne_iff_ne, bne_eq_false_iff_eq, ne_eq, Int.toNat_natCast] at *; omega) (by omega)) ?_
    rw [List.take_length]
    refine j_q (qs_ac) ?_
    refine j_ret_con (vs := [_, _]) (fun w' hw' => ⟨rfl, rfl, trivial⟩) ?_
    have hb : (decide (s.length ≤ r.length) && (r.take s.length == s)) = true := by first | exact hc0 | (cases h : (decide (s.length ≤ r.length) && (r.take s.length == s)) <;> simp_all)
    rw [hb]
    rfl
/-- strings.CutPrefix -/
theorem cutPre_con (s r : Bs) (w : World) (hs : s.length ≤ 9223372036854775807) (hr : r.length ≤ 9223372036854775807) : Con Tryz.prog 127 [.string (bs r), .string (bs s)] w [] fun v _ => v = .tuple #[.string (bs (if (decide (s.length ≤ r.length) && (r.take s.length == s)) then r.drop s.length else r)), .bool (decide (s.length ≤ r.length) && (r.take s.length == s))] := by
  refine con_of_tree mix Tryz.func127 T127_ok (by kernel_rfl) ?_
  unfold T127
  refine j_q (qs_ac) ?_
  refine j_q (qs_ac) ?_
  refine j_q (qs_call ent148 rfl rfl rfl (fun w' hw' => cutPre0_con s r w' hs hr)) ?_
  refine j_q (qs_ext (vs := [.string (bs (if (decide (s.length ≤ r.length) && (r.take s.length == s)) then r.drop s.length else r)), .bool (decide (s.length ≤ r.length) && (r.take s.length == s))]) rfl rfl) ?_
  refine j_q (qs_ext (vs := [.string (bs (if (decide (s.length ≤ r.length) && (r.take s.length == s)) then r.drop s.length else r)), .bool (decide (s.length ≤ r.length) && (r.take s.length == s))]) rfl rfl) ?_
  refine j_ret_con (vs := [_, _]) (fun w' hw' => ⟨rfl, rfl, trivial⟩) ?_
  rfl
/-- (*pantry.drv.reader).sign -/
theorem sign_con (gr : Nat) (s r : Bs) (w : World) (hs : s.length ≤ 9223372036854775807) (hr : r.length ≤ 9223372036854775807) : ConB Tryz.prog BADV 81 [rp gr, .string (bs s)] w [RC gr r] (fun v S' => v = .tuple #[] ∧ ∃ r', r = s ++ r' ∧ S' = [[RC gr r']]) (¬ ∃ r', r = s ++ r') := by
  refine conb_of_tree mix Tryz.func81 T81_ok (by kernel_rfl) ?_
  unfold T81
  refine j_q (qs_nil rfl) ?_
  refine j_q (qs_field Tryz.underlying87 rfl sz9 (by decide) rfl) ?_
  refine j_q (qs_load (l := [.string (bs r)]) 0 Tryz.underlying9 rfl rfl rfl rfl) ?_
  refine j_q (qs_call ent127 rfl rfl rfl (fun w' hw' => cutPre_con s r w' hs hr)) ?_
  refine j_q (qs_ext (vs := [.string (bs (if (decide (s.length ≤ r.length) && (r.take s.length == s)) then r.drop s.length else r)), .bool (decide (s.length ≤ r.length) && (r.take s.length == s))]) rfl rfl) ?_
  refine j_q (qs_ext (vs := [.string (bs (if (decide (s.length ≤ r.length) && (r.take s.length == s)) then r.drop s.length else r)), .bool (decide (s.length ≤ r.length) && (r.take s.length == s))]) rfl rfl) ?_
  refine j_q (qs_not rfl) ?_
  refine j_cond rfl (fun hc0 => ?_) (fun hc0 => ?_)
  · skip
    refine j_q (qs_run (v := .agg #[]) (fun w => by kernel_rfl)) ?_
    refine j_q (qs_mkiface Tryz.underlying84 (fun _ h => by cases h) rfl) ?_
    exact j_panic_conb rfl rfl (fun hx => by rw [(pre_iff.2 hx)] at hc0; cases hc0)
  · skip
    have hb : (decide (s.length ≤ r.length) && (r.take s.length == s)) = true := by first | exact hc0 | (cases h : (decide (s.length ≤ r.length) && (r.take s.length == s)) <;> simp_all)
    obtain ⟨r1, hr1⟩ := pre_iff.1 hb
    rw [hb, if_pos rfl, show r.drop s.length = r1 by rw [hr1]; simp]
    refine j_q (qs_nil rfl) ?_
    refine j_q (qs_field Tryz.underlying87 rfl sz9 (by decide) rfl) ?_
    refine j_store (l := [.string (bs r)]) (v := .string (bs r1)) 0 sz9 rfl rfl rfl rfl (by simp) (by simp) ?_
    refine j_ret_conb (vs := []) (fun w' hw' => trivial) ?_
    exact ⟨rfl, r1, hr1, rfl⟩
/-- (*pantry.drv.reader).text -/
theorem ptext_con (gr : Nat) (r : Bs) (w : World) (hr : r.length ≤ 1099511627776) : ConB Tryz.prog BADV 82 [rp gr] w [RC gr r] (fun v S' => ∃ t r', v = .string (bs t) ∧ S' = [[RC gr r']] ∧ t.length + 2 + r'.length ≤ r.length ∧ ∀ x z, r = qt x ++ z → t = x ∧ r' = z) (∀ x z, r ≠ qt x ++ z) := by
  refine conb_of_tree mix Tryz.func82 T82_ok (by kernel_rfl) ?_
  unfold T82
  refine j_q (qs_ac) ?_
  refine j_callB 0 ent81 rfl rfl rfl rfl (fun w' hw' => sign_con gr [34] r w' (by simp) (by omega)) (fun hb x z hx => hb ⟨es x ++ [34] ++ z, by rw [hx]; unfold qt; simp⟩) (fun u S2 hu => ?_)
  obtain ⟨rfl, r1, hr1, rfl⟩ := hu
  have hk0 := txk_start hr1
  have hrl : r.length = r1.length + 1 := by rw [hr1]; simp
  refine j_perm (S' := [[], [RC gr r1]]) (by simp) ?_
  refine j_q (qs_ac) ?_
  refine j_q (qs_ac) ?_
  refine j_loop (fun m vs S' => ∃ (i : Nat) (bv : Value) (cb : SH) (acc : Bs), vs = [.string (bs []), bv, .int .i64 (i : Int)] ∧ S' = [cb, [RC gr r1]] ∧ Sx.Own 5 1 (ints acc) bv cb ∧ TxK r r1 acc i ∧ acc.length ≤ i ∧ i ≤ r1.length + 1 ∧ m = r1.length + 1 - i) ⟨_, 0, .slice none 0 0, [], [], rfl, rfl, own_nil, hk0, Nat.le_refl _, Nat.zero_le _, rfl⟩ ?_
  rintro m vs S' hlen ⟨i, bv, cb, acc, rfl, rfl, hob, hk, hal, hin, rfl⟩
  refine j_q (qs_nil rfl) ?_
  refine j_q (qs_field Tryz.underlying87 rfl sz9 (by decide) rfl) ?_
  refine j_q (qs_load (l := [.string (bs r1)]) 1 Tryz.underlying9 rfl rfl rfl rfl) ?_
  refine j_q (qs_lens Tryz.underlying9 rfl) ?_
  refine j_q (qs_lss rfl rfl) ?_
  refine j_cond rfl (fun hc0 => ?_) (fun hc0 => ?_)
  · skip
    have hi : i < r1.length := by
      simp only [Bool.and_eq_true, Bool.or_eq_true, Bool.and_eq_false_iff, Bool.or_eq_false_iff, Bool.not_eq_true', Bool.not_eq_false', decide_eq_true_eq, decide_eq_false_iff_not, beq_iff_eq, beq_eq_false_iff_ne, bne_iff_ne, bne_eq_false_iff_eq, ne_eq, Int.toNat_natCast] at *
      omega
    refine j_q (qs_nil rfl) ?_
    refine j_q (qs_field Tryz.underlying87 rfl sz9 (by decide) rfl) ?_
    refine j_q (qs_load (l := [.string (bs r1)]) 1 Tryz.underlying9 rfl rfl rfl rfl) ?_
    refine j_q (qs_idx Tryz.underlying9 rfl rfl ⟨(by first | omega | (simp only [Bool.and_eq_true, Bool.or_eq_true, Bool.and_eq_false_iff, Bool.or_eq_false_iff, Bool.not_eq_true', Bool.not_eq_false', decide_eq_true_eq, decide_eq_false_iff_not, beq_iff_eq, beq_eq_false_iff_ne, bne_iff_ne, bne_eq_false_iff_eq, ne_eq, Int.toNat_natCast] at *; omega)), (by first | omega | (simp only [Bool.and_eq_true, Bool.or_eq_true, Bool.and_eq_false_iff, Bool.or_eq_false_iff, Bool.not_eq_true', Bool.not_eq_false', decide_eq_true_eq, decide_eq_false_iff_not, beq_iff_eq, beq_eq_false_iff_ne, bne_iff_ne, bne_eq_false_iff_eq, ne_eq, Int.toNat_natCast] at *; omega))⟩) ?_
    simp only [Int.toNat_natCast]
    refine j_q (qs_eql rfl rfl) ?_
    refine j_cond rfl (fun hc1 => ?_) (fun hc1 => ?_)
    · skip
      have h34 : r1.getD i 0 = 34 := byt_is (d := 34) hc1
      refine j_q (qs_nil rfl) ?_
      refine j_q (qs_field Tryz.underlying87 rfl sz9 (by decide) rfl) ?_
      refine j_q (qs_load (l := [.string (bs r1)]) 1 Tryz.underlying9 rfl rfl rfl rfl) ?_
      refine j_q (qs_add64 rfl rfl (by first | omega | (simp only [Bool.and_eq_true, Bool.or_eq_true, Bool.and_eq_false_iff, Bool.or_eq_false_iff, Bool.not_eq_true', Bool.not_eq_false', decide_eq_true_eq, decide_eq_false_iff_not, beq_iff_eq, beq_eq_false_iff_ne, bne_iff_ne, bne_eq_false_iff_eq, ne_eq, Int.toNat_natCast] at *; omega))) ?_
      refine j_q (qs_cuts (a := i + 1) (z := r1.length) Tryz.underlying9 rfl ⟨.i64, congrArg (Value.int .i64) (by omega)⟩ rfl (by omega) (by omega)) ?_
      rw [List.take_length]
      refine j_q (qs_nil rfl) ?_
      refine j_q (qs_field Tryz.underlying87 rfl sz9 (by decide) rfl) ?_
      refine j_store (l := [.string (bs r1)]) (v := .string (bs (r1.drop (i + 1)))) 1 sz9 rfl rfl rfl rfl (by simp) (by simp) ?_
      refine j_q (qs_stro 0 Tryz.underlying46 Tryz.underlying5 Tryz.underlying9 hob rfl) ?_
      refine j_subl (S' := [[RC gr (r1.drop (i + 1))]]) (by repeat first | exact List.Sublist.refl _ | exact List.nil_sublist _ | apply List.Sublist.cons_cons | apply List.Sublist.cons) ?_
      refine j_ret_conb (vs := [_]) (fun w' hw' => ⟨rfl, trivial⟩) ?_
      exact ⟨acc, _, rfl, rfl, by rw [List.length_drop]; omega, txk_quote hk hi h34⟩
    · skip
      have h34 : r1.getD i 0 ≠ 34 := byt_not (d := 34) hc1
      refine j_q (qs_eql rfl rfl) ?_
      refine j_cond rfl (fun hc2 => ?_) (fun hc2 => ?_)
      · skip
        have h92 : r1.getD i 0 = 92 := byt_is (d := 92) hc2
        refine j_q (qs_add64 rfl rfl (by first | omega | (simp only [Bool.and_eq_true, Bool.or_eq_true, Bool.and_eq_false_iff, Bool.or_eq_false_iff, Bool.not_eq_true', Bool.not_eq_false', decide_eq_true_eq, decide_eq_false_iff_not, beq_iff_eq, beq_eq_false_iff_ne, bne_iff_ne, bne_eq_false_iff_eq, ne_eq, Int.toNat_natCast] at *; omega))) ?_
        refine j_q (qs_nil rfl) ?_
        refine j_q (qs_field Tryz.underlying87 rfl sz9 (by decide) rfl) ?_
        refine j_q (qs_load (l := [.string (bs r1)]) 1 Tryz.underlying9 rfl rfl rfl rfl) ?_
        refine j_q (qs_lens Tryz.underlying9 rfl) ?_
        refine j_q (qs_geq rfl rfl) ?_
        refine j_cond rfl (fun hc3 => ?_) (fun hc3 => ?_)
        · skip
          refine j_q (qs_run (v := .agg #[]) (fun w => by kernel_rfl)) ?_
          refine j_q (qs_mkiface Tryz.underlying84 (fun _ h => by cases h) rfl) ?_
          exact j_panic_conb rfl rfl (fun x z hx => by have := (txk_esc hk hi h92 x z hx).1; simp only [Bool.and_eq_true, Bool.or_eq_true, Bool.and_eq_false_iff, Bool.or_eq_false_iff, Bool.not_eq_true', Bool.not_eq_false', decide_eq_true_eq, decide_eq_false_iff_not, beq_iff_eq, beq_eq_false_iff_ne, bne_iff_ne, bne_eq_false_iff_eq, ne_eq, Int.toNat_natCast] at *; omega)
        · skip
          have hi2 : i + 1 < r1.length := by
            simp only [Bool.and_eq_true, Bool.or_eq_true, Bool.and_eq_false_iff, Bool.or_eq_false_iff, Bool.not_eq_true', Bool.not_eq_false', decide_eq_true_eq, decide_eq_false_iff_not, beq_iff_eq, beq_eq_false_iff_ne, bne_iff_ne, bne_eq_false_iff_eq, ne_eq, Int.toNat_natCast] at *
            omega
          have hk2 : TxK r r1 (acc ++ [unesc (r1.getD (i + 1) 0)]) (i + 1 + 1) := by
            unfold TxK
            exact fun x z hx => (txk_esc hk hi h92 x z hx).2.2
          refine j_q (qs_nil rfl) ?_
          refine j_q (qs_field Tryz.underlying87 rfl sz9 (by decide) rfl) ?_
          refine j_q (qs_load (l := [.string (bs r1)]) 1 Tryz.underlying9 rfl rfl rfl rfl) ?_
          refine j_q (qs_idx (l := r1) Tryz.underlying9 rfl rfl (by simp only [Bool.and_eq_true, Bool.or_eq_true, Bool.and_eq_false_iff, Bool.or_eq_false_iff, Bool.not_eq_true', Bool.not_eq_false', decide_eq_true_eq, decide_eq_false_iff_not, beq_iff_eq, beq_eq_false_iff_ne, bne_iff_ne, bne_eq_false_iff_eq, ne_eq, Int.toNat_natCast] at *; omega)) ?_
          rw [show ((i : Int) + 1).toNat = i + 1 by omega]
          refine j_q (qs_call ent128 rfl rfl rfl (fun w' hw' => index_con [34, 92, 110, 114, 116] (r1.getD (i + 1) 0) w')) ?_
          refine j_q (qs_lss rfl rfl) ?_
          refine j_cond rfl (fun hc5 => ?_) (fun hc5 => ?_)
          · skip
            refine j_q (qs_run (v := .agg #[]) (fun w => by kernel_rfl)) ?_
            refine j_q (qs_mkiface Tryz.underlying84 (fun _ h => by cases h) rfl) ?_
            exact j_panic_conb rfl rfl (fun x z hx => by have := (txk_esc hk hi h92 x z hx).2.1; simp only [decide_eq_true_eq] at hc5; omega)
          · skip
            refine j_q (qs_idx (l := [34, 92, 10, 13, 9]) Tryz.underlying9 rfl rfl (by have := idx_rng (r1.getD (i + 1) 0); simp only [Bool.and_eq_true, Bool.or_eq_true, Bool.and_eq_false_iff, Bool.or_eq_false_iff, Bool.not_eq_true', Bool.not_eq_false', decide_eq_true_eq, decide_eq_false_iff_not, beq_iff_eq, beq_eq_false_iff_ne, bne_iff_ne, bne_eq_false_iff_eq, ne_eq, Int.toNat_natCast] at *; simp only [List.length_cons, List.length_nil]; omega)) ?_
            rw [show (([34, 92, 10, 13, 9] : Bs).getD (firstIdx (bs [34, 92, 110, 114, 116]) (r1.getD (i + 1) 0)).toNat 0) = unesc (r1.getD (i + 1) 0) from rfl]
            refine j_lit (vs := [.int .u8 _]) Tryz.underlying46 sz5 zero5 rfl (by simp [oneV]) ⟨rfl, by decide⟩ (fun g64 v64 c64 hv64 hc64 ho64 => ?_)
            subst hv64 hc64
            refine j_append 1 Tryz.underlying46 Tryz.underlying46 (.inr ⟨_, rfl⟩) sb5 zero5 rfl hob rfl (.inl ⟨_, _, rfl, rd_own (off := 0) (n := 1) 0 rfl rfl, rfl⟩) (by simp [oneV]) ⟨(by simp only [ints_length, List.drop_zero, List.take_succ_cons, List.take_zero, List.length_cons, List.length_nil]; omega), (by decide)⟩ (fun v65 c65 ho65 => ?_)
            have ho65 : Sx.Own 5 1 (ints (acc ++ [unesc (r1.getD (i + 1) 0)])) v65 c65 := by
              rw [ints_append]
              exact ho65
            refine j_subl (S' := [c65, [RC gr r1]]) (by repeat first | exact List.Sublist.refl _ | exact List.nil_sublist _ | apply List.Sublist.cons_cons | apply List.Sublist.cons) ?_
            refine j_q (qs_add64 rfl rfl (by first | omega | (simp only [Bool.and_eq_true, Bool.or_eq_true, Bool.and_eq_false_iff, Bool.or_eq_false_iff, Bool.not_eq_true', Bool.not_eq_false', decide_eq_true_eq, decide_eq_false_iff_not, beq_iff_eq, beq_eq_false_iff_ne, bne_iff_ne, bne_eq_false_iff_eq, ne_eq, Int.toNat_natCast] at *; omega))) ?_
            refine j_back rfl ?_
            exact ⟨r1.length + 1 - (i + 1 + 1), by omega, i + 1 + 1, v65, c65, acc ++ [unesc (r1.getD (i + 1) 0)], bts3 rfl (by omega), rfl, ho65, hk2, by simp only [List.length_append, List.length_cons, List.length_nil]; omega, by omega, rfl⟩
      · skip
        have h92 : r1.getD i 0 ≠ 92 := byt_not (d := 92) hc2
        refine j_lit (vs := [.int .u8 _]) Tryz.underlying46 sz5 zero5 rfl (by simp [oneV]) ⟨rfl, by decide⟩ (fun g67 v67 c67 hv67 hc67 ho67 => ?_)
        subst hv67 hc67
        refine j_append 1 Tryz.underlying46 Tryz.underlying46 (.inr ⟨_, rfl⟩) sb5 zero5 rfl hob rfl (.inl ⟨_, _, rfl, rd_own (off := 0) (n := 1) 0 rfl rfl, rfl⟩) (by simp [oneV]) ⟨(by simp only [ints_length, List.drop_zero, List.take_succ_cons, List.take_zero, List.length_cons, List.length_nil]; omega), (by decide)⟩ (fun v68 c68 ho68 => ?_)
        have ho68 : Sx.Own 5 1 (ints (acc ++ [(r1.getD i 0)])) v68 c68 := by
          rw [ints_append]
          exact ho68
        refine j_subl (S' := [c68, [RC gr r1]]) (by repeat first | exact List.Sublist.refl _ | exact List.nil_sublist _ | apply List.Sublist.cons_cons | apply List.Sublist.cons) ?_
        refine j_q (qs_add64 rfl rfl (by first | omega | (simp only [Bool.and_eq_true, Bool.or_eq_true, Bool.and_eq_false_iff, Bool.or_eq_false_iff, Bool.not_eq_true', Bool.not_eq_false', decide_eq_true_eq, decide_eq_false_iff_not, beq_iff_eq, beq_eq_false_iff_ne, bne_iff_ne, bne_eq_false_iff_eq, ne_eq, Int.toNat_natCast] at *; omega))) ?_
        refine j_back rfl ?_
        exact ⟨r1.length + 1 - (i + 1), by omega, i + 1, v68, c68, acc ++ [r1.getD i 0], bts3 rfl (by omega), rfl, ho68, txk_plain hk hi h34 h92, by simp only [List.length_append, List.length_cons, List.length_nil]; omega, by omega, rfl⟩
  · skip
    have hge : r1.length ≤ i := by
      simp only [Bool.and_eq_true, Bool.or_eq_true, Bool.and_eq_false_iff, Bool.or_eq_false_iff, Bool.not_eq_true', Bool.not_eq_false', decide_eq_true_eq, decide_eq_false_iff_not, beq_iff_eq, beq_eq_false_iff_ne, bne_iff_ne, bne_eq_false_iff_eq, ne_eq, Int.toNat_natCast] at *
      omega
    refine j_q (qs_run (v := .agg #[]) (fun w => by kernel_rfl)) ?_
    refine j_q (qs_mkiface Tryz.underlying84 (fun _ h => by cases h) rfl) ?_
    exact j_panic_conb rfl rfl (txk_end hk hge)
end Go.Proofs.YtfeabbeebkkhaaaGreat
