/- A text between its signs: package strings' Replacer at the signs of a derivation. -/
import Derived.Test.YtfeabbeebkkhaaaGreatTa
import Derived.Test.YtfeabbeebkkhaaaGreatDv0
import Derived.Test.YtfeabbeebkkhaaaGreatBld
import Derived.Test.YtfeabbeebkkhaaaGreatSx21
import Derived.Test.YtfeabbeebkkhaaaGreatSx20
namespace Go.Proofs.YtfeabbeebkkhaaaGreat
open Go Go.Sx
set_option maxRecDepth 100000
set_option maxHeartbeats 4000000
set_option linter.unusedVariables false
set_option linter.unusedSimpArgs false
attribute [local irreducible] J JQ QS Con W opW
theorem ent235 : Sx.Enters Tryz.prog 235 := ⟨_, Tryz.func235, by kernel_rfl, by kernel_rfl⟩
theorem ent236 : Sx.Enters Tryz.prog 236 := ⟨_, Tryz.func236, by kernel_rfl, by kernel_rfl⟩
theorem ent238 : Sx.Enters Tryz.prog 238 := ⟨_, Tryz.func238, by kernel_rfl, by kernel_rfl⟩
theorem sz9 : (Tryz.prog.info? 9).map (·.size) = some 1 := by kernel_rfl
theorem sz22 : (Tryz.prog.info? 22).map (·.size) = some 1 := by kernel_rfl
theorem sz244 : (Tryz.prog.info? 244).map (·.size) = some 256 := by kernel_rfl
theorem sz246 : (Tryz.prog.info? 246).map (·.size) = some 257 := by kernel_rfl

abbrev TRb : List UInt8 := [9, 13, 10, 92, 34]
abbrev TR : List Bs := [[9], [13], [10], [92], [34]]
theorem esc_in (c : UInt8) : (c ∈ TRb → (esc c).length = 2) ∧ (c ∉ TRb → esc c = [c]) := by
  unfold esc
  constructor
  · intro h
    simp only [List.mem_cons, List.not_mem_nil, or_false] at h
    rcases h with rfl | rfl | rfl | rfl | rfl <;> rfl
  · intro h
    simp only [List.mem_cons, List.not_mem_nil, or_false, not_or] at h
    rw [if_neg h.2.2.2.2, if_neg h.2.2.2.1, if_neg h.2.2.1, if_neg h.2.1, if_neg h.1]
def cntN (s : Bs) (i : Nat) : Nat := ((TRb.take i).map fun c => s.count c).sum
theorem cntN_succ (s : Bs) {i : Nat} (h : i < 5) : cntN s (i + 1) = cntN s i + s.count (TRb.getD i 0) := by
  unfold cntN
  rw [List.take_succ_eq_append_getElem (by simpa using h), List.map_append, List.sum_append]
  have : TRb.getD i 0 = TRb[i]'(by simpa using h) := by rw [List.getD_eq_getElem?_getD, List.getElem?_eq_getElem (by simpa using h)]; rfl
  rw [this]
  simp
theorem cnt_all (s : Bs) : (es s).length = s.length + cntN s 5 := by
  induction s with
  | nil => rfl
  | cons c s ih =>
    have e : es (c :: s) = esc c ++ es s := by simp [es]
    have h5 : ∀ s : Bs, cntN s 5 = s.count 9 + (s.count 13 + (s.count 10 + (s.count 92 + (s.count 34 + 0)))) := fun s => rfl
    rw [e, List.length_append, ih, h5, h5, List.length_cons]
    by_cases h : c ∈ TRb
    · rw [(esc_in c).1 h]
      simp only [List.mem_cons, List.not_mem_nil, or_false] at h
      rcases h with rfl | rfl | rfl | rfl | rfl <;> simp only [List.count_cons] <;> simp <;> omega
    · rw [(esc_in c).2 h]
      simp only [List.mem_cons, List.not_mem_nil, or_false, not_or] at h
      obtain ⟨h1, h2, h3, h4, h5⟩ := h
      simp only [List.count_cons, beq_iff_eq, h1, h2, h3, h4, h5, if_false, List.length_singleton]
      omega
theorem es_same {s : Bs} (h : (es s).length ≤ s.length) : es s = s := by
  induction s with
  | nil => rfl
  | cons c s ih =>
    have e : es (c :: s) = esc c ++ es s := by simp [es]
    rw [e, List.length_append, List.length_cons] at h
    have h1 := esc_len c
    have h2 := es_len s
    by_cases hc : c ∈ TRb
    · rw [(esc_in c).1 hc] at h
      omega
    · rw [e, (esc_in c).2 hc, ih (by rw [(esc_in c).2 hc] at h; simp at h; omega)]
      rfl
theorem es_take {s : Bs} {i : Nat} (h : i < s.length) : es (s.take (i + 1)) = es (s.take i) ++ esc (s.getD i 0) := by
  rw [List.take_succ_eq_append_getElem h, es_snoc]
  congr 2
  rw [List.getD_eq_getElem?_getD, List.getElem?_eq_getElem h]
  rfl
theorem es_app (a b : Bs) : es (a ++ b) = es a ++ es b := by simp [es]
theorem es_pre (s : Bs) (i : Nat) : (es (s.take i)).length ≤ (es s).length := by
  have := es_app (s.take i) (s.drop i)
  rw [List.take_append_drop] at this
  rw [this, List.length_append]
  omega
theorem cntN_le (s : Bs) {i : Nat} (h : i ≤ 5) : cntN s i ≤ s.length := by
  have h5 : cntN s i ≤ cntN s 5 := by
    have : i = 0 ∨ i = 1 ∨ i = 2 ∨ i = 3 ∨ i = 4 ∨ i = 5 := by omega
    rcases this with rfl | rfl | rfl | rfl | rfl | rfl <;> simp only [cntN, List.take_zero, List.take_succ_cons, List.take_nil, List.map_cons, List.map_nil, List.sum_cons, List.sum_nil] <;> omega
  have h1 := cnt_all s
  have h2 := es_len s
  omega
/-- where each sign stands with what it becomes -/
def Tbl (w : World) (gb : Nat) : Prop := ∃ (l : List Value) (tv : Value) (fz : Nat × Nat), w.heap[gb]? = some (.cells (l ++ [tv]).toArray 246 fz) ∧ l.length = 256 ∧ StrSl w tv TR ∧
  ∀ c : UInt8, ∃ A n cap, l[c.toNat]? = some (.slice A n cap) ∧ ((c ∉ TRb ∧ A = none) ∨ (c ∈ TRb ∧ n = 2 ∧ ∃ g, A = some ⟨g, 0, none⟩ ∧ 2 ≤ cap ∧ Cells w ⟨g, 0, none⟩ (ints (esc c))))
theorem tr_get {i : Nat} (h : i < 5) : TR.getD i [] = [TRb.getD i 0] := by
  have : i = 0 ∨ i = 1 ∨ i = 2 ∨ i = 3 ∨ i = 4 := by omega
  rcases this with rfl | rfl | rfl | rfl | rfl <;> rfl
theorem trb_mem {i : Nat} (h : i < 5) : TRb.getD i 0 ∈ TRb := by
  have : i = 0 ∨ i = 1 ∨ i = 2 ∨ i = 3 ∨ i = 4 := by omega
  rcases this with rfl | rfl | rfl | rfl | rfl <;> simp
/-- a buffer that is filled from its front -/
theorem buf_step {A Z news : Bs} {k : Nat} (hk : news.length = k) (hz : k ≤ Z.length) : (ints (A ++ Z)).take A.length ++ (ints news).take (min k Z.length) ++ (ints (A ++ Z)).drop (A.length + min k Z.length) = ints (A ++ news ++ Z.drop k) := by
  rw [Nat.min_eq_left hz, ints_take, ints_take, ints_drop, List.take_left, List.drop_append, List.drop_eq_nil_of_le (by omega), List.nil_append, ← hk, List.take_length, Nat.add_sub_cancel_left]
  simp only [ints_append]
theorem buf_set {A Z : Bs} {c : UInt8} (hz : 1 ≤ Z.length) : (A ++ Z).set A.length c = A ++ [c] ++ Z.drop 1 := by
  obtain ⟨z, Z', rfl⟩ : ∃ z Z', Z = z :: Z' := by
    cases Z with
    | nil => simp at hz
    | cons z Z' => exact ⟨z, Z', rfl⟩
  rw [List.set_append_right _ _ (Nat.le_refl _)]
  simp
theorem zeros_ints (n : Nat) : zeros [.int .u8 0] n = ints (List.replicate n 0) := by
  rw [zeros_one]
  simp [ints]
theorem vs3 {a a' c c' : Int} {b b' : Bool} (h1 : a = a') (h2 : b = b') (h3 : c = c') : [Value.int .i64 a, .bool b, .int .i64 c] = [.int .i64 a', .bool b', .int .i64 c'] := by rw [h1, h2, h3]
theorem vs2 {a a' c c' : Int} (h1 : a = a') (h3 : c = c') : [Value.int .i64 a, .int .i64 c] = [.int .i64 a', .int .i64 c'] := by rw [h1, h3]
attribute [local irreducible] es Tbl
theorem run_count {P : Program} (s : Bs) (c : UInt8) (w : World) : (Extern.BytealgCount.count #[.string (bs s), .int .u8 (c.toNat : Int)]).run P w = .ok (.int .i64 (s.count c : Nat)) w := by
  rw [Lib.run_countString]
  have h : ((c.toNat : Int).toNat.toUInt8) = c := by
    rw [Int.toNat_natCast]
    simp
  rw [h]
  rfl
/-- strings.Count -/
theorem count_con (s : Bs) (c : UInt8) (w : World) (hs : s.length ≤ 9223372036854775807) : Con Tryz.prog 235 [.string (bs s), .string (bs [c])] w [] fun v _ => v = .int .i64 (s.count c : Nat) := by
  refine con_of_tree mix Tryz.func235 T235_ok (by kernel_rfl) ?_
  unfold T235
  refine j_q (qs_ac) ?_
  refine j_q (qs_lens Tryz.underlying9 rfl) ?_
  refine j_q (qs_eql rfl rfl) ?_
  refine j_cond rfl (fun hc0 => ?_) (fun hc0 => ?_)
  · skip
    cases hc0
  · skip
    refine j_q (qs_lens Tryz.underlying9 rfl) ?_
    refine j_q (qs_eql rfl rfl) ?_
    refine j_cond rfl (fun hc1 => ?_) (fun hc1 => ?_)
    · skip
      refine j_q (qs_idx Tryz.underlying9 rfl rfl (by simp)) ?_
      refine j_q (qs_extern Tryz.func237 (by kernel_rfl) (by kernel_rfl) (by kernel_rfl) (e := Extern.BytealgCount.count) (by kernel_rfl) rfl rfl rfl (v := .int .i64 (s.count c : Nat)) (fun w => run_count s c w)) ?_
      refine j_ret_con (vs := [_]) (fun w' hw' => ⟨rfl, trivial⟩) ?_
      rfl
    · skip
      cases hc1
/-- (*strings.byteStringReplacer).Replace -/
theorem brep_con (gb : Nat) (s : Bs) (w : World) (hT : Tbl w gb) (hs : s.length ≤ 1099511627776) : Con Tryz.prog 233 [.pointer (some ⟨gb, 0, none⟩), .string (bs s)] w [] fun v _ => v = .string (bs (es s)) := by
  refine con_of_tree mix Tryz.func233 T233_ok (by kernel_rfl) ?_
  unfold T233
  unfold Tbl at hT
  obtain ⟨l, tv, fz, hgb, hl, hstr, htab⟩ := hT
  obtain ⟨At, capt, rfl, hcapt⟩ := strsl_form hstr
  obtain ⟨ga, off, rfl, hga, hcells⟩ := strsl_addr hstr (by decide)
  have hes0 : es [] = [] := by unfold es; rfl
  have heslen := es_len s
  have hTR : TR.length = 5 := rfl
  refine j_q (qs_ac) ?_
  refine j_q (qs_lens Tryz.underlying9 rfl) ?_
  refine j_q (qs_ac) ?_
  refine j_q (qs_nil rfl) ?_
  refine j_q (qs_field Tryz.underlying246 rfl sz22 (by decide) rfl) ?_
  refine j_q (qs_loadO (u := .slice (some ⟨ga, off, none⟩) TR.length capt) (rdo_base (o := .cells (l ++ [Value.slice (some ⟨ga, off, none⟩) TR.length capt]).toArray 246 fz) hgb (by simp)) Tryz.underlying22 rfl rfl (by show (l ++ [_])[256]? = _; rw [List.getElem?_append_right (by omega), hl]; rfl)) ?_
  refine j_q (qs_lenl Tryz.underlying22 rfl) ?_
  refine j_q (qs_mul64 rfl rfl (by first | omega | (simp only [Bool.and_eq_true, Bool.or_eq_true, Bool.and_eq_false_iff, Bool.or_eq_false_iff, Bool.not_eq_true', Bool.not_eq_false', decide_eq_true_eq, decide_eq_false_iff_not, beq_iff_eq, beq_eq_false_iff_ne, bne_iff_ne, bne_eq_false_iff_eq, ne_eq, Int.toNat_natCast] at *; omega))) ?_
  refine j_q (qs_lens Tryz.underlying9 rfl) ?_
  refine j_q (qs_leq rfl rfl) ?_
  refine j_cond rfl (fun hc0 => ?_) (fun hc0 => ?_)
  · skip
    refine j_q (qs_nil rfl) ?_
    refine j_q (qs_field Tryz.underlying246 rfl sz22 (by decide) rfl) ?_
    refine j_q (qs_loadO (u := .slice (some ⟨ga, off, none⟩) TR.length capt) (rdo_base (o := .cells (l ++ [Value.slice (some ⟨ga, off, none⟩) TR.length capt]).toArray 246 fz) hgb (by simp)) Tryz.underlying22 rfl rfl (by show (l ++ [_])[256]? = _; rw [List.getElem?_append_right (by omega), hl]; rfl)) ?_
    refine j_q (qs_lenl Tryz.underlying22 rfl) ?_
    refine j_q (qs_mc) ?_
    refine j_loop (fun m vs S' => ∃ i : Nat, vs = [.int .i64 ((s.length + cntN s i : Nat) : Int), .bool (decide (0 < cntN s i)), .int .i64 (i : Int)] ∧ S' = [[]] ∧ i ≤ 5 ∧ m = 5 - i) ⟨_, 0, rfl, rfl, by omega, rfl⟩ ?_
    rintro m vs S' hlen ⟨i, rfl, rfl, hi5, rfl⟩
    refine j_q (qs_lss rfl rfl) ?_
    refine j_cond rfl (fun hc1 => ?_) (fun hc1 => ?_)
    · skip
      have hi : i < 5 := by
        simp only [Bool.and_eq_true, Bool.or_eq_true, Bool.and_eq_false_iff, Bool.or_eq_false_iff, Bool.not_eq_true', Bool.not_eq_false', decide_eq_true_eq, decide_eq_false_iff_not, beq_iff_eq, beq_eq_false_iff_ne, bne_iff_ne, bne_eq_false_iff_eq, ne_eq, Int.toNat_natCast] at *
        omega
      have hcs := cntN_succ s hi
      obtain ⟨A, n0, cap, hA, hcase⟩ := htab (TRb.getD i 0)
      have hcle := List.count_le_length (a := TRb.getD i 0) (l := s)
      have hcnl := cntN_le s (i := i) (by omega)
      have hcnl2 := cntN_le s (i := i + 1) (by omega)
      refine j_q (qs_ixl0 Tryz.underlying22 sz9 rfl rfl ⟨(by first | omega | (simp only [Bool.and_eq_true, Bool.or_eq_true, Bool.and_eq_false_iff, Bool.or_eq_false_iff, Bool.not_eq_true', Bool.not_eq_false', decide_eq_true_eq, decide_eq_false_iff_not, beq_iff_eq, beq_eq_false_iff_ne, bne_iff_ne, bne_eq_false_iff_eq, ne_eq, Int.toNat_natCast] at *; omega)), (by first | omega | (simp only [Bool.and_eq_true, Bool.or_eq_true, Bool.and_eq_false_iff, Bool.or_eq_false_iff, Bool.not_eq_true', Bool.not_eq_false', decide_eq_true_eq, decide_eq_false_iff_not, beq_iff_eq, beq_eq_false_iff_ne, bne_iff_ne, bne_eq_false_iff_eq, ne_eq, Int.toNat_natCast] at *; omega))⟩) ?_
      refine j_q (qs_loadrs (rd_cells hcells (by simp)) Tryz.underlying9 rfl (by simp only [Int.toNat_natCast]; omega)) ?_
      simp only [Int.toNat_natCast]
      rw [tr_get hi]
      refine j_q (qs_call ent235 rfl rfl rfl (fun w' hw' => count_con s (TRb.getD i 0) w' (by omega))) ?_
      refine j_q (qs_neq rfl rfl) ?_
      refine j_cond rfl (fun hc2 => ?_) (fun hc2 => ?_)
      · skip
        have hc2' : s.count (TRb.getD i 0) ≠ 0 := by
          simp only [bne_iff_ne, ne_eq] at hc2
          omega
        have hin : TRb.getD i 0 ∈ TRb ∧ n0 = 2 ∧ ∃ g, A = some ⟨g, 0, none⟩ ∧ 2 ≤ cap ∧ Cells w ⟨g, 0, none⟩ (ints (esc (TRb.getD i 0))) := by
          rcases hcase with ⟨h, _⟩ | h
          · exact absurd (trb_mem hi) h
          · exact h
        obtain ⟨hin, rfl, gc, rfl, hcap, hcc⟩ := hin
        refine j_draw ?_
        refine jq_q (qs_idx Tryz.underlying9 rfl rfl (by simp)) ?_
        rw [show ([TRb.getD i 0] : Bs).getD (Int.toNat 0) 0 = TRb.getD i 0 from rfl]
        have hb256 := (TRb.getD i 0).toNat_lt
        refine jq_q (qs_nil rfl) ?_
        refine jq_q (qs_field Tryz.underlying246 rfl sz244 (by decide) rfl) ?_
        refine jq_q (qs_ix0 Tryz.underlying244 sz46 rfl rfl ⟨(by first | omega | (simp only [Bool.and_eq_true, Bool.or_eq_true, Bool.and_eq_false_iff, Bool.or_eq_false_iff, Bool.not_eq_true', Bool.not_eq_false', decide_eq_true_eq, decide_eq_false_iff_not, beq_iff_eq, beq_eq_false_iff_ne, bne_iff_ne, bne_eq_false_iff_eq, ne_eq, Int.toNat_natCast] at *; omega)), (by first | omega | (simp only [Bool.and_eq_true, Bool.or_eq_true, Bool.and_eq_false_iff, Bool.or_eq_false_iff, Bool.not_eq_true', Bool.not_eq_false', decide_eq_true_eq, decide_eq_false_iff_not, beq_iff_eq, beq_eq_false_iff_ne, bne_iff_ne, bne_eq_false_iff_eq, ne_eq, Int.toNat_natCast] at *; omega))⟩) ?_
        refine jq_q (qs_loadO (u := .slice (some ⟨gc, 0, none⟩) 2 cap) (rdo_base (o := .cells (l ++ [Value.slice (some ⟨ga, off, none⟩) TR.length capt]).toArray 246 fz) hgb (by simp)) Tryz.underlying46 rfl (by simp only [Int.toNat_natCast, Nat.zero_add]; rfl) (by rw [List.getElem?_append_left (by rw [hl]; exact UInt8.toNat_lt _)]; exact hA)) ?_
        refine jq_q (qs_lenl Tryz.underlying46 rfl) ?_
        refine jq_q (qs_sub64 rfl rfl (by first | omega | (simp only [Bool.and_eq_true, Bool.or_eq_true, Bool.and_eq_false_iff, Bool.or_eq_false_iff, Bool.not_eq_true', Bool.not_eq_false', decide_eq_true_eq, decide_eq_false_iff_not, beq_iff_eq, beq_eq_false_iff_ne, bne_iff_ne, bne_eq_false_iff_eq, ne_eq, Int.toNat_natCast] at *; omega))) ?_
        refine jq_q (qs_mul64 rfl rfl (by first | omega | (simp only [Bool.and_eq_true, Bool.or_eq_true, Bool.and_eq_false_iff, Bool.or_eq_false_iff, Bool.not_eq_true', Bool.not_eq_false', decide_eq_true_eq, decide_eq_false_iff_not, beq_iff_eq, beq_eq_false_iff_ne, bne_iff_ne, bne_eq_false_iff_eq, ne_eq, Int.toNat_natCast] at *; omega))) ?_
        refine jq_q (qs_add64 rfl rfl (by first | omega | (simp only [Bool.and_eq_true, Bool.or_eq_true, Bool.and_eq_false_iff, Bool.or_eq_false_iff, Bool.not_eq_true', Bool.not_eq_false', decide_eq_true_eq, decide_eq_false_iff_not, beq_iff_eq, beq_eq_false_iff_ne, bne_iff_ne, bne_eq_false_iff_eq, ne_eq, Int.toNat_natCast] at *; omega))) ?_
        refine jq_nil ?_
        refine j_q (qs_ac) ?_
        refine j_q (qs_add64 rfl rfl (by first | omega | (simp only [Bool.and_eq_true, Bool.or_eq_true, Bool.and_eq_false_iff, Bool.or_eq_false_iff, Bool.not_eq_true', Bool.not_eq_false', decide_eq_true_eq, decide_eq_false_iff_not, beq_iff_eq, beq_eq_false_iff_ne, bne_iff_ne, bne_eq_false_iff_eq, ne_eq, Int.toNat_natCast] at *; omega))) ?_
        refine j_back rfl ?_
        exact ⟨5 - (i + 1), by omega, i + 1, vs3 (by omega) (decide_eq_true (by omega)).symm (by omega), rfl, by omega, rfl⟩
      · skip
        have hc2' : s.count (TRb.getD i 0) = 0 := by
          simp only [bne_eq_false_iff_eq] at hc2
          omega
        refine j_q (qs_add64 rfl rfl (by first | omega | (simp only [Bool.and_eq_true, Bool.or_eq_true, Bool.and_eq_false_iff, Bool.or_eq_false_iff, Bool.not_eq_true', Bool.not_eq_false', decide_eq_true_eq, decide_eq_false_iff_not, beq_iff_eq, beq_eq_false_iff_ne, bne_iff_ne, bne_eq_false_iff_eq, ne_eq, Int.toNat_natCast] at *; omega))) ?_
        refine j_back rfl ?_
        exact ⟨5 - (i + 1), by omega, i + 1, vs3 (by omega) (by rw [hcs, hc2', Nat.add_zero]) (by omega), rfl, by omega, rfl⟩
    · skip
      obtain rfl : i = 5 := by
        simp only [Bool.and_eq_true, Bool.or_eq_true, Bool.and_eq_false_iff, Bool.or_eq_false_iff, Bool.not_eq_true', Bool.not_eq_false', decide_eq_true_eq, decide_eq_false_iff_not, beq_iff_eq, beq_eq_false_iff_ne, bne_iff_ne, bne_eq_false_iff_eq, ne_eq, Int.toNat_natCast] at *
        omega
      have hall := cnt_all s
      refine j_q (qs_not rfl) ?_
      refine j_cond rfl (fun hc3 => ?_) (fun hc3 => ?_)
      · skip
        have hno : cntN s 5 = 0 := by simp at hc3; omega
        have hsame := es_same (s := s) (by omega)
        refine j_ret_con (vs := [_]) (fun w' hw' => ⟨rfl, trivial⟩) ?_
        show Value.string _ = _
        rw [hsame]
      · skip
        rw [← hall]
        refine j_make Tryz.underlying46 sb5 zero5 rfl (by decide) rfl rfl (by first | omega | (simp only [Bool.and_eq_true, Bool.or_eq_true, Bool.and_eq_false_iff, Bool.or_eq_false_iff, Bool.not_eq_true', Bool.not_eq_false', decide_eq_true_eq, decide_eq_false_iff_not, beq_iff_eq, beq_eq_false_iff_ne, bne_iff_ne, bne_eq_false_iff_eq, ne_eq, Int.toNat_natCast] at *; omega)) (by first | omega | (simp only [Bool.and_eq_true, Bool.or_eq_true, Bool.and_eq_false_iff, Bool.or_eq_false_iff, Bool.not_eq_true', Bool.not_eq_false', decide_eq_true_eq, decide_eq_false_iff_not, beq_iff_eq, beq_eq_false_iff_ne, bne_iff_ne, bne_eq_false_iff_eq, ne_eq, Int.toNat_natCast] at *; omega)) (fun g33 v33 c33 hv33 hc33 ho33 => ?_)
        subst hv33 hc33
        refine j_q (qs_ac) ?_
        refine j_q (qs_ac) ?_
        refine j_loop (fun m vs S' => ∃ i : Nat, vs = [.int .i64 ((es (s.take i)).length : Nat), .int .i64 (i : Int)] ∧ S' = [[(g33, .cells (ints (es (s.take i) ++ List.replicate ((es s).length - (es (s.take i)).length) 0)).toArray 5 (0, 0))], []] ∧ i ≤ s.length ∧ m = s.length - i) ⟨_, 0, (by simp [hes0]; try exact ⟨rfl, rfl⟩), by simp only [List.take_zero, hes0, List.nil_append, List.length_nil, Nat.sub_zero, zeros_ints], Nat.zero_le _, rfl⟩ ?_
        rintro m vs S' hlen ⟨i, rfl, rfl, hin0, rfl⟩
        refine j_q (qs_lens Tryz.underlying9 rfl) ?_
        refine j_q (qs_lss rfl rfl) ?_
        refine j_cond rfl (fun hc4 => ?_) (fun hc4 => ?_)
        · skip
          have hi : i < s.length := by
            simp only [Bool.and_eq_true, Bool.or_eq_true, Bool.and_eq_false_iff, Bool.or_eq_false_iff, Bool.not_eq_true', Bool.not_eq_false', decide_eq_true_eq, decide_eq_false_iff_not, beq_iff_eq, beq_eq_false_iff_ne, bne_iff_ne, bne_eq_false_iff_eq, ne_eq, Int.toNat_natCast] at *
            omega
          obtain ⟨A, n0, cap, hA, hcase⟩ := htab (s.getD i 0)
          have hb256 := (s.getD i 0).toNat_lt
          have hst := es_take hi
          have hge := (es_len (s.take i)).1
          rw [List.length_take, Nat.min_eq_left (by omega)] at hge
          have hpre := es_pre s (i + 1)
          have hpre0 := es_pre s i
          have hlen1 : (es (s.take (i + 1))).length = (es (s.take i)).length + (esc (s.getD i 0)).length := by rw [hst, List.length_append]
          refine j_q (qs_idx Tryz.underlying9 rfl rfl ⟨(by first | omega | (simp only [Bool.and_eq_true, Bool.or_eq_true, Bool.and_eq_false_iff, Bool.or_eq_false_iff, Bool.not_eq_true', Bool.not_eq_false', decide_eq_true_eq, decide_eq_false_iff_not, beq_iff_eq, beq_eq_false_iff_ne, bne_iff_ne, bne_eq_false_iff_eq, ne_eq, Int.toNat_natCast] at *; omega)), (by first | omega | (simp only [Bool.and_eq_true, Bool.or_eq_true, Bool.and_eq_false_iff, Bool.or_eq_false_iff, Bool.not_eq_true', Bool.not_eq_false', decide_eq_true_eq, decide_eq_false_iff_not, beq_iff_eq, beq_eq_false_iff_ne, bne_iff_ne, bne_eq_false_iff_eq, ne_eq, Int.toNat_natCast] at *; omega))⟩) ?_
          simp only [Int.toNat_natCast]
          refine j_q (qs_nil rfl) ?_
          refine j_q (qs_field Tryz.underlying246 rfl sz244 (by decide) rfl) ?_
          refine j_q (qs_ix0 Tryz.underlying244 sz46 rfl rfl ⟨(by first | omega | (simp only [Bool.and_eq_true, Bool.or_eq_true, Bool.and_eq_false_iff, Bool.or_eq_false_iff, Bool.not_eq_true', Bool.not_eq_false', decide_eq_true_eq, decide_eq_false_iff_not, beq_iff_eq, beq_eq_false_iff_ne, bne_iff_ne, bne_eq_false_iff_eq, ne_eq, Int.toNat_natCast] at *; omega)), (by first | omega | (simp only [Bool.and_eq_true, Bool.or_eq_true, Bool.and_eq_false_iff, Bool.or_eq_false_iff, Bool.not_eq_true', Bool.not_eq_false', decide_eq_true_eq, decide_eq_false_iff_not, beq_iff_eq, beq_eq_false_iff_ne, bne_iff_ne, bne_eq_false_iff_eq, ne_eq, Int.toNat_natCast] at *; omega))⟩) ?_
          refine j_q (qs_loadO (u := .slice A n0 cap) (rdo_base (o := .cells (l ++ [Value.slice (some ⟨ga, off, none⟩) TR.length capt]).toArray 246 fz) hgb (by simp)) Tryz.underlying46 rfl (by simp only [Int.toNat_natCast, Nat.zero_add]; rfl) (by rw [List.getElem?_append_left (by rw [hl]; exact UInt8.toNat_lt _)]; exact hA)) ?_
          refine j_q (qs_slnnil Tryz.underlying46 rfl) ?_
          refine j_cond rfl (fun hc5 => ?_) (fun hc5 => ?_)
          · skip
            have hin : s.getD i 0 ∈ TRb ∧ n0 = 2 ∧ ∃ g, A = some ⟨g, 0, none⟩ ∧ 2 ≤ cap ∧ Cells w ⟨g, 0, none⟩ (ints (esc (s.getD i 0))) := by
              rcases hcase with ⟨_, h⟩ | h
              · rw [h] at hc5; cases hc5
              · exact h
            obtain ⟨hin, rfl, gc, rfl, hcap, hcc⟩ := hin
            have he2 := (esc_in (s.getD i 0)).1 hin
            refine j_mix [[]] (Le.of_sub (by repeat first | exact List.Sublist.refl _ | exact List.nil_sublist _ | apply List.Sublist.cons_cons | apply List.Sublist.cons)) ?_
            refine j_mq (qs_cutl (a := (es (s.take i)).length) (z := (es s).length) Tryz.underlying46 sz5 rfl ⟨_, rfl⟩ rfl (by first | omega | (simp only [Bool.and_eq_true, Bool.or_eq_true, Bool.and_eq_false_iff, Bool.or_eq_false_iff, Bool.not_eq_true', Bool.not_eq_false', decide_eq_true_eq, decide_eq_false_iff_not, beq_iff_eq, beq_eq_false_iff_ne, bne_iff_ne, bne_eq_false_iff_eq, ne_eq, Int.toNat_natCast] at *; omega)) (by first | omega | (simp only [Bool.and_eq_true, Bool.or_eq_true, Bool.and_eq_false_iff, Bool.or_eq_false_iff, Bool.not_eq_true', Bool.not_eq_false', decide_eq_true_eq, decide_eq_false_iff_not, beq_iff_eq, beq_eq_false_iff_ne, bne_iff_ne, bne_eq_false_iff_eq, ne_eq, Int.toNat_natCast] at *; omega))) ?_
            rw [if_neg (show ¬ (es s).length = (es (s.take i)).length by omega)]
            simp only [Option.map_some, add_off, Nat.zero_add, Nat.mul_one]
            refine j_mq (qs_nil rfl) ?_
            refine j_mq (qs_field Tryz.underlying246 rfl sz244 (by decide) rfl) ?_
            refine j_mq (qs_ix0 Tryz.underlying244 sz46 rfl rfl ⟨(by first | omega | (simp only [Bool.and_eq_true, Bool.or_eq_true, Bool.and_eq_false_iff, Bool.or_eq_false_iff, Bool.not_eq_true', Bool.not_eq_false', decide_eq_true_eq, decide_eq_false_iff_not, beq_iff_eq, beq_eq_false_iff_ne, bne_iff_ne, bne_eq_false_iff_eq, ne_eq, Int.toNat_natCast] at *; omega)), (by first | omega | (simp only [Bool.and_eq_true, Bool.or_eq_true, Bool.and_eq_false_iff, Bool.or_eq_false_iff, Bool.not_eq_true', Bool.not_eq_false', decide_eq_true_eq, decide_eq_false_iff_not, beq_iff_eq, beq_eq_false_iff_ne, bne_iff_ne, bne_eq_false_iff_eq, ne_eq, Int.toNat_natCast] at *; omega))⟩) ?_
            refine j_mq (qs_loadO (u := .slice (some ⟨gc, 0, none⟩) 2 cap) (rdo_base (o := .cells (l ++ [Value.slice (some ⟨ga, off, none⟩) TR.length capt]).toArray 246 fz) hgb (by simp)) Tryz.underlying46 rfl (by simp only [Int.toNat_natCast, Nat.zero_add]; rfl) (by rw [List.getElem?_append_left (by rw [hl]; exact UInt8.toNat_lt _)]; exact hA)) ?_
            refine j_copy (off := (es (s.take i)).length) (dn := (es s).length - (es (s.take i)).length) (l := ints (es (s.take i) ++ List.replicate ((es s).length - (es (s.take i)).length) 0)) (news := ints (esc (s.getD i 0))) (m := 2) 0 Tryz.underlying46 sz5 rfl (.inl ⟨_, _, rfl, rd_cells hcc (by simp), by rw [ints_length, he2]⟩) rfl ints_one (by rw [ints_length]; simp only [List.length_append, List.length_replicate]; omega) (fun j h1 h2 => by simp) ?_
            have hbs := buf_step (A := es (s.take i)) (Z := List.replicate ((es s).length - (es (s.take i)).length) 0) he2 (by simp only [List.length_replicate]; omega)
            rw [List.length_replicate] at hbs
            rw [hbs, ← hst, List.drop_replicate, show (es s).length - (es (s.take i)).length - 2 = (es s).length - (es (s.take (i + 1))).length by omega]
            clear hbs
            refine j_mD0 (Le.of_sub (by repeat first | exact List.Sublist.refl _ | exact List.nil_sublist _ | apply List.Sublist.cons_cons | apply List.Sublist.cons)) ?_
            refine j_mq (qs_add64 rfl rfl (by first | omega | (simp only [Bool.and_eq_true, Bool.or_eq_true, Bool.and_eq_false_iff, Bool.or_eq_false_iff, Bool.not_eq_true', Bool.not_eq_false', decide_eq_true_eq, decide_eq_false_iff_not, beq_iff_eq, beq_eq_false_iff_ne, bne_iff_ne, bne_eq_false_iff_eq, ne_eq, Int.toNat_natCast] at *; omega))) ?_
            refine j_mend ?_
            refine j_q (qs_add64 rfl rfl (by first | omega | (simp only [Bool.and_eq_true, Bool.or_eq_true, Bool.and_eq_false_iff, Bool.or_eq_false_iff, Bool.not_eq_true', Bool.not_eq_false', decide_eq_true_eq, decide_eq_false_iff_not, beq_iff_eq, beq_eq_false_iff_ne, bne_iff_ne, bne_eq_false_iff_eq, ne_eq, Int.toNat_natCast] at *; omega))) ?_
            refine j_back rfl ?_
            exact ⟨s.length - (i + 1), by omega, i + 1, vs2 (by omega) (by omega), rfl, by omega, rfl⟩
          · skip
            have hin : s.getD i 0 ∉ TRb := by
              rcases hcase with ⟨h, _⟩ | ⟨_, _, g, h, _⟩
              · exact h
              · rw [h] at hc5; cases hc5
            have he1 := (esc_in (s.getD i 0)).2 hin
            have he1l : (esc (s.getD i 0)).length = 1 := by rw [he1]; rfl
            refine j_q (qs_ixl0 Tryz.underlying46 sz5 rfl rfl ⟨(by first | omega | (simp only [Bool.and_eq_true, Bool.or_eq_true, Bool.and_eq_false_iff, Bool.or_eq_false_iff, Bool.not_eq_true', Bool.not_eq_false', decide_eq_true_eq, decide_eq_false_iff_not, beq_iff_eq, beq_eq_false_iff_ne, bne_iff_ne, bne_eq_false_iff_eq, ne_eq, Int.toNat_natCast] at *; omega)), (by first | omega | (simp only [Bool.and_eq_true, Bool.or_eq_true, Bool.and_eq_false_iff, Bool.or_eq_false_iff, Bool.not_eq_true', Bool.not_eq_false', decide_eq_true_eq, decide_eq_false_iff_not, beq_iff_eq, beq_eq_false_iff_ne, bne_iff_ne, bne_eq_false_iff_eq, ne_eq, Int.toNat_natCast] at *; omega))⟩) ?_
            rw [add_off, Nat.zero_add, Int.toNat_natCast]
            refine j_storei (g := g33) (i := (es (s.take i)).length) (l := es (s.take i) ++ List.replicate ((es s).length - (es (s.take i)).length) 0) 0 sz5 rfl rfl rfl (by simp only [List.length_append, List.length_replicate]; omega) ?_
            rw [buf_set (by rw [List.length_replicate]; omega), ← he1, ← hst, List.drop_replicate, show (es s).length - (es (s.take i)).length - 1 = (es s).length - (es (s.take (i + 1))).length by omega]
            refine j_q (qs_add64 rfl rfl (by first | omega | (simp only [Bool.and_eq_true, Bool.or_eq_true, Bool.and_eq_false_iff, Bool.or_eq_false_iff, Bool.not_eq_true', Bool.not_eq_false', decide_eq_true_eq, decide_eq_false_iff_not, beq_iff_eq, beq_eq_false_iff_ne, bne_iff_ne, bne_eq_false_iff_eq, ne_eq, Int.toNat_natCast] at *; omega))) ?_
            refine j_q (qs_add64 rfl rfl (by first | omega | (simp only [Bool.and_eq_true, Bool.or_eq_true, Bool.and_eq_false_iff, Bool.or_eq_false_iff, Bool.not_eq_true', Bool.not_eq_false', decide_eq_true_eq, decide_eq_false_iff_not, beq_iff_eq, beq_eq_false_iff_ne, bne_iff_ne, bne_eq_false_iff_eq, ne_eq, Int.toNat_natCast] at *; omega))) ?_
            refine j_back rfl ?_
            exact ⟨s.length - (i + 1), by omega, i + 1, vs2 (by omega) (by omega), rfl, by omega, rfl⟩
        · skip
          obtain rfl : i = s.length := by
            simp only [Bool.and_eq_true, Bool.or_eq_true, Bool.and_eq_false_iff, Bool.or_eq_false_iff, Bool.not_eq_true', Bool.not_eq_false', decide_eq_true_eq, decide_eq_false_iff_not, beq_iff_eq, beq_eq_false_iff_ne, bne_iff_ne, bne_eq_false_iff_eq, ne_eq, Int.toNat_natCast] at *
            omega
          rw [List.take_length, Nat.sub_self, List.replicate_zero, List.append_nil]
          have HO56 : Sx.Own 5 1 (ints (es s)) (.slice (some ⟨g33, 0, none⟩) (es s).length (es s).length) [(g33, .cells (ints (es s)).toArray 5 (0, 0))] := .inr ⟨g33, _, _, [], (0, 0), rfl, by rw [List.append_nil], by rw [ints_length, Nat.mul_one], by rw [List.append_nil, ints_length, Nat.mul_one], Nat.le_refl _, fun j hj h => by simp at h⟩
          first
            | refine j_q (qs_stro 0 Tryz.underlying46 Tryz.underlying5 Tryz.underlying9 HO56 rfl) ?_
            | refine j_q (qs_stro 1 Tryz.underlying46 Tryz.underlying5 Tryz.underlying9 HO56 rfl) ?_
            | refine j_q (qs_stro 2 Tryz.underlying46 Tryz.underlying5 Tryz.underlying9 HO56 rfl) ?_
            | refine j_q (qs_stro 3 Tryz.underlying46 Tryz.underlying5 Tryz.underlying9 HO56 rfl) ?_
          refine j_ret_con (vs := [_]) (fun w' hw' => ⟨rfl, trivial⟩) ?_
          rfl
  · skip
    refine j_q (qs_ac) ?_
    refine j_loop (fun m vs S' => ∃ i : Nat, vs = [.int .i64 ((s.length + ((es (s.take i)).length - i) : Nat) : Int), .bool (decide (i < (es (s.take i)).length)), .int .i64 (i : Int)] ∧ S' = [[]] ∧ i ≤ s.length ∧ m = s.length - i) ⟨_, 0, (by simp [hes0]; try exact ⟨rfl, rfl, rfl⟩), rfl, Nat.zero_le _, rfl⟩ ?_
    rintro m vs S' hlen ⟨i, rfl, rfl, hin0, rfl⟩
    refine j_q (qs_lens Tryz.underlying9 rfl) ?_
    refine j_q (qs_lss rfl rfl) ?_
    refine j_cond rfl (fun hc6 => ?_) (fun hc6 => ?_)
    · skip
      have hi : i < s.length := by
        simp only [Bool.and_eq_true, Bool.or_eq_true, Bool.and_eq_false_iff, Bool.or_eq_false_iff, Bool.not_eq_true', Bool.not_eq_false', decide_eq_true_eq, decide_eq_false_iff_not, beq_iff_eq, beq_eq_false_iff_ne, bne_iff_ne, bne_eq_false_iff_eq, ne_eq, Int.toNat_natCast] at *
        omega
      obtain ⟨A, n0, cap, hA, hcase⟩ := htab (s.getD i 0)
      have hb256 := (s.getD i 0).toNat_lt
      have hst := es_take hi
      have hge := (es_len (s.take i)).1
      rw [List.length_take, Nat.min_eq_left (by omega)] at hge
      have hpre := es_pre s (i + 1)
      have hpre0 := es_pre s i
      have hlen1 : (es (s.take (i + 1))).length = (es (s.take i)).length + (esc (s.getD i 0)).length := by rw [hst, List.length_append]
      refine j_q (qs_idx Tryz.underlying9 rfl rfl ⟨(by first | omega | (simp only [Bool.and_eq_true, Bool.or_eq_true, Bool.and_eq_false_iff, Bool.or_eq_false_iff, Bool.not_eq_true', Bool.not_eq_false', decide_eq_true_eq, decide_eq_false_iff_not, beq_iff_eq, beq_eq_false_iff_ne, bne_iff_ne, bne_eq_false_iff_eq, ne_eq, Int.toNat_natCast] at *; omega)), (by first | omega | (simp only [Bool.and_eq_true, Bool.or_eq_true, Bool.and_eq_false_iff, Bool.or_eq_false_iff, Bool.not_eq_true', Bool.not_eq_false', decide_eq_true_eq, decide_eq_false_iff_not, beq_iff_eq, beq_eq_false_iff_ne, bne_iff_ne, bne_eq_false_iff_eq, ne_eq, Int.toNat_natCast] at *; omega))⟩) ?_
      simp only [Int.toNat_natCast]
      refine j_q (qs_nil rfl) ?_
      refine j_q (qs_field Tryz.underlying246 rfl sz244 (by decide) rfl) ?_
      refine j_q (qs_ix0 Tryz.underlying244 sz46 rfl rfl ⟨(by first | omega | (simp only [Bool.and_eq_true, Bool.or_eq_true, Bool.and_eq_false_iff, Bool.or_eq_false_iff, Bool.not_eq_true', Bool.not_eq_false', decide_eq_true_eq, decide_eq_false_iff_not, beq_iff_eq, beq_eq_false_iff_ne, bne_iff_ne, bne_eq_false_iff_eq, ne_eq, Int.toNat_natCast] at *; omega)), (by first | omega | (simp only [Bool.and_eq_true, Bool.or_eq_true, Bool.and_eq_false_iff, Bool.or_eq_false_iff, Bool.not_eq_true', Bool.not_eq_false', decide_eq_true_eq, decide_eq_false_iff_not, beq_iff_eq, beq_eq_false_iff_ne, bne_iff_ne, bne_eq_false_iff_eq, ne_eq, Int.toNat_natCast] at *; omega))⟩) ?_
      refine j_q (qs_loadO (u := .slice A n0 cap) (rdo_base (o := .cells (l ++ [Value.slice (some ⟨ga, off, none⟩) TR.length capt]).toArray 246 fz) hgb (by simp)) Tryz.underlying46 rfl (by simp only [Int.toNat_natCast, Nat.zero_add]; rfl) (by rw [List.getElem?_append_left (by rw [hl]; exact UInt8.toNat_lt _)]; exact hA)) ?_
      refine j_q (qs_slnnil Tryz.underlying46 rfl) ?_
      refine j_cond rfl (fun hc7 => ?_) (fun hc7 => ?_)
      · skip
        have hin : s.getD i 0 ∈ TRb ∧ n0 = 2 ∧ ∃ g, A = some ⟨g, 0, none⟩ ∧ 2 ≤ cap ∧ Cells w ⟨g, 0, none⟩ (ints (esc (s.getD i 0))) := by
          rcases hcase with ⟨_, h⟩ | h
          · rw [h] at hc7; cases hc7
          · exact h
        obtain ⟨hin, rfl, gc, rfl, hcap, hcc⟩ := hin
        have he2 := (esc_in (s.getD i 0)).1 hin
        refine j_q (qs_nil rfl) ?_
        refine j_q (qs_field Tryz.underlying246 rfl sz244 (by decide) rfl) ?_
        refine j_q (qs_ix0 Tryz.underlying244 sz46 rfl rfl ⟨(by first | omega | (simp only [Bool.and_eq_true, Bool.or_eq_true, Bool.and_eq_false_iff, Bool.or_eq_false_iff, Bool.not_eq_true', Bool.not_eq_false', decide_eq_true_eq, decide_eq_false_iff_not, beq_iff_eq, beq_eq_false_iff_ne, bne_iff_ne, bne_eq_false_iff_eq, ne_eq, Int.toNat_natCast] at *; omega)), (by first | omega | (simp only [Bool.and_eq_true, Bool.or_eq_true, Bool.and_eq_false_iff, Bool.or_eq_false_iff, Bool.not_eq_true', Bool.not_eq_false', decide_eq_true_eq, decide_eq_false_iff_not, beq_iff_eq, beq_eq_false_iff_ne, bne_iff_ne, bne_eq_false_iff_eq, ne_eq, Int.toNat_natCast] at *; omega))⟩) ?_
        refine j_q (qs_loadO (u := .slice (some ⟨gc, 0, none⟩) 2 cap) (rdo_base (o := .cells (l ++ [Value.slice (some ⟨ga, off, none⟩) TR.length capt]).toArray 246 fz) hgb (by simp)) Tryz.underlying46 rfl (by simp only [Int.toNat_natCast, Nat.zero_add]; rfl) (by rw [List.getElem?_append_left (by rw [hl]; exact UInt8.toNat_lt _)]; exact hA)) ?_
        refine j_q (qs_lenl Tryz.underlying46 rfl) ?_
        refine j_q (qs_sub64 rfl rfl (by first | omega | (simp only [Bool.and_eq_true, Bool.or_eq_true, Bool.and_eq_false_iff, Bool.or_eq_false_iff, Bool.not_eq_true', Bool.not_eq_false', decide_eq_true_eq, decide_eq_false_iff_not, beq_iff_eq, beq_eq_false_iff_ne, bne_iff_ne, bne_eq_false_iff_eq, ne_eq, Int.toNat_natCast] at *; omega))) ?_
        refine j_q (qs_add64 rfl rfl (by first | omega | (simp only [Bool.and_eq_true, Bool.or_eq_true, Bool.and_eq_false_iff, Bool.or_eq_false_iff, Bool.not_eq_true', Bool.not_eq_false', decide_eq_true_eq, decide_eq_false_iff_not, beq_iff_eq, beq_eq_false_iff_ne, bne_iff_ne, bne_eq_false_iff_eq, ne_eq, Int.toNat_natCast] at *; omega))) ?_
        refine j_q (qs_ac) ?_
        refine j_q (qs_add64 rfl rfl (by first | omega | (simp only [Bool.and_eq_true, Bool.or_eq_true, Bool.and_eq_false_iff, Bool.or_eq_false_iff, Bool.not_eq_true', Bool.not_eq_false', decide_eq_true_eq, decide_eq_false_iff_not, beq_iff_eq, beq_eq_false_iff_ne, bne_iff_ne, bne_eq_false_iff_eq, ne_eq, Int.toNat_natCast] at *; omega))) ?_
        refine j_back rfl ?_
        exact ⟨s.length - (i + 1), by omega, i + 1, vs3 (by omega) (decide_eq_true (by omega)).symm (by omega), rfl, by omega, rfl⟩
      · skip
        have hin : s.getD i 0 ∉ TRb := by
          rcases hcase with ⟨h, _⟩ | ⟨_, _, g, h, _⟩
          · exact h
          · rw [h] at hc7; cases hc7
        have he1 := (esc_in (s.getD i 0)).2 hin
        have he1l : (esc (s.getD i 0)).length = 1 := by rw [he1]; rfl
        refine j_q (qs_add64 rfl rfl (by first | omega | (simp only [Bool.and_eq_true, Bool.or_eq_true, Bool.and_eq_false_iff, Bool.or_eq_false_iff, Bool.not_eq_true', Bool.not_eq_false', decide_eq_true_eq, decide_eq_false_iff_not, beq_iff_eq, beq_eq_false_iff_ne, bne_iff_ne, bne_eq_false_iff_eq, ne_eq, Int.toNat_natCast] at *; omega))) ?_
        refine j_back rfl ?_
        exact ⟨s.length - (i + 1), by omega, i + 1, vs3 (by omega) (by rw [hlen1, he1l]; simp only [Nat.add_lt_add_iff_right]) (by omega), rfl, by omega, rfl⟩
    · skip
      obtain rfl : i = s.length := by
        simp only [Bool.and_eq_true, Bool.or_eq_true, Bool.and_eq_false_iff, Bool.or_eq_false_iff, Bool.not_eq_true', Bool.not_eq_false', decide_eq_true_eq, decide_eq_false_iff_not, beq_iff_eq, beq_eq_false_iff_ne, bne_iff_ne, bne_eq_false_iff_eq, ne_eq, Int.toNat_natCast] at *
        omega
      rw [List.take_length]
      have hsl : s.length + ((es s).length - s.length) = (es s).length := by omega
      rw [hsl]
      refine j_q (qs_not rfl) ?_
      refine j_cond rfl (fun hc8 => ?_) (fun hc8 => ?_)
      · skip
        have hsame := es_same (s := s) (by simp at hc8; omega)
        refine j_ret_con (vs := [_]) (fun w' hw' => ⟨rfl, trivial⟩) ?_
        show Value.string _ = _
        rw [hsame]
      · skip
        refine j_make Tryz.underlying46 sb5 zero5 rfl (by decide) rfl rfl (by first | omega | (simp only [Bool.and_eq_true, Bool.or_eq_true, Bool.and_eq_false_iff, Bool.or_eq_false_iff, Bool.not_eq_true', Bool.not_eq_false', decide_eq_true_eq, decide_eq_false_iff_not, beq_iff_eq, beq_eq_false_iff_ne, bne_iff_ne, bne_eq_false_iff_eq, ne_eq, Int.toNat_natCast] at *; omega)) (by first | omega | (simp only [Bool.and_eq_true, Bool.or_eq_true, Bool.and_eq_false_iff, Bool.or_eq_false_iff, Bool.not_eq_true', Bool.not_eq_false', decide_eq_true_eq, decide_eq_false_iff_not, beq_iff_eq, beq_eq_false_iff_ne, bne_iff_ne, bne_eq_false_iff_eq, ne_eq, Int.toNat_natCast] at *; omega)) (fun g77 v77 c77 hv77 hc77 ho77 => ?_)
        subst hv77 hc77
        refine j_q (qs_ac) ?_
        refine j_q (qs_ac) ?_
        refine j_loop (fun m vs S' => ∃ i : Nat, vs = [.int .i64 ((es (s.take i)).length : Nat), .int .i64 (i : Int)] ∧ S' = [[(g77, .cells (ints (es (s.take i) ++ List.replicate ((es s).length - (es (s.take i)).length) 0)).toArray 5 (0, 0))], []] ∧ i ≤ s.length ∧ m = s.length - i) ⟨_, 0, (by simp [hes0]; try exact ⟨rfl, rfl⟩), by simp only [List.take_zero, hes0, List.nil_append, List.length_nil, Nat.sub_zero, zeros_ints], Nat.zero_le _, rfl⟩ ?_
        rintro m vs S' hlen ⟨i, rfl, rfl, hin0, rfl⟩
        refine j_q (qs_lens Tryz.underlying9 rfl) ?_
        refine j_q (qs_lss rfl rfl) ?_
        refine j_cond rfl (fun hc9 => ?_) (fun hc9 => ?_)
        · skip
          have hi : i < s.length := by
            simp only [Bool.and_eq_true, Bool.or_eq_true, Bool.and_eq_false_iff, Bool.or_eq_false_iff, Bool.not_eq_true', Bool.not_eq_false', decide_eq_true_eq, decide_eq_false_iff_not, beq_iff_eq, beq_eq_false_iff_ne, bne_iff_ne, bne_eq_false_iff_eq, ne_eq, Int.toNat_natCast] at *
            omega
          obtain ⟨A, n0, cap, hA, hcase⟩ := htab (s.getD i 0)
          have hb256 := (s.getD i 0).toNat_lt
          have hst := es_take hi
          have hge := (es_len (s.take i)).1
          rw [List.length_take, Nat.min_eq_left (by omega)] at hge
          have hpre := es_pre s (i + 1)
          have hpre0 := es_pre s i
          have hlen1 : (es (s.take (i + 1))).length = (es (s.take i)).length + (esc (s.getD i 0)).length := by rw [hst, List.length_append]
          refine j_q (qs_idx Tryz.underlying9 rfl rfl ⟨(by first | omega | (simp only [Bool.and_eq_true, Bool.or_eq_true, Bool.and_eq_false_iff, Bool.or_eq_false_iff, Bool.not_eq_true', Bool.not_eq_false', decide_eq_true_eq, decide_eq_false_iff_not, beq_iff_eq, beq_eq_false_iff_ne, bne_iff_ne, bne_eq_false_iff_eq, ne_eq, Int.toNat_natCast] at *; omega)), (by first | omega | (simp only [Bool.and_eq_true, Bool.or_eq_true, Bool.and_eq_false_iff, Bool.or_eq_false_iff, Bool.not_eq_true', Bool.not_eq_false', decide_eq_true_eq, decide_eq_false_iff_not, beq_iff_eq, beq_eq_false_iff_ne, bne_iff_ne, bne_eq_false_iff_eq, ne_eq, Int.toNat_natCast] at *; omega))⟩) ?_
          simp only [Int.toNat_natCast]
          refine j_q (qs_nil rfl) ?_
          refine j_q (qs_field Tryz.underlying246 rfl sz244 (by decide) rfl) ?_
          refine j_q (qs_ix0 Tryz.underlying244 sz46 rfl rfl ⟨(by first | omega | (simp only [Bool.and_eq_true, Bool.or_eq_true, Bool.and_eq_false_iff, Bool.or_eq_false_iff, Bool.not_eq_true', Bool.not_eq_false', decide_eq_true_eq, decide_eq_false_iff_not, beq_iff_eq, beq_eq_false_iff_ne, bne_iff_ne, bne_eq_false_iff_eq, ne_eq, Int.toNat_natCast] at *; omega)), (by first | omega | (simp only [Bool.and_eq_true, Bool.or_eq_true, Bool.and_eq_false_iff, Bool.or_eq_false_iff, Bool.not_eq_true', Bool.not_eq_false', decide_eq_true_eq, decide_eq_false_iff_not, beq_iff_eq, beq_eq_false_iff_ne, bne_iff_ne, bne_eq_false_iff_eq, ne_eq, Int.toNat_natCast] at *; omega))⟩) ?_
          refine j_q (qs_loadO (u := .slice A n0 cap) (rdo_base (o := .cells (l ++ [Value.slice (some ⟨ga, off, none⟩) TR.length capt]).toArray 246 fz) hgb (by simp)) Tryz.underlying46 rfl (by simp only [Int.toNat_natCast, Nat.zero_add]; rfl) (by rw [List.getElem?_append_left (by rw [hl]; exact UInt8.toNat_lt _)]; exact hA)) ?_
          refine j_q (qs_slnnil Tryz.underlying46 rfl) ?_
          refine j_cond rfl (fun hc10 => ?_) (fun hc10 => ?_)
          · skip
            have hin : s.getD i 0 ∈ TRb ∧ n0 = 2 ∧ ∃ g, A = some ⟨g, 0, none⟩ ∧ 2 ≤ cap ∧ Cells w ⟨g, 0, none⟩ (ints (esc (s.getD i 0))) := by
              rcases hcase with ⟨_, h⟩ | h
              · rw [h] at hc10; cases hc10
              · exact h
            obtain ⟨hin, rfl, gc, rfl, hcap, hcc⟩ := hin
            have he2 := (esc_in (s.getD i 0)).1 hin
            refine j_mix [[]] (Le.of_sub (by repeat first | exact List.Sublist.refl _ | exact List.nil_sublist _ | apply List.Sublist.cons_cons | apply List.Sublist.cons)) ?_
            refine j_mq (qs_cutl (a := (es (s.take i)).length) (z := (es s).length) Tryz.underlying46 sz5 rfl ⟨_, rfl⟩ rfl (by first | omega | (simp only [Bool.and_eq_true, Bool.or_eq_true, Bool.and_eq_false_iff, Bool.or_eq_false_iff, Bool.not_eq_true', Bool.not_eq_false', decide_eq_true_eq, decide_eq_false_iff_not, beq_iff_eq, beq_eq_false_iff_ne, bne_iff_ne, bne_eq_false_iff_eq, ne_eq, Int.toNat_natCast] at *; omega)) (by first | omega | (simp only [Bool.and_eq_true, Bool.or_eq_true, Bool.and_eq_false_iff, Bool.or_eq_false_iff, Bool.not_eq_true', Bool.not_eq_false', decide_eq_true_eq, decide_eq_false_iff_not, beq_iff_eq, beq_eq_false_iff_ne, bne_iff_ne, bne_eq_false_iff_eq, ne_eq, Int.toNat_natCast] at *; omega))) ?_
            rw [if_neg (show ¬ (es s).length = (es (s.take i)).length by omega)]
            simp only [Option.map_some, add_off, Nat.zero_add, Nat.mul_one]
            refine j_mq (qs_nil rfl) ?_
            refine j_mq (qs_field Tryz.underlying246 rfl sz244 (by decide) rfl) ?_
            refine j_mq (qs_ix0 Tryz.underlying244 sz46 rfl rfl ⟨(by first | omega | (simp only [Bool.and_eq_true, Bool.or_eq_true, Bool.and_eq_false_iff, Bool.or_eq_false_iff, Bool.not_eq_true', Bool.not_eq_false', decide_eq_true_eq, decide_eq_false_iff_not, beq_iff_eq, beq_eq_false_iff_ne, bne_iff_ne, bne_eq_false_iff_eq, ne_eq, Int.toNat_natCast] at *; omega)), (by first | omega | (simp only [Bool.and_eq_true, Bool.or_eq_true, Bool.and_eq_false_iff, Bool.or_eq_false_iff, Bool.not_eq_true', Bool.not_eq_false', decide_eq_true_eq, decide_eq_false_iff_not, beq_iff_eq, beq_eq_false_iff_ne, bne_iff_ne, bne_eq_false_iff_eq, ne_eq, Int.toNat_natCast] at *; omega))⟩) ?_
            refine j_mq (qs_loadO (u := .slice (some ⟨gc, 0, none⟩) 2 cap) (rdo_base (o := .cells (l ++ [Value.slice (some ⟨ga, off, none⟩) TR.length capt]).toArray 246 fz) hgb (by simp)) Tryz.underlying46 rfl (by simp only [Int.toNat_natCast, Nat.zero_add]; rfl) (by rw [List.getElem?_append_left (by rw [hl]; exact UInt8.toNat_lt _)]; exact hA)) ?_
            refine j_copy (off := (es (s.take i)).length) (dn := (es s).length - (es (s.take i)).length) (l := ints (es (s.take i) ++ List.replicate ((es s).length - (es (s.take i)).length) 0)) (news := ints (esc (s.getD i 0))) (m := 2) 0 Tryz.underlying46 sz5 rfl (.inl ⟨_, _, rfl, rd_cells hcc (by simp), by rw [ints_length, he2]⟩) rfl ints_one (by rw [ints_length]; simp only [List.length_append, List.length_replicate]; omega) (fun j h1 h2 => by simp) ?_
            have hbs := buf_step (A := es (s.take i)) (Z := List.replicate ((es s).length - (es (s.take i)).length) 0) he2 (by simp only [List.length_replicate]; omega)
            rw [List.length_replicate] at hbs
            rw [hbs, ← hst, List.drop_replicate, show (es s).length - (es (s.take i)).length - 2 = (es s).length - (es (s.take (i + 1))).length by omega]
            clear hbs
            refine j_mD0 (Le.of_sub (by repeat first | exact List.Sublist.refl _ | exact List.nil_sublist _ | apply List.Sublist.cons_cons | apply List.Sublist.cons)) ?_
            refine j_mq (qs_add64 rfl rfl (by first | omega | (simp only [Bool.and_eq_true, Bool.or_eq_true, Bool.and_eq_false_iff, Bool.or_eq_false_iff, Bool.not_eq_true', Bool.not_eq_false', decide_eq_true_eq, decide_eq_false_iff_not, beq_iff_eq, beq_eq_false_iff_ne, bne_iff_ne, bne_eq_false_iff_eq, ne_eq, Int.toNat_natCast] at *; omega))) ?_
            refine j_mend ?_
            refine j_q (qs_add64 rfl rfl (by first | omega | (simp only [Bool.and_eq_true, Bool.or_eq_true, Bool.and_eq_false_iff, Bool.or_eq_false_iff, Bool.not_eq_true', Bool.not_eq_false', decide_eq_true_eq, decide_eq_false_iff_not, beq_iff_eq, beq_eq_false_iff_ne, bne_iff_ne, bne_eq_false_iff_eq, ne_eq, Int.toNat_natCast] at *; omega))) ?_
            refine j_back rfl ?_
            exact ⟨s.length - (i + 1), by omega, i + 1, vs2 (by omega) (by omega), rfl, by omega, rfl⟩
          · skip
            have hin : s.getD i 0 ∉ TRb := by
              rcases hcase with ⟨h, _⟩ | ⟨_, _, g, h, _⟩
              · exact h
              · rw [h] at hc10; cases hc10
            have he1 := (esc_in (s.getD i 0)).2 hin
            have he1l : (esc (s.getD i 0)).length = 1 := by rw [he1]; rfl
            refine j_q (qs_ixl0 Tryz.underlying46 sz5 rfl rfl ⟨(by first | omega | (simp only [Bool.and_eq_true, Bool.or_eq_true, Bool.and_eq_false_iff, Bool.or_eq_false_iff, Bool.not_eq_true', Bool.not_eq_false', decide_eq_true_eq, decide_eq_false_iff_not, beq_iff_eq, beq_eq_false_iff_ne, bne_iff_ne, bne_eq_false_iff_eq, ne_eq, Int.toNat_natCast] at *; omega)), (by first | omega | (simp only [Bool.and_eq_true, Bool.or_eq_true, Bool.and_eq_false_iff, Bool.or_eq_false_iff, Bool.not_eq_true', Bool.not_eq_false', decide_eq_true_eq, decide_eq_false_iff_not, beq_iff_eq, beq_eq_false_iff_ne, bne_iff_ne, bne_eq_false_iff_eq, ne_eq, Int.toNat_natCast] at *; omega))⟩) ?_
            rw [add_off, Nat.zero_add, Int.toNat_natCast]
            refine j_storei (g := g77) (i := (es (s.take i)).length) (l := es (s.take i) ++ List.replicate ((es s).length - (es (s.take i)).length) 0) 0 sz5 rfl rfl rfl (by simp only [List.length_append, List.length_replicate]; omega) ?_
            rw [buf_set (by rw [List.length_replicate]; omega), ← he1, ← hst, List.drop_replicate, show (es s).length - (es (s.take i)).length - 1 = (es s).length - (es (s.take (i + 1))).length by omega]
            refine j_q (qs_add64 rfl rfl (by first | omega | (simp only [Bool.and_eq_true, Bool.or_eq_true, Bool.and_eq_false_iff, Bool.or_eq_false_iff, Bool.not_eq_true', Bool.not_eq_false', decide_eq_true_eq, decide_eq_false_iff_not, beq_iff_eq, beq_eq_false_iff_ne, bne_iff_ne, bne_eq_false_iff_eq, ne_eq, Int.toNat_natCast] at *; omega))) ?_
            refine j_q (qs_add64 rfl rfl (by first | omega | (simp only [Bool.and_eq_true, Bool.or_eq_true, Bool.and_eq_false_iff, Bool.or_eq_false_iff, Bool.not_eq_true', Bool.not_eq_false', decide_eq_true_eq, decide_eq_false_iff_not, beq_iff_eq, beq_eq_false_iff_ne, bne_iff_ne, bne_eq_false_iff_eq, ne_eq, Int.toNat_natCast] at *; omega))) ?_
            refine j_back rfl ?_
            exact ⟨s.length - (i + 1), by omega, i + 1, vs2 (by omega) (by omega), rfl, by omega, rfl⟩
        · skip
          obtain rfl : i = s.length := by
            simp only [Bool.and_eq_true, Bool.or_eq_true, Bool.and_eq_false_iff, Bool.or_eq_false_iff, Bool.not_eq_true', Bool.not_eq_false', decide_eq_true_eq, decide_eq_false_iff_not, beq_iff_eq, beq_eq_false_iff_ne, bne_iff_ne, bne_eq_false_iff_eq, ne_eq, Int.toNat_natCast] at *
            omega
          rw [List.take_length, Nat.sub_self, List.replicate_zero, List.append_nil]
          have HO100 : Sx.Own 5 1 (ints (es s)) (.slice (some ⟨g77, 0, none⟩) (es s).length (es s).length) [(g77, .cells (ints (es s)).toArray 5 (0, 0))] := .inr ⟨g77, _, _, [], (0, 0), rfl, by rw [List.append_nil], by rw [ints_length, Nat.mul_one], by rw [List.append_nil, ints_length, Nat.mul_one], Nat.le_refl _, fun j hj h => by simp at h⟩
          first
            | refine j_q (qs_stro 0 Tryz.underlying46 Tryz.underlying5 Tryz.underlying9 HO100 rfl) ?_
            | refine j_q (qs_stro 1 Tryz.underlying46 Tryz.underlying5 Tryz.underlying9 HO100 rfl) ?_
            | refine j_q (qs_stro 2 Tryz.underlying46 Tryz.underlying5 Tryz.underlying9 HO100 rfl) ?_
            | refine j_q (qs_stro 3 Tryz.underlying46 Tryz.underlying5 Tryz.underlying9 HO100 rfl) ?_
          refine j_ret_con (vs := [_]) (fun w' hw' => ⟨rfl, trivial⟩) ?_
          rfl
end Go.Proofs.YtfeabbeebkkhaaaGreat
