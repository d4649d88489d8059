/- Part 6. -/
import Derived.Test.YtfeabbeebkkhaaaGreatPC2
import Derived.Test.YtfeabbeebkkhaaaGreatPC3
import Derived.Test.YtfeabbeebkkhaaaGreatPC5
import Derived.Test.YtfeabbeebkkhaaaGreatPC4
import Derived.Tactics
import Derived.Tactics2
import Derived.Defers
import Derived.Recover
import Derived.Laws.Pointers
import Derived.RegionTactic
import Derived.RegionCalls
import Derived.ChangeAlike
import Derived.Laws.LoneSync
/-! Dv1 -/
namespace Go.Proofs.YtfeabbeebkkhaaaGreat
open Go Go.Sx
set_option maxRecDepth 100000
set_option maxHeartbeats 4000000
set_option linter.unusedVariables false
set_option linter.unusedSimpArgs false
attribute [local irreducible] J JQ QS Con W opW
abbrev TRb : List UInt8 := [9, 13, 10, 92, 34]
abbrev TR : List Bs := [[9], [13], [10], [92], [34]]
theorem esc_in (c : UInt8) : (c ∈ TRb → (esc c).length = 2) ∧ (c ∉ TRb → esc c = [c]) := by
  unfold esc
  constructor
  · intro h
    simp only [List.mem_cons, List.not_mem_nil, or_false] at h
    rcases h with rfl | rfl | rfl | rfl | rfl <;> rfl
  · intro h
    simp only [List.mem_cons, List.not_mem_nil, or_false, not_or] at h
    rw [if_neg h.2.2.2.2, if_neg h.2.2.2.1, if_neg h.2.2.1, if_neg h.2.1, if_neg h.1]
def cntN (s : Bs) (i : Nat) : Nat := ((TRb.take i).map fun c => s.count c).sum
theorem cntN_succ (s : Bs) {i : Nat} (h : i < 5) : cntN s (i + 1) = cntN s i + s.count (TRb.getD i 0) := by
  unfold cntN
  rw [List.take_succ_eq_append_getElem (by simpa using h), List.map_append, List.sum_append]
  have : TRb.getD i 0 = TRb[i]'(by simpa using h) := by rw [List.getD_eq_getElem?_getD, List.getElem?_eq_getElem (by simpa using h)]; rfl
  rw [this]
  simp
theorem cnt_all (s : Bs) : (es s).length = s.length + cntN s 5 := by
  induction s with
  | nil => rfl
  | cons c s ih =>
    have e : es (c :: s) = esc c ++ es s := by simp [es]
    have h5 : ∀ s : Bs, cntN s 5 = s.count 9 + (s.count 13 + (s.count 10 + (s.count 92 + (s.count 34 + 0)))) := fun s => rfl
    rw [e, List.length_append, ih, h5, h5, List.length_cons]
    by_cases h : c ∈ TRb
    · rw [(esc_in c).1 h]
      simp only [List.mem_cons, List.not_mem_nil, or_false] at h
      rcases h with rfl | rfl | rfl | rfl | rfl <;> simp only [List.count_cons] <;> simp <;> omega
    · rw [(esc_in c).2 h]
      simp only [List.mem_cons, List.not_mem_nil, or_false, not_or] at h
      obtain ⟨h1, h2, h3, h4, h5⟩ := h
      simp only [List.count_cons, beq_iff_eq, h1, h2, h3, h4, h5, if_false, List.length_singleton]
      omega
theorem es_same {s : Bs} (h : (es s).length ≤ s.length) : es s = s := by
  induction s with
  | nil => rfl
  | cons c s ih =>
    have e : es (c :: s) = esc c ++ es s := by simp [es]
    rw [e, List.length_append, List.length_cons] at h
    have h1 := esc_len c
    have h2 := es_len s
    by_cases hc : c ∈ TRb
    · rw [(esc_in c).1 hc] at h
      omega
    · rw [e, (esc_in c).2 hc, ih (by rw [(esc_in c).2 hc] at h; simp at h; omega)]
      rfl
theorem es_take {s : Bs} {i : Nat} (h : i < s.length) : es (s.take (i + 1)) = es (s.take i) ++ esc (s.getD i 0) := by
  rw [List.take_succ_eq_append_getElem h, es_snoc]
  congr 2
  rw [List.getD_eq_getElem?_getD, List.getElem?_eq_getElem h]
  rfl
theorem es_app (a b : Bs) : es (a ++ b) = es a ++ es b := by simp [es]
theorem es_pre (s : Bs) (i : Nat) : (es (s.take i)).length ≤ (es s).length := by
  have := es_app (s.take i) (s.drop i)
  rw [List.take_append_drop] at this
  rw [this, List.length_append]
  omega
theorem cntN_le (s : Bs) {i : Nat} (h : i ≤ 5) : cntN s i ≤ s.length := by
  have h5 : cntN s i ≤ cntN s 5 := by
    have : i = 0 ∨ i = 1 ∨ i = 2 ∨ i = 3 ∨ i = 4 ∨ i = 5 := by omega
    rcases this with rfl | rfl | rfl | rfl | rfl | rfl <;> simp only [cntN, List.take_zero, List.take_succ_cons, List.take_nil, List.map_cons, List.map_nil, List.sum_cons, List.sum_nil] <;> omega
  have h1 := cnt_all s
  have h2 := es_len s
  omega
def Tbl (w : World) (gb : Nat) : Prop := ∃ (l : List Value) (tv : Value) (fz : Nat × Nat), w.heap[gb]? = some (.cells (l ++ [tv]).toArray 246 fz) ∧ l.length = 256 ∧ StrSl w tv TR ∧
  ∀ c : UInt8, ∃ A n cap, l[c.toNat]? = some (.slice A n cap) ∧ ((c ∉ TRb ∧ A = none) ∨ (c ∈ TRb ∧ n = 2 ∧ ∃ g, A = some ⟨g, 0, none⟩ ∧ 2 ≤ cap ∧ Cells w ⟨g, 0, none⟩ (ints (esc c))))
theorem tr_get {i : Nat} (h : i < 5) : TR.getD i [] = [TRb.getD i 0] := by
  have : i = 0 ∨ i = 1 ∨ i = 2 ∨ i = 3 ∨ i = 4 := by omega
  rcases this with rfl | rfl | rfl | rfl | rfl <;> rfl
theorem trb_mem {i : Nat} (h : i < 5) : TRb.getD i 0 ∈ TRb := by
  have : i = 0 ∨ i = 1 ∨ i = 2 ∨ i = 3 ∨ i = 4 := by omega
  rcases this with rfl | rfl | rfl | rfl | rfl <;> simp
theorem buf_step {A Z news : Bs} {k : Nat} (hk : news.length = k) (hz : k ≤ Z.length) : (ints (A ++ Z)).take A.length ++ (ints news).take (min k Z.length) ++ (ints (A ++ Z)).drop (A.length + min k Z.length) = ints (A ++ news ++ Z.drop k) := by
  rw [Nat.min_eq_left hz, ints_take, ints_take, ints_drop, List.take_left, List.drop_append, List.drop_eq_nil_of_le (by omega), List.nil_append, ← hk, List.take_length, Nat.add_sub_cancel_left]
  simp only [ints_append]
theorem buf_set {A Z : Bs} {c : UInt8} (hz : 1 ≤ Z.length) : (A ++ Z).set A.length c = A ++ [c] ++ Z.drop 1 := by
  obtain ⟨z, Z', rfl⟩ : ∃ z Z', Z = z :: Z' := by
    cases Z with
    | nil => simp at hz
    | cons z Z' => exact ⟨z, Z', rfl⟩
  rw [List.set_append_right _ _ (Nat.le_refl _)]
  simp
theorem zeros_ints (n : Nat) : zeros [.int .u8 0] n = ints (List.replicate n 0) := by
  rw [zeros_one]
  simp [ints]
theorem vs3 {a a' c c' : Int} {b b' : Bool} (h1 : a = a') (h2 : b = b') (h3 : c = c') : [Value.int .i64 a, .bool b, .int .i64 c] = [.int .i64 a', .bool b', .int .i64 c'] := by rw [h1, h2, h3]
theorem vs2 {a a' c c' : Int} (h1 : a = a') (h3 : c = c') : [Value.int .i64 a, .int .i64 c] = [.int .i64 a', .int .i64 c'] := by rw [h1, h3]
attribute [local irreducible] es Tbl
theorem run_count {P : Program} (s : Bs) (c : UInt8) (w : World) : (Extern.BytealgCount.count #[.string (bs s), .int .u8 (c.toNat : Int)]).run P w = .ok (.int .i64 (s.count c : Nat)) w := by
  rw [Lib.run_countString]
  have h : ((c.toNat : Int).toNat.toUInt8) = c := by
    rw [Int.toNat_natCast]
    simp
  rw [h]
  rfl
theorem count_con (s : Bs) (c : UInt8) (w : World) (hs : s.length ≤ 9223372036854775807) : Con Tryz.prog 235 [.string (bs s), .string (bs [c])] w [] fun v _ => v = .int .i64 (s.count c : Nat) := by
  refine con_of_tree mix Tryz.func235 T235_ok (by kernel_rfl) ?_
  unfold T235
  refine j_q (qs_ac) ?_
  refine j_q (qs_lens Tryz.underlying9 rfl) ?_
  refine j_q (qs_eql rfl rfl) ?_
  refine j_cond rfl (fun hc0 => ?_) (fun hc0 => ?_)
  · skip
    cases hc0
  · skip
    refine j_q (qs_lens Tryz.underlying9 rfl) ?_
    refine j_q (qs_eql rfl rfl) ?_
    refine j_cond rfl (fun hc1 => ?_) (fun hc1 => ?_)
    · skip
      refine j_q (qs_idx Tryz.underlying9 rfl rfl (by simp)) ?_
      refine j_q (qs_extern Tryz.func237 (by kernel_rfl) (by kernel_rfl) (by kernel_rfl) (e := Extern.BytealgCount.count) (by kernel_rfl) rfl rfl rfl (v := .int .i64 (s.count c : Nat)) (fun w => run_count s c w)) ?_
      refine j_ret_con (vs := [_]) (fun w' hw' => ⟨rfl, trivial⟩) ?_
      rfl
    · skip
      cases hc1
theorem brep_con (gb : Nat) (s : Bs) (w : World) (hT : Tbl w gb) (hs : s.length ≤ 1099511627776) : Con Tryz.prog 233 [.pointer (some ⟨gb, 0, none⟩), .string (bs s)] w [] fun v _ => v = .string (bs (es s)) := by
  refine con_of_tree mix Tryz.func233 T233_ok (by kernel_rfl) ?_
  unfold T233
  unfold Tbl at hT
  obtain ⟨l, tv, fz, hgb, hl, hstr, htab⟩ := hT
  obtain ⟨At, capt, rfl, hcapt⟩ := strsl_form hstr
  obtain ⟨ga, off, rfl, hga, hcells⟩ := strsl_addr hstr (by decide)
  have hes0 : es [] = [] := by unfold es; rfl
  have heslen := es_len s
  have hTR : TR.length = 5 := rfl
  refine j_q (qs_ac) ?_
  refine j_q (qs_lens Tryz.underlying9 rfl) ?_
  refine j_q (qs_ac) ?_
  refine j_q (qs_nil rfl) ?_
  refine j_q (qs_field Tryz.underlying246 rfl sz22 (by decide) rfl) ?_
  refine j_q (qs_loadO (u := .slice (some ⟨ga, off, none⟩) TR.length capt) (rdo_base (o := .cells (l ++ [Value.slice (some ⟨ga, off, none⟩) TR.length capt]).toArray 246 fz) hgb (by simp)) Tryz.underlying22 rfl rfl (by show (l ++ [_])[256]? = _; rw [List.getElem?_append_right (by omega), hl]; rfl)) ?_
  refine j_q (qs_lenl Tryz.underlying22 rfl) ?_
  refine j_q (qs_mul64 rfl rfl (by omega)) ?_
  refine j_q (qs_lens Tryz.underlying9 rfl) ?_
  refine j_q (qs_leq rfl rfl) ?_
  refine j_cond rfl (fun hc0 => ?_) (fun hc0 => ?_)
  · skip
    refine j_q (qs_nil rfl) ?_
    refine j_q (qs_field Tryz.underlying246 rfl sz22 (by decide) rfl) ?_
    refine j_q (qs_loadO (u := .slice (some ⟨ga, off, none⟩) TR.length capt) (rdo_base (o := .cells (l ++ [Value.slice (some ⟨ga, off, none⟩) TR.length capt]).toArray 246 fz) hgb (by simp)) Tryz.underlying22 rfl rfl (by show (l ++ [_])[256]? = _; rw [List.getElem?_append_right (by omega), hl]; rfl)) ?_
    refine j_q (qs_lenl Tryz.underlying22 rfl) ?_
    refine j_q (qs_mc) ?_
    refine j_loop (fun m vs S' => ∃ i : Nat, vs = [.int .i64 ((s.length + cntN s i : Nat) : Int), .bool (decide (0 < cntN s i)), .int .i64 (i : Int)] ∧ S' = [[]] ∧ i ≤ 5 ∧ m = 5 - i) ⟨_, 0, rfl, rfl, by omega, rfl⟩ ?_
    rintro m vs S' hlen ⟨i, rfl, rfl, hi5, rfl⟩
    refine j_q (qs_lss rfl rfl) ?_
    refine j_cond rfl (fun hc1 => ?_) (fun hc1 => ?_)
    · skip
      have hi : i < 5 := by
        simp only [bnA] at *
        omega
      have hcs := cntN_succ s hi
      obtain ⟨A, n0, cap, hA, hcase⟩ := htab (TRb.getD i 0)
      have hcle := List.count_le_length (a := TRb.getD i 0) (l := s)
      have hcnl := cntN_le s (i := i) (by omega)
      have hcnl2 := cntN_le s (i := i + 1) (by omega)
      refine j_q (qs_ixl0 Tryz.underlying22 sz9 rfl rfl ⟨(by omega), (by omega)⟩) ?_
      refine j_q (qs_loadrs (rd_cells hcells (by simp)) Tryz.underlying9 rfl (by simp only [Int.toNat_natCast]; omega)) ?_
      simp only [Int.toNat_natCast]
      rw [tr_get hi]
      refine j_q (qs_call ent235 rfl rfl rfl (fun w' hw' => count_con s (TRb.getD i 0) w' (by omega))) ?_
      refine j_q (qs_neq rfl rfl) ?_
      refine j_cond rfl (fun hc2 => ?_) (fun hc2 => ?_)
      · skip
        have hc2' : s.count (TRb.getD i 0) ≠ 0 := by
          simp only [bne_iff_ne, ne_eq] at hc2
          omega
        have hin : TRb.getD i 0 ∈ TRb ∧ n0 = 2 ∧ ∃ g, A = some ⟨g, 0, none⟩ ∧ 2 ≤ cap ∧ Cells w ⟨g, 0, none⟩ (ints (esc (TRb.getD i 0))) := by
          rcases hcase with ⟨h, _⟩ | h
          · exact absurd (trb_mem hi) h
          · exact h
        obtain ⟨hin, rfl, gc, rfl, hcap, hcc⟩ := hin
        refine j_draw ?_
        refine jq_q (qs_idx Tryz.underlying9 rfl rfl (by simp)) ?_
        rw [show ([TRb.getD i 0] : Bs).getD (Int.toNat 0) 0 = TRb.getD i 0 from rfl]
        have hb256 := (TRb.getD i 0).toNat_lt
        refine jq_q (qs_nil rfl) ?_
        refine jq_q (qs_field Tryz.underlying246 rfl sz244 (by decide) rfl) ?_
        refine jq_q (qs_ix0 Tryz.underlying244 sz46 rfl rfl ⟨(by omega), (by omega)⟩) ?_
        refine jq_q (qs_loadO (u := .slice (some ⟨gc, 0, none⟩) 2 cap) (rdo_base (o := .cells (l ++ [Value.slice (some ⟨ga, off, none⟩) TR.length capt]).toArray 246 fz) hgb (by simp)) Tryz.underlying46 rfl (by simp only [Int.toNat_natCast, Nat.zero_add]; rfl) (by rw [List.getElem?_append_left (by rw [hl]; exact UInt8.toNat_lt _)]; exact hA)) ?_
        refine jq_q (qs_lenl Tryz.underlying46 rfl) ?_
        refine jq_q (qs_sub64 rfl rfl (by omega)) ?_
        refine jq_q (qs_mul64 rfl rfl (by omega)) ?_
        refine jq_q (qs_add64 rfl rfl (by omega)) ?_
        refine jq_nil ?_
        refine j_q (qs_ac) ?_
        refine j_q (qs_add64 rfl rfl (by omega)) ?_
        refine j_back rfl ?_
        exact ⟨5 - (i + 1), by omega, i + 1, vs3 (by omega) (decide_eq_true (by omega)).symm (by omega), rfl, by omega, rfl⟩
      · skip
        have hc2' : s.count (TRb.getD i 0) = 0 := by
          simp only [bne_eq_false_iff_eq] at hc2
          omega
        refine j_q (qs_add64 rfl rfl (by omega)) ?_
        refine j_back rfl ?_
        exact ⟨5 - (i + 1), by omega, i + 1, vs3 (by omega) (by rw [hcs, hc2', Nat.add_zero]) (by omega), rfl, by omega, rfl⟩
    · skip
      obtain rfl : i = 5 := by
        simp only [bnA] at *
        omega
      have hall := cnt_all s
      refine j_q (qs_not rfl) ?_
      refine j_cond rfl (fun hc3 => ?_) (fun hc3 => ?_)
      · skip
        have hno : cntN s 5 = 0 := by simp at hc3; omega
        have hsame := es_same (s := s) (by omega)
        refine j_ret_con (vs := [_]) (fun w' hw' => ⟨rfl, trivial⟩) ?_
        show Value.string _ = _
        rw [hsame]
      · skip
        rw [← hall]
        refine j_make Tryz.underlying46 sb5 zero5 rfl (by decide) rfl rfl (by omega) (by omega) (fun g33 v33 c33 hv33 hc33 ho33 => ?_)
        subst hv33 hc33
        refine j_q (qs_ac) ?_
        refine j_q (qs_ac) ?_
        refine j_loop (fun m vs S' => ∃ i : Nat, vs = [.int .i64 ((es (s.take i)).length : Nat), .int .i64 (i : Int)] ∧ S' = [[(g33, .cells (ints (es (s.take i) ++ List.replicate ((es s).length - (es (s.take i)).length) 0)).toArray 5 (0, 0))], []] ∧ i ≤ s.length ∧ m = s.length - i) ⟨_, 0, (by simp [hes0]; try exact ⟨rfl, rfl⟩), by simp only [List.take_zero, hes0, List.nil_append, List.length_nil, Nat.sub_zero, zeros_ints], Nat.zero_le _, rfl⟩ ?_
        rintro m vs S' hlen ⟨i, rfl, rfl, hin0, rfl⟩
        refine j_q (qs_lens Tryz.underlying9 rfl) ?_
        refine j_q (qs_lss rfl rfl) ?_
        refine j_cond rfl (fun hc4 => ?_) (fun hc4 => ?_)
        · skip
          have hi : i < s.length := by
            simp only [bnA] at *
            omega
          obtain ⟨A, n0, cap, hA, hcase⟩ := htab (s.getD i 0)
          have hb256 := (s.getD i 0).toNat_lt
          have hst := es_take hi
          have hge := (es_len (s.take i)).1
          rw [List.length_take, Nat.min_eq_left (by omega)] at hge
          have hpre := es_pre s (i + 1)
          have hpre0 := es_pre s i
          have hlen1 : (es (s.take (i + 1))).length = (es (s.take i)).length + (esc (s.getD i 0)).length := by rw [hst, List.length_append]
          refine j_q (qs_idx Tryz.underlying9 rfl rfl ⟨(by omega), (by omega)⟩) ?_
          simp only [Int.toNat_natCast]
          refine j_q (qs_nil rfl) ?_
          refine j_q (qs_field Tryz.underlying246 rfl sz244 (by decide) rfl) ?_
          refine j_q (qs_ix0 Tryz.underlying244 sz46 rfl rfl ⟨(by omega), (by omega)⟩) ?_
          refine j_q (qs_loadO (u := .slice A n0 cap) (rdo_base (o := .cells (l ++ [Value.slice (some ⟨ga, off, none⟩) TR.length capt]).toArray 246 fz) hgb (by simp)) Tryz.underlying46 rfl (by simp only [Int.toNat_natCast, Nat.zero_add]; rfl) (by rw [List.getElem?_append_left (by rw [hl]; exact UInt8.toNat_lt _)]; exact hA)) ?_
          refine j_q (qs_slnnil Tryz.underlying46 rfl) ?_
          refine j_cond rfl (fun hc5 => ?_) (fun hc5 => ?_)
          · skip
            have hin : s.getD i 0 ∈ TRb ∧ n0 = 2 ∧ ∃ g, A = some ⟨g, 0, none⟩ ∧ 2 ≤ cap ∧ Cells w ⟨g, 0, none⟩ (ints (esc (s.getD i 0))) := by
              rcases hcase with ⟨_, h⟩ | h
              · rw [h] at hc5; cases hc5
              · exact h
            obtain ⟨hin, rfl, gc, rfl, hcap, hcc⟩ := hin
            have he2 := (esc_in (s.getD i 0)).1 hin
            refine j_mix [[]] (Le.of_sub (by repeat first | exact slR _ | exact slN _ | apply slC | apply slD)) ?_
            refine j_mq (qs_cutl (a := (es (s.take i)).length) (z := (es s).length) Tryz.underlying46 sz5 rfl ⟨_, rfl⟩ rfl (by omega) (by omega)) ?_
            rw [if_neg (show ¬ (es s).length = (es (s.take i)).length by omega)]
            simp only [Option.map_some, add_off, Nat.zero_add, Nat.mul_one]
            refine j_mq (qs_nil rfl) ?_
            refine j_mq (qs_field Tryz.underlying246 rfl sz244 (by decide) rfl) ?_
            refine j_mq (qs_ix0 Tryz.underlying244 sz46 rfl rfl ⟨(by omega), (by omega)⟩) ?_
            refine j_mq (qs_loadO (u := .slice (some ⟨gc, 0, none⟩) 2 cap) (rdo_base (o := .cells (l ++ [Value.slice (some ⟨ga, off, none⟩) TR.length capt]).toArray 246 fz) hgb (by simp)) Tryz.underlying46 rfl (by simp only [Int.toNat_natCast, Nat.zero_add]; rfl) (by rw [List.getElem?_append_left (by rw [hl]; exact UInt8.toNat_lt _)]; exact hA)) ?_
            refine j_copy (off := (es (s.take i)).length) (dn := (es s).length - (es (s.take i)).length) (l := ints (es (s.take i) ++ List.replicate ((es s).length - (es (s.take i)).length) 0)) (news := ints (esc (s.getD i 0))) (m := 2) 0 Tryz.underlying46 sz5 rfl (.inl ⟨_, _, rfl, rd_cells hcc (by simp), by rw [ints_length, he2]⟩) rfl ints_one (by rw [ints_length]; simp only [List.length_append, List.length_replicate]; omega) (fun j h1 h2 => by simp) ?_
            have hbs := buf_step (A := es (s.take i)) (Z := List.replicate ((es s).length - (es (s.take i)).length) 0) he2 (by simp only [List.length_replicate]; omega)
            rw [List.length_replicate] at hbs
            rw [hbs, ← hst, List.drop_replicate, show (es s).length - (es (s.take i)).length - 2 = (es s).length - (es (s.take (i + 1))).length by omega]
            clear hbs
            refine j_mD0 (Le.of_sub (by repeat first | exact slR _ | exact slN _ | apply slC | apply slD)) ?_
            refine j_mq (qs_add64 rfl rfl (by omega)) ?_
            refine j_mend ?_
            refine j_q (qs_add64 rfl rfl (by omega)) ?_
            refine j_back rfl ?_
            exact ⟨s.length - (i + 1), by omega, i + 1, vs2 (by omega) (by omega), rfl, by omega, rfl⟩
          · skip
            have hin : s.getD i 0 ∉ TRb := by
              rcases hcase with ⟨h, _⟩ | ⟨_, _, g, h, _⟩
              · exact h
              · rw [h] at hc5; cases hc5
            have he1 := (esc_in (s.getD i 0)).2 hin
            have he1l : (esc (s.getD i 0)).length = 1 := by rw [he1]; rfl
            refine j_q (qs_ixl0 Tryz.underlying46 sz5 rfl rfl ⟨(by omega), (by omega)⟩) ?_
            rw [add_off, Nat.zero_add, Int.toNat_natCast]
            refine j_storei (g := g33) (i := (es (s.take i)).length) (l := es (s.take i) ++ List.replicate ((es s).length - (es (s.take i)).length) 0) 0 sz5 rfl rfl rfl (by simp only [List.length_append, List.length_replicate]; omega) ?_
            rw [buf_set (by rw [List.length_replicate]; omega), ← he1, ← hst, List.drop_replicate, show (es s).length - (es (s.take i)).length - 1 = (es s).length - (es (s.take (i + 1))).length by omega]
            refine j_q (qs_add64 rfl rfl (by omega)) ?_
            refine j_q (qs_add64 rfl rfl (by omega)) ?_
            refine j_back rfl ?_
            exact ⟨s.length - (i + 1), by omega, i + 1, vs2 (by omega) (by omega), rfl, by omega, rfl⟩
        · skip
          obtain rfl : i = s.length := by
            simp only [bnA] at *
            omega
          rw [List.take_length, Nat.sub_self, List.replicate_zero, List.append_nil]
          have HO56 : Sx.Own 5 1 (ints (es s)) (.slice (some ⟨g33, 0, none⟩) (es s).length (es s).length) [(g33, .cells (ints (es s)).toArray 5 (0, 0))] := .inr ⟨g33, _, _, [], (0, 0), rfl, by rw [List.append_nil], by rw [ints_length, Nat.mul_one], by rw [List.append_nil, ints_length, Nat.mul_one], Nat.le_refl _, fun j hj h => by simp at h⟩
          refine j_q (qs_stro 0 Tryz.underlying46 Tryz.underlying5 Tryz.underlying9 HO56 rfl) ?_
          refine j_ret_con (vs := [_]) (fun w' hw' => ⟨rfl, trivial⟩) ?_
          rfl
  · skip
    refine j_q (qs_ac) ?_
    refine j_loop (fun m vs S' => ∃ i : Nat, vs = [.int .i64 ((s.length + ((es (s.take i)).length - i) : Nat) : Int), .bool (decide (i < (es (s.take i)).length)), .int .i64 (i : Int)] ∧ S' = [[]] ∧ i ≤ s.length ∧ m = s.length - i) ⟨_, 0, (by simp [hes0]; try exact ⟨rfl, rfl, rfl⟩), rfl, Nat.zero_le _, rfl⟩ ?_
    rintro m vs S' hlen ⟨i, rfl, rfl, hin0, rfl⟩
    refine j_q (qs_lens Tryz.underlying9 rfl) ?_
    refine j_q (qs_lss rfl rfl) ?_
    refine j_cond rfl (fun hc6 => ?_) (fun hc6 => ?_)
    · skip
      have hi : i < s.length := by
        simp only [bnA] at *
        omega
      obtain ⟨A, n0, cap, hA, hcase⟩ := htab (s.getD i 0)
      have hb256 := (s.getD i 0).toNat_lt
      have hst := es_take hi
      have hge := (es_len (s.take i)).1
      rw [List.length_take, Nat.min_eq_left (by omega)] at hge
      have hpre := es_pre s (i + 1)
      have hpre0 := es_pre s i
      have hlen1 : (es (s.take (i + 1))).length = (es (s.take i)).length + (esc (s.getD i 0)).length := by rw [hst, List.length_append]
      refine j_q (qs_idx Tryz.underlying9 rfl rfl ⟨(by omega), (by omega)⟩) ?_
      simp only [Int.toNat_natCast]
      refine j_q (qs_nil rfl) ?_
      refine j_q (qs_field Tryz.underlying246 rfl sz244 (by decide) rfl) ?_
      refine j_q (qs_ix0 Tryz.underlying244 sz46 rfl rfl ⟨(by omega), (by omega)⟩) ?_
      refine j_q (qs_loadO (u := .slice A n0 cap) (rdo_base (o := .cells (l ++ [Value.slice (some ⟨ga, off, none⟩) TR.length capt]).toArray 246 fz) hgb (by simp)) Tryz.underlying46 rfl (by simp only [Int.toNat_natCast, Nat.zero_add]; rfl) (by rw [List.getElem?_append_left (by rw [hl]; exact UInt8.toNat_lt _)]; exact hA)) ?_
      refine j_q (qs_slnnil Tryz.underlying46 rfl) ?_
      refine j_cond rfl (fun hc7 => ?_) (fun hc7 => ?_)
      · skip
        have hin : s.getD i 0 ∈ TRb ∧ n0 = 2 ∧ ∃ g, A = some ⟨g, 0, none⟩ ∧ 2 ≤ cap ∧ Cells w ⟨g, 0, none⟩ (ints (esc (s.getD i 0))) := by
          rcases hcase with ⟨_, h⟩ | h
          · rw [h] at hc7; cases hc7
          · exact h
        obtain ⟨hin, rfl, gc, rfl, hcap, hcc⟩ := hin
        have he2 := (esc_in (s.getD i 0)).1 hin
        refine j_q (qs_nil rfl) ?_
        refine j_q (qs_field Tryz.underlying246 rfl sz244 (by decide) rfl) ?_
        refine j_q (qs_ix0 Tryz.underlying244 sz46 rfl rfl ⟨(by omega), (by omega)⟩) ?_
        refine j_q (qs_loadO (u := .slice (some ⟨gc, 0, none⟩) 2 cap) (rdo_base (o := .cells (l ++ [Value.slice (some ⟨ga, off, none⟩) TR.length capt]).toArray 246 fz) hgb (by simp)) Tryz.underlying46 rfl (by simp only [Int.toNat_natCast, Nat.zero_add]; rfl) (by rw [List.getElem?_append_left (by rw [hl]; exact UInt8.toNat_lt _)]; exact hA)) ?_
        refine j_q (qs_lenl Tryz.underlying46 rfl) ?_
        refine j_q (qs_sub64 rfl rfl (by omega)) ?_
        refine j_q (qs_add64 rfl rfl (by omega)) ?_
        refine j_q (qs_ac) ?_
        refine j_q (qs_add64 rfl rfl (by omega)) ?_
        refine j_back rfl ?_
        exact ⟨s.length - (i + 1), by omega, i + 1, vs3 (by omega) (decide_eq_true (by omega)).symm (by omega), rfl, by omega, rfl⟩
      · skip
        have hin : s.getD i 0 ∉ TRb := by
          rcases hcase with ⟨h, _⟩ | ⟨_, _, g, h, _⟩
          · exact h
          · rw [h] at hc7; cases hc7
        have he1 := (esc_in (s.getD i 0)).2 hin
        have he1l : (esc (s.getD i 0)).length = 1 := by rw [he1]; rfl
        refine j_q (qs_add64 rfl rfl (by omega)) ?_
        refine j_back rfl ?_
        exact ⟨s.length - (i + 1), by omega, i + 1, vs3 (by omega) (by rw [hlen1, he1l]; simp only [Nat.add_lt_add_iff_right]) (by omega), rfl, by omega, rfl⟩
    · skip
      obtain rfl : i = s.length := by
        simp only [bnA] at *
        omega
      rw [List.take_length]
      have hsl : s.length + ((es s).length - s.length) = (es s).length := by omega
      rw [hsl]
      refine j_q (qs_not rfl) ?_
      refine j_cond rfl (fun hc8 => ?_) (fun hc8 => ?_)
      · skip
        have hsame := es_same (s := s) (by simp at hc8; omega)
        refine j_ret_con (vs := [_]) (fun w' hw' => ⟨rfl, trivial⟩) ?_
        show Value.string _ = _
        rw [hsame]
      · skip
        refine j_make Tryz.underlying46 sb5 zero5 rfl (by decide) rfl rfl (by omega) (by omega) (fun g77 v77 c77 hv77 hc77 ho77 => ?_)
        subst hv77 hc77
        refine j_q (qs_ac) ?_
        refine j_q (qs_ac) ?_
        refine j_loop (fun m vs S' => ∃ i : Nat, vs = [.int .i64 ((es (s.take i)).length : Nat), .int .i64 (i : Int)] ∧ S' = [[(g77, .cells (ints (es (s.take i) ++ List.replicate ((es s).length - (es (s.take i)).length) 0)).toArray 5 (0, 0))], []] ∧ i ≤ s.length ∧ m = s.length - i) ⟨_, 0, (by simp [hes0]; try exact ⟨rfl, rfl⟩), by simp only [List.take_zero, hes0, List.nil_append, List.length_nil, Nat.sub_zero, zeros_ints], Nat.zero_le _, rfl⟩ ?_
        rintro m vs S' hlen ⟨i, rfl, rfl, hin0, rfl⟩
        refine j_q (qs_lens Tryz.underlying9 rfl) ?_
        refine j_q (qs_lss rfl rfl) ?_
        refine j_cond rfl (fun hc9 => ?_) (fun hc9 => ?_)
        · skip
          have hi : i < s.length := by
            simp only [bnA] at *
            omega
          obtain ⟨A, n0, cap, hA, hcase⟩ := htab (s.getD i 0)
          have hb256 := (s.getD i 0).toNat_lt
          have hst := es_take hi
          have hge := (es_len (s.take i)).1
          rw [List.length_take, Nat.min_eq_left (by omega)] at hge
          have hpre := es_pre s (i + 1)
          have hpre0 := es_pre s i
          have hlen1 : (es (s.take (i + 1))).length = (es (s.take i)).length + (esc (s.getD i 0)).length := by rw [hst, List.length_append]
          refine j_q (qs_idx Tryz.underlying9 rfl rfl ⟨(by omega), (by omega)⟩) ?_
          simp only [Int.toNat_natCast]
          refine j_q (qs_nil rfl) ?_
          refine j_q (qs_field Tryz.underlying246 rfl sz244 (by decide) rfl) ?_
          refine j_q (qs_ix0 Tryz.underlying244 sz46 rfl rfl ⟨(by omega), (by omega)⟩) ?_
          refine j_q (qs_loadO (u := .slice A n0 cap) (rdo_base (o := .cells (l ++ [Value.slice (some ⟨ga, off, none⟩) TR.length capt]).toArray 246 fz) hgb (by simp)) Tryz.underlying46 rfl (by simp only [Int.toNat_natCast, Nat.zero_add]; rfl) (by rw [List.getElem?_append_left (by rw [hl]; exact UInt8.toNat_lt _)]; exact hA)) ?_
          refine j_q (qs_slnnil Tryz.underlying46 rfl) ?_
          refine j_cond rfl (fun hc10 => ?_) (fun hc10 => ?_)
          · skip
            have hin : s.getD i 0 ∈ TRb ∧ n0 = 2 ∧ ∃ g, A = some ⟨g, 0, none⟩ ∧ 2 ≤ cap ∧ Cells w ⟨g, 0, none⟩ (ints (esc (s.getD i 0))) := by
              rcases hcase with ⟨_, h⟩ | h
              · rw [h] at hc10; cases hc10
              · exact h
            obtain ⟨hin, rfl, gc, rfl, hcap, hcc⟩ := hin
            have he2 := (esc_in (s.getD i 0)).1 hin
            refine j_mix [[]] (Le.of_sub (by repeat first | exact slR _ | exact slN _ | apply slC | apply slD)) ?_
            refine j_mq (qs_cutl (a := (es (s.take i)).length) (z := (es s).length) Tryz.underlying46 sz5 rfl ⟨_, rfl⟩ rfl (by omega) (by omega)) ?_
            rw [if_neg (show ¬ (es s).length = (es (s.take i)).length by omega)]
            simp only [Option.map_some, add_off, Nat.zero_add, Nat.mul_one]
            refine j_mq (qs_nil rfl) ?_
            refine j_mq (qs_field Tryz.underlying246 rfl sz244 (by decide) rfl) ?_
            refine j_mq (qs_ix0 Tryz.underlying244 sz46 rfl rfl ⟨(by omega), (by omega)⟩) ?_
            refine j_mq (qs_loadO (u := .slice (some ⟨gc, 0, none⟩) 2 cap) (rdo_base (o := .cells (l ++ [Value.slice (some ⟨ga, off, none⟩) TR.length capt]).toArray 246 fz) hgb (by simp)) Tryz.underlying46 rfl (by simp only [Int.toNat_natCast, Nat.zero_add]; rfl) (by rw [List.getElem?_append_left (by rw [hl]; exact UInt8.toNat_lt _)]; exact hA)) ?_
            refine j_copy (off := (es (s.take i)).length) (dn := (es s).length - (es (s.take i)).length) (l := ints (es (s.take i) ++ List.replicate ((es s).length - (es (s.take i)).length) 0)) (news := ints (esc (s.getD i 0))) (m := 2) 0 Tryz.underlying46 sz5 rfl (.inl ⟨_, _, rfl, rd_cells hcc (by simp), by rw [ints_length, he2]⟩) rfl ints_one (by rw [ints_length]; simp only [List.length_append, List.length_replicate]; omega) (fun j h1 h2 => by simp) ?_
            have hbs := buf_step (A := es (s.take i)) (Z := List.replicate ((es s).length - (es (s.take i)).length) 0) he2 (by simp only [List.length_replicate]; omega)
            rw [List.length_replicate] at hbs
            rw [hbs, ← hst, List.drop_replicate, show (es s).length - (es (s.take i)).length - 2 = (es s).length - (es (s.take (i + 1))).length by omega]
            clear hbs
            refine j_mD0 (Le.of_sub (by repeat first | exact slR _ | exact slN _ | apply slC | apply slD)) ?_
            refine j_mq (qs_add64 rfl rfl (by omega)) ?_
            refine j_mend ?_
            refine j_q (qs_add64 rfl rfl (by omega)) ?_
            refine j_back rfl ?_
            exact ⟨s.length - (i + 1), by omega, i + 1, vs2 (by omega) (by omega), rfl, by omega, rfl⟩
          · skip
            have hin : s.getD i 0 ∉ TRb := by
              rcases hcase with ⟨h, _⟩ | ⟨_, _, g, h, _⟩
              · exact h
              · rw [h] at hc10; cases hc10
            have he1 := (esc_in (s.getD i 0)).2 hin
            have he1l : (esc (s.getD i 0)).length = 1 := by rw [he1]; rfl
            refine j_q (qs_ixl0 Tryz.underlying46 sz5 rfl rfl ⟨(by omega), (by omega)⟩) ?_
            rw [add_off, Nat.zero_add, Int.toNat_natCast]
            refine j_storei (g := g77) (i := (es (s.take i)).length) (l := es (s.take i) ++ List.replicate ((es s).length - (es (s.take i)).length) 0) 0 sz5 rfl rfl rfl (by simp only [List.length_append, List.length_replicate]; omega) ?_
            rw [buf_set (by rw [List.length_replicate]; omega), ← he1, ← hst, List.drop_replicate, show (es s).length - (es (s.take i)).length - 1 = (es s).length - (es (s.take (i + 1))).length by omega]
            refine j_q (qs_add64 rfl rfl (by omega)) ?_
            refine j_q (qs_add64 rfl rfl (by omega)) ?_
            refine j_back rfl ?_
            exact ⟨s.length - (i + 1), by omega, i + 1, vs2 (by omega) (by omega), rfl, by omega, rfl⟩
        · skip
          obtain rfl : i = s.length := by
            simp only [bnA] at *
            omega
          rw [List.take_length, Nat.sub_self, List.replicate_zero, List.append_nil]
          have HO100 : Sx.Own 5 1 (ints (es s)) (.slice (some ⟨g77, 0, none⟩) (es s).length (es s).length) [(g77, .cells (ints (es s)).toArray 5 (0, 0))] := .inr ⟨g77, _, _, [], (0, 0), rfl, by rw [List.append_nil], by rw [ints_length, Nat.mul_one], by rw [List.append_nil, ints_length, Nat.mul_one], Nat.le_refl _, fun j hj h => by simp at h⟩
          refine j_q (qs_stro 0 Tryz.underlying46 Tryz.underlying5 Tryz.underlying9 HO100 rfl) ?_
          refine j_ret_con (vs := [_]) (fun w' hw' => ⟨rfl, trivial⟩) ?_
          rfl
end Go.Proofs.YtfeabbeebkkhaaaGreat
/-! Dv2 -/
namespace Go.Proofs.YtfeabbeebkkhaaaGreat
open Go Go.Sx
set_option maxRecDepth 100000
set_option maxHeartbeats 4000000
set_option linter.unusedVariables false
set_option linter.unusedSimpArgs false
attribute [local irreducible] J JQ QS Con W opW
abbrev ON : List Bs := [[34], [92, 34], [92], [92, 92], [10], [92, 110], [13], [92, 114], [9], [92, 116]]
theorem on_even {k : Nat} (h : k < 5) : ON.getD (2 * k) [] = [TRb.getD (4 - k) 0] := by
  have : k = 0 ∨ k = 1 ∨ k = 2 ∨ k = 3 ∨ k = 4 := by omega
  rcases this with rfl | rfl | rfl | rfl | rfl <;> rfl
theorem on_odd {k : Nat} (h : k < 5) : ON.getD (2 * k + 1) [] = esc (TRb.getD (4 - k) 0) := by
  have : k = 0 ∨ k = 1 ∨ k = 2 ∨ k = 3 ∨ k = 4 := by omega
  rcases this with rfl | rfl | rfl | rfl | rfl <;> rfl
theorem tr_step {k : Nat} (h : k < 5) : TRb.take (5 - k) = TRb.take (4 - k) ++ [TRb.getD (4 - k) 0] ∧ TR.take (5 - k) = TR.take (4 - k) ++ [[TRb.getD (4 - k) 0]] ∧ TRb.getD (4 - k) 0 ∉ TRb.take (4 - k) ∧ TRb.getD (4 - k) 0 ∈ TRb := by
  have : k = 0 ∨ k = 1 ∨ k = 2 ∨ k = 3 ∨ k = 4 := by omega
  rcases this with rfl | rfl | rfl | rfl | rfl <;> exact ⟨rfl, rfl, by decide, by decide⟩
theorem zero246b : zeroL Tryz.prog 246 = some (List.replicate 257 (.slice none 0 0)) := by kernel_rfl
theorem strsl_ownw {w : World} {e : TypeId} {xs : List Bs} {v : Value} {c : SH} (ho : Sx.Own e 1 (strs xs) v c) (h : ∀ p ∈ c, w.heap[p.1]? = some p.2) : StrSl w v xs := by
  rcases ho with ⟨rfl, h1, rfl⟩ | ⟨g, n, cap, rest, fz, rfl, rfl, h1, h2, h3, h4⟩
  · exact .inl ⟨rfl, strs_nil h1⟩
  · rw [strs_length, Nat.mul_one] at h1
    subst h1
    have hg := h (g, _) (List.mem_singleton.2 rfl)
    exact .inr ⟨g, 0, cap, rfl, lt_of_get hg, h3, fun j u hu => by
      rw [add_off, Nat.zero_add, cell_of hg, List.getElem?_append_left (List.getElem?_eq_some_iff.1 hu).1]
      exact hu⟩
theorem cells_ownw {w : World} {e : TypeId} {xs : List Value} {g n cap : Nat} {c : SH} (ho : Sx.Own e 1 xs (.slice (some ⟨g, 0, none⟩) n cap) c) (h : ∀ p ∈ c, w.heap[p.1]? = some p.2) : Cells w ⟨g, 0, none⟩ xs := by
  rcases ho with ⟨h1, _⟩ | ⟨g, n, cap, rest, fz, h1, rfl, h2, h3, h4, h5⟩
  · cases h1
  · cases h1
    have hg := h (_, _) (List.mem_singleton.2 rfl)
    exact fun j u hu => by
      rw [add_off, Nat.zero_add, cell_of hg, List.getElem?_append_left (List.getElem?_eq_some_iff.1 hu).1]
      exact hu
def Half (l : List Value) (ds : Bs) (F : SH) : Prop := l.length = 256 ∧ ∀ c : UInt8, (c ∉ ds ∧ l[c.toNat]? = some (.slice none 0 0)) ∨ (c ∈ ds ∧ ∃ g cap cc, l[c.toNat]? = some (.slice (some ⟨g, 0, none⟩) 2 cap) ∧ Sx.Own 5 1 (ints (esc c)) (.slice (some ⟨g, 0, none⟩) 2 cap) cc ∧ ∀ p ∈ cc, p ∈ F)
theorem half_nil : Half (List.replicate 256 (.slice none 0 0)) [] [] := ⟨by simp, fun c => .inl ⟨by simp, by
  have := c.toNat_lt
  rw [List.getElem?_replicate, if_pos (by omega)]⟩⟩
theorem half_step {l : List Value} {ds : Bs} {F cc : SH} {o : UInt8} {g cap : Nat} (h : Half l ds F) (ho : Sx.Own 5 1 (ints (esc o)) (.slice (some ⟨g, 0, none⟩) 2 cap) cc) : Half (l.set o.toNat (.slice (some ⟨g, 0, none⟩) 2 cap)) (ds ++ [o]) (cc ++ F) := by
  obtain ⟨hl, ht⟩ := h
  refine ⟨by rw [List.length_set]; exact hl, fun c => ?_⟩
  by_cases hc : c = o
  · subst hc
    refine .inr ⟨by simp, g, cap, cc, ?_, ho, fun p hp => List.mem_append_left _ hp⟩
    rw [List.getElem?_set_self]
    have := c.toNat_lt
    omega
  · have hne : o.toNat ≠ c.toNat := fun e => hc (UInt8.toNat_inj.1 e.symm)
    rw [List.getElem?_set_ne hne]
    rcases ht c with ⟨h1, h2⟩ | ⟨h1, g2, cap2, cc2, h2, h3, h4⟩
    · exact .inl ⟨by simp [h1, hc], h2⟩
    · exact .inr ⟨by simp [h1], g2, cap2, cc2, h2, h3, fun p hp => List.mem_append_right _ (h4 p hp)⟩
theorem half_tbl {l : List Value} {tv : Value} {ct F : SH} {gb : Nat} {w : World} (h : Half l TRb F) (ho : Sx.Own 9 1 (strs TR) tv ct) (hw : ∀ p ∈ (gb, Obj.cells (l ++ [tv]).toArray 246 (0, 0)) :: (ct ++ F), w.heap[p.1]? = some p.2) : Tbl w gb := by
  unfold Tbl
  refine ⟨l, tv, (0, 0), hw (gb, _) (by simp), h.1, strsl_ownw ho (fun p hp => hw p (by simp [hp])), fun c => ?_⟩
  rcases h.2 c with ⟨h1, h2⟩ | ⟨h1, g2, cap2, cc2, h2, h3, h4⟩
  · exact ⟨none, 0, 0, h2, .inl ⟨h1, rfl⟩⟩
  · exact ⟨_, 2, cap2, h2, .inr ⟨h1, rfl, g2, rfl, own_cap h3, cells_ownw h3 (fun p hp => hw p (by simp [h4 p hp]))⟩⟩
theorem vsb {a a' : Int} {b b' : Bool} (h2 : b = b') (h1 : a = a') : [Value.bool b, .int .i64 a] = [.bool b', .int .i64 a'] := by rw [h1, h2]
attribute [local irreducible] es Tbl Half
theorem build_con (gr : Nat) (a b c iv ov : Value) (w : World) (hgr : w.heap[gr]? = some (.cells [a, b, c, iv, ov].toArray 210 (0, 0))) (ho : StrSl w ov ON) : Con Tryz.prog 167 [.pointer (some ⟨gr, 0, none⟩)] w [] fun v S' => ∃ gb F, v = .iface 247 (.pointer (some ⟨gb, 0, none⟩)) ∧ S' = [F] ∧ ∀ w' : World, (∀ p ∈ F, w'.heap[p.1]? = some p.2) → Tbl w' gb := by
  refine con_of_tree mix Tryz.func167 T167_ok (by kernel_rfl) ?_
  unfold T167
  obtain ⟨A, cap, rfl, hcap⟩ := strsl_form ho
  obtain ⟨ga, off, rfl, hga, hcells⟩ := strsl_addr ho (by decide)
  have hON : ON.length = 10 := rfl
  refine j_q (qs_ac) ?_
  refine j_q (qs_nil rfl) ?_
  refine j_q (qs_field Tryz.underlying210 rfl sz22 (by decide) rfl) ?_
  refine j_q (qs_loadO (u := .slice (some ⟨ga, off, none⟩) ON.length cap) (rdo_base (o := .cells [a, b, c, iv, .slice (some ⟨ga, off, none⟩) ON.length cap].toArray 210 (0, 0)) hgr (by simp)) Tryz.underlying22 rfl rfl rfl) ?_
  refine j_q (qs_lenl Tryz.underlying22 rfl) ?_
  refine j_q (qs_eql rfl rfl) ?_
  refine j_gf rfl (by decide) ?_
  refine j_gf rfl (by decide) ?_
  refine j_gf rfl (by decide) ?_
  refine j_gf rfl (by decide) ?_
  refine j_gf rfl (by decide) ?_
  refine j_q (qs_and (b0 := false) (b1 := false) rfl rfl) ?_
  refine j_cond rfl (fun hc0 => ?_) (fun hc0 => ?_)
  · skip
    cases hc0
  · skip
    refine j_q (qs_ac) ?_
    refine j_q (qs_ac) ?_
    refine j_loop (fun m vs S' => ∃ k : Nat, vs = [.bool (decide (k = 0)), .int .i64 ((2 * k : Nat) : Int)] ∧ S' = [[]] ∧ k ≤ 5 ∧ m = 5 - k) ⟨_, 0, rfl, rfl, by omega, rfl⟩ ?_
    rintro m vs S' hlen ⟨k, rfl, rfl, hk5, rfl⟩
    refine j_q (qs_lenl Tryz.underlying22 rfl) ?_
    refine j_q (qs_lss rfl rfl) ?_
    refine j_cond rfl (fun hc1 => ?_) (fun hc1 => ?_)
    · skip
      have hk : k < 5 := by
        simp only [bnA] at *
        omega
      refine j_q (qs_ixl0 Tryz.underlying22 sz9 rfl rfl ⟨(by omega), (by omega)⟩) ?_
      refine j_q (qs_loadrs (rd_cells hcells (by simp)) Tryz.underlying9 rfl (by first | omega | (simp only [Int.toNat_natCast]; omega))) ?_
      rw [show (((2 * k : Nat) : Int)).toNat = 2 * k by omega, on_even hk]
      refine j_q (qs_lens Tryz.underlying9 rfl) ?_
      refine j_q (qs_neq rfl rfl) ?_
      refine j_cond rfl (fun hc2 => ?_) (fun hc2 => ?_)
      · skip
        simp at hc2
      · skip
        refine j_q (qs_add64 rfl rfl (by omega)) ?_
        refine j_q (qs_ixl0 Tryz.underlying22 sz9 rfl rfl ⟨(by omega), (by omega)⟩) ?_
        refine j_q (qs_loadrs (rd_cells hcells (by simp)) Tryz.underlying9 rfl (by first | omega | (simp only [Int.toNat_natCast]; omega))) ?_
        rw [show (((2 * k : Nat) : Int) + 1).toNat = 2 * k + 1 by omega, on_odd hk]
        refine j_q (qs_lens Tryz.underlying9 rfl) ?_
        refine j_q (qs_neq rfl rfl) ?_
        refine j_cond rfl (fun hc3 => ?_) (fun hc3 => ?_)
        · skip
          refine j_q (qs_ac) ?_
          refine j_q (qs_add64 rfl rfl (by omega)) ?_
          refine j_back rfl ?_
          exact ⟨5 - (k + 1), by omega, k + 1, vsb (by simp) (by omega), rfl, by omega, rfl⟩
        · skip
          rw [(esc_in _).1 (trb_mem (by omega))] at hc3; exact absurd hc3 (by decide)
    · skip
      obtain rfl : k = 5 := by
        simp only [bnA] at *
        omega
      refine j_cond rfl (fun hc4 => ?_) (fun hc4 => ?_)
      · skip
        exact absurd hc4 (by decide)
      · skip
        refine j_q (qs_lenl Tryz.underlying22 rfl) ?_
        refine j_q (qs_quo64 rfl rfl (by omega) (by omega) (by omega)) ?_
        refine j_make Tryz.underlying22 sb9 zero9 rfl (by decide) rfl rfl (by simp only [bnA] at *; omega) (by simp only [bnA] at *; omega) (fun g61 v61 c61 hv61 hc61 ho61 => ?_)
        subst hv61 hc61
        rw [show zeros [Value.string (bs [])] 0 = ([] : List Value) from rfl] at ho61
        refine j_q (qs_build (places := [(0, 256), (256, 1)]) (offs := [(256, [.slice (some ⟨g61, 0, none⟩) 0 5])]) Tryz.underlying246 zero246b (by kernel_rfl) rfl (by rintro (_ | j) p q hp hq <;> first | (simp at hp hq; subst hp hq; exact ⟨rfl, rfl, by simp⟩) | (simp at hp))) ?_
        rw [show ([(256, [Value.slice (some ⟨g61, 0, none⟩) 0 5])] : List (Nat × List Value)).foldl (fun l q => putAt l q.1 q.2) (List.replicate 257 (.slice none 0 0)) = List.replicate 256 (.slice none 0 0) ++ [.slice (some ⟨g61, 0, none⟩) 0 5] by simp [putAt, List.take_replicate, List.drop_replicate]]
        refine j_alloc zero246b (fun g63 hg63 hs63 => ?_)
        refine j_storew 0 sz246 rfl rfl (by simp) (fun u hu => by simp at hu; rcases hu with rfl | rfl <;> rfl) rfl (by simp) ?_
        refine j_q (qs_lenl Tryz.underlying22 rfl) ?_
        refine j_q (qs_sub64 rfl rfl (by omega)) ?_
        refine j_loop (fun m vs S' => ∃ (k : Nat) (l : List Value) (tv : Value) (ct F : SH), vs = [.int .i64 (((2 * k : Nat) : Int) - 2)] ∧ S' = [[(g63, .cells (l ++ [tv]).toArray 246 (0, 0))], ct, F] ∧ Half l (TRb.take (5 - k)) F ∧ Sx.Own 9 1 (strs (TR.take (5 - k))) tv ct ∧ k ≤ 5 ∧ m = k) ⟨_, 5, List.replicate 256 (.slice none 0 0), .slice (some ⟨g61, 0, none⟩) 0 5, _, [], rfl, rfl, (by rw [show TRb.take (5 - 5) = [] from rfl]; exact half_nil), (by rw [show strs (TR.take (5 - 5)) = [] from rfl]; exact ho61), Nat.le_refl _, rfl⟩ ?_
        rintro m vs S' hlen ⟨k0, l, tv, ct, F, rfl, rfl, hhalf, hot, hk5, hmk⟩
        refine j_q (qs_geq rfl rfl) ?_
        refine j_cond rfl (fun hc7 => ?_) (fun hc7 => ?_)
        · skip
          obtain ⟨k, rfl⟩ : ∃ j, k0 = j + 1 := ⟨k0 - 1, by simp only [bnA] at *; omega⟩
          have hk : k < 5 := by omega
          rw [show (((2 * (k + 1) : Nat) : Int) - 2) = ((2 * k : Nat) : Int) by omega]
          rw [show 5 - (k + 1) = 4 - k by omega] at hhalf hot
          obtain ⟨hst1, hst2, hst3, hst4⟩ := tr_step hk
          have hl256 : l.length = 256 := by unfold Half at hhalf; exact hhalf.1
          have hnil : l[(TRb.getD (4 - k) 0).toNat]? = some (.slice none 0 0) := by
            unfold Half at hhalf
            rcases hhalf.2 (TRb.getD (4 - k) 0) with h | h
            · exact h.2
            · exact absurd h.1 hst3
          have he2 : (esc (TRb.getD (4 - k) 0)).length = 2 := (esc_in _).1 hst4
          refine j_q (qs_ixl0 Tryz.underlying22 sz9 rfl rfl ⟨(by omega), (by omega)⟩) ?_
          refine j_q (qs_loadrs (rd_cells hcells (by simp)) Tryz.underlying9 rfl (by first | omega | (simp only [Int.toNat_natCast]; omega))) ?_
          rw [show (((2 * k : Nat) : Int)).toNat = 2 * k by omega, on_even hk]
          obtain ⟨o, hoo⟩ : ∃ o, o = TRb.getD (4 - k) 0 := ⟨_, rfl⟩
          rw [← hoo] at hst1 hst2 hst3 hst4 hnil he2 ⊢
          have hb256 := o.toNat_lt
          refine j_q (qs_idx Tryz.underlying9 rfl rfl (by simp)) ?_
          rw [show ([o] : Bs).getD (Int.toNat 0) 0 = o from rfl]
          refine j_q (qs_add64 rfl rfl (by omega)) ?_
          refine j_q (qs_ixl0 Tryz.underlying22 sz9 rfl rfl ⟨(by omega), (by omega)⟩) ?_
          refine j_q (qs_loadrs (rd_cells hcells (by simp)) Tryz.underlying9 rfl (by first | omega | (simp only [Int.toNat_natCast]; omega))) ?_
          rw [show (((2 * k : Nat) : Int) + 1).toNat = 2 * k + 1 by omega, on_odd hk, ← hoo]
          refine j_q (qs_field Tryz.underlying246 rfl sz244 (by decide) rfl) ?_
          refine j_q (qs_ix0 Tryz.underlying244 sz46 rfl rfl ⟨(by omega), (by omega)⟩) ?_
          refine j_q (qs_load (l := l ++ [tv]) (i := o.toNat) (v := .slice none 0 0) 0 Tryz.underlying46 rfl (by simp only [ev]; first | rfl | (congr 3; simp) | (simp only [Int.toNat_natCast, Nat.zero_add])) rfl (by rw [List.getElem?_append_left (by omega)]; exact hnil)) ?_
          refine j_q (qs_slnil Tryz.underlying46 rfl) ?_
          refine j_cond rfl (fun hc8 => ?_) (fun hc8 => ?_)
          · skip
            refine j_q (qs_field Tryz.underlying246 rfl sz22 (by decide) rfl) ?_
            refine j_q (qs_load (l := l ++ [tv]) (i := 256) (v := tv) 0 Tryz.underlying22 rfl rfl rfl (by rw [List.getElem?_append_right (by omega), hl256]; rfl)) ?_
            refine j_lit (vs := [.int .u8 _]) Tryz.underlying46 sz5 zero5 rfl (by simp [oneV]) ⟨rfl, by decide⟩ (fun g80 v80 c80 hv80 hc80 ho80 => ?_)
            subst hv80 hc80
            refine j_q (qs_stro (l := [o]) 0 Tryz.underlying46 Tryz.underlying5 Tryz.underlying9 (by exact ho80) rfl) ?_
            refine j_lit (vs := [.string (bs _)]) Tryz.underlying22 sz9 zero9 rfl (by simp [oneV]) ⟨rfl, by decide⟩ (fun g82 v82 c82 hv82 hc82 ho82 => ?_)
            subst hv82 hc82
            refine j_append 3 Tryz.underlying22 Tryz.underlying22 (.inr ⟨_, rfl⟩) sb9 zero9 rfl hot rfl (.inl ⟨_, _, rfl, rd_own (off := 0) (n := 1) 0 rfl rfl, rfl⟩) (by simp [oneV]) ⟨(by rw [strs_length, List.length_take]; simp; omega), (by decide)⟩ (fun v83 c83 ho83 => ?_)
            have ho83 : Sx.Own 9 1 (strs (TR.take (5 - k))) v83 c83 := by
              rw [hst2, strs_append]
              exact ho83
            have hone1 : oneV v83 = true := by
              obtain ⟨n83, A83, cap83, rfl, _⟩ := own_form ho83 (by decide)
              rfl
            refine j_q (qs_field Tryz.underlying246 rfl sz22 (by decide) rfl) ?_
            refine j_store (g := g63) (i := 256) (l := l ++ [tv]) 2 sz22 rfl rfl hone1 rfl (by simp [hl256]) (by simp) ?_
            rw [List.set_append_right _ _ (by omega), hl256]
            refine j_bytes Tryz.underlying9 Tryz.underlying46 Tryz.underlying5 rfl (fun v86 c86 ho86 hv86 => ?_)
            obtain ⟨g86, cap86, rfl⟩ := hv86
            rw [he2] at ho86 ⊢
            refine j_q (qs_field Tryz.underlying246 rfl sz244 (by decide) rfl) ?_
            refine j_q (qs_ix0 Tryz.underlying244 sz46 rfl rfl ⟨(by omega), (by omega)⟩) ?_
            refine j_store (g := g63) (i := o.toNat) (l := l ++ [v83]) 3 sz46 (by simp only [ev]; first | rfl | (congr 3; simp) | (simp only [Int.toNat_natCast, Nat.zero_add])) rfl rfl rfl (by simp [hl256]; omega) (by simp) ?_
            rw [List.set_append_left _ _ (by omega)]
            refine j_q (qs_sub64 rfl rfl (by omega)) ?_
            refine j_subl (S' := [c86, [(g63, .cells (l.set o.toNat (.slice (some ⟨g86, 0, none⟩) 2 cap86) ++ [v83]).toArray 246 (0, 0))], c83, F]) (by repeat first | exact slR _ | exact slN _ | apply slC | apply slD) ?_
            refine j_perm (S' := [[(g63, .cells (l.set o.toNat (.slice (some ⟨g86, 0, none⟩) 2 cap86) ++ [v83]).toArray 246 (0, 0))], c83, c86 ++ F]) (by classical exact List.perm_iff_count.2 fun a => by simp only [List.flatten_cons, List.flatten_nil, List.append_nil, List.count_append]; omega) ?_
            refine j_back rfl ?_
            exact ⟨k, by omega, k, _, v83, c83, c86 ++ F, by rw [show (((2 * k : Nat) : Int) - 2) = ((2 * k : Nat) : Int) - 2 from rfl]; rfl, rfl, (by rw [hst1]; exact half_step hhalf ho86), ho83, by omega, rfl⟩
          · skip
            cases hc8
        · skip
          obtain rfl : k0 = 0 := by
            simp only [bnA] at *
            omega
          refine j_q (qs_mkiface Tryz.underlying247 (fun _ h => by cases h) rfl) ?_
          refine j_perm (S' := [[(g63, .cells (l ++ [tv]).toArray 246 (0, 0))] ++ (ct ++ F)]) (by simp) ?_
          refine j_ret_con (vs := [_]) (fun w' hw' => ⟨rfl, trivial⟩) ?_
          exact ⟨g63, _, rfl, rfl, fun w' hw => half_tbl hhalf hot hw⟩
end Go.Proofs.YtfeabbeebkkhaaaGreat
/-! Do2 -/
namespace Go.Proofs.YtfeabbeebkkhaaaGreat
open Go Go.Sx
set_option linter.unusedVariables false
set_option maxRecDepth 100000
theorem disable (w : World) : (callFunc 188 #[]).run Tryz.prog w = .ok (.value (.tuple #[])) w := run_call_mark0 Tryz.func188 (by kernel_rfl) (by kernel_rfl) (by kernel_rfl) .disable (by kernel_rfl) w
theorem enable (w : World) : (callFunc 190 #[]).run Tryz.prog w = .ok (.value (.tuple #[])) w := run_call_mark0 Tryz.func190 (by kernel_rfl) (by kernel_rfl) (by kernel_rfl) .enable (by kernel_rfl) w
theorem acquire (a : Addr) (w : World) : (callFunc 191 #[.pointer (some a)]).run Tryz.prog w = .ok (.value (.tuple #[])) w := run_call_marked Tryz.func191 (by kernel_rfl) (by kernel_rfl) (by kernel_rfl) .acquire (by kernel_rfl) a w
theorem releaseMerge (a : Addr) (w : World) : (callFunc 193 #[.pointer (some a)]).run Tryz.prog w = .ok (.value (.tuple #[])) w := run_call_marked Tryz.func193 (by kernel_rfl) (by kernel_rfl) (by kernel_rfl) .releaseMerge (by kernel_rfl) a w
theorem store_deferred (a : Addr) (x : Value) (u : FrameMode) (w : World) (hc : w.cell? a = some x) (hz : w.frozen? a = false) :
    CallsD Tryz.prog 178 #[.pointer (some a), .bool true] u w fun e u' w' => u' = u ∧ (e = .returned (.tuple #[]) ∧ w' = w.drew.setCell a (.int .u32 1)) := by
  have hc' : w.drew.cell? a = some x := by go_simp
  have hz' : w.drew.frozen? a = false := by go_simp
  have hst := run_call_store (P := Tryz.prog) Tryz.func184 (by kernel_rfl) (by kernel_rfl) (by kernel_rfl) (by kernel_rfl) (k := .u32) (y := 1) hc' hz'
  go_enter_d Tryz.func178, Tryz.ntmps178
  go_wp2
  go_region_calls
  all_goals (go_end0; exact ⟨rfl, rfl⟩)
theorem unlock_deferred (a : Addr) (u : FrameMode) (w : World) (hc : w.cell? a = some (.int .i32 1)) (hz : w.frozen? a = false) :
    CallsD Tryz.prog 177 #[.pointer (some a)] u w fun e u' w' => u' = u ∧ (e = .returned (.tuple #[]) ∧ w' = w.setCell a (.int .i32 0)) := by
  have hd := disable
  have he := enable
  have hr := releaseMerge
  have hadd := run_call_add (P := Tryz.prog) Tryz.func194 (by kernel_rfl) (by kernel_rfl) (by kernel_rfl) .i32 (by kernel_rfl) (y := -1) (s := 0) hc hz (by simp [go_sem]; rfl)
  have hcv := run_convert_to_unsafe (P := Tryz.prog) (src := 265) (dst := 223) Tryz.underlying265 Tryz.underlying223 (by kernel_rfl) hc
  go_enter_d Tryz.func177, Tryz.ntmps177
  go_wp2
  go_end0
  go_wp2
  go_end0
  exact ⟨rfl, rfl⟩
theorem lock_free (a : Addr) (w : World) (hc : w.cell? a = some (.int .i32 0)) (hz : w.frozen? a = false) :
    Calls Tryz.prog 176 #[.pointer (some a)] w fun e w' => e = .returned (.tuple #[]) ∧ w' = w.setCell a (.int .i32 1) := by
  have hd := disable
  have he := enable
  have ha := acquire
  have hcas := run_call_cas_hit (P := Tryz.prog) Tryz.func189 (by kernel_rfl) (by kernel_rfl) (by kernel_rfl) .i32 (by kernel_rfl) (y := 1) hc hz
  have hc' : (w.setCell a (.int .i32 1)).cell? a = some (.int .i32 1) := World.cell?_setCell_same w a _ hc
  have hcv := run_convert_to_unsafe (P := Tryz.prog) (src := 265) (dst := 223) Tryz.underlying265 Tryz.underlying223 (by kernel_rfl) hc'
  go_enter Tryz.func176, Tryz.ntmps176
  go_wp2
  first | go_end0 | (simp only [Exit.inBlock, Exit.then]; refine bodyPost_ret (results_none rfl _ _ _) rfl ?_) | refine bodyPost_ret (results_none rfl _ _ _) rfl ?_
  go_wp2
  go_end0
  exact ⟨rfl, rfl⟩
set_option maxRecDepth 100000 in
set_option maxHeartbeats 1600000 in
theorem slow_gen (b off : Nat) (f : FuncId) (cap : Array Value) (w : World) (K : World → Prop) (hen : Sx.Enters Tryz.prog f)
    (h0 : w.cell? ⟨b, off, none⟩ = some (.int .u32 0)) (h1 : w.cell? ⟨b, off + 1, none⟩ = some (.int .i32 0)) (f1 : w.frozen? ⟨b, off + 1, none⟩ = false)
    (hc : Calls Tryz.prog f cap (w.setCell ⟨b, off + 1, none⟩ (.int .i32 1)) fun e w' => e = .returned (.tuple #[]) ∧ K w' ∧ w'.cell? ⟨b, off, none⟩ = some (.int .u32 0) ∧ w'.frozen? ⟨b, off, none⟩ = false ∧ w'.cell? ⟨b, off + 1, none⟩ = some (.int .i32 1) ∧ w'.frozen? ⟨b, off + 1, none⟩ = false) :
    Calls Tryz.prog 166 #[.pointer (some ⟨b, off, none⟩), .func (.func f) cap #[]] w fun e w' => e = .returned (.tuple #[]) ∧ ∃ w1, K w1 ∧ w' = (w1.drew.setCell ⟨b, off, none⟩ (.int .u32 1)).setCell ⟨b, off + 1, none⟩ (.int .i32 0) := by
  have hcall : ∀ w, (callFunc f cap).run Tryz.prog w = .ok (.enter f cap) w := fun w => run_callFunc hen cap w
  have hl := run_call_load (P := Tryz.prog) Tryz.func175 (by kernel_rfl) (by kernel_rfl) (by kernel_rfl) .u32 (by kernel_rfl) (w := w.setCell ⟨b, off + 1, none⟩ (.int .i32 1)) (a := ⟨b, off, none⟩) (x := 0) ((World.cell?_setCell_other _ ⟨b, off + 1, none⟩ ⟨b, off, none⟩ _ (by simp)).trans h0)
  have hnot : ∀ (x : Bool) (w : World), (Op.unary .not (.bool x)).run Tryz.prog w = .ok (.bool (!x)) w := fun _ _ => rfl
  go_enter_defers Tryz.func166, Tryz.ntmps166
  go_wp2_with (go_at_call 176; refine (lock_free ⟨b, off + 1, none⟩ _ (by go_simp) (by go_simp)).mono ?_; rintro e w' ⟨rfl, rfl⟩)
  go_wp2
  refine hc.mono ?_
  rintro e w1 ⟨rfl, hK, c0, z0, c1, z1⟩
  simp only
  go_wp2
  refine leaves_cons (f := 178) (args := #[.pointer (some ⟨b, off, none⟩), .bool true]) (by simp) (by simp [go_sem]) ?_
  refine (store_deferred ⟨b, off, none⟩ (.int .u32 0) .returning _ c0 z0).mono ?_
  rintro e u' w'' ⟨rfl, rfl, rfl⟩
  refine leaves_cons (f := 177) (args := #[.pointer (some ⟨b, off + 1, none⟩)]) (by simp [settle]) (by simp [go_sem]) ?_
  refine (unlock_deferred ⟨b, off + 1, none⟩ _ _ ?_ (by simp [z1])).mono ?_
  · refine (World.cell?_setCell_other _ ⟨b, off, none⟩ ⟨b, off + 1, none⟩ _ (by simp)).trans ?_
    rw [World.cell?_drew]
    exact c1
  rintro e u' w'' ⟨rfl, rfl, rfl⟩
  simp [Leaves, settle, results, Tryz.results166]
  exact ⟨w1, hK, rfl⟩
end Go.Proofs.YtfeabbeebkkhaaaGreat
/-! Dv3 -/
namespace Go.Proofs.YtfeabbeebkkhaaaGreat
open Go Go.Sx
set_option maxRecDepth 100000
set_option maxHeartbeats 4000000
set_option linter.unusedVariables false
set_option linter.unusedSimpArgs false
attribute [local irreducible] J JQ QS Con W opW
theorem notFrozen {w : World} {g i : Nat} {l : List Value} {e : TypeId} (h : w.heap[g]? = some (.cells l.toArray e (0, 0))) : w.frozen? ⟨g, i, none⟩ = false := by
  unfold World.frozen?
  simp [h]
theorem sig_refl (w : World) (F : SH) (h : ∀ p ∈ F, w.heap[p.1]? = some p.2) (hn : (dom F).Nodup) : Sig ⟨w, dom F⟩ [F] w :=
  ⟨rfl, rfl, rfl, Nat.le_refl _, by simpa using h, by simpa using hn, fun k hk => .inl (by simpa using hk), fun _ _ _ => rfl⟩
abbrev rc (d m : Int) (it ov : Value) : List Value := [.int .u32 d, .int .i32 m, .int .u32 0, it, ov]
abbrev rob (d m : Int) (it ov : Value) : Obj := .cells (rc d m it ov).toArray 210 (0, 0)
abbrev itv (gb : Nat) : Value := .iface 247 (.pointer (some ⟨gb, 0, none⟩))
abbrev nilS : Value := .slice none 0 0
attribute [local irreducible] es Tbl Half
theorem invReplace (gb : Nat) (s : Value) (w : World) : (invoke (.fn (.method "Replace") #[]) #[itv gb, s]).run Tryz.prog w = .ok (.enter 233 #[.pointer (some ⟨gb, 0, none⟩), s]) w := by kernel_rfl
theorem ent145b : Sx.Enters Tryz.prog 145 := ⟨_, Tryz.func145, by kernel_rfl, by kernel_rfl⟩
theorem buildOnce_con (gr : Nat) (d m : Int) (ov : Value) (co : SH) (ho : Sx.Own 9 1 (strs ON) ov co) (w : World) : Con Tryz.prog 145 [.pointer (some ⟨gr, 0, none⟩)] w ((gr, rob d m .nilIface ov) :: co) fun v S' => v = .tuple #[] ∧ ∃ gb F, S' = [[(gr, rob d m (itv gb) nilS)], F] ∧ ∀ w' : World, (∀ p ∈ F, w'.heap[p.1]? = some p.2) → Tbl w' gb := by
  refine con_of_tree mix Tryz.func145 T145_ok (by kernel_rfl) ?_
  unfold T145
  refine j_perm (S' := [[(gr, rob d m .nilIface ov)], co]) (by simp) ?_
  refine j_call0 ent167 rfl rfl rfl (fun w' hw' => build_con gr _ _ _ _ _ w' (hw'.at_ (k := 0) rfl) (strsl_own ho 1 rfl hw')) (fun u S2 hu => ?_)
  obtain ⟨gb, F, rfl, rfl, hF⟩ := hu
  refine j_q (qs_nil rfl) ?_
  refine j_q (qs_field Tryz.underlying210 rfl sz208 (by decide) rfl) ?_
  refine j_store (l := rc d m .nilIface ov) (v := itv gb) 1 sz208 rfl rfl rfl rfl (by simp) (by simp) ?_
  refine j_q (qs_nil rfl) ?_
  refine j_q (qs_field Tryz.underlying210 rfl sz22 (by decide) rfl) ?_
  refine j_store (l := rc d m (itv gb) ov) (v := nilS) 1 sz22 rfl rfl rfl rfl (by simp) (by simp) ?_
  refine j_subl (S' := [F, [(gr, rob d m (itv gb) nilS)]]) (by repeat first | exact slR _ | exact slN _ | apply slC | apply slD) ?_
  refine j_swap ?_
  refine j_ret_con (vs := []) (fun w' hw' => trivial) ?_
  exact ⟨rfl, gb, F, rfl, hF⟩
theorem slow_con (gr : Nat) (ov : Value) (co : SH) (ho : Sx.Own 9 1 (strs ON) ov co) (w : World) : Con Tryz.prog 166 [.pointer (some ⟨gr, 0, none⟩), .func (.func 145) #[.pointer (some ⟨gr, 0, none⟩)] #[]] w ((gr, rob 0 0 .nilIface ov) :: co)
    fun v S' => v = .tuple #[] ∧ ∃ gb F, S' = [[(gr, rob 1 0 (itv gb) nilS)], F] ∧ ∀ w' : World, (∀ p ∈ F, w'.heap[p.1]? = some p.2) → Tbl w' gb := by
  unfold Con
  intro hown hnd
  have hgt := hown (gr, _) (List.mem_cons_self)
  simp only at hgt
  have hs0 : Sig ⟨w, dom ((gr, rob 0 0 .nilIface ov) :: co)⟩ [[(gr, rob 0 0 .nilIface ov)], co] w := (sig_refl w _ hown hnd).perm (by simp)
  have hl1 : (w.setCell ⟨gr, 1, none⟩ (.int .i32 1)).heap[gr]? = some (rob 0 1 .nilIface ov) := setCell_same hgt
  have hs1 := hs0.set (k := 0) (g := gr) (w' := w.setCell ⟨gr, 1, none⟩ (.int .i32 1)) rfl rfl rfl rfl (by unfold World.setCell; simp) hl1 (fun j hj => setCell_other hj)
  have hs1' : Sig ⟨w, dom ((gr, rob 0 0 .nilIface ov) :: co)⟩ [[(gr, rob 0 1 .nilIface ov)], co] (w.setCell ⟨gr, 1, none⟩ (.int .i32 1)) := hs1
  have hc0 := buildOnce_con gr 0 1 ov co ho (w.setCell ⟨gr, 1, none⟩ (.int .i32 1))
  unfold Con at hc0
  have hc1 := hc0 (fun p hp => hs1'.own p (by simpa using hp)) (by simpa [dom] using hs1'.nodup)
  refine (slow_gen gr 0 145 #[.pointer (some ⟨gr, 0, none⟩)] w (fun w1 => ∃ gb F, Sig ⟨w, dom ((gr, rob 0 0 .nilIface ov) :: co)⟩ [[(gr, rob 0 1 (itv gb) nilS)], F] w1 ∧ ∀ w' : World, (∀ p ∈ F, w'.heap[p.1]? = some p.2) → Tbl w' gb) ent145b (by rw [cell_of hgt]; rfl) (by rw [cell_of hgt]; rfl) (notFrozen hgt) (hc1.mono ?_)).mono ?_
  · rintro e w2 ⟨v, S', rfl, ⟨rfl, gb, F, rfl, hF⟩, hS⟩
    have hS1 : Sig ⟨w, dom ((gr, rob 0 0 .nilIface ov) :: co)⟩ [[(gr, rob 0 1 (itv gb) nilS)], F] w2 :=
      Sig.call (Fr := []) hs1' (by simp) hS (by simp)
    have hg1 := hS1.at_ (k := 0) rfl
    exact ⟨rfl, ⟨gb, F, hS1, hF⟩, by rw [cell_of hg1]; rfl, notFrozen hg1, by rw [cell_of hg1]; rfl, notFrozen hg1⟩
  · rintro e w' ⟨rfl, w1, ⟨gb, F, hS, hF⟩, rfl⟩
    refine ⟨_, _, rfl, ⟨rfl, gb, F, rfl, hF⟩, ?_⟩
    have hd := hS.drew
    have hg1 := hd.at_ (k := 0) rfl
    have h2 := hd.set (k := 0) (g := gr) (w' := w1.drew.setCell ⟨gr, 0, none⟩ (.int .u32 1)) rfl rfl rfl rfl (by unfold World.setCell; simp only [Array.size_modify]; rfl) (setCell_same hg1) (fun j hj => setCell_other hj)
    have hg2 := h2.at_ (k := 0) rfl
    exact h2.set (k := 0) (g := gr) (w' := (w1.drew.setCell ⟨gr, 0, none⟩ (.int .u32 1)).setCell ⟨gr, 1, none⟩ (.int .i32 0)) rfl rfl rfl rfl (by unfold World.setCell; simp) (setCell_same hg2) (fun j hj => setCell_other hj)
theorem bload_con (g i : Nat) (l : List Value) (e : TypeId) (fz : Nat × Nat) (n : Int) (w : World) (hc : w.heap[g]? = some (.cells l.toArray e fz)) (hi : l[i]? = some (.int .u32 n)) : Con Tryz.prog 165 [.pointer (some ⟨g, i, none⟩)] w [] fun v _ => v = .bool (n != 0) := by
  refine con_of_tree mix Tryz.func165 T165_ok (by kernel_rfl) ?_
  unfold T165
  refine j_q (qs_ac) ?_
  refine j_q (qs_nil rfl) ?_
  refine j_q (qs_field Tryz.underlying200 rfl sz145 (by decide) rfl) ?_
  refine j_q (qs_extw (f := 175) (fn := Tryz.f175) (e := fun _ => pure .nilIface) rfl rfl rfl (fun w' hw' => run_call_load Tryz.func175 (by kernel_rfl) (by kernel_rfl) (by kernel_rfl) .u32 (by kernel_rfl) (by rw [cell_of ((hw'.frame g (lt_of_get hc) (by simp)).trans hc)]; exact hi))) ?_
  refine j_q (qs_neq rfl rfl) ?_
  refine j_ret_con (vs := [_]) (fun w' hw' => ⟨rfl, trivial⟩) ?_
  rfl
theorem once_con (gr : Nat) (ov : Value) (co : SH) (ho : Sx.Own 9 1 (strs ON) ov co) (w : World) : Con Tryz.prog 144 [.pointer (some ⟨gr, 0, none⟩), .func (.func 145) #[.pointer (some ⟨gr, 0, none⟩)] #[]] w ((gr, rob 0 0 .nilIface ov) :: co) fun v S' => v = .tuple #[] ∧ ∃ gb F, S' = [[(gr, rob 1 0 (itv gb) nilS)], F] ∧ ∀ w' : World, (∀ p ∈ F, w'.heap[p.1]? = some p.2) → Tbl w' gb := by
  refine con_of_tree mix Tryz.func144 T144_ok (by kernel_rfl) ?_
  unfold T144
  refine j_q (qs_nil rfl) ?_
  refine j_q (qs_field Tryz.underlying206 rfl sz200 (by decide) rfl) ?_
  refine j_q (qs_call ent165 rfl rfl rfl (fun w' hw' => bload_con gr 0 (rc 0 0 .nilIface ov) 210 (0, 0) 0 w' (hw'.own (gr, _) (by simp)) rfl)) ?_
  refine j_q (qs_not rfl) ?_
  refine j_cond rfl (fun hc0 => ?_) (fun hc0 => ?_)
  · skip
    refine j_call 0 ent166 rfl rfl rfl rfl (fun w' hw' => slow_con gr ov co ho w') (fun u S2 hu => ?_)
    obtain ⟨rfl, gb, F, rfl, hF⟩ := hu
    refine j_subl (S' := [[(gr, rob 1 0 (itv gb) nilS)], F]) (by repeat first | exact slR _ | exact slN _ | apply slC | apply slD) ?_
    refine j_ret_con (vs := []) (fun w' hw' => trivial) ?_
    exact ⟨rfl, gb, F, rfl, hF⟩
  · skip
    cases hc0
theorem replace_con (gr : Nat) (ov : Value) (co : SH) (ho : Sx.Own 9 1 (strs ON) ov co) (s : Bs) (w : World) (hs : s.length ≤ 1099511627776) : Con Tryz.prog 121 [.pointer (some ⟨gr, 0, none⟩), .string (bs s)] w ((gr, rob 0 0 .nilIface ov) :: co) fun v _ => v = .string (bs (es s)) := by
  refine con_of_tree mix Tryz.func121 T121_ok (by kernel_rfl) ?_
  unfold T121
  refine j_q (qs_ac) ?_
  refine j_q (qs_nil rfl) ?_
  refine j_q (qs_field Tryz.underlying210 rfl sz206 (by decide) rfl) ?_
  refine j_q (qs_mkfuncF rfl) ?_
  refine j_call 0 ent144 rfl rfl rfl rfl (fun w' hw' => once_con gr ov co ho w') (fun u S2 hu => ?_)
  obtain ⟨rfl, gb, F, rfl, hF⟩ := hu
  refine j_q (qs_nil rfl) ?_
  refine j_q (qs_field Tryz.underlying210 rfl sz208 (by decide) rfl) ?_
  refine j_q (qs_load (l := rc 1 0 (itv gb) nilS) (v := itv gb) 0 Tryz.underlying208 rfl rfl rfl rfl) ?_
  refine j_q (qs_meth (v := .string (bs (es s))) (args := [itv gb, .string (bs s)]) (args2 := [.pointer (some ⟨gb, 0, none⟩), .string (bs s)]) rfl rfl (fun w => invReplace gb (.string (bs s)) w) (fun w' hw' => brep_con gb s w' (hF w' (fun p hp => hw'.own p (by simp [hp]))) hs)) ?_
  refine j_ret_con (vs := [_]) (fun w' hw' => ⟨rfl, trivial⟩) ?_
  rfl
theorem newRep_con (v : Value) (w : World) (hv : StrSl w v ON) : Con Tryz.prog 120 [v] w [] fun u S' => ∃ gr ov co, u = .pointer (some ⟨gr, 0, none⟩) ∧ S' = [(gr, rob 0 0 .nilIface ov) :: co] ∧ Sx.Own 9 1 (strs ON) ov co := by
  refine con_of_tree mix Tryz.func120 T120_ok (by kernel_rfl) ?_
  unfold T120
  obtain ⟨A, cap, rfl, hcap⟩ := strsl_form hv
  refine j_q (qs_ac) ?_
  refine j_q (qs_lenl Tryz.underlying22 rfl) ?_
  refine j_q (qs_rem64 rfl rfl (by omega) (by omega)) ?_
  refine j_q (qs_eql rfl rfl) ?_
  refine j_cond rfl (fun hc0 => ?_) (fun hc0 => ?_)
  · skip
    exact absurd hc0 (by decide)
  · skip
    refine j_append 0 Tryz.underlying22 Tryz.underlying22 (.inr ⟨_, rfl⟩) sb9 zero9 rfl own_nil rfl (src_strsl hv) (by simp [strs, oneV]) ⟨(by decide), (by decide)⟩ (fun v9 c9 ho9 => ?_)
    rw [List.nil_append] at ho9
    obtain ⟨n9, A9, cap9, rfl, hn9⟩ := own_form ho9 (by decide)
    refine j_q (qs_build (places := [(0, 3), (3, 1), (4, 1)]) (offs := [(4, [.slice A9 n9 cap9])]) Tryz.underlying210 zero210 (by kernel_rfl) rfl (by rintro (_ | j) p q hp hq <;> first | (simp at hp hq; subst hp hq; exact ⟨rfl, rfl, by simp⟩) | (simp at hp))) ?_
    refine j_box (l := rc 0 0 .nilIface (.slice A9 n9 cap9)) rfl (fun g11 hg11 hs11 => ?_)
    refine j_perm (S' := [(g11, rob 0 0 .nilIface (.slice A9 n9 cap9)) :: c9]) (by simp) ?_
    refine j_ret_con (vs := [_]) (fun w' hw' => ⟨rfl, trivial⟩) ?_
    exact ⟨g11, _, c9, rfl, rfl, ho9⟩
theorem quote_con (s : Bs) (w : World) (hs : s.length ≤ 1099511627776) : Con Tryz.prog 69 [.string (bs s)] w [] fun v _ => v = .string (bs (qt s)) := by
  refine con_of_tree mix Tryz.func69 T69_ok (by kernel_rfl) ?_
  unfold T69
  have hel := es_len s
  refine j_q (qs_ac) ?_
  refine j_lit (vs := [.string (bs _), .string (bs _), .string (bs _), .string (bs _), .string (bs _), .string (bs _), .string (bs _), .string (bs _), .string (bs _), .string (bs _)]) Tryz.underlying22 sz9 zero9 rfl (by simp [oneV]) ⟨rfl, by decide⟩ (fun g1 v1 c1 hv1 hc1 ho1 => ?_)
  subst hv1 hc1
  refine j_call0 ent120 rfl rfl rfl (fun w' hw' => newRep_con _ w' (strsl_own (xs := ON) (by exact ho1) 0 rfl hw')) (fun u S2 hu => ?_)
  obtain ⟨gr, ov, co, rfl, rfl, ho⟩ := hu
  refine j_call 0 ent121 rfl rfl rfl rfl (fun w' hw' => replace_con gr ov co ho s w' hs) (fun u S2 hu => ?_)
  subst hu
  refine j_q (qs_sadd (l := [34]) rfl rfl (by simp only [List.length_cons, List.length_nil]; omega)) ?_
  refine j_q (qs_sadd (l' := [34]) rfl rfl (by simp only [List.length_append, List.length_cons, List.length_nil]; omega)) ?_
  refine j_ret_con (vs := [_]) (fun w' hw' => ⟨rfl, trivial⟩) ?_
  rfl
end Go.Proofs.YtfeabbeebkkhaaaGreat
/-! Dv4 -/
namespace Go.Proofs.YtfeabbeebkkhaaaGreat
open Go Go.Sx
set_option maxRecDepth 100000
set_option maxHeartbeats 4000000
set_option linter.unusedVariables false
set_option linter.unusedSimpArgs false
attribute [local irreducible] J JQ QS Con W opW
def StrZ (w : World) (v : Value) (rs : List Bs) : Prop := ∃ A cap, v = .slice A rs.length cap ∧ rs.length ≤ cap ∧ (0 < rs.length → ∃ g off, A = some ⟨g, off, none⟩ ∧ g < w.heap.size ∧ Cells w ⟨g, off, none⟩ (strs rs)) ∧ (A = none → cap = 0)
theorem strz_of {w : World} {v : Value} {rs : List Bs} (h : StrSl w v rs) : StrZ w v rs := by
  rcases h with ⟨rfl, rfl⟩ | ⟨g, off, cap, rfl, h1, h2, h3⟩
  · exact ⟨none, 0, rfl, Nat.le_refl _, fun h => absurd h (Nat.lt_irrefl _), fun _ => rfl⟩
  · exact ⟨_, cap, rfl, h2, fun _ => ⟨g, off, rfl, h1, h3⟩, fun e => by cases e⟩
theorem strz_nil {w : World} : StrZ w (.slice none 0 0) [] := strz_of (.inl ⟨rfl, rfl⟩)
theorem strz_form {w : World} {v : Value} {rs : List Bs} (h : StrZ w v rs) : ∃ A cap, v = .slice A rs.length cap ∧ rs.length ≤ cap := by
  obtain ⟨A, cap, h1, h2, _⟩ := h
  exact ⟨A, cap, h1, h2⟩
theorem strz_addr {w : World} {A : Option Addr} {n cap : Nat} {rs : List Bs} (h : StrZ w (.slice A n cap) rs) (h0 : 0 < rs.length) : ∃ g off, A = some ⟨g, off, none⟩ ∧ g < w.heap.size ∧ Cells w ⟨g, off, none⟩ (strs rs) := by
  obtain ⟨A', cap', e, h2, h3, _⟩ := h
  injection e with e1
  subst e1
  exact h3 h0
theorem strz_keep {w w' : World} {v : Value} {rs : List Bs} (h : StrZ w v rs) {S : List SH} (hs : Sig ⟨w, dom []⟩ S w') : StrZ w' v rs := by
  obtain ⟨A, cap, h1, h2, h3, h4⟩ := h
  exact ⟨A, cap, h1, h2, fun h0 => by
    obtain ⟨g, off, rfl, h5, h6⟩ := h3 h0
    exact ⟨g, off, rfl, Nat.lt_of_lt_of_le h5 hs.size, cells_keep h6 hs⟩, h4⟩
theorem src_strz {w : World} {S : List SH} {A : Option Addr} {n cap : Nat} {rs : List Bs} (h : StrZ w (.slice A n cap) rs) : Src ⟨w, dom []⟩ S 1 (.slice A n cap) n (strs rs) := by
  obtain ⟨A', cap', e, h2, h3, h4⟩ := h
  injection e with e1 e2 e3
  subst e1 e2 e3
  rcases Nat.eq_zero_or_pos rs.length with h0 | h0
  · have hr : rs = [] := List.eq_nil_of_length_eq_zero h0
    subst hr
    cases A with
    | none => exact .inr (.inl ⟨cap, rfl, rfl, rfl⟩)
    | some a => exact .inl ⟨a, cap, rfl, fun w' hw' j u hu => by simp [strs] at hu, rfl⟩
  · obtain ⟨g, off, rfl, h5, h6⟩ := h3 h0
    exact .inl ⟨_, _, rfl, rd_cells (b := ⟨w, dom []⟩) h6 (by simp), by rw [strs_length, Nat.mul_one]⟩
theorem strz_own {b : Base} {S : List SH} {w : World} {e : TypeId} {xs : List Bs} {v : Value} {c : SH} (ho : Sx.Own e 1 (strs xs) v c) (k : Nat) (hk : S[k]? = some c) (hw : Sig b S w) : StrZ w v xs := strz_of (strsl_own ho k hk hw)
theorem strz_ownw {w : World} {e : TypeId} {xs : List Bs} {v : Value} {c : SH} (ho : Sx.Own e 1 (strs xs) v c) (h : ∀ p ∈ c, w.heap[p.1]? = some p.2) : StrZ w v xs := strz_of (strsl_ownw ho h)
def encO (o : PO) : List Value := .string (bs o.name) :: .string (bs o.path) :: .bool o.fixed :: ints o.hash.1
def encV (v : PV) : List Value := [.string (bs v.name), .string (bs v.val)]
structure MI where
  drv : Bs
  outs : List Bs
  v : Value
def MI.pi (m : MI) : PI := ⟨m.drv, m.outs⟩
def encI (m : MI) : List Value := [.string (bs m.drv), m.v]
abbrev m0 : MI := ⟨[], [], .slice none 0 0⟩
theorem encO_len (o : PO) : (encO o).length = 35 := by
  unfold encO
  simp only [List.length_cons, ints_length, o.hash.2]
theorem encV_len (o : PV) : (encV o).length = 2 := rfl
theorem encI_len (o : MI) : (encI o).length = 2 := rfl
theorem encO_one (o : PO) : ∀ u ∈ encO o, oneV u = true := fun u hu => by
  simp only [encO, List.mem_cons] at hu
  rcases hu with rfl | rfl | rfl | hu
  · rfl
  · rfl
  · rfl
  · exact ints_one u hu
theorem encV_one (o : PV) : ∀ u ∈ encV o, oneV u = true := fun u hu => by
  simp only [encV, List.mem_cons, List.not_mem_nil, or_false] at hu
  rcases hu with rfl | rfl <;> rfl
structure DV where
  va : Value
  ve : Value
  vi : Value
  vs : Value
  vo : Value
  mi : List MI
def dcells (d : PD) (x : DV) : List Value := [.string (bs d.name), .string (bs d.sys), .string (bs d.bld), x.va, x.ve, x.vi, x.vs, x.vo]
abbrev dval (d : PD) (x : DV) : Value := .agg (dcells d x).toArray
structure DR (w : World) (d : PD) (x : DV) : Prop where
  a : StrZ w x.va d.args
  e : RSlN 2 w x.ve (d.env.map encV).flatten d.env.length
  i : RSlN 2 w x.vi (x.mi.map encI).flatten x.mi.length
  io : ∀ m ∈ x.mi, StrZ w m.v m.outs
  im : d.ins = x.mi.map MI.pi
  s : StrZ w x.vs d.srcs
  o : RSlN 35 w x.vo (d.outs.map encO).flatten d.outs.length
theorem DR.keep {w w' : World} {d : PD} {x : DV} (h : DR w d x) {S : List SH} (hs : Sig ⟨w, dom []⟩ S w') : DR w' d x :=
  ⟨strz_keep h.a hs, rsln_keep h.e hs, rsln_keep h.i hs, fun m hm => strz_keep (h.io m hm) hs, h.im, strz_keep h.s hs, rsln_keep h.o hs⟩
theorem MI.one {w : World} {m : MI} (h : StrZ w m.v m.outs) : ∀ u ∈ encI m, oneV u = true := fun u hu => by
  obtain ⟨A, cap, e, _⟩ := strz_form h
  simp only [encI, List.mem_cons, List.not_mem_nil, or_false] at hu
  rcases hu with rfl | rfl
  · rfl
  · rw [e]; rfl
theorem take_map_snoc {α : Type} (g : α → Bs) {l : List α} {i : Nat} {d : α} (h : i < l.length) : (l.take (i + 1)).map g = (l.take i).map g ++ [g (l.getD i d)] := by
  rw [List.take_succ_eq_append_getElem h, List.map_append]
  congr 2
  rw [List.getD_eq_getElem?_getD, List.getElem?_eq_getElem h]
  rfl
theorem cms_take_le {α : Type} (g : α → Bs) (l : List α) (i : Nat) : (cms ((l.take i).map g)).length ≤ (cms (l.map g)).length := by
  unfold cms
  rw [List.length_drop, List.length_drop]
  have : ((l.map g).map fun x => (44 : UInt8) :: x).flatten = (((l.take i).map g).map fun x => (44 : UInt8) :: x).flatten ++ (((l.drop i).map g).map fun x => (44 : UInt8) :: x).flatten := by
    conv => lhs; rw [← List.take_append_drop i l]
    rw [List.map_append, List.map_append, List.flatten_append]
  rw [this, List.length_append]
  omega
theorem cms_step {α : Type} (g : α → Bs) {l : List α} {i : Nat} {d : α} (h : i < l.length) : cms ((l.take (i + 1)).map g) = if i = 0 then g (l.getD i d) else cms ((l.take i).map g) ++ (44 :: g (l.getD i d)) := by
  rw [take_map_snoc g h, cms_snoc]
  have : (l.take i).map g = [] ↔ i = 0 := by
    rw [List.map_eq_nil_iff, List.take_eq_nil_iff]
    constructor
    · rintro (h | h)
      · exact h
      · subst h; simp at h
    · exact fun h => .inl h
  by_cases h0 : i = 0
  · rw [if_pos (this.2 h0), if_pos h0]
  · rw [if_neg (fun e => h0 (this.1 e)), if_neg h0]
attribute [local irreducible] es qt cms hex Tbl Half
theorem listO_con (l : List PO) (v : Value) (o c : Bs) (f : Nat) (g : PO → Bs) (w : World) (hv : RSlN 35 w v (l.map encO).flatten l.length) (hen : Sx.Enters Tryz.prog f) (hf : ∀ i, i < l.length → ∀ S w', Sig ⟨w, dom []⟩ S w' → Con Tryz.prog f [.agg (encO (l.getD i o0)).toArray] w' [] fun u _ => u = .string (bs (g (l.getD i o0)))) (ho0 : o ≠ []) (hn : l.length ≤ 1099511627776) (hlen : (lst o (l.map g) c).length ≤ 1099511627776) : Con Tryz.prog 66 [.string (bs o), v, .func (.func f) #[] #[], .string (bs c)] w [] fun u _ => u = .string (bs (lst o (l.map g) c)) := by
  refine con_of_tree mix Tryz.func66 T66_ok (by kernel_rfl) ?_
  unfold T66
  obtain ⟨A, cap, ga, off, rfl, hcap, hA⟩ := rsln_form hv
  have hcl := cms_take_le g l
  have hlen2 := hlen
  simp only [lst, List.length_append] at hlen2
  refine j_q (qs_ac) ?_
  refine j_alloc zero169 (fun g1 hg1 hs1 => ?_)
  refine j_call 0 ent115 rfl rfl rfl rfl (fun w' hw' => writeString_con g1 none (.inl rfl) (.slice none 0 0) [] [] o own_nil (by simp; omega) w') (fun u S2 hu => ?_)
  obtain ⟨rfl, bv, cb, rfl, hob⟩ := hu
  rw [List.nil_append] at hob
  refine j_subl (S' := [((g1, .cells [.pointer (some ⟨g1, 0, none⟩), bv].toArray 169 (0, 0)) :: cb)]) (by repeat first | exact slR _ | exact slN _ | apply slC | apply slD) ?_
  refine j_q (qs_lenl Tryz.underlying26 rfl) ?_
  refine j_q (qs_mc) ?_
  refine j_loop (fun m vs S' => ∃ (i : Nat) (bv : Value) (cb : SH), vs = [.int .i64 (i : Int)] ∧ S' = [((g1, .cells [.pointer (some ⟨g1, 0, none⟩), bv].toArray 169 (0, 0)) :: cb)] ∧ Sx.Own 5 1 (ints (o ++ cms ((l.take i).map g))) bv cb ∧ i ≤ l.length ∧ m = l.length - i) ⟨_, 0, bv, cb, rfl, rfl, by rw [List.take_zero, show cms (([] : List _).map g) = [] by unfold cms; rfl, List.append_nil]; exact hob, Nat.zero_le _, rfl⟩ ?_
  rintro m vs S' hlen ⟨i, bv, cb, rfl, rfl, hob, hin, rfl⟩
  refine j_q (qs_lss rfl rfl) ?_
  refine j_cond rfl (fun hc0 => ?_) (fun hc0 => ?_)
  · skip
    have hi : i < l.length := by
      simp only [bnA] at *
      omega
    obtain ⟨rfl, hga, hcells⟩ := hA (by omega)
    have hci := hcl i
    have hci1 := hcl (i + 1)
    refine j_q (qs_ixn (g := ga) (off := off) (i := i) Tryz.underlying26 sz53 rfl rfl (by omega)) ?_
    refine j_q (qs_loadrecw (encA := encO) (rs := l) (d := o0) (i := i) encO_len (rd_cells hcells (by simp)) hi Tryz.underlying53 rfl sz53 rfl) ?_
    refine j_alloc zero53 (fun g8 hg8 hs8 => ?_)
    refine j_storew (vs := encO (l.getD i o0)) 0 sz53 rfl rfl (encO_len _) (encO_one _) rfl rfl ?_
    refine j_q (qs_gtr rfl rfl) ?_
    refine j_cond rfl (fun hc1 => ?_) (fun hc1 => ?_)
    · skip
      have h0 : ¬ i = 0 := by
        simp only [bnA] at *
        omega
      have hstep := cms_step g (d := o0) hi
      rw [if_neg h0] at hstep
      rw [hstep] at hci1
      simp only [List.length_append, List.length_cons] at hci1
      refine j_call 1 ent116 rfl rfl rfl rfl (fun w' hw' => writeByte_con g1 (some ⟨g1, 0, none⟩) (.inr rfl) bv cb _ 44 (by decide) hob (by simp only [List.length_append, List.length_cons, List.length_nil]; omega) w') (fun u S2 hu => ?_)
      obtain ⟨rfl, bv2, cb2, rfl, hob2⟩ := hu
      refine j_q (qs_loadw (l := encO (l.getD i o0)) 1 Tryz.underlying53 rfl sz53 rfl rfl (encO_len _)) ?_
      refine j_q (qs_callf (v := .string (bs (g (l.getD i o0)))) hen rfl rfl rfl (fun w' hw' => hf i hi _ w' hw')) ?_
      refine j_call 0 ent115 rfl rfl rfl rfl (fun w' hw' => writeString_con g1 (some ⟨g1, 0, none⟩) (.inr rfl) bv2 cb2 _ (g (l.getD i o0)) hob2 (by simp only [List.length_append, List.length_cons, List.length_nil]; omega) w') (fun u S2 hu => ?_)
      obtain ⟨rfl, bv3, cb3, rfl, hob3⟩ := hu
      have hob4 : Sx.Own 5 1 (ints (o ++ cms ((l.take (i + 1)).map g))) bv3 cb3 := by
        rw [hstep]
        have e : o ++ cms ((l.take i).map g) ++ [by8 44] ++ (g (l.getD i o0)) = o ++ (cms ((l.take i).map g) ++ (44 :: (g (l.getD i o0)))) := by rw [show by8 44 = (44 : UInt8) from rfl]; simp
        rw [← e]
        exact hob3
      refine j_subl (S' := [((g1, .cells [.pointer (some ⟨g1, 0, none⟩), bv3].toArray 169 (0, 0)) :: cb3)]) (by repeat first | exact slR _ | exact slN _ | apply slC | apply slD) ?_
      refine j_q (qs_add64 rfl rfl (by omega)) ?_
      refine j_back rfl ?_
      exact ⟨l.length - (i + 1), by omega, i + 1, bv3, cb3, rfl, rfl, hob4, by omega, rfl⟩
    · skip
      have h0 : i = 0 := by
        simp only [bnA] at *
        omega
      have hstep := cms_step g (d := o0) hi
      rw [if_pos h0] at hstep
      rw [hstep] at hci1
      have hcm0 : cms ((l.take i).map g) = [] := by
        rw [h0, List.take_zero]
        unfold cms
        rfl
      refine j_q (qs_loadw (l := encO (l.getD i o0)) 0 Tryz.underlying53 rfl sz53 rfl rfl (encO_len _)) ?_
      refine j_q (qs_callf (v := .string (bs (g (l.getD i o0)))) hen rfl rfl rfl (fun w' hw' => hf i hi _ w' hw')) ?_
      refine j_call 1 ent115 rfl rfl rfl rfl (fun w' hw' => writeString_con g1 (some ⟨g1, 0, none⟩) (.inr rfl) bv cb _ (g (l.getD i o0)) hob (by simp only [List.length_append, List.length_cons, List.length_nil]; omega) w') (fun u S2 hu => ?_)
      obtain ⟨rfl, bv3, cb3, rfl, hob3⟩ := hu
      have hob4 : Sx.Own 5 1 (ints (o ++ cms ((l.take (i + 1)).map g))) bv3 cb3 := by
        rw [hstep]
        rw [hcm0, List.append_nil] at hob3
        exact hob3
      refine j_subl (S' := [((g1, .cells [.pointer (some ⟨g1, 0, none⟩), bv3].toArray 169 (0, 0)) :: cb3)]) (by repeat first | exact slR _ | exact slN _ | apply slC | apply slD) ?_
      refine j_q (qs_add64 rfl rfl (by omega)) ?_
      refine j_back rfl ?_
      exact ⟨l.length - (i + 1), by omega, i + 1, bv3, cb3, rfl, rfl, hob4, by omega, rfl⟩
  · skip
    obtain rfl : i = l.length := by
      simp only [bnA] at *
      omega
    rw [List.take_length] at hob
    refine j_call 0 ent115 rfl rfl rfl rfl (fun w' hw' => writeString_con g1 (some ⟨g1, 0, none⟩) (.inr rfl) bv cb _ c hob (by simp only [List.length_append, List.length_cons, List.length_nil]; omega) w') (fun u S2 hu => ?_)
    obtain ⟨rfl, bv2, cb2, rfl, hob2⟩ := hu
    refine j_call 0 ent117 rfl rfl rfl rfl (fun w' hw' => string_con g1 _ bv2 cb2 _ (by simp [ho0]) (by simp only [List.length_append, List.length_cons, List.length_nil]; omega) hob2 w') (fun u S2 hu => ?_)
    obtain ⟨rfl, rfl⟩ := hu
    refine j_ret_con (vs := [_]) (fun w' hw' => ⟨rfl, trivial⟩) ?_
    rfl
theorem listI_con (l : List MI) (v : Value) (o c : Bs) (f : Nat) (g : MI → Bs) (w : World) (hv : RSlN 2 w v (l.map encI).flatten l.length) (hone : ∀ i, i < l.length → ∀ u ∈ encI (l.getD i m0), oneV u = true) (hen : Sx.Enters Tryz.prog f) (hf : ∀ i, i < l.length → ∀ S w', Sig ⟨w, dom []⟩ S w' → Con Tryz.prog f [.agg (encI (l.getD i m0)).toArray] w' [] fun u _ => u = .string (bs (g (l.getD i m0)))) (ho0 : o ≠ []) (hn : l.length ≤ 1099511627776) (hlen : (lst o (l.map g) c).length ≤ 1099511627776) : Con Tryz.prog 70 [.string (bs o), v, .func (.func f) #[] #[], .string (bs c)] w [] fun u _ => u = .string (bs (lst o (l.map g) c)) := by
  refine con_of_tree mix Tryz.func70 T70_ok (by kernel_rfl) ?_
  unfold T70
  obtain ⟨A, cap, ga, off, rfl, hcap, hA⟩ := rsln_form hv
  have hcl := cms_take_le g l
  have hlen2 := hlen
  simp only [lst, List.length_append] at hlen2
  refine j_q (qs_ac) ?_
  refine j_alloc zero169 (fun g1 hg1 hs1 => ?_)
  refine j_call 0 ent115 rfl rfl rfl rfl (fun w' hw' => writeString_con g1 none (.inl rfl) (.slice none 0 0) [] [] o own_nil (by simp; omega) w') (fun u S2 hu => ?_)
  obtain ⟨rfl, bv, cb, rfl, hob⟩ := hu
  rw [List.nil_append] at hob
  refine j_subl (S' := [((g1, .cells [.pointer (some ⟨g1, 0, none⟩), bv].toArray 169 (0, 0)) :: cb)]) (by repeat first | exact slR _ | exact slN _ | apply slC | apply slD) ?_
  refine j_q (qs_lenl Tryz.underlying24 rfl) ?_
  refine j_q (qs_mc) ?_
  refine j_loop (fun m vs S' => ∃ (i : Nat) (bv : Value) (cb : SH), vs = [.int .i64 (i : Int)] ∧ S' = [((g1, .cells [.pointer (some ⟨g1, 0, none⟩), bv].toArray 169 (0, 0)) :: cb)] ∧ Sx.Own 5 1 (ints (o ++ cms ((l.take i).map g))) bv cb ∧ i ≤ l.length ∧ m = l.length - i) ⟨_, 0, bv, cb, rfl, rfl, by rw [List.take_zero, show cms (([] : List _).map g) = [] by unfold cms; rfl, List.append_nil]; exact hob, Nat.zero_le _, rfl⟩ ?_
  rintro m vs S' hlen ⟨i, bv, cb, rfl, rfl, hob, hin, rfl⟩
  refine j_q (qs_lss rfl rfl) ?_
  refine j_cond rfl (fun hc0 => ?_) (fun hc0 => ?_)
  · skip
    have hi : i < l.length := by
      simp only [bnA] at *
      omega
    obtain ⟨rfl, hga, hcells⟩ := hA (by omega)
    have hci := hcl i
    have hci1 := hcl (i + 1)
    refine j_q (qs_ixn (g := ga) (off := off) (i := i) Tryz.underlying24 sz68 rfl rfl (by omega)) ?_
    refine j_q (qs_loadrecw (encA := encI) (rs := l) (d := m0) (i := i) encI_len (rd_cells hcells (by simp)) hi Tryz.underlying68 rfl sz68 rfl) ?_
    refine j_alloc zero68 (fun g8 hg8 hs8 => ?_)
    refine j_storew (vs := encI (l.getD i m0)) 0 sz68 rfl rfl (encI_len _) (hone i hi) rfl rfl ?_
    refine j_q (qs_gtr rfl rfl) ?_
    refine j_cond rfl (fun hc1 => ?_) (fun hc1 => ?_)
    · skip
      have h0 : ¬ i = 0 := by
        simp only [bnA] at *
        omega
      have hstep := cms_step g (d := m0) hi
      rw [if_neg h0] at hstep
      rw [hstep] at hci1
      simp only [List.length_append, List.length_cons] at hci1
      refine j_call 1 ent116 rfl rfl rfl rfl (fun w' hw' => writeByte_con g1 (some ⟨g1, 0, none⟩) (.inr rfl) bv cb _ 44 (by decide) hob (by simp only [List.length_append, List.length_cons, List.length_nil]; omega) w') (fun u S2 hu => ?_)
      obtain ⟨rfl, bv2, cb2, rfl, hob2⟩ := hu
      refine j_q (qs_loadw (l := encI (l.getD i m0)) 1 Tryz.underlying68 rfl sz68 rfl rfl (encI_len _)) ?_
      refine j_q (qs_callf (v := .string (bs (g (l.getD i m0)))) hen rfl rfl rfl (fun w' hw' => hf i hi _ w' hw')) ?_
      refine j_call 0 ent115 rfl rfl rfl rfl (fun w' hw' => writeString_con g1 (some ⟨g1, 0, none⟩) (.inr rfl) bv2 cb2 _ (g (l.getD i m0)) hob2 (by simp only [List.length_append, List.length_cons, List.length_nil]; omega) w') (fun u S2 hu => ?_)
      obtain ⟨rfl, bv3, cb3, rfl, hob3⟩ := hu
      have hob4 : Sx.Own 5 1 (ints (o ++ cms ((l.take (i + 1)).map g))) bv3 cb3 := by
        rw [hstep]
        have e : o ++ cms ((l.take i).map g) ++ [by8 44] ++ (g (l.getD i m0)) = o ++ (cms ((l.take i).map g) ++ (44 :: (g (l.getD i m0)))) := by rw [show by8 44 = (44 : UInt8) from rfl]; simp
        rw [← e]
        exact hob3
      refine j_subl (S' := [((g1, .cells [.pointer (some ⟨g1, 0, none⟩), bv3].toArray 169 (0, 0)) :: cb3)]) (by repeat first | exact slR _ | exact slN _ | apply slC | apply slD) ?_
      refine j_q (qs_add64 rfl rfl (by omega)) ?_
      refine j_back rfl ?_
      exact ⟨l.length - (i + 1), by omega, i + 1, bv3, cb3, rfl, rfl, hob4, by omega, rfl⟩
    · skip
      have h0 : i = 0 := by
        simp only [bnA] at *
        omega
      have hstep := cms_step g (d := m0) hi
      rw [if_pos h0] at hstep
      rw [hstep] at hci1
      have hcm0 : cms ((l.take i).map g) = [] := by
        rw [h0, List.take_zero]
        unfold cms
        rfl
      refine j_q (qs_loadw (l := encI (l.getD i m0)) 0 Tryz.underlying68 rfl sz68 rfl rfl (encI_len _)) ?_
      refine j_q (qs_callf (v := .string (bs (g (l.getD i m0)))) hen rfl rfl rfl (fun w' hw' => hf i hi _ w' hw')) ?_
      refine j_call 1 ent115 rfl rfl rfl rfl (fun w' hw' => writeString_con g1 (some ⟨g1, 0, none⟩) (.inr rfl) bv cb _ (g (l.getD i m0)) hob (by simp only [List.length_append, List.length_cons, List.length_nil]; omega) w') (fun u S2 hu => ?_)
      obtain ⟨rfl, bv3, cb3, rfl, hob3⟩ := hu
      have hob4 : Sx.Own 5 1 (ints (o ++ cms ((l.take (i + 1)).map g))) bv3 cb3 := by
        rw [hstep]
        rw [hcm0, List.append_nil] at hob3
        exact hob3
      refine j_subl (S' := [((g1, .cells [.pointer (some ⟨g1, 0, none⟩), bv3].toArray 169 (0, 0)) :: cb3)]) (by repeat first | exact slR _ | exact slN _ | apply slC | apply slD) ?_
      refine j_q (qs_add64 rfl rfl (by omega)) ?_
      refine j_back rfl ?_
      exact ⟨l.length - (i + 1), by omega, i + 1, bv3, cb3, rfl, rfl, hob4, by omega, rfl⟩
  · skip
    obtain rfl : i = l.length := by
      simp only [bnA] at *
      omega
    rw [List.take_length] at hob
    refine j_call 0 ent115 rfl rfl rfl rfl (fun w' hw' => writeString_con g1 (some ⟨g1, 0, none⟩) (.inr rfl) bv cb _ c hob (by simp only [List.length_append, List.length_cons, List.length_nil]; omega) w') (fun u S2 hu => ?_)
    obtain ⟨rfl, bv2, cb2, rfl, hob2⟩ := hu
    refine j_call 0 ent117 rfl rfl rfl rfl (fun w' hw' => string_con g1 _ bv2 cb2 _ (by simp [ho0]) (by simp only [List.length_append, List.length_cons, List.length_nil]; omega) hob2 w') (fun u S2 hu => ?_)
    obtain ⟨rfl, rfl⟩ := hu
    refine j_ret_con (vs := [_]) (fun w' hw' => ⟨rfl, trivial⟩) ?_
    rfl
theorem listV_con (l : List PV) (v : Value) (o c : Bs) (f : Nat) (g : PV → Bs) (w : World) (hv : RSlN 2 w v (l.map encV).flatten l.length) (hen : Sx.Enters Tryz.prog f) (hf : ∀ i, i < l.length → ∀ S w', Sig ⟨w, dom []⟩ S w' → Con Tryz.prog f [.agg (encV (l.getD i v0)).toArray] w' [] fun u _ => u = .string (bs (g (l.getD i v0)))) (ho0 : o ≠ []) (hn : l.length ≤ 1099511627776) (hlen : (lst o (l.map g) c).length ≤ 1099511627776) : Con Tryz.prog 73 [.string (bs o), v, .func (.func f) #[] #[], .string (bs c)] w [] fun u _ => u = .string (bs (lst o (l.map g) c)) := by
  refine con_of_tree mix Tryz.func73 T73_ok (by kernel_rfl) ?_
  unfold T73
  obtain ⟨A, cap, ga, off, rfl, hcap, hA⟩ := rsln_form hv
  have hcl := cms_take_le g l
  have hlen2 := hlen
  simp only [lst, List.length_append] at hlen2
  refine j_q (qs_ac) ?_
  refine j_alloc zero169 (fun g1 hg1 hs1 => ?_)
  refine j_call 0 ent115 rfl rfl rfl rfl (fun w' hw' => writeString_con g1 none (.inl rfl) (.slice none 0 0) [] [] o own_nil (by simp; omega) w') (fun u S2 hu => ?_)
  obtain ⟨rfl, bv, cb, rfl, hob⟩ := hu
  rw [List.nil_append] at hob
  refine j_subl (S' := [((g1, .cells [.pointer (some ⟨g1, 0, none⟩), bv].toArray 169 (0, 0)) :: cb)]) (by repeat first | exact slR _ | exact slN _ | apply slC | apply slD) ?_
  refine j_q (qs_lenl Tryz.underlying23 rfl) ?_
  refine j_q (qs_mc) ?_
  refine j_loop (fun m vs S' => ∃ (i : Nat) (bv : Value) (cb : SH), vs = [.int .i64 (i : Int)] ∧ S' = [((g1, .cells [.pointer (some ⟨g1, 0, none⟩), bv].toArray 169 (0, 0)) :: cb)] ∧ Sx.Own 5 1 (ints (o ++ cms ((l.take i).map g))) bv cb ∧ i ≤ l.length ∧ m = l.length - i) ⟨_, 0, bv, cb, rfl, rfl, by rw [List.take_zero, show cms (([] : List _).map g) = [] by unfold cms; rfl, List.append_nil]; exact hob, Nat.zero_le _, rfl⟩ ?_
  rintro m vs S' hlen ⟨i, bv, cb, rfl, rfl, hob, hin, rfl⟩
  refine j_q (qs_lss rfl rfl) ?_
  refine j_cond rfl (fun hc0 => ?_) (fun hc0 => ?_)
  · skip
    have hi : i < l.length := by
      simp only [bnA] at *
      omega
    obtain ⟨rfl, hga, hcells⟩ := hA (by omega)
    have hci := hcl i
    have hci1 := hcl (i + 1)
    refine j_q (qs_ixn (g := ga) (off := off) (i := i) Tryz.underlying23 sz48 rfl rfl (by omega)) ?_
    refine j_q (qs_loadrecw (encA := encV) (rs := l) (d := v0) (i := i) encV_len (rd_cells hcells (by simp)) hi Tryz.underlying48 rfl sz48 rfl) ?_
    refine j_alloc zero48 (fun g8 hg8 hs8 => ?_)
    refine j_storew (vs := encV (l.getD i v0)) 0 sz48 rfl rfl (encV_len _) (encV_one _) rfl rfl ?_
    refine j_q (qs_gtr rfl rfl) ?_
    refine j_cond rfl (fun hc1 => ?_) (fun hc1 => ?_)
    · skip
      have h0 : ¬ i = 0 := by
        simp only [bnA] at *
        omega
      have hstep := cms_step g (d := v0) hi
      rw [if_neg h0] at hstep
      rw [hstep] at hci1
      simp only [List.length_append, List.length_cons] at hci1
      refine j_call 1 ent116 rfl rfl rfl rfl (fun w' hw' => writeByte_con g1 (some ⟨g1, 0, none⟩) (.inr rfl) bv cb _ 44 (by decide) hob (by simp only [List.length_append, List.length_cons, List.length_nil]; omega) w') (fun u S2 hu => ?_)
      obtain ⟨rfl, bv2, cb2, rfl, hob2⟩ := hu
      refine j_q (qs_loadw (l := encV (l.getD i v0)) 1 Tryz.underlying48 rfl sz48 rfl rfl (encV_len _)) ?_
      refine j_q (qs_callf (v := .string (bs (g (l.getD i v0)))) hen rfl rfl rfl (fun w' hw' => hf i hi _ w' hw')) ?_
      refine j_call 0 ent115 rfl rfl rfl rfl (fun w' hw' => writeString_con g1 (some ⟨g1, 0, none⟩) (.inr rfl) bv2 cb2 _ (g (l.getD i v0)) hob2 (by simp only [List.length_append, List.length_cons, List.length_nil]; omega) w') (fun u S2 hu => ?_)
      obtain ⟨rfl, bv3, cb3, rfl, hob3⟩ := hu
      have hob4 : Sx.Own 5 1 (ints (o ++ cms ((l.take (i + 1)).map g))) bv3 cb3 := by
        rw [hstep]
        have e : o ++ cms ((l.take i).map g) ++ [by8 44] ++ (g (l.getD i v0)) = o ++ (cms ((l.take i).map g) ++ (44 :: (g (l.getD i v0)))) := by rw [show by8 44 = (44 : UInt8) from rfl]; simp
        rw [← e]
        exact hob3
      refine j_subl (S' := [((g1, .cells [.pointer (some ⟨g1, 0, none⟩), bv3].toArray 169 (0, 0)) :: cb3)]) (by repeat first | exact slR _ | exact slN _ | apply slC | apply slD) ?_
      refine j_q (qs_add64 rfl rfl (by omega)) ?_
      refine j_back rfl ?_
      exact ⟨l.length - (i + 1), by omega, i + 1, bv3, cb3, rfl, rfl, hob4, by omega, rfl⟩
    · skip
      have h0 : i = 0 := by
        simp only [bnA] at *
        omega
      have hstep := cms_step g (d := v0) hi
      rw [if_pos h0] at hstep
      rw [hstep] at hci1
      have hcm0 : cms ((l.take i).map g) = [] := by
        rw [h0, List.take_zero]
        unfold cms
        rfl
      refine j_q (qs_loadw (l := encV (l.getD i v0)) 0 Tryz.underlying48 rfl sz48 rfl rfl (encV_len _)) ?_
      refine j_q (qs_callf (v := .string (bs (g (l.getD i v0)))) hen rfl rfl rfl (fun w' hw' => hf i hi _ w' hw')) ?_
      refine j_call 1 ent115 rfl rfl rfl rfl (fun w' hw' => writeString_con g1 (some ⟨g1, 0, none⟩) (.inr rfl) bv cb _ (g (l.getD i v0)) hob (by simp only [List.length_append, List.length_cons, List.length_nil]; omega) w') (fun u S2 hu => ?_)
      obtain ⟨rfl, bv3, cb3, rfl, hob3⟩ := hu
      have hob4 : Sx.Own 5 1 (ints (o ++ cms ((l.take (i + 1)).map g))) bv3 cb3 := by
        rw [hstep]
        rw [hcm0, List.append_nil] at hob3
        exact hob3
      refine j_subl (S' := [((g1, .cells [.pointer (some ⟨g1, 0, none⟩), bv3].toArray 169 (0, 0)) :: cb3)]) (by repeat first | exact slR _ | exact slN _ | apply slC | apply slD) ?_
      refine j_q (qs_add64 rfl rfl (by omega)) ?_
      refine j_back rfl ?_
      exact ⟨l.length - (i + 1), by omega, i + 1, bv3, cb3, rfl, rfl, hob4, by omega, rfl⟩
  · skip
    obtain rfl : i = l.length := by
      simp only [bnA] at *
      omega
    rw [List.take_length] at hob
    refine j_call 0 ent115 rfl rfl rfl rfl (fun w' hw' => writeString_con g1 (some ⟨g1, 0, none⟩) (.inr rfl) bv cb _ c hob (by simp only [List.length_append, List.length_cons, List.length_nil]; omega) w') (fun u S2 hu => ?_)
    obtain ⟨rfl, bv2, cb2, rfl, hob2⟩ := hu
    refine j_call 0 ent117 rfl rfl rfl rfl (fun w' hw' => string_con g1 _ bv2 cb2 _ (by simp [ho0]) (by simp only [List.length_append, List.length_cons, List.length_nil]; omega) hob2 w') (fun u S2 hu => ?_)
    obtain ⟨rfl, rfl⟩ := hu
    refine j_ret_con (vs := [_]) (fun w' hw' => ⟨rfl, trivial⟩) ?_
    rfl
theorem listS_con (l : List Bs) (v : Value) (o c : Bs) (f : Nat) (g : Bs → Bs) (w : World) (hv : StrZ w v l) (hen : Sx.Enters Tryz.prog f) (hf : ∀ i, i < l.length → ∀ S w', Sig ⟨w, dom []⟩ S w' → Con Tryz.prog f [.string (bs (l.getD i []))] w' [] fun u _ => u = .string (bs (g (l.getD i [])))) (ho0 : o ≠ []) (hn : l.length ≤ 1099511627776) (hlen : (lst o (l.map g) c).length ≤ 1099511627776) : Con Tryz.prog 118 [.string (bs o), v, .func (.func f) #[] #[], .string (bs c)] w [] fun u _ => u = .string (bs (lst o (l.map g) c)) := by
  refine con_of_tree mix Tryz.func118 T118_ok (by kernel_rfl) ?_
  unfold T118
  obtain ⟨A, cap, rfl, hcap⟩ := strz_form hv
  have hcl := cms_take_le g l
  have hlen2 := hlen
  simp only [lst, List.length_append] at hlen2
  refine j_q (qs_ac) ?_
  refine j_alloc zero169 (fun g1 hg1 hs1 => ?_)
  refine j_call 0 ent115 rfl rfl rfl rfl (fun w' hw' => writeString_con g1 none (.inl rfl) (.slice none 0 0) [] [] o own_nil (by simp; omega) w') (fun u S2 hu => ?_)
  obtain ⟨rfl, bv, cb, rfl, hob⟩ := hu
  rw [List.nil_append] at hob
  refine j_subl (S' := [((g1, .cells [.pointer (some ⟨g1, 0, none⟩), bv].toArray 169 (0, 0)) :: cb)]) (by repeat first | exact slR _ | exact slN _ | apply slC | apply slD) ?_
  refine j_q (qs_lenl Tryz.underlying22 rfl) ?_
  refine j_q (qs_mc) ?_
  refine j_loop (fun m vs S' => ∃ (i : Nat) (bv : Value) (cb : SH), vs = [.int .i64 (i : Int)] ∧ S' = [((g1, .cells [.pointer (some ⟨g1, 0, none⟩), bv].toArray 169 (0, 0)) :: cb)] ∧ Sx.Own 5 1 (ints (o ++ cms ((l.take i).map g))) bv cb ∧ i ≤ l.length ∧ m = l.length - i) ⟨_, 0, bv, cb, rfl, rfl, by rw [List.take_zero, show cms (([] : List _).map g) = [] by unfold cms; rfl, List.append_nil]; exact hob, Nat.zero_le _, rfl⟩ ?_
  rintro m vs S' hlen ⟨i, bv, cb, rfl, rfl, hob, hin, rfl⟩
  refine j_q (qs_lss rfl rfl) ?_
  refine j_cond rfl (fun hc0 => ?_) (fun hc0 => ?_)
  · skip
    have hi : i < l.length := by
      simp only [bnA] at *
      omega
    obtain ⟨ga, off, rfl, hga, hcells⟩ := strz_addr hv (by omega)
    have hci := hcl i
    have hci1 := hcl (i + 1)
    refine j_q (qs_ixl0 Tryz.underlying22 sz9 rfl rfl (by omega)) ?_
    refine j_q (qs_loadrs (rd_cells hcells (by simp)) Tryz.underlying9 rfl (by simp only [Int.toNat_natCast]; omega)) ?_
    simp only [Int.toNat_natCast]
    refine j_q (qs_gtr rfl rfl) ?_
    refine j_cond rfl (fun hc1 => ?_) (fun hc1 => ?_)
    · skip
      have h0 : ¬ i = 0 := by
        simp only [bnA] at *
        omega
      have hstep := cms_step g (d := []) hi
      rw [if_neg h0] at hstep
      rw [hstep] at hci1
      simp only [List.length_append, List.length_cons] at hci1
      refine j_call 0 ent116 rfl rfl rfl rfl (fun w' hw' => writeByte_con g1 (some ⟨g1, 0, none⟩) (.inr rfl) bv cb _ 44 (by decide) hob (by simp only [List.length_append, List.length_cons, List.length_nil]; omega) w') (fun u S2 hu => ?_)
      obtain ⟨rfl, bv2, cb2, rfl, hob2⟩ := hu
      refine j_q (qs_callf (v := .string (bs (g (l.getD i [])))) hen rfl rfl rfl (fun w' hw' => hf i hi _ w' hw')) ?_
      refine j_call 0 ent115 rfl rfl rfl rfl (fun w' hw' => writeString_con g1 (some ⟨g1, 0, none⟩) (.inr rfl) bv2 cb2 _ (g (l.getD i [])) hob2 (by simp only [List.length_append, List.length_cons, List.length_nil]; omega) w') (fun u S2 hu => ?_)
      obtain ⟨rfl, bv3, cb3, rfl, hob3⟩ := hu
      have hob4 : Sx.Own 5 1 (ints (o ++ cms ((l.take (i + 1)).map g))) bv3 cb3 := by
        rw [hstep]
        have e : o ++ cms ((l.take i).map g) ++ [by8 44] ++ (g (l.getD i [])) = o ++ (cms ((l.take i).map g) ++ (44 :: (g (l.getD i [])))) := by rw [show by8 44 = (44 : UInt8) from rfl]; simp
        rw [← e]
        exact hob3
      refine j_subl (S' := [((g1, .cells [.pointer (some ⟨g1, 0, none⟩), bv3].toArray 169 (0, 0)) :: cb3)]) (by repeat first | exact slR _ | exact slN _ | apply slC | apply slD) ?_
      refine j_q (qs_add64 rfl rfl (by omega)) ?_
      refine j_back rfl ?_
      exact ⟨l.length - (i + 1), by omega, i + 1, bv3, cb3, rfl, rfl, hob4, by omega, rfl⟩
    · skip
      have h0 : i = 0 := by
        simp only [bnA] at *
        omega
      have hstep := cms_step g (d := []) hi
      rw [if_pos h0] at hstep
      rw [hstep] at hci1
      have hcm0 : cms ((l.take i).map g) = [] := by
        rw [h0, List.take_zero]
        unfold cms
        rfl
      refine j_q (qs_callf (v := .string (bs (g (l.getD i [])))) hen rfl rfl rfl (fun w' hw' => hf i hi _ w' hw')) ?_
      refine j_call 0 ent115 rfl rfl rfl rfl (fun w' hw' => writeString_con g1 (some ⟨g1, 0, none⟩) (.inr rfl) bv cb _ (g (l.getD i [])) hob (by simp only [List.length_append, List.length_cons, List.length_nil]; omega) w') (fun u S2 hu => ?_)
      obtain ⟨rfl, bv3, cb3, rfl, hob3⟩ := hu
      have hob4 : Sx.Own 5 1 (ints (o ++ cms ((l.take (i + 1)).map g))) bv3 cb3 := by
        rw [hstep]
        rw [hcm0, List.append_nil] at hob3
        exact hob3
      refine j_subl (S' := [((g1, .cells [.pointer (some ⟨g1, 0, none⟩), bv3].toArray 169 (0, 0)) :: cb3)]) (by repeat first | exact slR _ | exact slN _ | apply slC | apply slD) ?_
      refine j_q (qs_add64 rfl rfl (by omega)) ?_
      refine j_back rfl ?_
      exact ⟨l.length - (i + 1), by omega, i + 1, bv3, cb3, rfl, rfl, hob4, by omega, rfl⟩
  · skip
    obtain rfl : i = l.length := by
      simp only [bnA] at *
      omega
    rw [List.take_length] at hob
    refine j_call 0 ent115 rfl rfl rfl rfl (fun w' hw' => writeString_con g1 (some ⟨g1, 0, none⟩) (.inr rfl) bv cb _ c hob (by simp only [List.length_append, List.length_cons, List.length_nil]; omega) w') (fun u S2 hu => ?_)
    obtain ⟨rfl, bv2, cb2, rfl, hob2⟩ := hu
    refine j_call 0 ent117 rfl rfl rfl rfl (fun w' hw' => string_con g1 _ bv2 cb2 _ (by simp [ho0]) (by simp only [List.length_append, List.length_cons, List.length_nil]; omega) hob2 w') (fun u S2 hu => ?_)
    obtain ⟨rfl, rfl⟩ := hu
    refine j_ret_con (vs := [_]) (fun w' hw' => ⟨rfl, trivial⟩) ?_
    rfl
theorem listP_con (l : List Bs) (v : Value) (o c : Bs) (f : Nat) (g : Bs → Bs) (w : World) (hv : StrZ w v l) (hen : Sx.Enters Tryz.prog f) (hf : ∀ i, i < l.length → ∀ S w', Sig ⟨w, dom []⟩ S w' → Con Tryz.prog f [.string (bs (l.getD i []))] w' [] fun u _ => u = .string (bs (g (l.getD i [])))) (ho0 : o ≠ []) (hn : l.length ≤ 1099511627776) (hlen : (lst o (l.map g) c).length ≤ 1099511627776) : Con Tryz.prog 123 [.string (bs o), v, .func (.func f) #[] #[], .string (bs c)] w [] fun u _ => u = .string (bs (lst o (l.map g) c)) := by
  refine con_of_tree mix Tryz.func123 T123_ok (by kernel_rfl) ?_
  unfold T123
  obtain ⟨A, cap, rfl, hcap⟩ := strz_form hv
  have hcl := cms_take_le g l
  have hlen2 := hlen
  simp only [lst, List.length_append] at hlen2
  refine j_q (qs_ac) ?_
  refine j_alloc zero169 (fun g1 hg1 hs1 => ?_)
  refine j_call 0 ent115 rfl rfl rfl rfl (fun w' hw' => writeString_con g1 none (.inl rfl) (.slice none 0 0) [] [] o own_nil (by simp; omega) w') (fun u S2 hu => ?_)
  obtain ⟨rfl, bv, cb, rfl, hob⟩ := hu
  rw [List.nil_append] at hob
  refine j_subl (S' := [((g1, .cells [.pointer (some ⟨g1, 0, none⟩), bv].toArray 169 (0, 0)) :: cb)]) (by repeat first | exact slR _ | exact slN _ | apply slC | apply slD) ?_
  refine j_q (qs_lenl Tryz.underlying25 rfl) ?_
  refine j_q (qs_mc) ?_
  refine j_loop (fun m vs S' => ∃ (i : Nat) (bv : Value) (cb : SH), vs = [.int .i64 (i : Int)] ∧ S' = [((g1, .cells [.pointer (some ⟨g1, 0, none⟩), bv].toArray 169 (0, 0)) :: cb)] ∧ Sx.Own 5 1 (ints (o ++ cms ((l.take i).map g))) bv cb ∧ i ≤ l.length ∧ m = l.length - i) ⟨_, 0, bv, cb, rfl, rfl, by rw [List.take_zero, show cms (([] : List _).map g) = [] by unfold cms; rfl, List.append_nil]; exact hob, Nat.zero_le _, rfl⟩ ?_
  rintro m vs S' hlen ⟨i, bv, cb, rfl, rfl, hob, hin, rfl⟩
  refine j_q (qs_lss rfl rfl) ?_
  refine j_cond rfl (fun hc0 => ?_) (fun hc0 => ?_)
  · skip
    have hi : i < l.length := by
      simp only [bnA] at *
      omega
    obtain ⟨ga, off, rfl, hga, hcells⟩ := strz_addr hv (by omega)
    have hci := hcl i
    have hci1 := hcl (i + 1)
    refine j_q (qs_ixl0 Tryz.underlying25 sz49 rfl rfl (by omega)) ?_
    refine j_q (qs_loadrs (rd_cells hcells (by simp)) Tryz.underlying49 rfl (by simp only [Int.toNat_natCast]; omega)) ?_
    simp only [Int.toNat_natCast]
    refine j_q (qs_gtr rfl rfl) ?_
    refine j_cond rfl (fun hc1 => ?_) (fun hc1 => ?_)
    · skip
      have h0 : ¬ i = 0 := by
        simp only [bnA] at *
        omega
      have hstep := cms_step g (d := []) hi
      rw [if_neg h0] at hstep
      rw [hstep] at hci1
      simp only [List.length_append, List.length_cons] at hci1
      refine j_call 0 ent116 rfl rfl rfl rfl (fun w' hw' => writeByte_con g1 (some ⟨g1, 0, none⟩) (.inr rfl) bv cb _ 44 (by decide) hob (by simp only [List.length_append, List.length_cons, List.length_nil]; omega) w') (fun u S2 hu => ?_)
      obtain ⟨rfl, bv2, cb2, rfl, hob2⟩ := hu
      refine j_q (qs_callf (v := .string (bs (g (l.getD i [])))) hen rfl rfl rfl (fun w' hw' => hf i hi _ w' hw')) ?_
      refine j_call 0 ent115 rfl rfl rfl rfl (fun w' hw' => writeString_con g1 (some ⟨g1, 0, none⟩) (.inr rfl) bv2 cb2 _ (g (l.getD i [])) hob2 (by simp only [List.length_append, List.length_cons, List.length_nil]; omega) w') (fun u S2 hu => ?_)
      obtain ⟨rfl, bv3, cb3, rfl, hob3⟩ := hu
      have hob4 : Sx.Own 5 1 (ints (o ++ cms ((l.take (i + 1)).map g))) bv3 cb3 := by
        rw [hstep]
        have e : o ++ cms ((l.take i).map g) ++ [by8 44] ++ (g (l.getD i [])) = o ++ (cms ((l.take i).map g) ++ (44 :: (g (l.getD i [])))) := by rw [show by8 44 = (44 : UInt8) from rfl]; simp
        rw [← e]
        exact hob3
      refine j_subl (S' := [((g1, .cells [.pointer (some ⟨g1, 0, none⟩), bv3].toArray 169 (0, 0)) :: cb3)]) (by repeat first | exact slR _ | exact slN _ | apply slC | apply slD) ?_
      refine j_q (qs_add64 rfl rfl (by omega)) ?_
      refine j_back rfl ?_
      exact ⟨l.length - (i + 1), by omega, i + 1, bv3, cb3, rfl, rfl, hob4, by omega, rfl⟩
    · skip
      have h0 : i = 0 := by
        simp only [bnA] at *
        omega
      have hstep := cms_step g (d := []) hi
      rw [if_pos h0] at hstep
      rw [hstep] at hci1
      have hcm0 : cms ((l.take i).map g) = [] := by
        rw [h0, List.take_zero]
        unfold cms
        rfl
      refine j_q (qs_callf (v := .string (bs (g (l.getD i [])))) hen rfl rfl rfl (fun w' hw' => hf i hi _ w' hw')) ?_
      refine j_call 0 ent115 rfl rfl rfl rfl (fun w' hw' => writeString_con g1 (some ⟨g1, 0, none⟩) (.inr rfl) bv cb _ (g (l.getD i [])) hob (by simp only [List.length_append, List.length_cons, List.length_nil]; omega) w') (fun u S2 hu => ?_)
      obtain ⟨rfl, bv3, cb3, rfl, hob3⟩ := hu
      have hob4 : Sx.Own 5 1 (ints (o ++ cms ((l.take (i + 1)).map g))) bv3 cb3 := by
        rw [hstep]
        rw [hcm0, List.append_nil] at hob3
        exact hob3
      refine j_subl (S' := [((g1, .cells [.pointer (some ⟨g1, 0, none⟩), bv3].toArray 169 (0, 0)) :: cb3)]) (by repeat first | exact slR _ | exact slN _ | apply slC | apply slD) ?_
      refine j_q (qs_add64 rfl rfl (by omega)) ?_
      refine j_back rfl ?_
      exact ⟨l.length - (i + 1), by omega, i + 1, bv3, cb3, rfl, rfl, hob4, by omega, rfl⟩
  · skip
    obtain rfl : i = l.length := by
      simp only [bnA] at *
      omega
    rw [List.take_length] at hob
    refine j_call 0 ent115 rfl rfl rfl rfl (fun w' hw' => writeString_con g1 (some ⟨g1, 0, none⟩) (.inr rfl) bv cb _ c hob (by simp only [List.length_append, List.length_cons, List.length_nil]; omega) w') (fun u S2 hu => ?_)
    obtain ⟨rfl, bv2, cb2, rfl, hob2⟩ := hu
    refine j_call 0 ent117 rfl rfl rfl rfl (fun w' hw' => string_con g1 _ bv2 cb2 _ (by simp [ho0]) (by simp only [List.length_append, List.length_cons, List.length_nil]; omega) hob2 w') (fun u S2 hu => ?_)
    obtain ⟨rfl, rfl⟩ := hu
    refine j_ret_con (vs := [_]) (fun w' hw' => ⟨rfl, trivial⟩) ?_
    rfl
end Go.Proofs.YtfeabbeebkkhaaaGreat
/-! Dv5 -/
namespace Go.Proofs.YtfeabbeebkkhaaaGreat
open Go Go.Sx
set_option maxRecDepth 100000
set_option maxHeartbeats 4000000
set_option linter.unusedVariables false
set_option linter.unusedSimpArgs false
attribute [local irreducible] J JQ QS Con W opW
theorem mem_sum {α : Type} (f : α → Nat) {l : List α} {x : α} (h : x ∈ l) : f x ≤ (l.map f).sum := by
  induction l with
  | nil => cases h
  | cons a l ih =>
    rw [List.map_cons, List.sum_cons]
    rcases List.mem_cons.1 h with rfl | h
    · omega
    · have := ih h
      omega
theorem getD_mem {α : Type} {l : List α} {i : Nat} {d : α} (h : i < l.length) : l.getD i d ∈ l := by
  rw [List.getD_eq_getElem?_getD, List.getElem?_eq_getElem h]
  exact List.getElem_mem h
structure Few (d : PD) : Prop where
  nm : d.name.length ≤ 200000
  sy : d.sys.length ≤ 200000
  bl : d.bld.length ≤ 200000
  ar : ∀ x ∈ d.args, x.length ≤ 200000
  ev : ∀ x ∈ d.env, x.name.length + x.val.length ≤ 200000
  ip : ∀ x ∈ d.ins, x.drv.length + 10 * x.outs.length ≤ 200000
  ou : ∀ x ∈ d.outs, x.name.length + x.path.length ≤ 200000
  sr : ∀ x ∈ d.srcs, x.length ≤ 200000
  la : d.args.length ≤ 200000
  le : d.env.length ≤ 200000
  li : d.ins.length ≤ 200000
  lo : d.outs.length ≤ 200000
  ls : d.srcs.length ≤ 200000
theorem few_of {d : PD} (h : big2 d ≤ 200000) : Few d := by
  unfold big2 big1 at h
  refine ⟨by omega, by omega, by omega, fun x hx => ?_, fun x hx => ?_, fun x hx => ?_, fun x hx => ?_, fun x hx => ?_, by omega, by omega, by omega, by omega, by omega⟩
  · have := mem_sum List.length hx; unfold sl at h; omega
  · have := mem_sum (fun v : PV => v.name.length + v.val.length) hx; omega
  · have := mem_sum (fun x : PI => x.drv.length + 10 * x.outs.length) hx; omega
  · have := mem_sum (fun o : PO => o.name.length + o.path.length) hx; omega
  · have := mem_sum List.length hx; unfold sl at h; omega
theorem map_idB (l : List Bs) : l.map (fun s => s) = l := List.map_id' l
theorem lst_tTs (l : List Bs) : lst [91] (l.map qt) [93] = tTs l := rfl
attribute [local irreducible] es qt cms hex Tbl Half lst
theorem tuple1_con (s : Bs) (w : World) : Con Tryz.prog 119 [.string (bs s)] w [] fun v _ => v = .string (bs s) := by
  refine con_of_tree mix Tryz.func119 T119_ok (by kernel_rfl) ?_
  unfold T119
  refine j_q (qs_ac) ?_
  refine j_ret_con (vs := [_]) (fun w' hw' => ⟨rfl, trivial⟩) ?_
  rfl
theorem texts122_con (s : Bs) (w : World) (hs : s.length ≤ 1099511627776) : Con Tryz.prog 122 [.string (bs s)] w [] fun v _ => v = .string (bs (qt s)) := by
  refine con_of_tree mix Tryz.func122 T122_ok (by kernel_rfl) ?_
  unfold T122
  refine j_q (qs_ac) ?_
  refine j_q (qs_call ent69 rfl rfl rfl (fun w' hw' => quote_con s w' (by omega))) ?_
  refine j_ret_con (vs := [_]) (fun w' hw' => ⟨rfl, trivial⟩) ?_
  rfl
theorem texts124_con (s : Bs) (w : World) (hs : s.length ≤ 1099511627776) : Con Tryz.prog 124 [.string (bs s)] w [] fun v _ => v = .string (bs (qt s)) := by
  refine con_of_tree mix Tryz.func124 T124_ok (by kernel_rfl) ?_
  unfold T124
  refine j_q (qs_ac) ?_
  refine j_q (qs_call ent69 rfl rfl rfl (fun w' hw' => quote_con s w' (by omega))) ?_
  refine j_ret_con (vs := [_]) (fun w' hw' => ⟨rfl, trivial⟩) ?_
  rfl
theorem tuple_con (l : List Bs) (v : Value) (w : World) (hv : StrZ w v l) (hn : l.length ≤ 1000) (hl : (tup l).length ≤ 1099511627776) : Con Tryz.prog 68 [v] w [] fun u _ => u = .string (bs (tup l)) := by
  refine con_of_tree mix Tryz.func68 T68_ok (by kernel_rfl) ?_
  unfold T68
  refine j_q (qs_ac) ?_
  refine j_q (qs_call ent118 rfl rfl rfl (fun w' hw' => listS_con l _ [40] [41] 119 (fun s => s) w' (strz_keep hv hw') ent119 (fun i hi S w2 hs => tuple1_con _ w2) (by simp) (by omega) (by rw [map_idB]; exact hl))) ?_
  refine j_ret_con (vs := [_]) (fun w' hw' => ⟨rfl, trivial⟩) ?_
  rw [map_idB]
  rfl
theorem texts_72_con (l : List Bs) (v : Value) (w : World) (hv : StrZ w v l) (hm : ∀ x ∈ l, x.length ≤ 1099511627776) (hn : l.length ≤ 1000000) (hl : (tTs l).length ≤ 1099511627776) : Con Tryz.prog 72 [v] w [] fun u _ => u = .string (bs (tTs l)) := by
  refine con_of_tree mix Tryz.func72 T72_ok (by kernel_rfl) ?_
  unfold T72
  refine j_q (qs_ac) ?_
  refine j_q (qs_call ent118 rfl rfl rfl (fun w' hw' => listS_con l _ [91] [93] 122 qt w' (strz_keep hv hw') ent122 (fun i hi S w2 hs => texts122_con _ w2 (hm _ (getD_mem hi))) (by simp) (by omega) (by rw [lst_tTs]; exact hl))) ?_
  refine j_ret_con (vs := [_]) (fun w' hw' => ⟨rfl, trivial⟩) ?_
  rw [lst_tTs]
  rfl
theorem texts_75_con (l : List Bs) (v : Value) (w : World) (hv : StrZ w v l) (hm : ∀ x ∈ l, x.length ≤ 1099511627776) (hn : l.length ≤ 1000000) (hl : (tTs l).length ≤ 1099511627776) : Con Tryz.prog 75 [v] w [] fun u _ => u = .string (bs (tTs l)) := by
  refine con_of_tree mix Tryz.func75 T75_ok (by kernel_rfl) ?_
  unfold T75
  refine j_q (qs_ac) ?_
  refine j_q (qs_call ent123 rfl rfl rfl (fun w' hw' => listP_con l _ [91] [93] 124 qt w' (strz_keep hv hw') ent124 (fun i hi S w2 hs => texts124_con _ w2 (hm _ (getD_mem hi))) (by simp) (by omega) (by rw [lst_tTs]; exact hl))) ?_
  refine j_ret_con (vs := [_]) (fun w' hw' => ⟨rfl, trivial⟩) ?_
  rw [lst_tTs]
  rfl
theorem textO_con (o : PO) (w : World) (ho : o.name.length + o.path.length ≤ 1000000) : Con Tryz.prog 67 [.agg (encO o).toArray] w [] fun v _ => v = .string (bs (tO o)) := by
  refine con_of_tree mix Tryz.func67 T67_ok (by kernel_rfl) ?_
  unfold T67
  have hto := tO_le o
  have hhx : (hex o.hash.1).length = 64 := hexL _
  refine j_box (l := encO o) rfl (fun g0 hg0 hs0 => ?_)
  refine j_q (qs_ac) ?_
  refine j_q (qs_ac) ?_
  refine j_q (qs_ac) ?_
  refine j_q (qs_field Tryz.underlying53 rfl sz4 (by decide) rfl) ?_
  refine j_q (qs_load 0 Tryz.underlying4 rfl rfl rfl rfl) ?_
  refine j_cond rfl (fun hc0 => ?_) (fun hc0 => ?_)
  · skip
    have htoT : o.fixed = true → (tO o).length ≤ 1099511627776 := fun _ => by omega
    refine j_q (qs_field Tryz.underlying53 rfl sz51 (by decide) rfl) ?_
    refine j_q (qs_loada (i := 3) (n := 32) (l := encO o) 0 Tryz.underlying51 rfl sz51 rfl rfl (by rw [encO_len]; omega)) ?_
    rw [show ((encO o).drop 3).take 32 = ints o.hash.1 by show (ints o.hash.1).take 32 = _; rw [List.take_of_length_le (by rw [ints_length, o.hash.2]; omega)]]
    refine j_q (qs_call ent54 rfl rfl rfl (fun w' hw' => hex_con o.hash.1 w' o.hash.2)) ?_
    refine j_q (qs_ac) ?_
    refine j_draw ?_
    refine jq_q (qs_field Tryz.underlying53 rfl sz9 (by decide) rfl) ?_
    refine jq_q (qs_load 0 Tryz.underlying9 rfl rfl rfl rfl) ?_
    refine jq_q (qs_call ent69 rfl rfl rfl (fun w' hw' => quote_con o.name w' (by first | omega | simp))) ?_
    refine jq_q (qs_field Tryz.underlying53 rfl sz49 (by decide) rfl) ?_
    refine jq_q (qs_load 0 Tryz.underlying49 rfl rfl rfl rfl) ?_
    refine jq_q (qs_call ent69 rfl rfl rfl (fun w' hw' => quote_con o.path w' (by first | omega | simp))) ?_
    refine jq_q (qs_call ent69 rfl rfl rfl (fun w' hw' => quote_con sSha w' (by simp))) ?_
    refine jq_q (qs_call ent69 rfl rfl rfl (fun w' hw' => quote_con (hex o.hash.1) w' (by first | omega | simp))) ?_
    refine jq_nil ?_
    refine j_lit (vs := [.string (bs _), .string (bs _), .string (bs _), .string (bs _)]) Tryz.underlying22 sz9 zero9 rfl (by simp [oneV]) ⟨rfl, by decide⟩ (fun g18 v18 c18 hv18 hc18 ho18 => ?_)
    subst hv18 hc18
    refine j_q (qs_call ent68 rfl rfl rfl (fun w' hw' => tuple_con [qt o.name, qt o.path, qt sSha, qt (hex o.hash.1)] _ w' (strz_own (by exact ho18) 0 rfl hw') (by simp) (by have e := htoT hc0; unfold tO at e; rw [if_pos hc0, if_pos hc0] at e; exact e))) ?_
    refine j_ret_con (vs := [_]) (fun w' hw' => ⟨rfl, trivial⟩) ?_
    unfold tO
    rw [if_pos hc0, if_pos hc0]
    rfl
  · skip
    have htoT : o.fixed = false → (tO o).length ≤ 1099511627776 := fun _ => by omega
    refine j_draw ?_
    refine jq_q (qs_field Tryz.underlying53 rfl sz9 (by decide) rfl) ?_
    refine jq_q (qs_load 0 Tryz.underlying9 rfl rfl rfl rfl) ?_
    refine jq_q (qs_call ent69 rfl rfl rfl (fun w' hw' => quote_con o.name w' (by first | omega | simp))) ?_
    refine jq_q (qs_field Tryz.underlying53 rfl sz49 (by decide) rfl) ?_
    refine jq_q (qs_load 0 Tryz.underlying49 rfl rfl rfl rfl) ?_
    refine jq_q (qs_call ent69 rfl rfl rfl (fun w' hw' => quote_con o.path w' (by first | omega | simp))) ?_
    refine jq_q (qs_call ent69 rfl rfl rfl (fun w' hw' => quote_con [] w' (by first | omega | simp))) ?_
    refine jq_q (qs_call ent69 rfl rfl rfl (fun w' hw' => quote_con [] w' (by first | omega | simp))) ?_
    refine jq_nil ?_
    refine j_lit (vs := [.string (bs _), .string (bs _), .string (bs _), .string (bs _)]) Tryz.underlying22 sz9 zero9 rfl (by simp [oneV]) ⟨rfl, by decide⟩ (fun g28 v28 c28 hv28 hc28 ho28 => ?_)
    subst hv28 hc28
    refine j_q (qs_call ent68 rfl rfl rfl (fun w' hw' => tuple_con [qt o.name, qt o.path, qt [], qt []] _ w' (strz_own (by exact ho28) 0 rfl hw') (by simp) (by have e := htoT hc0; unfold tO at e; rw [if_neg (by rw [hc0]; decide), if_neg (by rw [hc0]; decide)] at e; exact e))) ?_
    refine j_ret_con (vs := [_]) (fun w' hw' => ⟨rfl, trivial⟩) ?_
    unfold tO
    rw [if_neg (by rw [hc0]; decide), if_neg (by rw [hc0]; decide)]
    rfl
theorem textI_con (m : MI) (w : World) (hs : StrZ w m.v m.outs) (h1 : m.drv.length ≤ 1000000) (h2 : ∀ x ∈ m.outs, x.length ≤ 1000000) (h3 : m.outs.length ≤ 1000000) (h4 : (tI m.pi).length ≤ 1099511627776) (h5 : (tTs m.outs).length ≤ 1099511627776) : Con Tryz.prog 71 [.agg (encI m).toArray] w [] fun v _ => v = .string (bs (tI m.pi)) := by
  refine con_of_tree mix Tryz.func71 T71_ok (by kernel_rfl) ?_
  unfold T71
  refine j_box (l := encI m) rfl (fun g0 hg0 hs0 => ?_)
  refine j_q (qs_ac) ?_
  refine j_draw ?_
  refine jq_q (qs_field Tryz.underlying68 rfl sz49 (by decide) rfl) ?_
  refine jq_q (qs_load 0 Tryz.underlying49 rfl rfl rfl rfl) ?_
  refine jq_q (qs_call ent69 rfl rfl rfl (fun w' hw' => quote_con m.drv w' (by omega))) ?_
  refine jq_q (qs_field Tryz.underlying68 rfl sz22 (by decide) rfl) ?_
  refine jq_q (qs_load 0 Tryz.underlying22 rfl rfl rfl rfl) ?_
  refine jq_q (qs_call ent72 rfl rfl rfl (fun w' hw' => texts_72_con m.outs m.v w' (strz_keep hs hw') (fun x hx => by have := h2 x hx; omega) h3 h5)) ?_
  refine jq_nil ?_
  refine j_lit (vs := [.string (bs _), .string (bs _)]) Tryz.underlying22 sz9 zero9 rfl (by simp [oneV]) ⟨rfl, by decide⟩ (fun g8 v8 c8 hv8 hc8 ho8 => ?_)
  subst hv8 hc8
  refine j_q (qs_call ent68 rfl rfl rfl (fun w' hw' => tuple_con [qt m.drv, tTs m.outs] _ w' (strz_own (by exact ho8) 0 rfl hw') (by simp) h4)) ?_
  refine j_ret_con (vs := [_]) (fun w' hw' => ⟨rfl, trivial⟩) ?_
  rfl
theorem textV_con (x : PV) (w : World) (h1 : x.name.length + x.val.length ≤ 1000000) : Con Tryz.prog 74 [.agg (encV x).toArray] w [] fun v _ => v = .string (bs (tV x)) := by
  refine con_of_tree mix Tryz.func74 T74_ok (by kernel_rfl) ?_
  unfold T74
  have htv := tV_le x
  refine j_box (l := encV x) rfl (fun g0 hg0 hs0 => ?_)
  refine j_q (qs_ac) ?_
  refine j_draw ?_
  refine jq_q (qs_field Tryz.underlying48 rfl sz9 (by decide) rfl) ?_
  refine jq_q (qs_load 0 Tryz.underlying9 rfl rfl rfl rfl) ?_
  refine jq_q (qs_call ent69 rfl rfl rfl (fun w' hw' => quote_con x.name w' (by omega))) ?_
  refine jq_q (qs_field Tryz.underlying48 rfl sz9 (by decide) rfl) ?_
  refine jq_q (qs_load 0 Tryz.underlying9 rfl rfl rfl rfl) ?_
  refine jq_q (qs_call ent69 rfl rfl rfl (fun w' hw' => quote_con x.val w' (by omega))) ?_
  refine jq_nil ?_
  refine j_lit (vs := [.string (bs _), .string (bs _)]) Tryz.underlying22 sz9 zero9 rfl (by simp [oneV]) ⟨rfl, by decide⟩ (fun g8 v8 c8 hv8 hc8 ho8 => ?_)
  subst hv8 hc8
  refine j_q (qs_call ent68 rfl rfl rfl (fun w' hw' => tuple_con [qt x.name, qt x.val] _ w' (strz_own (by exact ho8) 0 rfl hw') (by simp) (by unfold tV at htv; omega))) ?_
  refine j_ret_con (vs := [_]) (fun w' hw' => ⟨rfl, trivial⟩) ?_
  rfl
theorem dtext_con (d : PD) (x : DV) (w : World) (h : DR w d x) (tb : TB d) : Con Tryz.prog 36 [dval d x] w [] fun v _ => v = .string (bs (dtext d)) := by
  refine con_of_tree mix Tryz.func36 T36_ok (by kernel_rfl) ?_
  unfold T36
  have few := few_of tb.sm
  have hdl := dtext_le tb
  have hni : d.ins.length = x.mi.length := by rw [h.im, List.length_map]
  have tbo := tb.o
  have tbi := tb.i
  have tbe := tb.e
  have tbs := tb.s
  have tba := tb.a
  have few1 := few.nm
  have few2 := few.sy
  have few3 := few.bl
  have few4 := few.la
  have few5 := few.le
  have few6 := few.li
  have few7 := few.lo
  have few8 := few.ls
  have hmem : ∀ i, i < x.mi.length → (x.mi.getD i m0).pi ∈ d.ins := fun i hi => by rw [h.im]; exact List.mem_map_of_mem (getD_mem hi)
  have hmap : d.ins.map tI = x.mi.map (fun m => tI m.pi) := by rw [h.im, List.map_map]; rfl
  refine j_box (l := dcells d x) rfl (fun g0 hg0 hs0 => ?_)
  refine j_q (qs_ac) ?_
  refine j_q (qs_field Tryz.underlying28 rfl sz26 (by decide) rfl) ?_
  refine j_q (qs_load 0 Tryz.underlying26 rfl rfl rfl rfl) ?_
  refine j_q (qs_call ent66 rfl rfl rfl (fun w' hw' => listO_con d.outs x.vo [91] [93] 67 tO w' (rsln_keep h.o hw') ent67 (fun i hi S w2 hs => textO_con _ w2 (by have := few.ou _ (getD_mem (d := o0) hi); omega)) (by simp) (by omega) (by omega))) ?_
  refine j_q (qs_field Tryz.underlying28 rfl sz24 (by decide) rfl) ?_
  refine j_q (qs_load 0 Tryz.underlying24 rfl rfl rfl rfl) ?_
  refine j_q (qs_call ent70 rfl rfl rfl (fun w' hw' => listI_con x.mi x.vi [91] [93] 71 (fun m => tI m.pi) w' (rsln_keep h.i hw') (fun i hi => MI.one (h.io _ (getD_mem hi))) ent71 (fun i hi S w2 hs => textI_con _ w2 (strz_keep (strz_keep (h.io _ (getD_mem hi)) hw') hs) (by have := few.ip _ (hmem i hi); simp only [MI.pi] at this; omega) (fun y hy => by have := tb.out _ (hmem i hi) y hy; omega) (by have := few.ip _ (hmem i hi); simp only [MI.pi] at this; omega) (by have := tI_le _ (tb.out _ (hmem i hi)); have := few.ip _ (hmem i hi); omega) (by have h1 := tTs_le (x.mi.getD i m0).outs; have h2 := sl_le80 (tb.out _ (hmem i hi)); have h3 := few.ip _ (hmem i hi); simp only [MI.pi] at h2 h3; omega)) (by simp) (by omega) (by rw [← hmap]; omega))) ?_
  rw [← hmap]
  refine j_q (qs_field Tryz.underlying28 rfl sz23 (by decide) rfl) ?_
  refine j_q (qs_load 0 Tryz.underlying23 rfl rfl rfl rfl) ?_
  refine j_q (qs_call ent73 rfl rfl rfl (fun w' hw' => listV_con d.env x.ve [91] [93] 74 tV w' (rsln_keep h.e hw') ent74 (fun i hi S w2 hs => textV_con _ w2 (by have := few.ev _ (getD_mem (d := v0) hi); omega)) (by simp) (by omega) (by omega))) ?_
  refine j_draw ?_
  refine jq_q (qs_field Tryz.underlying28 rfl sz9 (by decide) rfl) ?_
  refine jq_q (qs_load 0 Tryz.underlying9 rfl rfl rfl rfl) ?_
  refine jq_q (qs_call ent69 rfl rfl rfl (fun w' hw' => quote_con d.name w' (by omega))) ?_
  refine jq_q (qs_field Tryz.underlying28 rfl sz25 (by decide) rfl) ?_
  refine jq_q (qs_load 0 Tryz.underlying25 rfl rfl rfl rfl) ?_
  refine jq_q (qs_call ent75 rfl rfl rfl (fun w' hw' => texts_75_con d.srcs x.vs w' (strz_keep h.s hw') (fun y hy => by have := few.sr y hy; omega) (by omega) (by omega))) ?_
  refine jq_q (qs_field Tryz.underlying28 rfl sz9 (by decide) rfl) ?_
  refine jq_q (qs_load 0 Tryz.underlying9 rfl rfl rfl rfl) ?_
  refine jq_q (qs_call ent69 rfl rfl rfl (fun w' hw' => quote_con d.sys w' (by omega))) ?_
  refine jq_q (qs_field Tryz.underlying28 rfl sz9 (by decide) rfl) ?_
  refine jq_q (qs_load 0 Tryz.underlying9 rfl rfl rfl rfl) ?_
  refine jq_q (qs_call ent69 rfl rfl rfl (fun w' hw' => quote_con d.bld w' (by omega))) ?_
  refine jq_q (qs_field Tryz.underlying28 rfl sz22 (by decide) rfl) ?_
  refine jq_q (qs_load 0 Tryz.underlying22 rfl rfl rfl rfl) ?_
  refine jq_q (qs_call ent72 rfl rfl rfl (fun w' hw' => texts_72_con d.args x.va w' (strz_keep h.a hw') (fun y hy => by have := few.ar y hy; omega) (by omega) (by omega))) ?_
  refine jq_nil ?_
  refine j_lit (vs := [.string (bs _), .string (bs _), .string (bs _), .string (bs _), .string (bs _), .string (bs _), .string (bs _), .string (bs _)]) Tryz.underlying22 sz9 zero9 rfl (by simp [oneV]) ⟨rfl, by decide⟩ (fun g26 v26 c26 hv26 hc26 ho26 => ?_)
  subst hv26 hc26
  refine j_q (qs_call ent68 rfl rfl rfl (fun w' hw' => tuple_con [qt d.name, lst [91] (d.outs.map tO) [93], lst [91] (d.ins.map tI) [93], tTs d.srcs, qt d.sys, qt d.bld, tTs d.args, lst [91] (d.env.map tV) [93]] _ w' (strz_own (by exact ho26) 0 rfl hw') (by simp) (by unfold dtext at hdl; rw [List.length_append] at hdl; omega))) ?_
  refine j_q (qs_sadd (l := sDerive) rfl rfl (by unfold dtext at hdl; rw [List.length_append] at hdl; omega)) ?_
  refine j_ret_con (vs := [_]) (fun w' hw' => ⟨rfl, trivial⟩) ?_
  rfl
end Go.Proofs.YtfeabbeebkkhaaaGreat
