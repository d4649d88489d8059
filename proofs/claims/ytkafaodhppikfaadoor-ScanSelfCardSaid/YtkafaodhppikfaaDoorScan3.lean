/- The search in bytes: which paths' digits stand there. -/
import Derived.Test.YtkafaodhppikfaaDoorTa
import Derived.Test.YtkafaodhppikfaaDoorScan2
namespace Go.Proofs.YtkafaodhppikfaaDoor
open Go Go.Sx
set_option maxRecDepth 100000
set_option maxHeartbeats 4000000
set_option linter.unusedVariables false
set_option linter.unusedSimpArgs false
attribute [local irreducible] J JQ QS Con W opW
theorem ent45 : Sx.Enters Tryd.prog 45 := ⟨_, Tryd.func45, by kernel_rfl, by kernel_rfl⟩
theorem sz86 : (Tryd.prog.info? 86).map (·.size) = some 1 := by kernel_rfl

open Go.MapKept Go.WideMaps Go.Maps
attribute [local irreducible] isName isPath spA spB spE cp sortS rise dg PT ofDig
theorem dig_of (c : UInt8) (h : 0 ≤ dpos c) : isDig c = true := by
  have : ∀ k : Fin 256, 0 ≤ dpos (UInt8.ofNat k.val) → isDig (UInt8.ofNat k.val) = true := by decide +kernel
  have h2 := this ⟨c.toNat, c.toNat_lt⟩
  rw [ofNat_lt] at h2
  exact h2 h
theorem path_dig {p : List UInt8} (h : isPath p = true) {j : Nat} (hj : j < 32) : isDig (p.getD j 0) = true := by
  have hlen := path_min h
  unfold isPath at h
  simp only [Bool.and_eq_true] at h
  have := List.all_eq_true.1 h.2 (p.getD j 0) (by
    rw [List.getD_eq_getElem?_getD, List.getElem?_eq_getElem (by omega)]
    exact List.mem_take_iff_getElem.2 ⟨j, by omega, rfl⟩)
  exact dig_of _ (by simpa using this)
/-- digits that stand in the first i bytes -/
def Win (l : List UInt8) (i : Nat) (d : List UInt8) : Prop := ∃ j, j + 32 ≤ i ∧ (l.drop j).take 32 = d
theorem win_zero (l d : List UInt8) : ¬ Win l 0 d := fun ⟨j, h, _⟩ => by omega
theorem win_succ {l d : List UInt8} {i : Nat} : Win l (i + 1) d ↔ Win l i d ∨ (32 ≤ i + 1 ∧ (l.drop (i + 1 - 32)).take 32 = d) := by
  constructor
  · rintro ⟨j, h1, h2⟩
    by_cases h : j + 32 ≤ i
    · exact .inl ⟨j, h, h2⟩
    · refine .inr ⟨by omega, ?_⟩
      rw [show i + 1 - 32 = j by omega]
      exact h2
  · rintro (⟨j, h1, h2⟩ | ⟨h1, h2⟩)
    · exact ⟨j, by omega, h2⟩
    · exact ⟨i + 1 - 32, by omega, h2⟩
theorem win_get {l : List UInt8} {a t : Nat} (ht : t < 32) : ((l.drop a).take 32).getD t 0 = l.getD (a + t) 0 := by
  simp only [List.getD_eq_getElem?_getD, List.getElem?_take, List.getElem?_drop]
  rw [if_pos ht]
theorem win_not {l p : List UInt8} {i j : Nat} (hp : isPath p = true) (h1 : i + 1 - 32 ≤ j) (h2 : j ≤ i) (h3 : isDig (l.getD j 0) = false) (h32 : 32 ≤ i + 1) : (l.drop (i + 1 - 32)).take 32 ≠ p.take 32 := fun h => by
  have e := congrArg (fun x : List UInt8 => x.getD (j - (i + 1 - 32)) 0) h
  rw [win_get (by omega)] at e
  have e2 : (p.take 32).getD (j - (i + 1 - 32)) 0 = p.getD (j - (i + 1 - 32)) 0 := by
    simp only [List.getD_eq_getElem?_getD, List.getElem?_take]
    rw [if_pos (by omega)]
  rw [e2, show i + 1 - 32 + (j - (i + 1 - 32)) = j by omega] at e
  rw [e, path_dig hp (by omega)] at h3
  cases h3
/-- so many bytes behind one another that may be digits end here -/
def RunOk (l : List UInt8) (i run : Nat) : Prop := run ≤ i ∧ (run < i → isDig (l.getD (i - run - 1) 0) = false)
theorem run_zero {l : List UInt8} {i : Nat} (h : isDig (l.getD i 0) = false) : RunOk l (i + 1) 0 := ⟨by omega, fun _ => by simpa using h⟩
theorem run_more {l : List UInt8} {i run : Nat} (h : RunOk l i run) : RunOk l (i + 1) (run + 1) := ⟨by have := h.1; omega, fun hr => by
  have := h.2 (by omega)
  rwa [show i + 1 - (run + 1) - 1 = i - run - 1 by omega]⟩
/-- what was found till now -/
def Fnd (m2 m3 : List (List UInt8 × Value)) (ps : List (List UInt8)) (l : List UInt8) (i : Nat) : Prop := ∀ x, x ∈ m3.map Prod.fst ↔ x ∈ m2.map Prod.fst ∨ (x ∈ ps ∧ isPath x = true ∧ Win l i (x.take 32))
theorem fnd_same {m2 m3 : List (List UInt8 × Value)} {ps : List (List UInt8)} {l : List UInt8} {i j : Nat} (h : Fnd m2 m3 ps l i) (hj : 32 ≤ i + 1 → i + 1 - 32 ≤ j ∧ j ≤ i ∧ isDig (l.getD j 0) = false) : Fnd m2 m3 ps l (i + 1) := fun x => by
  rw [h x]
  refine or_congr_right (and_congr_right fun _ => and_congr_right fun hx => ?_)
  rw [win_succ]
  constructor
  · exact .inl
  · rintro (h1 | ⟨h1, h2⟩)
    · exact h1
    · obtain ⟨a1, a2, a3⟩ := hj h1
      exact absurd h2 (win_not hx a1 a2 a3 h1)
theorem mem_dig {ps : List (List UInt8)} {d x : List UInt8} : x ∈ ps.filter (ofDig d) ↔ x ∈ ps ∧ isPath x = true ∧ x.take 32 = d := by
  rw [List.mem_filter]
  unfold ofDig
  simp only [Bool.and_eq_true, beq_iff_eq]
theorem fnd_more {m2 m3 m4 : List (List UInt8 × Value)} {ps : List (List UInt8)} {l : List UInt8} {i : Nat} (h : Fnd m2 m3 ps l i) (h32 : 32 ≤ i + 1) (h4 : ∀ x, x ∈ m4.map Prod.fst ↔ x ∈ m3.map Prod.fst ∨ x ∈ ps.filter (ofDig ((l.drop (i + 1 - 32)).take 32))) : Fnd m2 m4 ps l (i + 1) := fun x => by
  rw [h4 x, h x, mem_dig, win_succ]
  constructor
  · rintro ((h1 | h1) | ⟨h1, h2, h3⟩)
    · exact .inl h1
    · exact .inr ⟨h1.1, h1.2.1, .inl h1.2.2⟩
    · exact .inr ⟨h1, h2, .inr ⟨h32, h3.symm⟩⟩
  · rintro (h1 | ⟨h1, h2, h3 | h3⟩)
    · exact .inl (.inl h1)
    · exact .inl (.inr ⟨h1, h2, h3⟩)
    · exact .inr ⟨h1, h2, h3.2.symm⟩
theorem mset_keys {m : List (List UInt8 × Value)} {k : List UInt8} {v : Value} {x : List UInt8} : x ∈ (mset m k v).map Prod.fst ↔ x ∈ m.map Prod.fst ∨ x = k := by
  unfold mset
  cases h : mlook m k with
  | none => simp
  | some u =>
    rw [Option.isSome_some, if_pos rfl, mput_keys]
    have := mlook_some h
    constructor
    · exact .inl
    · rintro (h1 | rfl)
      · exact h1
      · exact List.mem_map_of_mem (f := Prod.fst) this
theorem fnd0 {m2 : List (List UInt8 × Value)} {ps : List (List UInt8)} {l : List UInt8} : Fnd m2 m2 ps l 0 := fun x => ⟨.inl, fun h => h.elim id fun h => absurd h.2.2 (win_zero _ _)⟩
theorem run0 {l : List UInt8} : RunOk l 0 0 := ⟨Nat.le_refl _, fun h => absurd h (Nat.lt_irrefl _)⟩
theorem run_not {l : List UInt8} {i run : Nat} (h : RunOk l i run) (hr : run < i) : isDig (l.getD (i - run - 1) 0) = false := h.2 hr
theorem win_cells {w : World} {g off a n : Nat} {l : List UInt8} (h : Cells w ⟨g, off, none⟩ (ints l)) (ha : a + n ≤ l.length) : Cells w ⟨g, off + a, none⟩ (ints ((l.drop a).take n)) := fun j u hu => by
  have := h (a + j) u (by
    rw [← ints_take, ← ints_drop, List.getElem?_take] at hu
    split at hu
    · rwa [List.getElem?_drop] at hu
    · cases hu)
  rw [add_off] at this ⊢
  rwa [Nat.add_assoc]
theorem fil_mem {ps : List (List UInt8)} {d : List UInt8} {k : Nat} (hk : k < (ps.filter (ofDig d)).length) : (ps.filter (ofDig d)).getD k [] ∈ ps := by
  rw [List.getD_eq_getElem?_getD, List.getElem?_eq_getElem hk]
  exact (List.mem_filter.1 (List.getElem_mem hk)).1
attribute [local irreducible] Fnd RunOk Win isDig
theorem strKey : KeyE Tryd.prog 23 strEnc strOk := str_key Tryd.underlying23
/-- (*pantry.scan.search).in -/
theorem in_con (gs g1 g2 : Nat) (es es2 : Array MapEntry) (ck ck2 : Nat) (m1 m2 : List (List UInt8 × Value)) (rows : SH) (ps : List (List UInt8)) (l : List UInt8) (v : Value) (w : World) (hv : RSl w v (ints l)) (hD : ∀ a n c, v = .slice (some a) n c → a.block ∉ dom ((gs, .cells [.map (some g1), .map (some g2)].toArray 88 (0, 0)) :: (g2, .map es2 ck2) :: (g1, .map es ck) :: rows)) (hm1 : MapOk dgEnc dgOk es ck m1) (hpt : PT m1 rows ps) (hm2 : MapOk strEnc strOk es2 ck2 m2) (hps : ∀ p ∈ ps, p.length ≤ 9223372036854775807) (hn : ps.length ≤ 90000) (hl : l.length ≤ 4611686018427387903) : Con Tryd.prog 34 [.pointer (some ⟨gs, 0, none⟩), v] w ((gs, .cells [.map (some g1), .map (some g2)].toArray 88 (0, 0)) :: (g2, .map es2 ck2) :: (g1, .map es ck) :: rows) fun u S' => ∃ es3 ck3 m3, u = .tuple #[] ∧ S' = [[(gs, .cells [.map (some g1), .map (some g2)].toArray 88 (0, 0))], [(g2, .map es3 ck3)], [(g1, .map es ck)], rows] ∧ MapOk strEnc strOk es3 ck3 m3 ∧ Fnd m2 m3 ps l l.length := by
  refine con_of_tree mix Tryd.func34 T34_ok (by kernel_rfl) ?_
  unfold T34
  obtain ⟨A, cap, rfl, hcap⟩ := rsl_form hv
  rw [ints_length] at hv hcap hD ⊢
  refine j_perm (S' := [[(gs, .cells [.map (some g1), .map (some g2)].toArray 88 (0, 0))], [(g2, .map es2 ck2)], [(g1, .map es ck)], rows]) (by simp) ?_
  refine j_q (qs_ac) ?_
  refine j_q (qs_lenl Tryd.underlying22 rfl) ?_
  refine j_q (qs_mc) ?_
  refine j_loop (fun m vs S' => ∃ (i run : Nat) (es3 : Array MapEntry) (ck3 : Nat) (m3 : List (List UInt8 × Value)), vs = [.int .i64 (run : Int), .int .i64 (i : Int)] ∧ S' = [[(gs, .cells [.map (some g1), .map (some g2)].toArray 88 (0, 0))], [(g2, .map es3 ck3)], [(g1, .map es ck)], rows] ∧ MapOk strEnc strOk es3 ck3 m3 ∧ Fnd m2 m3 ps l i ∧ RunOk l i run ∧ i ≤ l.length ∧ m = l.length - i) ⟨_, 0, 0, es2, ck2, m2, rfl, rfl, hm2, fnd0, run0, Nat.zero_le _, rfl⟩ ?_
  rintro m vs S' hlen ⟨i, run, es3, ck3, m3, rfl, rfl, hm3, hfnd, hrun, hin, rfl⟩
  refine j_q (qs_lss rfl rfl) ?_
  refine j_cond rfl (fun hc0 => ?_) (fun hc0 => ?_)
  · skip
    have hi : i < l.length := by
      simp only [Bool.and_eq_true, Bool.or_eq_true, Bool.and_eq_false_iff, Bool.or_eq_false_iff, Bool.not_eq_true', Bool.not_eq_false', decide_eq_true_eq, decide_eq_false_iff_not, beq_iff_eq, beq_eq_false_iff_ne, bne_iff_ne, bne_eq_false_iff_eq, ne_eq, Int.toNat_natCast] at *
      omega
    obtain ⟨ga, off, rfl, hga, hcells⟩ := rsl_addr hv (by rw [ints_length]; omega)
    have hDa := hD _ _ _ rfl
    refine j_q (qs_ixl0 Tryd.underlying22 sz5 rfl rfl ⟨(by first | omega | (simp only [Bool.and_eq_true, Bool.or_eq_true, Bool.and_eq_false_iff, Bool.or_eq_false_iff, Bool.not_eq_true', Bool.not_eq_false', decide_eq_true_eq, decide_eq_false_iff_not, beq_iff_eq, beq_eq_false_iff_ne, bne_iff_ne, bne_eq_false_iff_eq, ne_eq, Int.toNat_natCast] at *; omega)), (by first | omega | (simp only [Bool.and_eq_true, Bool.or_eq_true, Bool.and_eq_false_iff, Bool.or_eq_false_iff, Bool.not_eq_true', Bool.not_eq_false', decide_eq_true_eq, decide_eq_false_iff_not, beq_iff_eq, beq_eq_false_iff_ne, bne_iff_ne, bne_eq_false_iff_eq, ne_eq, Int.toNat_natCast] at *; omega))⟩) ?_
    refine j_q (qs_loadr8 (rd_cells hcells hDa) Tryd.underlying5 rfl (by simp only [Int.toNat_natCast]; omega)) ?_
    simp only [Int.toNat_natCast]
    refine j_q (qs_call ent45 rfl rfl rfl (fun w' hw' => isDigit_con (l.getD i 0) w')) ?_
    refine j_q (qs_not rfl) ?_
    refine j_cond rfl (fun hc1 => ?_) (fun hc1 => ?_)
    · skip
      have hnd : isDig (l.getD i 0) = false := by simpa using hc1
      refine j_q (qs_ac) ?_
      refine j_q (qs_add64 rfl rfl (by first | omega | (simp only [Bool.and_eq_true, Bool.or_eq_true, Bool.and_eq_false_iff, Bool.or_eq_false_iff, Bool.not_eq_true', Bool.not_eq_false', decide_eq_true_eq, decide_eq_false_iff_not, beq_iff_eq, beq_eq_false_iff_ne, bne_iff_ne, bne_eq_false_iff_eq, ne_eq, Int.toNat_natCast] at *; omega))) ?_
      refine j_back rfl ?_
      exact ⟨l.length - (i + 1), by omega, i + 1, 0, es3, ck3, m3, rfl, rfl, hm3, fnd_same (j := i) hfnd (fun h => ⟨by omega, Nat.le_refl _, hnd⟩), run_zero hnd, by omega, rfl⟩
    · skip
      have hdd : isDig (l.getD i 0) = true := by simpa using hc1
      have hr1 : run ≤ i := by unfold RunOk at hrun; exact hrun.1
      refine j_q (qs_add64 rfl rfl (by first | omega | (simp only [Bool.and_eq_true, Bool.or_eq_true, Bool.and_eq_false_iff, Bool.or_eq_false_iff, Bool.not_eq_true', Bool.not_eq_false', decide_eq_true_eq, decide_eq_false_iff_not, beq_iff_eq, beq_eq_false_iff_ne, bne_iff_ne, bne_eq_false_iff_eq, ne_eq, Int.toNat_natCast] at *; omega))) ?_
      refine j_q (qs_lss rfl rfl) ?_
      refine j_cond rfl (fun hc2 => ?_) (fun hc2 => ?_)
      · skip
        have hlt : run + 1 < 32 := by
          simp only [Bool.and_eq_true, Bool.or_eq_true, Bool.and_eq_false_iff, Bool.or_eq_false_iff, Bool.not_eq_true', Bool.not_eq_false', decide_eq_true_eq, decide_eq_false_iff_not, beq_iff_eq, beq_eq_false_iff_ne, bne_iff_ne, bne_eq_false_iff_eq, ne_eq, Int.toNat_natCast] at *
          omega
        refine j_q (qs_add64 rfl rfl (by first | omega | (simp only [Bool.and_eq_true, Bool.or_eq_true, Bool.and_eq_false_iff, Bool.or_eq_false_iff, Bool.not_eq_true', Bool.not_eq_false', decide_eq_true_eq, decide_eq_false_iff_not, beq_iff_eq, beq_eq_false_iff_ne, bne_iff_ne, bne_eq_false_iff_eq, ne_eq, Int.toNat_natCast] at *; omega))) ?_
        refine j_back rfl ?_
        exact ⟨l.length - (i + 1), by omega, i + 1, run + 1, es3, ck3, m3, rfl, rfl, hm3, fnd_same (j := i - run - 1) hfnd (fun h => ⟨by omega, by omega, (run_not hrun) (by omega)⟩), run_more hrun, by omega, rfl⟩
      · skip
        have hge : 32 ≤ run + 1 := by
          simp only [Bool.and_eq_true, Bool.or_eq_true, Bool.and_eq_false_iff, Bool.or_eq_false_iff, Bool.not_eq_true', Bool.not_eq_false', decide_eq_true_eq, decide_eq_false_iff_not, beq_iff_eq, beq_eq_false_iff_ne, bne_iff_ne, bne_eq_false_iff_eq, ne_eq, Int.toNat_natCast] at *
          omega
        obtain ⟨c0, rest, v0, hperm, ho0, hv0, _⟩ := pt_open hpt ((l.drop (i + 1 - 32)).take 32)
        obtain ⟨n0, A0, cap0, rfl, hn0⟩ := own_form ho0 (by decide)
        rw [strs_length, Nat.mul_one] at hn0
        subst hn0
        have hfl : (ps.filter (ofDig ((l.drop (i + 1 - 32)).take 32))).length ≤ ps.length := List.length_filter_le _ _
        refine j_perm (S' := [[(gs, .cells [.map (some g1), .map (some g2)].toArray 88 (0, 0))], [(g2, .map es3 ck3)], [(g1, .map es ck)], c0, rest]) (by simp; exact hperm) ?_
        refine j_mix _ (.refl _) ?_
        refine j_mq (qs_nil rfl) ?_
        refine j_mq (qs_field Tryd.underlying88 rfl sz85 (by decide) rfl) ?_
        first
          | refine j_mq (qs_load 0 Tryd.underlying85 rfl rfl rfl rfl) ?_
          | refine j_mq (qs_load 1 Tryd.underlying85 rfl rfl rfl rfl) ?_
          | refine j_mq (qs_load 2 Tryd.underlying85 rfl rfl rfl rfl) ?_
          | refine j_mq (qs_load 3 Tryd.underlying85 rfl rfl rfl rfl) ?_
          | refine j_mq (qs_load 4 Tryd.underlying85 rfl rfl rfl rfl) ?_
        refine j_mq (qs_add64 rfl rfl (by first | omega | (simp only [Bool.and_eq_true, Bool.or_eq_true, Bool.and_eq_false_iff, Bool.or_eq_false_iff, Bool.not_eq_true', Bool.not_eq_false', decide_eq_true_eq, decide_eq_false_iff_not, beq_iff_eq, beq_eq_false_iff_ne, bne_iff_ne, bne_eq_false_iff_eq, ne_eq, Int.toNat_natCast] at *; omega))) ?_
        refine j_mq (qs_sub64 rfl rfl (by first | omega | (simp only [Bool.and_eq_true, Bool.or_eq_true, Bool.and_eq_false_iff, Bool.or_eq_false_iff, Bool.not_eq_true', Bool.not_eq_false', decide_eq_true_eq, decide_eq_false_iff_not, beq_iff_eq, beq_eq_false_iff_ne, bne_iff_ne, bne_eq_false_iff_eq, ne_eq, Int.toNat_natCast] at *; omega))) ?_
        refine j_mq (qs_add64 rfl rfl (by first | omega | (simp only [Bool.and_eq_true, Bool.or_eq_true, Bool.and_eq_false_iff, Bool.or_eq_false_iff, Bool.not_eq_true', Bool.not_eq_false', decide_eq_true_eq, decide_eq_false_iff_not, beq_iff_eq, beq_eq_false_iff_ne, bne_iff_ne, bne_eq_false_iff_eq, ne_eq, Int.toNat_natCast] at *; omega))) ?_
        refine j_mq (qs_cutl (a := i + 1 - 32) (z := i + 1) Tryd.underlying22 sz5 rfl ⟨.i64, by show Value.int .i64 ((i : Int) + 1 - 32) = _; rw [show ((i : Int) + 1 - 32) = ((i + 1 - 32 : Nat) : Int) by omega]⟩ ⟨.i64, rfl⟩ (by omega) (by omega)) ?_
        rw [if_neg (show ¬ cap = i + 1 - 32 by omega)]
        simp only [Option.map_some, add_off, Nat.mul_one]
        refine j_mq (qs_mc) ?_
        refine j_q (qs_arrp Tryd.underlying40 rfl (by first | omega | (simp only [Bool.and_eq_true, Bool.or_eq_true, Bool.and_eq_false_iff, Bool.or_eq_false_iff, Bool.not_eq_true', Bool.not_eq_false', decide_eq_true_eq, decide_eq_false_iff_not, beq_iff_eq, beq_eq_false_iff_ne, bne_iff_ne, bne_eq_false_iff_eq, ne_eq, Int.toNat_natCast] at *; omega))) ?_
        refine j_mD0 (Le.of_sub (by repeat first | exact List.Sublist.refl _ | exact List.nil_sublist _ | apply List.Sublist.cons_cons | apply List.Sublist.cons)) ?_
        refine j_mq (qs_loadwR (vs := ints ((l.drop (i + 1 - 32)).take 32)) (rd_cells (win_cells hcells (by omega)) hDa) Tryd.underlying40 rfl sz40 rfl (by rw [ints_length, List.length_take, List.length_drop]; omega)) ?_
        refine j_mq (qs_lookup (z := .slice none 0 0) (key := ((l.drop (i + 1 - 32)).take 32)) dgKey 2 Tryd.underlying85 zsl rfl rfl rfl hm1 (by show List.length _ = 32; rw [List.length_take, List.length_drop]; omega)) ?_
        rw [← hv0]
        refine j_mq (qs_lenl Tryd.underlying55 rfl) ?_
        refine j_mend ?_
        refine j_loop (fun m vs S' => ∃ (k : Nat) (es4 : Array MapEntry) (ck4 : Nat) (m4 : List (List UInt8 × Value)), vs = [.int .i64 (k : Int)] ∧ S' = [[(gs, .cells [.map (some g1), .map (some g2)].toArray 88 (0, 0))], [(g2, .map es4 ck4)], [(g1, .map es ck)], c0, rest] ∧ MapOk strEnc strOk es4 ck4 m4 ∧ (∀ x, x ∈ m4.map Prod.fst ↔ x ∈ m3.map Prod.fst ∨ x ∈ (ps.filter (ofDig ((l.drop (i + 1 - 32)).take 32))).take k) ∧ k ≤ (ps.filter (ofDig ((l.drop (i + 1 - 32)).take 32))).length ∧ m = (ps.filter (ofDig ((l.drop (i + 1 - 32)).take 32))).length - k) ⟨_, 0, es3, ck3, m3, rfl, rfl, hm3, by simp, Nat.zero_le _, rfl⟩ ?_
        rintro m vs S' hlen ⟨k, es4, ck4, m4, rfl, rfl, hm4, hk4, hkn, rfl⟩
        refine j_q (qs_lss rfl rfl) ?_
        refine j_cond rfl (fun hc3 => ?_) (fun hc3 => ?_)
        · skip
          have hk : k < (ps.filter (ofDig ((l.drop (i + 1 - 32)).take 32))).length := by
            simp only [Bool.and_eq_true, Bool.or_eq_true, Bool.and_eq_false_iff, Bool.or_eq_false_iff, Bool.not_eq_true', Bool.not_eq_false', decide_eq_true_eq, decide_eq_false_iff_not, beq_iff_eq, beq_eq_false_iff_ne, bne_iff_ne, bne_eq_false_iff_eq, ne_eq, Int.toNat_natCast] at *
            omega
          obtain ⟨gb, rfl⟩ := own_addr ho0 (by rw [strs_length]; omega)
          refine j_q (qs_ixl0 Tryd.underlying55 sz23 rfl rfl ⟨(by first | omega | (simp only [Bool.and_eq_true, Bool.or_eq_true, Bool.and_eq_false_iff, Bool.or_eq_false_iff, Bool.not_eq_true', Bool.not_eq_false', decide_eq_true_eq, decide_eq_false_iff_not, beq_iff_eq, beq_eq_false_iff_ne, bne_iff_ne, bne_eq_false_iff_eq, ne_eq, Int.toNat_natCast] at *; omega)), (by first | omega | (simp only [Bool.and_eq_true, Bool.or_eq_true, Bool.and_eq_false_iff, Bool.or_eq_false_iff, Bool.not_eq_true', Bool.not_eq_false', decide_eq_true_eq, decide_eq_false_iff_not, beq_iff_eq, beq_eq_false_iff_ne, bne_iff_ne, bne_eq_false_iff_eq, ne_eq, Int.toNat_natCast] at *; omega))⟩) ?_
          refine j_q (qs_loadrs (own_rd ho0 3 rfl) Tryd.underlying23 rfl (by simp only [Int.toNat_natCast]; omega)) ?_
          simp only [Int.toNat_natCast]
          refine j_q (qs_nil rfl) ?_
          refine j_q (qs_field Tryd.underlying88 rfl sz86 (by decide) rfl) ?_
          first
            | refine j_q (qs_load 0 Tryd.underlying86 rfl rfl rfl rfl) ?_
            | refine j_q (qs_load 1 Tryd.underlying86 rfl rfl rfl rfl) ?_
            | refine j_q (qs_load 2 Tryd.underlying86 rfl rfl rfl rfl) ?_
            | refine j_q (qs_load 3 Tryd.underlying86 rfl rfl rfl rfl) ?_
            | refine j_q (qs_load 4 Tryd.underlying86 rfl rfl rfl rfl) ?_
          refine j_mapset (key := (ps.filter (ofDig ((l.drop (i + 1 - 32)).take 32))).getD k []) (val := .bool true) strKey 1 Tryd.underlying86 rfl rfl rfl rfl hm4 (hps _ (fil_mem hk)) (fun es5 ck5 hm5 => ?_)
          refine j_q (qs_add64 rfl rfl (by first | omega | (simp only [Bool.and_eq_true, Bool.or_eq_true, Bool.and_eq_false_iff, Bool.or_eq_false_iff, Bool.not_eq_true', Bool.not_eq_false', decide_eq_true_eq, decide_eq_false_iff_not, beq_iff_eq, beq_eq_false_iff_ne, bne_iff_ne, bne_eq_false_iff_eq, ne_eq, Int.toNat_natCast] at *; omega))) ?_
          refine j_back rfl ?_
          exact ⟨(ps.filter (ofDig ((l.drop (i + 1 - 32)).take 32))).length - (k + 1), by omega, k + 1, es5, ck5, _, rfl, rfl, hm5, fun x => by rw [mset_keys, hk4, take_snoc hk, List.mem_append, List.mem_singleton, or_assoc], by omega, rfl⟩
        · skip
          obtain rfl : k = (ps.filter (ofDig ((l.drop (i + 1 - 32)).take 32))).length := by
            simp only [Bool.and_eq_true, Bool.or_eq_true, Bool.and_eq_false_iff, Bool.or_eq_false_iff, Bool.not_eq_true', Bool.not_eq_false', decide_eq_true_eq, decide_eq_false_iff_not, beq_iff_eq, beq_eq_false_iff_ne, bne_iff_ne, bne_eq_false_iff_eq, ne_eq, Int.toNat_natCast] at *
            omega
          rw [List.take_of_length_le (Nat.le_refl _)] at hk4
          refine j_perm (S' := [[(gs, .cells [.map (some g1), .map (some g2)].toArray 88 (0, 0))], [(g2, .map es4 ck4)], [(g1, .map es ck)], rows]) (by simp; exact hperm.symm) ?_
          refine j_q (qs_add64 rfl rfl (by first | omega | (simp only [Bool.and_eq_true, Bool.or_eq_true, Bool.and_eq_false_iff, Bool.or_eq_false_iff, Bool.not_eq_true', Bool.not_eq_false', decide_eq_true_eq, decide_eq_false_iff_not, beq_iff_eq, beq_eq_false_iff_ne, bne_iff_ne, bne_eq_false_iff_eq, ne_eq, Int.toNat_natCast] at *; omega))) ?_
          refine j_back rfl ?_
          exact ⟨l.length - (i + 1), by omega, i + 1, run + 1, es4, ck4, m4, rfl, rfl, hm4, fnd_more hfnd (by omega) hk4, run_more hrun, by omega, rfl⟩
  · skip
    obtain rfl : i = l.length := by
      simp only [Bool.and_eq_true, Bool.or_eq_true, Bool.and_eq_false_iff, Bool.or_eq_false_iff, Bool.not_eq_true', Bool.not_eq_false', decide_eq_true_eq, decide_eq_false_iff_not, beq_iff_eq, beq_eq_false_iff_ne, bne_iff_ne, bne_eq_false_iff_eq, ne_eq, Int.toNat_natCast] at *
      omega
    refine j_ret_con (vs := []) (fun w' hw' => trivial) ?_
    exact ⟨es3, ck3, m3, rfl, rfl, hm3, hfnd⟩
end Go.Proofs.YtkafaodhppikfaaDoor
