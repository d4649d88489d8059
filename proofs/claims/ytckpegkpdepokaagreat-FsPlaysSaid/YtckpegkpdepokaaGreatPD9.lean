/- Part 9. -/
import Derived.Test.YtckpegkpdepokaaGreatPD2
import Derived.Test.YtckpegkpdepokaaGreatPD3
import Derived.Test.YtckpegkpdepokaaGreatPD8
import Derived.Lib.SmallJoins
import Derived.SizedLaws
import Derived.SliceStrings
import Derived.Test.YtckpegkpdepokaaGreatRows
import Derived.Test.YtckpegkpdepokaaGreatPD6
import Derived.ProofKit
import Derived.Carry
/-! Rg9 -/
namespace Go.Proofs.YtckpegkpdepokaaGreat
open Go Go.Sx
set_option maxRecDepth 100000
set_option maxHeartbeats 4000000
set_option linter.unusedVariables false
set_option linter.unusedSimpArgs false
attribute [local irreducible] J JQ QS Con W opW
open Go.MapKept Go.WideMaps Go.Maps
abbrev steps (rs : List St) : List Value := (rs.map encS).flatten
theorem steps_get {rs : List St} {i k : Nat} {u : Value} (h : i < rs.length) (hk : (encS (rs.getD i St0))[k]? = some u) : (steps rs)[i * 5 + k]? = some u := by
  have hk4 : k < 5 := by
    have := (List.getElem?_eq_some_iff.1 hk).1
    rw [encS_len] at this
    exact this
  rw [flat_get encS_len rs i k hk4, List.getElem?_eq_getElem h]
  rw [List.getD_eq_getElem?_getD, List.getElem?_eq_getElem h] at hk
  exact hk
def Script (w : World) (v : Value) (rs : List St) : Prop := RSlN 5 w v (steps rs) rs.length ∧ ∀ x ∈ rs, x.Ok w
theorem script_form {w : World} {v : Value} {rs : List St} (h : Script w v rs) : ∃ A cap g off, v = .slice A rs.length cap ∧ rs.length ≤ cap ∧ (0 < rs.length → A = some ⟨g, off, none⟩ ∧ g < w.heap.size ∧ Cells w ⟨g, off, none⟩ (steps rs)) := rsln_form h.1
theorem script_ok {w : World} {v : Value} {rs : List St} (h : Script w v rs) {i : Nat} (hi : i < rs.length) : (rs.getD i St0).Ok w := by
  refine h.2 _ ?_
  rw [List.getD_eq_getElem?_getD, List.getElem?_eq_getElem hi, Option.getD_some]
  exact List.getElem_mem hi
theorem script_keep {w w' : World} {v : Value} {rs : List St} (h : Script w v rs) {S : List SH} (hs : Sig ⟨w, dom []⟩ S w') : Script w' v rs := ⟨rsln_keep h.1 hs, fun x hx => ⟨(h.2 x hx).k, (h.2 x hx).n, (h.2 x hx).a, (h.2 x hx).t, br0 (h.2 x hx).b.1 hs, (h.2 x hx).b.2⟩⟩
theorem str_ok {l : List UInt8} (h : l.length ≤ 140737488351232) : strOk l := by show l.length ≤ 9223372036854775807; omega
structure IdsLe (a : AF) (k : Nat) : Prop where
  b : ∀ p ∈ a.base.nm, p.2 ≤ k
  p : ∀ n xs j, AT.wr n xs j ∈ a.pend → j ≤ k
def IdsS (s : AS) (k : Nat) : Prop := ∀ p ∈ s.nm, p.2 ≤ k
theorem ids_lets {s : AS} {k : Nat} (h : IdsS s k) (n : List UInt8) : IdsS (letsA s n) k := fun p hp => by
  rw [(lets_nm s n).1] at hp
  exact h p (List.mem_filter.1 hp).1
theorem ids_gives {s : AS} {k : Nat} (h : IdsS s k) (n : List UInt8) {i : Nat} (hi : i ≤ k) : IdsS (givesA s n i) k := by
  unfold givesA
  split
  · exact h
  · intro p hp
    rcases List.mem_append.1 hp with hp | hp
    · exact ids_lets h n p hp
    · rw [List.mem_singleton] at hp
      rw [hp]
      exact hi
theorem ids_do {s : AS} {k : Nat} (h : IdsS s k) (t : AT) (ht : ∀ n xs j, t = .wr n xs j → j ≤ k) : IdsS (doA s t) k := by
  cases t with
  | wr n xs i =>
    show IdsS (writeA s n xs i) k
    rw [writeA_eq]
    intro p hp
    rcases List.mem_append.1 hp with hp | hp
    · exact ids_lets h n p hp
    · rw [List.mem_singleton] at hp
      rw [hp]
      exact ht n xs i rfl
  | ap n xs =>
    show IdsS (appA s n xs) k
    unfold appA
    split <;> exact h
  | li old n =>
    show IdsS (match alook s.nm old with | none => s | some i => givesA s n i) k
    split
    · exact h
    · rename_i i hi
      exact ids_gives h n (h _ (alook_mem hi))
  | rn old n =>
    show IdsS (if old = n then s else match alook s.nm old with | none => s | some i => letsA (givesA s n i) old) k
    split
    · exact h
    · split
      · exact h
      · rename_i i hi
        exact ids_lets (ids_gives h n (h _ (alook_mem hi))) old
  | rm n => exact ids_lets h n
theorem ids_run {s : AS} {k : Nat} : ∀ {l : List AT}, IdsS s k → (∀ n xs j, AT.wr n xs j ∈ l → j ≤ k) → IdsS (runA s l) k
  | [], h, _ => h
  | t :: l, h, hl => ids_run (l := l) (ids_do h t fun n xs j e => hl n xs j (by rw [e]; exact List.mem_cons_self ..)) fun n xs j hm => hl n xs j (List.mem_cons_of_mem _ hm)
theorem IdsLe.now {a : AF} {k : Nat} (h : IdsLe a k) : IdsS a.now k := ids_run h.b h.p
theorem IdsLe.up {a : AF} {k : Nat} (h : IdsLe a k) : IdsLe a (k + 1) := ⟨fun p hp => Nat.le_succ_of_le (h.b p hp), fun n xs j hm => Nat.le_succ_of_le (h.p n xs j hm)⟩
theorem IdsLe.step {a : AF} {k : Nat} (h : IdsLe a k) (t : AT) (ht : ∀ n xs j, t = .wr n xs j → j ≤ k) : IdsLe (stepF a t) k := ⟨h.b, fun n xs j hm => by
  rcases List.mem_append.1 hm with hm | hm
  · exact h.p n xs j hm
  · rw [List.mem_singleton] at hm
    exact ht n xs j hm.symm⟩
theorem IdsLe.next {a : AF} {k : Nat} (h : IdsLe a k) (u : Int) (x : St) : IdsLe (nextF a u x (k + 1)) (k + 1) := by
  have h1 := h.up
  unfold nextF
  repeat' split
  all_goals first
    | exact h1
    | exact h1.step _ (fun n xs j e => by cases e; exact Nat.le_refl _)
    | exact h1.step _ (fun n xs j e => by cases e)
    | exact ⟨h1.now, fun n xs j hm => by cases hm⟩
    | exact ⟨ids_run (l := a.pend.take _) h1.b (fun n xs j hm => h1.p n xs j (List.mem_of_mem_take hm)), fun n xs j hm => by cases hm⟩
    | exact ⟨h1.b, h1.p⟩
def keptN : List UInt8 := [107, 101, 112, 116]
structure KpS (xa : List UInt8) (s : AS) : Prop where
  l : alook s.nm keptN = some 0
  o : ∀ q ∈ s.nm, q.2 = 0 → q.1 = keptN
  d : s.dt 0 = xa
def offT : AT → Prop
  | .wr n _ i => n ≠ keptN ∧ i ≠ 0
  | .ap n _ => n ≠ keptN
  | .li old n => old ≠ keptN ∧ n ≠ keptN
  | .rn old n => old ≠ keptN ∧ n ≠ keptN
  | .rm n => n ≠ keptN
theorem kp_lets {xa : List UInt8} {s : AS} (h : KpS xa s) {n : List UInt8} (hn : n ≠ keptN) : KpS xa (letsA s n) := by
  have h1 := lets_nm s n
  refine ⟨?_, fun q hq => ?_, by rw [h1.2]; exact h.d⟩
  · rw [h1.1, alook_mdel, if_neg hn]
    exact h.l
  · rw [h1.1] at hq
    exact h.o q (List.mem_filter.1 hq).1
theorem kp_gives {xa : List UInt8} {s : AS} (h : KpS xa s) {n : List UInt8} (hn : n ≠ keptN) {i : Nat} (hi : i ≠ 0) : KpS xa (givesA s n i) := by
  unfold givesA
  split
  · exact h
  · have h1 := kp_lets h hn
    refine ⟨?_, fun q hq => ?_, h1.d⟩
    · show alook ((letsA s n).nm ++ [(n, i)]) keptN = some 0
      rw [alook_app (by rw [h1.l]; rfl)]
      exact h1.l
    · rcases List.mem_append.1 hq with hq | hq
      · exact h1.o q hq
      · rw [List.mem_singleton] at hq
        rw [hq]
        exact fun e => absurd e hi
theorem kp_id {xa : List UInt8} {s : AS} (h : KpS xa s) {n : List UInt8} (hn : n ≠ keptN) {i : Nat} (hi : alook s.nm n = some i) : i ≠ 0 := fun e => hn (h.o _ (alook_mem hi) e)
theorem kp_do {xa : List UInt8} {s : AS} (h : KpS xa s) {t : AT} (ht : offT t) : KpS xa (doA s t) := by
  cases t with
  | wr n xs i =>
    have h1 := kp_lets h ht.1
    show KpS xa (writeA s n xs i)
    rw [writeA_eq]
    refine ⟨?_, fun q hq => ?_, ?_⟩
    · show alook ((letsA s n).nm ++ [(n, i)]) keptN = some 0
      rw [alook_app (by rw [h1.l]; rfl)]
      exact h1.l
    · rcases List.mem_append.1 hq with hq | hq
      · exact h1.o q hq
      · rw [List.mem_singleton] at hq
        rw [hq]
        exact fun e => absurd e ht.2
    · show updA (letsA s n).dt i xs 0 = xa
      unfold updA
      rw [if_neg (fun e => ht.2 e.symm)]
      exact h1.d
  | ap n xs =>
    show KpS xa (appA s n xs)
    unfold appA
    split
    · exact h
    · rename_i i hi
      have h0 := kp_id h ht hi
      refine ⟨h.l, h.o, ?_⟩
      show updA s.dt i (s.dt i ++ xs) 0 = xa
      unfold updA
      rw [if_neg (fun e => h0 e.symm)]
      exact h.d
  | li old n =>
    show KpS xa (match alook s.nm old with | none => s | some i => givesA s n i)
    split
    · exact h
    · rename_i i hi
      exact kp_gives h ht.2 (kp_id h ht.1 hi)
  | rn old n =>
    show KpS xa (if old = n then s else match alook s.nm old with | none => s | some i => letsA (givesA s n i) old)
    split
    · exact h
    · split
      · exact h
      · rename_i i hi
        exact kp_lets (kp_gives h ht.2 (kp_id h ht.1 hi)) ht.1
  | rm n => exact kp_lets h ht
theorem kp_run {xa : List UInt8} {s : AS} : ∀ {l : List AT}, KpS xa s → (∀ t ∈ l, offT t) → KpS xa (runA s l)
  | [], h, _ => h
  | t :: l, h, hl => kp_run (l := l) (kp_do h (hl t (List.mem_cons_self ..))) fun t ht => hl t (List.mem_cons_of_mem _ ht)
structure Kp (xa : List UInt8) (a : AF) : Prop where
  b : KpS xa a.base
  p : ∀ t ∈ a.pend, offT t
theorem Kp.step {xa : List UInt8} {a : AF} (h : Kp xa a) {t : AT} (ht : offT t) : Kp xa (stepF a t) := ⟨h.b, fun u hu => by
  rcases List.mem_append.1 hu with hu | hu
  · exact h.p u hu
  · rw [List.mem_singleton] at hu
    rw [hu]
    exact ht⟩
theorem Kp.crash {xa : List UInt8} {a : AF} (h : Kp xa a) (k : Int) : Kp xa (crashF a k) := ⟨kp_run (l := a.pend.take _) h.b fun t ht => h.p t (List.mem_of_mem_take ht), fun t ht => by cases ht⟩
theorem Kp.next {xa : List UInt8} {a : AF} (h : Kp xa a) (u : Int) {x : St} (h1 : x.a ≠ keptN) (h2 : x.to ≠ keptN) (k : Nat) : Kp xa (nextF a u x (k + 1)) := by
  unfold nextF
  repeat' split
  all_goals first
    | exact h
    | exact h.step ⟨h1, Nat.succ_ne_zero _⟩
    | exact h.step ⟨h1, h2⟩
    | exact h.step h1
    | exact ⟨kp_run h.b h.p, fun t ht => by cases ht⟩
    | exact h.crash _
    | exact ⟨h.b, h.p⟩
theorem af0_ids (r : Int) : IdsLe (AF0 r) 0 := ⟨(fun p hp => by cases hp), (fun n xs j hm => by cases hm)⟩
theorem off5 (g off i k : Nat) : (⟨g, off + i * 5 + k, none⟩ : Addr) = (⟨g, off, none⟩ : Addr).add (i * 5 + k) := by rw [add_off, Nat.add_assoc]
theorem heavy_con (rs : List St) (v : Value) (w : World) (hs : Script w v rs) : Con Tryz.prog 4 [v] w [] fun u _ => ∃ hv : Bool, u = .bool hv ∧ (hv = false → ∀ i, i < rs.length → i < 120 → (rs.getD i St0).xs.length ≤ 8000) := by
  refine con_of_tree mix Tryz.func4 T4_ok (by kernel_rfl) ?_
  unfold T4
  obtain ⟨A, cap, g, off, rfl, hcap, hA⟩ := script_form hs
  refine j_q (qs_ac) ?_
  refine j_q (qs_ac) ?_
  refine j_q (qs_ac) ?_
  refine j_loop (fun m vs S' => ∃ (i : Nat) (n : Int), vs = [.int .i64 n, .int .i64 (i : Int)] ∧ S' = [[]] ∧ 0 ≤ n ∧ n ≤ 8000 ∧ (∀ j, j < i → ((rs.getD j St0).xs.length : Int) ≤ n) ∧ i ≤ rs.length ∧ i ≤ 120 ∧ m = rs.length - i) ⟨_, 0, 0, rfl, rfl, Int.le_refl _, by decide, (fun j hj => by omega), Nat.zero_le _, Nat.zero_le _, rfl⟩ ?_
  rintro m vs S' hlen ⟨i, n, rfl, rfl, hn0, hn1, hall, hi, hi120, rfl⟩
  refine j_q (qs_lenl Tryz.underlying22 rfl) ?_
  refine j_q (qs_lss rfl rfl) ?_
  refine j_g rfl (fun hb => qs_mt rfl) ?_
  refine j_g rfl (fun hb => qs_lss (gd_eq hb) rfl) ?_
  refine j_q (qs_and rfl rfl) ?_
  refine j_cond rfl (fun hc0 => ?_) (fun hc0 => ?_)
  · skip
    have hb2 : i < rs.length ∧ i < 120 := by
      simp only [gd, Bool.and_eq_true, decide_eq_true_eq] at hc0
      omega
    obtain ⟨hi1, hi2⟩ := hb2
    obtain ⟨rfl, hgs, hcl⟩ := hA (by omega)
    obtain ⟨_, _, hxa, hxt, hxb, hxl⟩ := script_ok hs hi1
    obtain ⟨bA, bcp, hbf, _⟩ := br_form hxb
    refine j_draw ?_
    refine jq_q (qs_ixn (g := g) (off := off) (n := rs.length) (c := cap) (i := i) Tryz.underlying22 sz34 rfl rfl hi1) ?_
    refine jq_q (qs_field Tryz.underlying34 rfl sz9 (by decide) rfl) ?_
    refine jq_q (qs_loadR (v := (.string (bs (rs.getD i St0).a))) (a := ⟨g, off, none⟩) (i := i * 5 + 2) (rd_cells hcl (by simp)) Tryz.underlying9 rfl (congrArg (fun z => Value.pointer (some z)) (off5 g off i 2)) (steps_get hi1 rfl)) ?_
    refine jq_q (qs_lens Tryz.underlying9 rfl) ?_
    refine jq_q (qs_add64 rfl rfl (by first | omega | (simp only [bnA] at *; omega))) ?_
    refine jq_q (qs_ixn (g := g) (off := off) (n := rs.length) (c := cap) (i := i) Tryz.underlying22 sz34 rfl rfl hi1) ?_
    refine jq_q (qs_field Tryz.underlying34 rfl sz9 (by decide) rfl) ?_
    refine jq_q (qs_loadR (v := (.string (bs (rs.getD i St0).to))) (a := ⟨g, off, none⟩) (i := i * 5 + 3) (rd_cells hcl (by simp)) Tryz.underlying9 rfl (congrArg (fun z => Value.pointer (some z)) (off5 g off i 3)) (steps_get hi1 rfl)) ?_
    refine jq_q (qs_lens Tryz.underlying9 rfl) ?_
    refine jq_q (qs_add64 rfl rfl (by first | omega | (simp only [bnA] at *; omega))) ?_
    refine jq_q (qs_ixn (g := g) (off := off) (n := rs.length) (c := cap) (i := i) Tryz.underlying22 sz34 rfl rfl hi1) ?_
    refine jq_q (qs_field Tryz.underlying34 rfl sz32 (by decide) rfl) ?_
    refine jq_q (qs_loadR (v := (rs.getD i St0).bv) (a := ⟨g, off, none⟩) (i := i * 5 + 4) (rd_cells hcl (by simp)) Tryz.underlying32 rfl (congrArg (fun z => Value.pointer (some z)) (off5 g off i 4)) (steps_get hi1 rfl)) ?_
    refine jq_q (qs_lenl (n := (rs.getD i St0).xs.length) (A := bA) (c := bcp) Tryz.underlying32 hbf) ?_
    refine jq_q (qs_add64 rfl rfl (by first | omega | (simp only [bnA] at *; omega))) ?_
    refine jq_nil ?_
    refine j_q (qs_gtr rfl rfl) ?_
    refine j_cond rfl (fun hc1 => ?_) (fun hc1 => ?_)
    · skip
      refine j_q (qs_ac) ?_
      refine j_ret_con (vs := [_]) (fun w' hw' => ⟨rfl, trivial⟩) ?_
      exact ⟨true, rfl, fun h => by cases h⟩
    · skip
      have hle : n + ((rs.getD i St0).a.length : Int) + ((rs.getD i St0).to.length : Int) + ((rs.getD i St0).xs.length : Int) ≤ 8000 := by
        have h9 := of_decide_eq_false hc1
        omega
      refine j_q (qs_add64 rfl rfl (by first | omega | (simp only [bnA] at *; omega))) ?_
      refine j_back rfl ?_
      exact ⟨rs.length - (i + 1), by omega, i + 1, _, rfl, rfl, by omega, hle, fun j hj => by
        rcases Nat.lt_or_ge j i with h | h
        · have := hall j h
          omega
        · obtain rfl : j = i := by omega
          omega, hi1, hi2, rfl⟩
  · skip
    have hb2 : ¬ (i < rs.length ∧ i < 120) := by
      rintro ⟨h1, h2⟩
      have h3 : decide ((i : Int) < (rs.length : Int)) = true := by simpa using h1
      have h4 : decide ((i : Int) < 120) = true := by
        simp only [decide_eq_true_eq]
        omega
      rw [h3] at hc0
      simp only [gd, h4] at hc0
      simp at hc0
    refine j_q (qs_ac) ?_
    refine j_ret_con (vs := [_]) (fun w' hw' => ⟨rfl, trivial⟩) ?_
    exact ⟨false, rfl, fun _ j hj hj2 => by
      have := hall j (by omega)
      omega⟩
end Go.Proofs.YtckpegkpdepokaaGreat
/-! Rg10 -/
namespace Go.Proofs.YtckpegkpdepokaaGreat
open Go Go.Sx
set_option maxRecDepth 100000
set_option maxHeartbeats 4000000
set_option linter.unusedVariables false
set_option linter.unusedSimpArgs false
attribute [local irreducible] J JQ QS Con W opW
open Go.MapKept Go.WideMaps Go.Maps
def nodeK (s : AS) (n : List UInt8) : Int := match alook s.nm n with | none => 0 | some i => (cntA s.nm i : Int)
def nodeF (s : AS) (n : List UInt8) : List UInt8 := match alook s.nm n with | none => [] | some i => ((sortS (s.nm.map Prod.fst)).find? fun m => decide (alook s.nm m = some i)).getD []
theorem mem_sortS {l : List (List UInt8)} {x : List UInt8} : x ∈ sortS l ↔ x ∈ l := by unfold sortS; exact List.mem_mergeSort
theorem find_at {α : Type} {p : α → Bool} {l : List α} {i : Nat} {d : α} (hi : i < l.length) (hp : p (l.getD i d) = true) (hb : ∀ j, j < i → p (l.getD j d) = false) : l.find? p = some (l.getD i d) := by
  induction l generalizing i with
  | nil => simp at hi
  | cons a l ih =>
    cases i with
    | zero =>
      rw [List.getD_cons_zero] at hp ⊢
      exact List.find?_cons_of_pos hp
    | succ i =>
      have h0 := hb 0 (Nat.succ_pos _)
      rw [List.getD_cons_zero] at h0
      rw [List.find?_cons_of_neg (by rw [h0]; simp), List.getD_cons_succ] 
      rw [List.getD_cons_succ] at hp
      exact ih (by simpa using hi) hp fun j hj => by
        have := hb (j + 1) (by omega)
        rwa [List.getD_cons_succ] at this
theorem sort_names {r : FR} {a : AF} (h : r.Ok a) : sortS (r.now.ml.map Prod.fst) = sortS (a.now.nm.map Prod.fst) := by
  refine sortS_perm ?_
  have h1 := h.now.rep.nm.map Prod.fst
  rw [List.map_map] at h1
  exact h1
theorem look_id {r : FR} {a : AF} (h : r.Ok a) {x : FL} (hx : x ∈ r.now.fs) (m : List UInt8) : alook r.now.ml m = some (x.g, x.id) ↔ alook a.now.nm m = some x.id := by
  rw [← h.now.rep.look h.now.raw m]
  cases hl : alook r.now.ml m with
  | none => simp
  | some p =>
    obtain ⟨f, hf, h1, h2, _⟩ := look_fs h.now.raw hl
    constructor
    · intro e
      injection e with e
      rw [e]
      rfl
    · intro e
      injection e with e
      have : x = f := id_uniq h.now.raw hf hx (h2.trans e ▸ rfl)
      subst this
      exact congrArg some (Prod.ext h1.symm h2.symm)
theorem nodeR_con (r : FR) (a : AF) (n : List UInt8) (w : World) (hin : In w r.heap) (hok : r.Ok a) (hn : strOk n) : Con Tryz.prog 17 [r.ptr, .string (bs n)] w [] fun u _ => u = .tuple #[.string (bs (nodeF a.now n)), .int .i64 (nodeK a.now n)] := by
  cases h : alook a.now.nm n with
  | none =>
    refine (nodeZ_con r.fm a.pend.length n w hin (hok.fm (Nat.le_refl _)) hn (look_rep0 hok.now.raw hok.now.rep h)).mono (fun u S' hu => ?_)
    rw [hu.1]
    simp only [nodeF, nodeK, h]
  | some i =>
    obtain ⟨x, hx, hl, hi, hxs⟩ := look_rep hok.now.raw hok.now.rep h
    have hml : r.now.ml.length ≤ 1000000 := by
      have h9 : a.now.nm.length ≤ 16384 := (okA_end hok.ok).2
      rw [hok.now.rep.len]
      omega
    refine (node_con r.fm a.pend.length n w hin (hok.fm (Nat.le_refl _)) hn x hx hl hml).mono (fun u S' hu => ?_)
    obtain ⟨first, rfl, h1, h2⟩ := hu
    have hk : x.k = (cntA a.now.nm i : Int) := by
      have := hok.now.ex.kc x hx
      rw [this, hok.now.rep.cnt, hi]
      show _ + (0 : Int) = _
      omega
    have hnk : nodeK a.now n = x.k := by simp only [nodeK, h, hk]
    rw [hnk]
    have hfirst : nodeF a.now n = first := by
      simp only [nodeF, h]
      by_cases hk1 : x.k = 1
      · rw [h1 hk1]
        have hn1 : n ∈ sortS (a.now.nm.map Prod.fst) := mem_sortS.2 (List.mem_map.2 ⟨_, alook_mem h, rfl⟩)
        cases hf : (sortS (a.now.nm.map Prod.fst)).find? fun m => decide (alook a.now.nm m = some i) with
        | none => exact absurd (List.find?_eq_none.1 hf n hn1) (by simp [h])
        | some m =>
          have hm : alook a.now.nm m = some i := by simpa using List.find?_some hf
          have hc : cntA a.now.nm i = 1 := by omega
          obtain ⟨q, hq⟩ := List.length_eq_one_iff.1 hc
          have e1 : ((m, i) : List UInt8 × Nat) ∈ [q] := by rw [← hq]; exact List.mem_filter.2 ⟨alook_mem hm, by simp⟩
          have e2 : ((n, i) : List UInt8 × Nat) ∈ [q] := by rw [← hq]; exact List.mem_filter.2 ⟨alook_mem h, by simp⟩
          rw [List.mem_singleton] at e1 e2
          have := e1.trans e2.symm
          injection this with e3
      · obtain ⟨j, hj, e, hlk, hbef⟩ := h2 hk1
        have hs : sortS (r.fm.now.ml.map Prod.fst) = sortS (a.now.nm.map Prod.fst) := sort_names hok
        rw [hs] at hj e hbef
        have hfa := find_at (p := fun m => decide (alook a.now.nm m = some i)) (d := []) hj (by rw [← e, decide_eq_true_eq, ← hi]; exact (look_id hok hx _).1 hlk) (fun k hk => by
          rw [decide_eq_false_iff_not, ← hi]
          exact fun q => hbef k hk ((look_id hok hx _).2 q))
        rw [hfa, e]
        rfl
    rw [hfirst]
theorem namesA_ok {r : FR} {a : AF} (h : r.Ok a) {p m : List UInt8} (hm : m ∈ namesA a.now p) : strOk m := by
  unfold namesA at hm
  have h1 := (List.mem_filter.1 (mem_sortS.1 hm)).1
  obtain ⟨q, hq, rfl⟩ := List.mem_map.1 h1
  obtain ⟨z, hz, rfl⟩ := List.mem_map.1 (h.now.rep.nm.mem_iff.2 hq)
  exact h.now.raw.map.keys (z.1, fptr z.2) (List.mem_map.2 ⟨z, hz, rfl⟩)
theorem namesA_len {r : FR} {a : AF} (h : r.Ok a) (p : List UInt8) : (namesA a.now p).length ≤ 16384 := by
  unfold namesA
  rw [sortS_length]
  have h9 : a.now.nm.length ≤ 16384 := (okA_end h.ok).2
  have h2 := List.length_filter_le (preB p) (a.now.nm.map Prod.fst)
  rw [List.length_map] at h2
  omega
end Go.Proofs.YtckpegkpdepokaaGreat
/-! Rz1 -/
namespace Go.Proofs.YtckpegkpdepokaaGreat
open Go Go.Sx
set_option maxRecDepth 100000
set_option maxHeartbeats 4000000
set_option linter.unusedVariables false
set_option linter.unusedSimpArgs false
attribute [local irreducible] J JQ QS Con W opW
open Go.MapKept Go.WideMaps Go.Maps
theorem j_mgt {P : Program} {R : Ending → World → Prop} {env : Env} {b : Base} {S : List SH} {B : JB} {T : Tree} {v : Value} {o : Oper} {S0 : List SH} {c : Operand} {want : Bool} (hc : ev env c = .bool want) (hq : QS P o env b S0 v) (h : J P R T (v :: env) S b (B ++ [dw S0])) : J P R (.mq (some (c, want)) o T) env S b (B ++ [dw S0]) := by
  refine j_mg hc (fun _ => hq) ?_
  rw [gd, if_pos rfl]
  exact h
theorem own_srcIn {w : World} {S : List SH} {e : TypeId} {sz : Nat} {xs : List Value} {A : Option Addr} {n cap : Nat} {c : SH} (h : Sx.Own e sz xs (.slice A n cap) c) (hin : In w c) : Src (⟨w, dom []⟩ : Base) S sz (.slice A n cap) n xs := by
  rcases h with ⟨e1, rfl, rfl⟩ | ⟨g, n', cap', rest, fz, e1, rfl, h1, h2, h3, h4⟩
  · injection e1 with e1 e2 e3
    subst e1 e2
    exact .inr (.inl ⟨cap, rfl, rfl, rfl⟩)
  · injection e1 with e1 e2 e3
    subst e1 e2 e3
    refine .inl ⟨_, _, rfl, rd_cells (fun j u hu => ?_) (by simp), h1⟩
    have hg := hin (g, .cells (xs ++ rest).toArray e fz) (by simp)
    rw [add_off, cell_of hg, Nat.zero_add]
    exact getE_left hu
theorem sort_rise {l : List (List UInt8)} (h : l.Pairwise fun a b => a < b) : sortS l = l := by
  unfold sortS
  refine List.mergeSort_of_pairwise (h.imp fun hab => ?_)
  simp only [decide_eq_true_eq]
  exact List.le_of_lt hab
theorem RS0.names {s : RM} {P : List BK} {a : AS} (h : RS0 s P a) (p : List UInt8) : s.ns.filter (preB p) = namesA a p := by
  have hr : s.ns.Pairwise fun x y => x < y := List.pairwise_map.2 h.raw.rise
  rw [← sort_rise (List.Pairwise.sublist List.filter_sublist hr)]
  unfold namesA
  refine sortS_perm (List.Perm.filter _ ?_)
  have h1 := h.nm.map Prod.fst
  rw [List.map_map] at h1
  exact h1
theorem RS0.sorted {s : RM} {P : List BK} {a : AS} (h : RS0 s P a) : sortS (a.nm.map Prod.fst) = s.ns := by
  have hr : s.ns.Pairwise fun x y => x < y := List.pairwise_map.2 h.raw.rise
  conv => rhs; rw [← sort_rise hr]
  refine sortS_perm ?_
  have h1 := h.nm.map Prod.fst
  rw [List.map_map] at h1
  exact h1.symm
theorem names_succ {s : RM} {i : Nat} (hi : i < s.nm.length) (p : List UInt8) : (s.ns.take (i + 1)).filter (preB p) = (s.ns.take i).filter (preB p) ++ if preB p (s.ns.getD i []) then [s.ns.getD i []] else [] := by
  have h1 : i < s.ns.length := by rw [RM.ns_len]; exact hi
  rw [List.take_add_one, List.getElem?_eq_getElem h1, Option.toList_some, List.filter_append, List.getD_eq_getElem?_getD, List.getElem?_eq_getElem h1, Option.getD_some]
  simp only [List.filter_cons, List.filter_nil]
def RF.ownR (r : RF) : SH := [(r.gf, r.obj)] ++ r.base.heap ++ r.now.heap ++ r.lc
theorem encTs_one {P : List BK} {l : List (AT × Value)} (h : ∀ p ∈ l, okT P p.1 p.2) : ∀ u ∈ encTs l, oneV u = true := fun u hu => by
  obtain ⟨l', hl', hu'⟩ := List.mem_flatten.1 hu
  obtain ⟨p, hp, rfl⟩ := List.mem_map.1 hl'
  have hv : ∃ xs, RV P p.2 xs := by
    have h1 := h p hp
    obtain ⟨t, v⟩ := p
    cases t with
    | wr n xs i => exact ⟨xs, h1.2.1⟩
    | ap n xs => exact ⟨xs, h1.2.1⟩
    | li old n => exact ⟨[], h1.2.2⟩
    | rn old n => exact ⟨[], h1.2.2⟩
    | rm n => exact ⟨[], h1.2⟩
  obtain ⟨xs, hxs⟩ := hv
  obtain ⟨A, cap, e, _⟩ := hxs.form
  exact encT_one p.1 (by rw [e]; rfl) u hu'
theorem rnamesP_con (r : RF) (a : AF) (p : List UInt8) (w : World) (hin : In w r.heap) (hok : r.Ok a) (hp : p.length ≤ 9223372036854775807) : Con Tryz.prog 49 [r.ptr, .string (bs p)] w [] fun v S' => ∃ c, S' = [c] ∧ Sx.Own 9 1 (strs (namesA a.now p)) v c := by
  refine con_of_tree mix Tryz.func49 T49_ok (by kernel_rfl) ?_
  unfold T49
  have hraw := hok.nw.raw
  obtain ⟨A, cap, hnv, hcap⟩ := rsl_form (RM.rn hraw (RF.in_now hin))
  rw [strs_length, RM.ns_len] at hnv hcap
  have hrn := RM.rn hraw (RF.in_now hin)
  rw [hnv] at hrn
  have hle := hraw.le
  refine j_q (qs_ac) ?_
  refine j_q (qs_ac) ?_
  refine j_q (qs_ac) ?_
  refine j_perm (S' := [[]]) (by simp) ?_
  refine j_loop (fun m vs S' => ∃ (i : Nat) (v : Value) (c : SH), vs = [v, .int .i64 (i : Int)] ∧ S' = [c] ∧ Sx.Own 9 1 (strs ((r.now.ns.take i).filter (preB p))) v c ∧ i ≤ r.now.nm.length ∧ m = r.now.nm.length - i) ⟨_, 0, .slice none 0 0, [], rfl, rfl, own_nil, Nat.zero_le _, rfl⟩ ?_
  rintro m vs S' hlen ⟨i, v, c, rfl, rfl, hown, hi, rfl⟩
  refine j_q (qs_nil rfl) ?_
  refine j_q (qs_field Tryz.underlying60 rfl sz53 (by decide) rfl) ?_
  refine j_q (qs_loadO (rdo_base (RF.in_gf hin) (by simp)) Tryz.underlying53 rfl rfl rfl) ?_
  refine j_q (qs_nil rfl) ?_
  refine j_q (qs_field Tryz.underlying57 rfl sz54 (by decide) rfl) ?_
  refine j_q (qs_loadO (rdo_base (RM.in_gs (RF.in_now hin)) (by simp)) Tryz.underlying54 rfl rfl rfl) ?_
  refine j_q (qs_lenl (n := r.now.nm.length) (A := A) (c := cap) Tryz.underlying54 hnv) ?_
  refine j_q (qs_lss rfl rfl) ?_
  refine j_cond rfl (fun hc0 => ?_) (fun hc0 => ?_)
  · skip
    have hi1 : i < r.now.nm.length := by
      simp only [bnA] at *
      omega
    obtain ⟨g, off, rfl, _, hcl⟩ := rsl_addr hrn (by rw [strs_length, RM.ns_len]; omega)
    have hsx : strOk (r.now.ns.getD i []) := by
      rw [ns_at (List.getElem?_eq_getElem hi1)]
      exact hraw.ok _ (List.getElem_mem hi1)
    refine j_q (qs_nil rfl) ?_
    refine j_q (qs_field Tryz.underlying60 rfl sz53 (by decide) rfl) ?_
    refine j_q (qs_loadO (rdo_base (RF.in_gf hin) (by simp)) Tryz.underlying53 rfl rfl rfl) ?_
    refine j_q (qs_nil rfl) ?_
    refine j_q (qs_field Tryz.underlying57 rfl sz54 (by decide) rfl) ?_
    refine j_q (qs_loadO (rdo_base (RM.in_gs (RF.in_now hin)) (by simp)) Tryz.underlying54 rfl rfl rfl) ?_
    refine j_q (qs_ixn (g := g) (off := off) (i := i) Tryz.underlying54 sz9 hnv rfl hi1) ?_
    refine j_q (qs_loadR (v := .string (bs (r.now.ns.getD i []))) (a := ⟨g, off, none⟩) (i := i) (rd_cells hcl (by simp)) Tryz.underlying9 rfl (by rw [add_off]; show Value.pointer (some ⟨g, off + i * 1, none⟩) = _; rw [Nat.mul_one]) (strs_get (by rw [RM.ns_len]; omega))) ?_
    refine j_q (qs_lens Tryz.underlying9 rfl) ?_
    refine j_q (qs_lens Tryz.underlying9 rfl) ?_
    refine j_q (qs_geq rfl rfl) ?_
    refine j_g rfl (fun hb => qs_mt rfl) ?_
    refine j_g rfl (fun hb => qs_mt rfl) ?_
    refine j_g rfl (fun hb => qs_lens Tryz.underlying9 (gd_eq hb)) ?_
    refine j_g rfl (fun hb => qs_cuts (a := 0) (z := p.length) Tryz.underlying9 (gd_eq hb) rfl ⟨.i64, gd_eq hb⟩ (by omega) (by simp only [bnA] at *; omega)) ?_
    rw [List.drop_zero]
    refine j_g rfl (fun hb => qs_mt rfl) ?_
    refine j_g rfl (fun hb => qs_seql (gd_eq hb) (gd_eq hb)) ?_
    refine j_q (qs_and rfl rfl) ?_
    refine j_cond rfl (fun hc1 => ?_) (fun hc1 => ?_)
    · skip
      have hpre : preB p (r.now.ns.getD i []) = true := by
        rw [← hc1]
        unfold preB
        by_cases h : p.length ≤ (r.now.ns.getD i []).length
        · rw [decide_eq_true h, decide_eq_true (show ((r.now.ns.getD i []).length : Int) ≥ (p.length : Int) by omega)]
        · rw [decide_eq_false h, decide_eq_false (show ¬ ((r.now.ns.getD i []).length : Int) ≥ (p.length : Int) by omega)]
      refine j_lit (vs := [.string (bs _)]) Tryz.underlying54 sz9 zero9 rfl (by simp [oneV]) ⟨rfl, by decide⟩ (fun g29 v29 c29 hv29 hc29 ho29 => ?_)
      subst hv29 hc29
      refine j_append 1 Tryz.underlying54 Tryz.underlying54 (.inr ⟨_, rfl⟩) sb9 zero9 rfl hown rfl (.inl ⟨_, _, rfl, own_rd ho29 0 rfl, rfl⟩) (by intro u hu; rw [List.mem_singleton] at hu; rw [hu]; rfl) ⟨(by rw [strs_length]; simp only [List.length_singleton]; have h8 := List.length_filter_le (preB p) (r.now.ns.take i); have h9 := List.length_take_le i r.now.ns; omega), (by decide)⟩ (fun v30 c30 ho30 => ?_)
      refine j_q (qs_add64 rfl rfl (by first | omega | (simp only [bnA] at *; omega))) ?_
      refine j_subl (S' := [c30]) (by repeat first | exact slR _ | exact slN _ | apply slC | apply slD) ?_
      refine j_back rfl ?_
      exact ⟨r.now.nm.length - (i + 1), by omega, i + 1, _, _, rfl, rfl, by rw [names_succ hi1, hpre, if_pos rfl, strs_append]; exact ho30, hi1, rfl⟩
    · skip
      have hpre : preB p (r.now.ns.getD i []) = false := by
        rw [← hc1]
        unfold preB
        by_cases h : p.length ≤ (r.now.ns.getD i []).length
        · rw [decide_eq_true h, decide_eq_true (show ((r.now.ns.getD i []).length : Int) ≥ (p.length : Int) by omega)]
        · rw [decide_eq_false h, decide_eq_false (show ¬ ((r.now.ns.getD i []).length : Int) ≥ (p.length : Int) by omega)]
      refine j_q (qs_add64 rfl rfl (by first | omega | (simp only [bnA] at *; omega))) ?_
      refine j_back rfl ?_
      exact ⟨r.now.nm.length - (i + 1), by omega, i + 1, _, _, rfl, rfl, by rw [names_succ hi1, hpre, if_neg (by decide), List.append_nil]; exact hown, hi1, rfl⟩
  · skip
    obtain rfl : i = r.now.nm.length := by
      simp only [bnA] at *
      omega
    refine j_ret_con (vs := [_]) (fun w' hw' => ⟨rfl, trivial⟩) ?_
    refine ⟨c, rfl, ?_⟩
    rw [show r.now.nm.length = r.now.ns.length from (RM.ns_len _).symm, List.take_length, hok.nw.names] at hown
    exact hown
theorem rnode_con (r : RF) (a : AF) (n : List UInt8) (w : World) (hin : In w r.heap) (hok : r.Ok a) : Con Tryz.prog 55 [r.ptr, .string (bs n)] w [] fun u _ => u = .tuple #[.string (bs (nodeF a.now n)), .int .i64 (nodeK a.now n)] := by
  refine con_of_tree mix Tryz.func55 T55_ok (by kernel_rfl) ?_
  unfold T55
  have hraw := hok.nw.raw
  obtain ⟨A, cap, hnv, hcap⟩ := rsl_form (RM.rn hraw (RF.in_now hin))
  rw [strs_length, RM.ns_len] at hnv hcap
  have hrn := RM.rn hraw (RF.in_now hin)
  rw [hnv] at hrn
  have hle := hraw.le
  obtain ⟨A2, cap2, hfv, hcap2⟩ := rsl_form (RM.rf hraw (RF.in_now hin))
  rw [RM.ps_len] at hfv hcap2
  have hrf := RM.rf hraw (RF.in_now hin)
  rw [hfv] at hrf
  refine j_q (qs_ac) ?_
  refine j_q (qs_ac) ?_
  refine j_q (qs_nil rfl) ?_
  refine j_q (qs_field Tryz.underlying60 rfl sz53 (by decide) rfl) ?_
  refine j_q (qs_loadO (rdo_base (RF.in_gf hin) (by simp)) Tryz.underlying53 rfl rfl rfl) ?_
  refine j_q (qs_call ent68 rfl rfl rfl (fun w' hw' => rget_con r.now n w' (in_keep (RF.in_now hin) hw') hraw)) ?_
  refine j_q (qs_pnil (A := (alook r.now.nm n).map fun p => ⟨p.1, 0, none⟩) Tryz.underlying98 rfl) ?_
  rw [gadr_none]
  refine j_cond rfl (fun hc0 => ?_) (fun hc0 => ?_)
  · skip
    have hl0 : alook a.now.nm n = none := hok.nw.get0.1 (by simpa using hc0)
    refine j_q (qs_ac) ?_
    refine j_q (qs_ac) ?_
    refine j_ret_con (vs := [_, _]) (fun w' hw' => ⟨rfl, rfl, trivial⟩) ?_
    simp only [nodeF, nodeK, hl0]
    rfl
  · skip
    have hl0 : alook a.now.nm n ≠ none := fun e => by
      rw [hok.nw.get0.2 e] at hc0
      simp at hc0
    obtain ⟨id, hid⟩ := Option.ne_none_iff_exists'.1 hl0
    obtain ⟨f, hf, hlk, hfi, hfx⟩ := hok.nw.get hid
    rw [in_addr hok.nw.toRS0 hlk]
    refine j_q (qs_ac) ?_
    refine j_loop (fun m vs S' => ∃ i : Nat, vs = [.int .i64 (i : Int)] ∧ S' = [[]] ∧ (∀ j q, j < i → r.now.nm[j]? = some q → q.2.2 ≠ f.id) ∧ i ≤ r.now.nm.length ∧ m = r.now.nm.length - i) ⟨_, 0, rfl, rfl, (fun j q hj => by omega), Nat.zero_le _, rfl⟩ ?_
    rintro m vs S' hlen ⟨i, rfl, rfl, hall, hi, rfl⟩
    refine j_q (qs_nil rfl) ?_
    refine j_q (qs_field Tryz.underlying60 rfl sz53 (by decide) rfl) ?_
    refine j_q (qs_loadO (rdo_base (RF.in_gf hin) (by simp)) Tryz.underlying53 rfl rfl rfl) ?_
    refine j_q (qs_nil rfl) ?_
    refine j_q (qs_field Tryz.underlying57 rfl sz55 (by decide) rfl) ?_
    refine j_q (qs_loadO (rdo_base (RM.in_gs (RF.in_now hin)) (by simp)) Tryz.underlying55 rfl rfl rfl) ?_
    refine j_q (qs_lenl (n := r.now.nm.length) (A := A2) (c := cap2) Tryz.underlying55 hfv) ?_
    refine j_q (qs_lss rfl rfl) ?_
    refine j_cond rfl (fun hc1 => ?_) (fun hc1 => ?_)
    · skip
      have hi1 : i < r.now.nm.length := by
        simp only [bnA] at *
        omega
      obtain ⟨g2, off2, rfl, _, hcl2⟩ := rsl_addr hrf (by rw [RM.ps_len]; omega)
      obtain ⟨g, off, rfl, _, hcl⟩ := rsl_addr hrn (by rw [strs_length, RM.ns_len]; omega)
      obtain ⟨⟨nn, gq, iq⟩, hq⟩ : ∃ q, r.now.nm[i]? = some q := ⟨_, List.getElem?_eq_getElem hi1⟩
      obtain ⟨x, hx, hxg, hxi⟩ := hraw.has _ (List.mem_of_getElem? hq)
      simp only at hxg hxi
      subst hxg hxi
      refine j_q (qs_nil rfl) ?_
      refine j_q (qs_field Tryz.underlying60 rfl sz53 (by decide) rfl) ?_
      refine j_q (qs_loadO (rdo_base (RF.in_gf hin) (by simp)) Tryz.underlying53 rfl rfl rfl) ?_
      refine j_q (qs_nil rfl) ?_
      refine j_q (qs_field Tryz.underlying57 rfl sz55 (by decide) rfl) ?_
      refine j_q (qs_loadO (rdo_base (RM.in_gs (RF.in_now hin)) (by simp)) Tryz.underlying55 rfl rfl rfl) ?_
      refine j_q (qs_ixn (g := g2) (off := off2) (i := i) Tryz.underlying55 sz98 hfv rfl hi1) ?_
      refine j_q (qs_loadR (v := fptr (x.g, x.id)) (a := ⟨g2, off2, none⟩) (i := i) (rd_cells hcl2 (by simp)) Tryz.underlying98 rfl (by rw [add_off]; show Value.pointer (some ⟨g2, off2 + i * 1, none⟩) = _; rw [Nat.mul_one]) (rdst_at hq)) ?_
      refine j_q (qs_peq (A := some ⟨x.g, 0, none⟩) Tryz.underlying98 sz100 (by decide) rfl rfl (fun a' ha' => by
        injection ha' with ha'
        subst ha'
        exact ⟨_, _, rdo_base (RM.in_f (RF.in_now hin) hx) (by simp)⟩) ⟨_, _, rdo_base (RM.in_f (RF.in_now hin) hf) (by simp)⟩) ?_
      refine j_cond rfl (fun hc2 => ?_) (fun hc2 => ?_)
      · skip
        have he : x = f := fs_of hraw hf hx (by simpa [fptr] using hc2)
        refine j_draw ?_
        refine jq_q (qs_nil rfl) ?_
        refine jq_q (qs_field Tryz.underlying60 rfl sz53 (by decide) rfl) ?_
        refine jq_q (qs_loadO (rdo_base (RF.in_gf hin) (by simp)) Tryz.underlying53 rfl rfl rfl) ?_
        refine jq_q (qs_nil rfl) ?_
        refine jq_q (qs_field Tryz.underlying57 rfl sz54 (by decide) rfl) ?_
        refine jq_q (qs_loadO (rdo_base (RM.in_gs (RF.in_now hin)) (by simp)) Tryz.underlying54 rfl rfl rfl) ?_
        refine jq_q (qs_ixn (g := g) (off := off) (i := i) Tryz.underlying54 sz9 hnv rfl hi1) ?_
        refine jq_q (qs_loadR (v := .string (bs nn)) (a := ⟨g, off, none⟩) (i := i) (rd_cells hcl (by simp)) Tryz.underlying9 rfl (by rw [add_off]; show Value.pointer (some ⟨g, off + i * 1, none⟩) = _; rw [Nat.mul_one]) (by rw [strs_get (by rw [RM.ns_len]; omega), ns_at hq])) ?_
        refine jq_q (qs_nil rfl) ?_
        refine jq_q (qs_field Tryz.underlying60 rfl sz53 (by decide) rfl) ?_
        refine jq_q (qs_loadO (rdo_base (RF.in_gf hin) (by simp)) Tryz.underlying53 rfl rfl rfl) ?_
        refine jq_q (qs_call ent78 rfl rfl rfl (fun w' hw' => rnames_con r.now f w' (in_keep (RF.in_now hin) hw') hraw hf)) ?_
        refine jq_nil ?_
        refine j_ret_con (vs := [_, _]) (fun w' hw' => ⟨rfl, rfl, trivial⟩) ?_
        subst he
        have hk : nodeK a.now n = (cntR r.now.nm x.id : Int) := by simp only [nodeK, hid, hok.nw.cnt, hfi]
        have hnf : nodeF a.now n = nn := by
          simp only [nodeF, hid]
          rw [hok.nw.sorted]
          have hn : ∀ j, j < r.now.nm.length → ∃ q, r.now.nm[j]? = some q ∧ r.now.ns.getD j [] = q.1 ∧ alook a.now.nm q.1 = some q.2.2 := fun j hj => by
            refine ⟨r.now.nm[j], List.getElem?_eq_getElem hj, ns_at (List.getElem?_eq_getElem hj), ?_⟩
            have e2 : alook r.now.nm (r.now.nm[j]).1 = some (r.now.nm[j]).2 := alook_of_mem hraw.rise.nd (by exact List.getElem_mem hj)
            rw [← hok.nw.look, e2]
            rfl
          have hfa := find_at (p := fun m => decide (alook a.now.nm m = some id)) (l := r.now.ns) (d := []) (i := i) (by rw [RM.ns_len]; exact hi1) (by
            obtain ⟨q, h1, h2, h3⟩ := hn i hi1
            rw [h2, h3, decide_eq_true_eq]
            rw [hq] at h1
            injection h1 with h1
            rw [← h1]
            exact congrArg some hfi) (fun j hj => by
            obtain ⟨q, h1, h2, h3⟩ := hn j (by omega)
            rw [h2, h3, decide_eq_false_iff_not]
            intro e
            injection e with e
            exact hall j q hj h1 (e.trans hfi.symm))
          rw [hfa, ns_at hq]
          rfl
        rw [hk, hnf]
        rfl
      · skip
        have he : x.id ≠ f.id := fun e => by
          rw [fs_ofi hraw hf hx e] at hc2
          simp [fptr] at hc2
        refine j_q (qs_add64 rfl rfl (by first | omega | (simp only [bnA] at *; omega))) ?_
        refine j_back rfl ?_
        exact ⟨r.now.nm.length - (i + 1), by omega, i + 1, rfl, rfl, fun j q hj hq2 => by
          rcases Nat.lt_or_ge j i with h | h
          · exact hall j q h hq2
          · obtain rfl : j = i := by omega
            rw [hq] at hq2
            injection hq2 with hq2
            rw [← hq2]
            exact he, hi1, rfl⟩
    · skip
      have hi2 : i = r.now.nm.length := by
        simp only [bnA] at *
        omega
      obtain ⟨j, hj, ej⟩ := List.getElem_of_mem (alook_mem hlk)
      exact absurd (by rw [ej]) (hall j r.now.nm[j] (by omega) (List.getElem?_eq_getElem hj))
theorem rcopy_con (r : RF) (a : AF) (w : World) (hin : In w r.heap) (hok : r.Ok a) : Con Tryz.prog 9 [r.ptr] w [] fun v S' => ∃ r' : RF, S' = [r'.ownR] ∧ v = r'.ptr ∧ r'.Ok { a with fused := false, left := 0 } ∧ r'.P = r.P := by
  refine con_of_tree mix Tryz.func9 T9_ok (by kernel_rfl) ?_
  unfold T9
  obtain ⟨A1, cap1, hlv⟩ := hok.lenP
  have hlen := hok.len
  have hlt := hok.lt
  have hrow := hok.row
  rw [hlv] at hrow
  have honeT : ∀ u ∈ encTs r.L, oneV u = true := encTs_one hok.ot
  refine j_q (qs_ac) ?_
  refine j_mix [] (Le.of_sub (List.nil_sublist _)) ?_
  refine j_mq (qs_nil rfl) ?_
  refine j_mq (qs_field Tryz.underlying60 rfl sz3 (by decide) rfl) ?_
  refine j_mq (qs_loadO (rdo_base (RF.in_gf hin) (by simp)) Tryz.underlying3 rfl rfl rfl) ?_
  refine j_mq (qs_nil rfl) ?_
  refine j_mq (qs_field Tryz.underlying60 rfl sz53 (by decide) rfl) ?_
  refine j_mq (qs_loadO (rdo_base (RF.in_gf hin) (by simp)) Tryz.underlying53 rfl rfl rfl) ?_
  refine j_mq (qs_nil rfl) ?_
  refine j_mq (qs_field Tryz.underlying60 rfl sz53 (by decide) rfl) ?_
  refine j_mq (qs_loadO (rdo_base (RF.in_gf hin) (by simp)) Tryz.underlying53 rfl rfl rfl) ?_
  refine j_mq (qs_nil rfl) ?_
  refine j_mq (qs_field Tryz.underlying60 rfl sz58 (by decide) rfl) ?_
  refine j_mq (qs_loadO (rdo_base (RF.in_gf hin) (by simp)) Tryz.underlying58 rfl rfl rfl) ?_
  refine j_both ?_ ?_
  · skip
    refine j_call0 ent23 rfl rfl rfl (fun w' hw' => rclone_con r.base r.P a.base w' (in_keep (RF.in_base hin) hw') hok.bs) (fun u S2 hu => ?_)
    obtain ⟨s1, rfl, rfl, hs1⟩ := hu
    refine j_mD0 (Le.of_sub (by repeat first | exact slR _ | exact slN _ | apply slC | apply slD)) ?_
    refine j_both ?_ ?_
    · skip
      refine j_call0 ent23 rfl rfl rfl (fun w' hw' => rclone_con r.now r.P a.now w' (in_keep (RF.in_now hin) hw') hok.nw) (fun u S2 hu => ?_)
      obtain ⟨s2, rfl, rfl, hs2⟩ := hu
      refine j_mD0 (Le.of_sub (by repeat first | exact slR _ | exact slN _ | apply slC | apply slD)) ?_
      refine j_lit0 Tryz.underlying58 sz109 (fun g15 hg15 ho15 => ?_)
      refine j_mD0 (Le.of_sub (by repeat first | exact slR _ | exact slN _ | apply slC | apply slD)) ?_
      refine j_append 0 Tryz.underlying58 Tryz.underlying58 (.inr ⟨_, rfl⟩) sb109 zero109 rfl ho15 rfl (hlv ▸ own_srcIn hrow (RF.in_lc hin)) honeT ⟨(by simp only [List.length_nil]; rw [encTs_len]; omega), (by decide)⟩ (fun v16 c16 ho16 => ?_)
      refine j_mD0 (Le.of_sub (by repeat first | exact slR _ | exact slN _ | apply slC | apply slD)) ?_
      rw [List.nil_append] at ho16
      have hvc : v16.cells = #[v16] := by
        obtain ⟨n', A', cap', e', _⟩ := own_form ho16 (by decide)
        rw [e']
        rfl
      refine j_mq (qs_build (places := [(0, 1), (1, 1), (2, 1), (3, 1), (4, 1)]) (offs := [(0, [.int .i64 r.room]), (1, [s1.ptr]), (2, [s2.ptr]), (3, [v16]), (4, [.int .i64 (-1)])]) Tryz.underlying60 zero60 (by kernel_rfl) rfl (by rintro (_ | _ | _ | _ | _ | j) p q hp hq <;> first | (simp at hp hq; subst hp hq; exact ⟨rfl, rfl, by simp⟩) | (simp at hp hq; subst hp hq; exact ⟨rfl, hvc, by simp⟩) | (simp at hp))) ?_
      refine j_box (l := [.int .i64 r.room, s1.ptr, s2.ptr, v16, .int .i64 (-1)]) rfl (fun g18 hg18 hs18 => ?_)
      refine j_mR _ (.refl _) ?_
      refine j_mend ?_
      refine j_perm (S' := [RF.ownR (⟨g18, r.room, s1, s2, r.L, v16, c16, -1, r.P⟩ : RF)]) (by
        classical
        refine List.perm_iff_count.2 fun x => ?_
        simp only [RF.ownR, RF.obj, rfcells, RM.ptr, List.set, List.flatten_cons, List.flatten_nil, List.append_nil, List.nil_append, List.cons_append, List.count_append, List.count_cons, List.count_nil] <;> omega) ?_
      refine j_ret_con (vs := [_]) (fun w' hw' => ⟨rfl, trivial⟩) ?_
      exact ⟨(⟨g18, r.room, s1, s2, r.L, v16, c16, -1, r.P⟩ : RF), rfl, rfl, ⟨hok.rm, hok.r0, rfl, ⟨Int.le_refl 0, by show (0 : Int) ≤ _; decide⟩, hok.pd, ho16, hok.ot, hok.lt, hok.ok, hs1, hs2⟩, rfl⟩
    · skip
      refine j_lit0 Tryz.underlying58 sz109 (fun g19 hg19 ho19 => ?_)
      refine j_mD0 (Le.of_sub (by repeat first | exact slR _ | exact slN _ | apply slC | apply slD)) ?_
      refine j_call0 ent23 rfl rfl rfl (fun w' hw' => rclone_con r.now r.P a.now w' (in_keep (RF.in_now hin) hw') hok.nw) (fun u S2 hu => ?_)
      obtain ⟨s2, rfl, rfl, hs2⟩ := hu
      refine j_mD0 (Le.of_sub (by repeat first | exact slR _ | exact slN _ | apply slC | apply slD)) ?_
      refine j_append 1 Tryz.underlying58 Tryz.underlying58 (.inr ⟨_, rfl⟩) sb109 zero109 rfl ho19 rfl (hlv ▸ own_srcIn hrow (RF.in_lc hin)) honeT ⟨(by simp only [List.length_nil]; rw [encTs_len]; omega), (by decide)⟩ (fun v21 c21 ho21 => ?_)
      refine j_mD0 (Le.of_sub (by repeat first | exact slR _ | exact slN _ | apply slC | apply slD)) ?_
      rw [List.nil_append] at ho21
      have hvc : v21.cells = #[v21] := by
        obtain ⟨n', A', cap', e', _⟩ := own_form ho21 (by decide)
        rw [e']
        rfl
      refine j_mq (qs_build (places := [(0, 1), (1, 1), (2, 1), (3, 1), (4, 1)]) (offs := [(0, [.int .i64 r.room]), (1, [s1.ptr]), (2, [s2.ptr]), (3, [v21]), (4, [.int .i64 (-1)])]) Tryz.underlying60 zero60 (by kernel_rfl) rfl (by rintro (_ | _ | _ | _ | _ | j) p q hp hq <;> first | (simp at hp hq; subst hp hq; exact ⟨rfl, rfl, by simp⟩) | (simp at hp hq; subst hp hq; exact ⟨rfl, hvc, by simp⟩) | (simp at hp))) ?_
      refine j_box (l := [.int .i64 r.room, s1.ptr, s2.ptr, v21, .int .i64 (-1)]) rfl (fun g23 hg23 hs23 => ?_)
      refine j_mR _ (.refl _) ?_
      refine j_mend ?_
      refine j_perm (S' := [RF.ownR (⟨g23, r.room, s1, s2, r.L, v21, c21, -1, r.P⟩ : RF)]) (by
        classical
        refine List.perm_iff_count.2 fun x => ?_
        simp only [RF.ownR, RF.obj, rfcells, RM.ptr, List.set, List.flatten_cons, List.flatten_nil, List.append_nil, List.nil_append, List.cons_append, List.count_append, List.count_cons, List.count_nil] <;> omega) ?_
      refine j_ret_con (vs := [_]) (fun w' hw' => ⟨rfl, trivial⟩) ?_
      exact ⟨(⟨g23, r.room, s1, s2, r.L, v21, c21, -1, r.P⟩ : RF), rfl, rfl, ⟨hok.rm, hok.r0, rfl, ⟨Int.le_refl 0, by show (0 : Int) ≤ _; decide⟩, hok.pd, ho21, hok.ot, hok.lt, hok.ok, hs1, hs2⟩, rfl⟩
  · skip
    refine j_lit0 Tryz.underlying58 sz109 (fun g24 hg24 ho24 => ?_)
    refine j_mD0 (Le.of_sub (by repeat first | exact slR _ | exact slN _ | apply slC | apply slD)) ?_
    refine j_call0 ent23 rfl rfl rfl (fun w' hw' => rclone_con r.base r.P a.base w' (in_keep (RF.in_base hin) hw') hok.bs) (fun u S2 hu => ?_)
    obtain ⟨s1, rfl, rfl, hs1⟩ := hu
    refine j_mD0 (Le.of_sub (by repeat first | exact slR _ | exact slN _ | apply slC | apply slD)) ?_
    refine j_call0 ent23 rfl rfl rfl (fun w' hw' => rclone_con r.now r.P a.now w' (in_keep (RF.in_now hin) hw') hok.nw) (fun u S2 hu => ?_)
    obtain ⟨s2, rfl, rfl, hs2⟩ := hu
    refine j_mD0 (Le.of_sub (by repeat first | exact slR _ | exact slN _ | apply slC | apply slD)) ?_
    refine j_append 2 Tryz.underlying58 Tryz.underlying58 (.inr ⟨_, rfl⟩) sb109 zero109 rfl ho24 rfl (hlv ▸ own_srcIn hrow (RF.in_lc hin)) honeT ⟨(by simp only [List.length_nil]; rw [encTs_len]; omega), (by decide)⟩ (fun v27 c27 ho27 => ?_)
    refine j_mD0 (Le.of_sub (by repeat first | exact slR _ | exact slN _ | apply slC | apply slD)) ?_
    rw [List.nil_append] at ho27
    have hvc : v27.cells = #[v27] := by
      obtain ⟨n', A', cap', e', _⟩ := own_form ho27 (by decide)
      rw [e']
      rfl
    refine j_mq (qs_build (places := [(0, 1), (1, 1), (2, 1), (3, 1), (4, 1)]) (offs := [(0, [.int .i64 r.room]), (1, [s1.ptr]), (2, [s2.ptr]), (3, [v27]), (4, [.int .i64 (-1)])]) Tryz.underlying60 zero60 (by kernel_rfl) rfl (by rintro (_ | _ | _ | _ | _ | j) p q hp hq <;> first | (simp at hp hq; subst hp hq; exact ⟨rfl, rfl, by simp⟩) | (simp at hp hq; subst hp hq; exact ⟨rfl, hvc, by simp⟩) | (simp at hp))) ?_
    refine j_box (l := [.int .i64 r.room, s1.ptr, s2.ptr, v27, .int .i64 (-1)]) rfl (fun g29 hg29 hs29 => ?_)
    refine j_mR _ (.refl _) ?_
    refine j_mend ?_
    refine j_perm (S' := [RF.ownR (⟨g29, r.room, s1, s2, r.L, v27, c27, -1, r.P⟩ : RF)]) (by
      classical
      refine List.perm_iff_count.2 fun x => ?_
      simp only [RF.ownR, RF.obj, rfcells, RM.ptr, List.set, List.flatten_cons, List.flatten_nil, List.append_nil, List.nil_append, List.cons_append, List.count_append, List.count_cons, List.count_nil] <;> omega) ?_
    refine j_ret_con (vs := [_]) (fun w' hw' => ⟨rfl, trivial⟩) ?_
    exact ⟨(⟨g29, r.room, s1, s2, r.L, v27, c27, -1, r.P⟩ : RF), rfl, rfl, ⟨hok.rm, hok.r0, rfl, ⟨Int.le_refl 0, by show (0 : Int) ≤ _; decide⟩, hok.pd, ho27, hok.ot, hok.lt, hok.ok, hs1, hs2⟩, rfl⟩
end Go.Proofs.YtckpegkpdepokaaGreat
/-! Rz2 -/
namespace Go.Proofs.YtckpegkpdepokaaGreat
open Go Go.Sx
set_option maxRecDepth 100000
set_option maxHeartbeats 4000000
set_option linter.unusedVariables false
set_option linter.unusedSimpArgs false
attribute [local irreducible] J JQ QS Con W opW
open Go.MapKept Go.WideMaps Go.Maps
def spoiltN : List UInt8 := [115, 112, 111, 105, 108, 116]
theorem FR.Ok.shift {r : FR} {a : AF} (h : r.Ok a) {X : SH} {P : List BK} (hX : ∀ q ∈ r.X, q ∈ X) (hR : ∀ v xs, RV r.P v xs → RV P v xs) (h1 : VwA P r.ls) (h2 : VwA P r.now) : FR.Ok { r with X := X, P := P } a :=
  ⟨h.rm, h.fu, h.le, h.l0, h.pd, h.row, h.lt, fun m hm q hq => hX q (h.bx m hm q hq), fun m hm => MT.ok_mono (h.mo m hm) hR, h.ok, h.ls, h1, h.now, h2⟩
structure Shr (r r' : FR) (l : List SM) : Prop where
  gf : r'.gf = r.gf
  xs : ∀ q ∈ r.X, q ∈ r'.X
  rv : ∀ v xs, RV r.P v xs → RV r'.P v xs
  vw : ∀ s ∈ l, VwA r.P s → VwA r'.P s
theorem shr_of {w' : World} {r r' : FR} {l : List SM} {b : Base} {S : List SH} (h : FR.To w' r r') (hw : Sig b S w') (i : Nat) (hi : S[i]? = some r.heap) (hl : ∀ s ∈ l, ∃ (j : Nat) (c : SH), j ≠ i ∧ S[j]? = some c ∧ ∀ q ∈ s.heap, q ∈ c) : Shr r r' l := by
  refine ⟨h.gf, h.xs, h.gr.1, fun s hs hv x hx => ?_⟩
  obtain ⟨j, c, hji, hj, hc⟩ := hl s hs
  have hxm : x.h ∈ s.heap := by
    unfold SM.heap
    exact List.mem_append_right _ (List.mem_map.2 ⟨x, hx, rfl⟩)
  have hxc := hc _ hxm
  have hlt : x.g < w'.heap.size := lt_of_get (hw.own x.h (mem_flatten_of hj hxc))
  refine h.gr.2 x.g hlt (fun hd => ?_) _ _ (hv x hx)
  have hxd : x.g ∈ dom c := List.mem_map.2 ⟨x.h, hxc, rfl⟩
  rcases Nat.lt_or_ge i j with hij | hij
  · exact nodup_two hw.nodup hij hi hj x.g hd hxd
  · exact nodup_two hw.nodup (by omega : j < i) hj hi x.g hxd hd
theorem Shr.trans {r r' r'' : FR} {l : List SM} (h1 : Shr r r' l) (h2 : Shr r' r'' l) : Shr r r'' l := ⟨h2.gf.trans h1.gf, fun q hq => h2.xs q (h1.xs q hq), fun v xs h => h2.rv v xs (h1.rv v xs h), fun s hs h => h2.vw s hs (h1.vw s hs h)⟩
theorem own_ls (r : FR) : ∀ q ∈ r.ls.heap, q ∈ r.own := fun q hq => by simp [FR.own, hq]
theorem own_now (r : FR) : ∀ q ∈ r.now.heap, q ∈ r.own := fun q hq => by simp [FR.own, hq]
theorem IdsLe.copy {a : AF} {k : Nat} (h : IdsLe a k) : IdsLe { a with fused := false, left := 0 } k := ⟨h.b, h.p⟩
theorem next_same {r : FR} {a : AF} (h : r.Ok a) (x : St) (i : Nat) : nextF a (usedN a.now) x i = nextF a a.now.used x i := by rw [usedN_of h.now]
theorem look_of_names {a : AF} {m : List UInt8} (hm : m ∈ namesA a.now []) : alook a.now.nm m ≠ none := by
  unfold namesA at hm
  have h1 := (List.mem_filter.1 (mem_sortS.1 hm)).1
  obtain ⟨q, hq, rfl⟩ := List.mem_map.1 h1
  exact fun e => alook_none.1 e q hq rfl
theorem newZ_con (room : Int) (w : World) (h : ¬ (0 ≤ room ∧ room ≤ 1073741824)) : Con Tryz.prog 6 [.int .i64 room] w [] fun v _ => v = .tuple #[.pointer none, .int .i64 1] := by
  refine con_of_tree mix Tryz.func6 T6_ok (by kernel_rfl) ?_
  unfold T6
  refine j_q (qs_ac) ?_
  refine j_q (qs_ac) ?_
  refine j_q (qs_lss rfl rfl) ?_
  refine j_g rfl (fun hb => qs_mt rfl) ?_
  refine j_g rfl (fun hb => qs_gtr (gd_eq hb) rfl) ?_
  refine j_q (qs_or rfl rfl) ?_
  refine j_cond rfl (fun hc0 => ?_) (fun hc0 => ?_)
  · skip
    refine j_q (qs_ac) ?_
    refine j_q (qs_ac) ?_
    refine j_ret_con (vs := [_, _]) (fun w' hw' => ⟨rfl, rfl, trivial⟩) ?_
    rfl
  · skip
    simp [gd] at hc0
    omega
theorem rnewZ_con (room : Int) (w : World) (h : ¬ (0 ≤ room ∧ room ≤ 1073741824)) : Con Tryz.prog 7 [.int .i64 room] w [] fun v _ => v = .tuple #[.pointer none, .int .i64 1] := by
  refine con_of_tree mix Tryz.func7 T7_ok (by kernel_rfl) ?_
  unfold T7
  refine j_q (qs_ac) ?_
  refine j_q (qs_ac) ?_
  refine j_q (qs_lss rfl rfl) ?_
  refine j_g rfl (fun hb => qs_mt rfl) ?_
  refine j_g rfl (fun hb => qs_gtr (gd_eq hb) rfl) ?_
  refine j_q (qs_or rfl rfl) ?_
  refine j_cond rfl (fun hc0 => ?_) (fun hc0 => ?_)
  · skip
    refine j_q (qs_ac) ?_
    refine j_q (qs_ac) ?_
    refine j_ret_con (vs := [_, _]) (fun w' hw' => ⟨rfl, rfl, trivial⟩) ?_
    rfl
  · skip
    simp [gd] at hc0
    omega
theorem stood_con (r : FR) (q : RF) (a : AF) (w : World) (hin : In w r.heap) (hinq : In w q.heap) (hok : r.Ok a) (hq : q.Ok a) : Con Tryz.prog 13 [r.ptr, q.ptr] w [] fun u _ => u = .bool true := by
  refine con_of_tree mix Tryz.func13 T13_ok (by kernel_rfl) ?_
  unfold T13
  obtain ⟨A1, cap1, hlv⟩ := hq.lenP
  refine j_q (qs_ac) ?_
  refine j_call0 ent49 rfl rfl rfl (fun w' hw' => rnamesP_con q a [] w' (in_keep hinq hw') hq (by decide)) (fun u S5 h5 => ?_)
  obtain ⟨d1, rfl, hd1⟩ := h5
  refine j_mix [] (Le.of_sub (List.nil_sublist _)) ?_
  refine j_call0 ent51 rfl rfl rfl (fun w' hw' => names_con r a [] w' (in_keep hin hw') hok (by decide)) (fun u S5 h5 => ?_)
  obtain ⟨d2, rfl, hd2⟩ := h5
  refine j_mD0 (Le.of_sub (by repeat first | exact slR _ | exact slN _ | apply slC | apply slD)) ?_
  refine j_q (qs_call ent50 rfl rfl rfl (fun w' hw' => texts_con (namesA a.now []) (namesA a.now []) _ _ w' (rsl_own hd2 0 rfl hw') (rsl_own hd1 1 rfl hw') (by have := namesA_len hok []; have := namesA_len hok [97]; omega) (by have := namesA_len hok []; have := namesA_len hok [97]; omega))) ?_
  rw [beq_self_eq_true]
  refine j_mR _ (.refl _) ?_
  refine j_mq (v := .bool false) (qs_not (b0 := true) rfl) ?_
  refine j_mgt rfl (qs_mt rfl) ?_
  refine j_mgt rfl (qs_mt rfl) ?_
  refine j_ga rfl ?_
  refine j_call0 ent51 rfl rfl rfl (fun w' hw' => names_con r a [97] w' (in_keep hin hw') hok (by decide)) (fun u S5 h5 => ?_)
  obtain ⟨d7, rfl, hd7⟩ := h5
  refine j_mD0 (Le.of_sub (by repeat first | exact slR _ | exact slN _ | apply slC | apply slD)) ?_
  refine j_ga rfl ?_
  refine j_call0 ent49 rfl rfl rfl (fun w' hw' => rnamesP_con q a [97] w' (in_keep hinq hw') hq (by decide)) (fun u S5 h5 => ?_)
  obtain ⟨d8, rfl, hd8⟩ := h5
  refine j_mR _ (.refl _) ?_
  refine j_ga rfl ?_
  refine j_q (qs_call ent50 rfl rfl rfl (fun w' hw' => texts_con (namesA a.now [97]) (namesA a.now [97]) _ _ w' (rsl_own hd7 1 rfl hw') (rsl_own hd8 0 rfl hw') (by have := namesA_len hok []; have := namesA_len hok [97]; omega) (by have := namesA_len hok []; have := namesA_len hok [97]; omega))) ?_
  rw [beq_self_eq_true]
  refine j_mR _ (.refl _) ?_
  refine j_mgt (v := .bool false) rfl (qs_not (b0 := true) rfl) ?_
  refine j_mq (v := .bool false) (qs_or (b0 := false) (b1 := false) rfl rfl) ?_
  refine j_mgt rfl (qs_mt rfl) ?_
  refine j_mgt rfl (qs_mt rfl) ?_
  refine j_ga rfl ?_
  refine j_q (qs_call ent52 rfl rfl rfl (fun w' hw' => usedR_con r a w' (in_keep hin hw') hok)) ?_
  refine j_mD0 (Le.of_sub (by repeat first | exact slR _ | exact slN _ | apply slC | apply slD)) ?_
  refine j_ga rfl ?_
  refine j_q (qs_call ent53 rfl rfl rfl (fun w' hw' => rused_con q q.P a.now w' (in_keep hinq hw') hq.nw)) ?_
  rw [usedN_of hok.now]
  refine j_mR _ (.refl _) ?_
  refine j_mgt rfl (qs_neq rfl rfl) ?_
  rw [show (a.now.used != a.now.used) = false by simp]
  refine j_mq (v := .bool false) (qs_or (b0 := false) (b1 := false) rfl rfl) ?_
  refine j_mgt rfl (qs_mt rfl) ?_
  refine j_mgt rfl (qs_mt rfl) ?_
  refine j_mgt rfl (qs_nil rfl) ?_
  refine j_mgt rfl (qs_field Tryz.underlying60 rfl sz58 (by decide) rfl) ?_
  refine j_mgt rfl (qs_loadO (rdo_base (RF.in_gf hinq) (by simp)) Tryz.underlying58 rfl rfl rfl) ?_
  refine j_mgt rfl (qs_lenl (n := q.L.length) (A := A1) (c := cap1) Tryz.underlying58 hlv) ?_
  refine j_ga rfl ?_
  refine j_q (qs_call ent54 rfl rfl rfl (fun w' hw' => (pending_con r a w' (in_keep hin hw') hok).mono (fun u S h => h.1))) ?_
  refine j_mD0 (Le.of_sub (by repeat first | exact slR _ | exact slN _ | apply slC | apply slD)) ?_
  refine j_mgt rfl (qs_neq rfl rfl) ?_
  rw [show ((a.pend.length : Int) != (q.L.length : Int)) = false by rw [hq.len]; simp]
  refine j_mq (v := .bool false) (qs_or (b0 := false) (b1 := false) rfl rfl) ?_
  refine j_mend ?_
  refine j_cond rfl (fun hc0 => ?_) (fun hc0 => ?_)
  · skip
    cases hc0
  · skip
    refine j_q (qs_ac) ?_
    obtain ⟨nx, Ax, capx, hvx, hnx⟩ := own_form hd1 (by decide)
    rw [strs_length, Nat.mul_one] at hnx
    subst hnx
    subst hvx
    refine j_subl (S' := [d1]) (by repeat first | exact slR _ | exact slN _ | apply slC | apply slD) ?_
    refine j_loop (fun m vs S' => ∃ i : Nat, vs = [.int .i64 (i : Int)] ∧ S' = [d1] ∧ i ≤ (namesA a.now []).length ∧ m = (namesA a.now []).length - i) ⟨_, 0, rfl, rfl, Nat.zero_le _, rfl⟩ ?_
    rintro m vs S' hlen ⟨i, rfl, rfl, hi, rfl⟩
    refine j_q (qs_lenl (n := (namesA a.now []).length) (A := Ax) (c := capx) Tryz.underlying54 rfl) ?_
    refine j_q (qs_lss rfl rfl) ?_
    refine j_cond rfl (fun hc1 => ?_) (fun hc1 => ?_)
    · skip
      have hxl9 := namesA_len hok []
      have hi1 : i < (namesA a.now []).length := by
        simp only [bnA] at *
        omega
      obtain ⟨gx, rfl⟩ := own_addr hd1 (by rw [strs_length]; omega)
      have hxm : (namesA a.now []).getD i [] ∈ (namesA a.now []) := by rw [List.getD_eq_getElem?_getD, List.getElem?_eq_getElem hi1]; exact List.getElem_mem hi1
      have hnx : strOk ((namesA a.now []).getD i []) := namesA_ok hok hxm
      refine j_q (qs_ixn (g := gx) (off := 0) (n := (namesA a.now []).length) (c := capx) (i := i) Tryz.underlying54 sz9 rfl rfl hi1) ?_
      refine j_q (qs_loadR (v := .string (bs ((namesA a.now []).getD i []))) (a := ⟨gx, 0, none⟩) (i := i) (own_rd hd1 0 rfl) Tryz.underlying9 rfl (by rw [add_off]; show Value.pointer (some ⟨gx, 0 + i * 1, none⟩) = _; rw [Nat.mul_one]) (str_get hi1)) ?_
      refine j_call0 ent16 rfl rfl rfl (fun w' hw' => readRO_con r a _ w' (in_keep hin hw') hok hnx) (fun u S5 h5 => ?_)
      obtain ⟨v33, c33, rfl, rfl, ho33⟩ := h5
      refine j_q (qs_ext (vs := [v33, .int .i64 (readE a.now ((namesA a.now []).getD i []))]) rfl rfl) ?_
      refine j_q (qs_ext (vs := [v33, .int .i64 (readE a.now ((namesA a.now []).getD i []))]) rfl rfl) ?_
      refine j_q (qs_ixn (g := gx) (off := 0) (n := (namesA a.now []).length) (c := capx) (i := i) Tryz.underlying54 sz9 rfl rfl hi1) ?_
      refine j_q (qs_loadR (v := .string (bs ((namesA a.now []).getD i []))) (a := ⟨gx, 0, none⟩) (i := i) (own_rd hd1 1 rfl) Tryz.underlying9 rfl (by rw [add_off]; show Value.pointer (some ⟨gx, 0 + i * 1, none⟩) = _; rw [Nat.mul_one]) (str_get hi1)) ?_
      refine j_call0 ent48 rfl rfl rfl (fun w' hw' => rread_con q a _ w' (in_keep hinq hw') hq) (fun u S5 h5 => ?_)
      obtain ⟨v38, c38, rfl, rfl, ho38⟩ := h5
      refine j_q (qs_ext (vs := [v38, .int .i64 (readE a.now ((namesA a.now []).getD i []))]) rfl rfl) ?_
      refine j_q (qs_ext (vs := [v38, .int .i64 (readE a.now ((namesA a.now []).getD i []))]) rfl rfl) ?_
      refine j_q (qs_ixn (g := gx) (off := 0) (n := (namesA a.now []).length) (c := capx) (i := i) Tryz.underlying54 sz9 rfl rfl hi1) ?_
      refine j_q (qs_loadR (v := .string (bs ((namesA a.now []).getD i []))) (a := ⟨gx, 0, none⟩) (i := i) (own_rd hd1 2 rfl) Tryz.underlying9 rfl (by rw [add_off]; show Value.pointer (some ⟨gx, 0 + i * 1, none⟩) = _; rw [Nat.mul_one]) (str_get hi1)) ?_
      refine j_q (qs_call ent17 rfl rfl rfl (fun w' hw' => nodeR_con r a _ w' (in_keep hin hw') hok hnx)) ?_
      refine j_q (qs_ext (vs := [.string (bs (nodeF a.now ((namesA a.now []).getD i []))), .int .i64 (nodeK a.now ((namesA a.now []).getD i []))]) rfl rfl) ?_
      refine j_q (qs_ext (vs := [.string (bs (nodeF a.now ((namesA a.now []).getD i []))), .int .i64 (nodeK a.now ((namesA a.now []).getD i []))]) rfl rfl) ?_
      refine j_q (qs_ixn (g := gx) (off := 0) (n := (namesA a.now []).length) (c := capx) (i := i) Tryz.underlying54 sz9 rfl rfl hi1) ?_
      refine j_q (qs_loadR (v := .string (bs ((namesA a.now []).getD i []))) (a := ⟨gx, 0, none⟩) (i := i) (own_rd hd1 2 rfl) Tryz.underlying9 rfl (by rw [add_off]; show Value.pointer (some ⟨gx, 0 + i * 1, none⟩) = _; rw [Nat.mul_one]) (str_get hi1)) ?_
      refine j_q (qs_call ent55 rfl rfl rfl (fun w' hw' => rnode_con q a _ w' (in_keep hinq hw') hq)) ?_
      refine j_q (qs_ext (vs := [.string (bs (nodeF a.now ((namesA a.now []).getD i []))), .int .i64 (nodeK a.now ((namesA a.now []).getD i []))]) rfl rfl) ?_
      refine j_q (qs_ext (vs := [.string (bs (nodeF a.now ((namesA a.now []).getD i []))), .int .i64 (nodeK a.now ((namesA a.now []).getD i []))]) rfl rfl) ?_
      refine j_q (qs_neq rfl rfl) ?_
      rw [show (readE a.now ((namesA a.now []).getD i []) != 0) = false by unfold readE; rw [if_neg (look_of_names hxm)]; rfl]
      refine j_gt rfl (qs_mt rfl) ?_
      refine j_gt rfl (qs_mt rfl) ?_
      refine j_gt rfl (qs_call ent18 rfl rfl rfl (fun w' hw' => same_con _ _ _ _ w' (own_br ho33 1 rfl hw') (own_br ho38 0 rfl hw') (contA_le hok _))) ?_
      rw [beq_self_eq_true]
      refine j_gt (v := .bool false) rfl (qs_not (b0 := true) rfl) ?_
      refine j_q (v := .bool false) (qs_or (b0 := false) (b1 := false) rfl rfl) ?_
      refine j_gt rfl (qs_mt rfl) ?_
      refine j_gt rfl (qs_mt rfl) ?_
      refine j_gt rfl (qs_sneq (l := nodeF a.now ((namesA a.now []).getD i [])) (l' := nodeF a.now ((namesA a.now []).getD i [])) rfl rfl) ?_
      rw [beq_self_eq_true]
      refine j_q (v := .bool false) (qs_or (b0 := false) (b1 := false) rfl rfl) ?_
      refine j_gt rfl (qs_mt rfl) ?_
      refine j_gt rfl (qs_mt rfl) ?_
      refine j_gt rfl (qs_neq rfl rfl) ?_
      rw [show (nodeK a.now ((namesA a.now []).getD i []) != nodeK a.now ((namesA a.now []).getD i [])) = false by simp]
      refine j_q (v := .bool false) (qs_or (b0 := false) (b1 := false) rfl rfl) ?_
      refine j_cond rfl (fun hc2 => ?_) (fun hc2 => ?_)
      · skip
        cases hc2
      · skip
        refine j_q (qs_add64 rfl rfl (by first | omega | (simp only [bnA] at *; omega))) ?_
        refine j_subl (S' := [d1]) (by repeat first | exact slR _ | exact slN _ | apply slC | apply slD) ?_
        refine j_back rfl ?_
        exact ⟨(namesA a.now []).length - (i + 1), by omega, i + 1, rfl, rfl, by omega, rfl⟩
    · skip
      refine j_q (qs_ac) ?_
      refine j_ret_con (vs := [_]) (fun w' hw' => ⟨rfl, trivial⟩) ?_
      rfl
theorem fsPlaysZ_con (room : Int) (rs : List St) (vl : Value) (w : World) (hs : Script w vl rs) (h : ¬ (0 ≤ room ∧ room ≤ 1073741824)) : Con Tryz.prog 3 [.int .i64 room, vl] w [] fun u _ => u = .bool true := by
  refine con_of_tree mix Tryz.func3 T3_ok (by kernel_rfl) ?_
  unfold T3
  refine j_q (qs_ac) ?_
  refine j_call0 ent4 rfl rfl rfl (fun w' hw' => heavy_con rs _ w' (script_keep hs hw')) (fun u S2 hu => ?_)
  obtain ⟨hv, rfl, hhv⟩ := hu
  refine j_subl (S' := [[]]) (List.sublist_append_right _ _) ?_
  refine j_cond rfl (fun hc0 => ?_) (fun hc0 => ?_)
  · skip
    refine j_call0 ent5 rfl rfl rfl (fun w' hw' => known_con w') (fun u S2 hu => ?_)
    subst hu
    refine j_ret_con (vs := [_]) (fun w' hw' => ⟨rfl, trivial⟩) ?_
    rfl
  · skip
    refine j_q (qs_call ent6 rfl rfl rfl (fun w' hw' => newZ_con room w' h)) ?_
    refine j_q (qs_ext (vs := [.pointer none, .int .i64 1]) rfl rfl) ?_
    refine j_q (qs_ext (vs := [.pointer none, .int .i64 1]) rfl rfl) ?_
    refine j_q (qs_call ent7 rfl rfl rfl (fun w' hw' => rnewZ_con room w' h)) ?_
    refine j_q (qs_ext (vs := [.pointer none, .int .i64 1]) rfl rfl) ?_
    refine j_q (qs_ext (vs := [.pointer none, .int .i64 1]) rfl rfl) ?_
    refine j_q (qs_neq rfl rfl) ?_
    rw [show ((1 : Int) != 1) = false from rfl]
    refine j_gt rfl (qs_mt rfl) ?_
    refine j_gt (v := .bool true) rfl (qs_pnil (A := none) Tryz.underlying25 rfl) ?_
    refine j_gt rfl (qs_mt rfl) ?_
    refine j_gt rfl (qs_neq rfl rfl) ?_
    rw [show ((1 : Int) != 0) = true from rfl]
    refine j_gt rfl (qs_bne Tryz.underlying4 rfl rfl) ?_
    rw [show (true != true) = false from rfl]
    refine j_q (v := .bool false) (qs_or (b0 := false) (b1 := false) rfl rfl) ?_
    refine j_cond rfl (fun hc1 => ?_) (fun hc1 => ?_)
    · skip
      cases hc1
    · skip
      refine j_q (qs_neq rfl rfl) ?_
      rw [show ((1 : Int) != 0) = true from rfl]
      refine j_cond rfl (fun hc2 => ?_) (fun hc2 => ?_)
      · skip
        refine j_call0 ent5 rfl rfl rfl (fun w' hw' => known_con w') (fun u S2 hu => ?_)
        subst hu
        refine j_ret_con (vs := [_]) (fun w' hw' => ⟨rfl, trivial⟩) ?_
        rfl
      · skip
        cases hc2
theorem fsPlaysG_con (room : Int) (rs : List St) (vl : Value) (w : World) (hs : Script w vl rs) (h : 0 ≤ room ∧ room ≤ 1073741824) : Con Tryz.prog 3 [.int .i64 room, vl] w [] fun u _ => u = .bool true := by
  refine con_of_tree mix Tryz.func3 T3_ok (by kernel_rfl) ?_
  unfold T3
  obtain ⟨A, cap, g, off, hvl, hcap, hA⟩ := script_form hs
  subst hvl
  refine j_q (qs_ac) ?_
  refine j_call0 ent4 rfl rfl rfl (fun w' hw' => heavy_con rs _ w' (script_keep hs hw')) (fun u S2 hu => ?_)
  obtain ⟨hv, rfl, hhv⟩ := hu
  refine j_subl (S' := [[]]) (List.sublist_append_right _ _) ?_
  refine j_cond rfl (fun hc0 => ?_) (fun hc0 => ?_)
  · skip
    refine j_call0 ent5 rfl rfl rfl (fun w' hw' => known_con w') (fun u S2 hu => ?_)
    subst hu
    refine j_ret_con (vs := [_]) (fun w' hw' => ⟨rfl, trivial⟩) ?_
    rfl
  · skip
    have hhv9 := hhv hc0
    refine j_call0 ent6 rfl rfl rfl (fun w' hw' => newR_con room w' h.1 h.2) (fun u S2 hu => ?_)
    obtain ⟨r0, rfl, rfl, hok0⟩ := hu
    refine j_q (qs_ext (vs := [r0.ptr, .int .i64 0]) rfl rfl) ?_
    refine j_q (qs_ext (vs := [r0.ptr, .int .i64 0]) rfl rfl) ?_
    refine j_call0 ent7 rfl rfl rfl (fun w' hw' => rnew_con room w' h.1 h.2) (fun u S2 hu => ?_)
    obtain ⟨q0, rfl, rfl, hq0⟩ := hu
    refine j_subl (S' := [q0.heap, r0.heap]) (by repeat first | exact slR _ | exact slN _ | apply slC | apply slD) ?_
    refine j_perm (S' := [r0.heap, q0.heap]) (by simp only [List.flatten_cons, List.flatten_nil, List.append_nil]; exact List.perm_append_comm) ?_
    refine j_q (qs_ext (vs := [q0.ptr, .int .i64 0]) rfl rfl) ?_
    refine j_q (qs_ext (vs := [q0.ptr, .int .i64 0]) rfl rfl) ?_
    refine j_q (qs_neq rfl rfl) ?_
    rw [show ((0 : Int) != 0) = false from rfl]
    refine j_gt rfl (qs_mt rfl) ?_
    refine j_gt rfl (qs_pnil (A := some ⟨r0.gf, 0, none⟩) Tryz.underlying25 rfl) ?_
    rw [show Option.isNone (some (⟨r0.gf, 0, none⟩ : Addr)) = false from rfl]
    refine j_gt rfl (qs_mt rfl) ?_
    refine j_gt rfl (qs_neq rfl rfl) ?_
    rw [show ((0 : Int) != 0) = false from rfl]
    refine j_gt rfl (qs_bne Tryz.underlying4 rfl rfl) ?_
    rw [show (false != false) = false from rfl]
    refine j_q (v := .bool false) (qs_or (b0 := false) (b1 := false) rfl rfl) ?_
    refine j_cond rfl (fun hc1 => ?_) (fun hc1 => ?_)
    · skip
      cases hc1
    · skip
      refine j_q (qs_neq rfl rfl) ?_
      rw [show ((0 : Int) != 0) = false from rfl]
      refine j_cond rfl (fun hc2 => ?_) (fun hc2 => ?_)
      · skip
        cases hc2
      · skip
        refine j_q (qs_ac) ?_
        refine j_loop (fun m vs S' => ∃ (i : Nat) (r : FR) (q : RF) (a : AF), vs = [r.ptr, q.ptr, .int .i64 (i : Int)] ∧ S' = [r.heap, q.heap] ∧ r.Ok a ∧ q.Ok a ∧ a.room = room ∧ a.pend.length ≤ i ∧ IdsLe a i ∧ i ≤ rs.length ∧ i ≤ 120 ∧ m = rs.length - i) ⟨_, 0, r0, q0, AF0 room, rfl, rfl, hok0, hq0, rfl, Nat.le_refl _, af0_ids _, Nat.zero_le _, Nat.zero_le _, rfl⟩ ?_
        rintro m vs S' hlen ⟨i, r, q, a, rfl, rfl, hok, hq, hroom, hpa, hia, hi, hi120, rfl⟩
        refine j_q (qs_lenl Tryz.underlying22 rfl) ?_
        refine j_q (qs_lss rfl rfl) ?_
        refine j_g rfl (fun hb => qs_mt rfl) ?_
        refine j_g rfl (fun hb => qs_lss (gd_eq hb) rfl) ?_
        refine j_q (qs_and rfl rfl) ?_
        refine j_cond rfl (fun hc3 => ?_) (fun hc3 => ?_)
        · skip
          have hb2 : i < rs.length ∧ i < 120 := by
            simp only [gd, Bool.and_eq_true, decide_eq_true_eq] at hc3
            omega
          obtain ⟨hi1, hi2⟩ := hb2
          obtain ⟨rfl, hgs, hcl⟩ := hA (by omega)
          refine j_q (qs_ixn (g := g) (off := off) (n := rs.length) (c := cap) (i := i) Tryz.underlying22 sz34 rfl rfl hi1) ?_
          refine j_q (qs_field Tryz.underlying34 rfl sz3 (by decide) rfl) ?_
          refine j_q (qs_loadR (v := .int .i64 (rs.getD i St0).kind) (a := ⟨g, off, none⟩) (i := i * 5 + 0) (rd_cells hcl (by simp)) Tryz.underlying3 rfl (congrArg (fun z => Value.pointer (some z)) (off5 g off i 0)) (steps_get hi1 rfl)) ?_
          refine j_q (qs_eql rfl rfl) ?_
          refine j_cond rfl (fun hc4 => ?_) (fun hc4 => ?_)
          · skip
            refine j_call0 ent8 rfl rfl rfl (fun w' hw' => copy_con r a w' (in_own hw' 0 rfl) hok) (fun u S2 hu => ?_)
            obtain ⟨r2, rfl, rfl, hok2, hX2, hP2r⟩ := hu
            refine j_call0 ent9 rfl rfl rfl (fun w' hw' => rcopy_con q a w' (in_own hw' 2 rfl) hq) (fun u S2 hu => ?_)
            obtain ⟨q2, rfl, rfl, hq2, hP2⟩ := hu
            refine j_q (qs_pnil Tryz.underlying25 rfl) ?_
            refine j_cond rfl (fun hc5 => ?_) (fun hc5 => ?_)
            · skip
              simp at hc5
            · skip
              refine j_lit (vs := [.int .u8 _]) Tryz.underlying32 sz5 zero5 rfl (by simp [oneV]) ⟨rfl, by decide⟩ (fun g33 v33 c33 hv33 hc33 ho33 => ?_)
              subst hv33 hc33
              refine j_convsl 0 Tryz.underlying32 Tryz.underlying5 rfl rfl ?_
              refine j_call 3 ent10 rfl rfl rfl rfl (fun w' hw' => (write_con' r a spoiltN (.slice (some ⟨g33, 0, none⟩) 1 1) [120] (i + 1) w' hok (by decide) (br_lit (xs := [120]) (fz := (1, 2)) (show w'.heap[g33]? = some (.cells (ints [120]).toArray 5 (1, 2)) from hw'.own (g33, Obj.cells [Value.int .u8 120].toArray 5 (1, 2)) (by simp))) (fun z m c e h0 => by
                injection e with e1 e2 e3
                injection e1 with e1
                subst e1
                exact nodup_two hw'.nodup (i := 0) (j := 3) (by decide) rfl rfl g33 (by simp [dom])) (by decide) (by omega) (by rw [hroom]; exact h.2) (fun p hp => by have := hia.now p hp; omega)).mono (fun u S5 h5 => by
                obtain ⟨_, r', h2, h3, h4⟩ := h5
                exact (⟨r', h2, ⟨_, h3⟩, shr_of h4 hw' 3 rfl (fun s hs => by
                  simp only [List.mem_cons, List.mem_nil_iff, or_false] at hs
                  rcases hs with rfl | rfl
                  · exact ⟨2, _, by decide, rfl, own_ls r2⟩
                  · exact ⟨2, _, by decide, rfl, own_now r2⟩)⟩ : ∃ r' : FR, S5 = [r'.heap] ∧ (∃ a1 : AF, r'.Ok a1) ∧ Shr r r' [r2.ls, r2.now]))) (fun u S5 h5 => ?_)
              obtain ⟨r1, rfl, ⟨a1, hok1⟩, hsh1⟩ := h5
              refine j_subl (S' := [r1.heap, [(g33, .cells [.int .u8 120].toArray 5 (1, 2))], q2.ownR, r2.own, q.heap]) (by repeat first | exact slR _ | exact slN _ | apply slC | apply slD) ?_
              have hp1 : r.ptr = r1.ptr := by simp only [FR.ptr, hsh1.gf]
              rw [hp1]
              refine j_call 0 ent11 rfl rfl rfl rfl (fun w' hw' => (crash_con r1 a1 0 w' hok1).mono (fun u S5 h5 => by
                obtain ⟨r', h2, h3, h4⟩ := h5
                exact (⟨r', h2, shr_of h4 hw' 0 rfl (fun s hs => by
                  simp only [List.mem_cons, List.mem_nil_iff, or_false] at hs
                  rcases hs with rfl | rfl
                  · exact ⟨3, _, by decide, rfl, own_ls r2⟩
                  · exact ⟨3, _, by decide, rfl, own_now r2⟩)⟩ : ∃ r' : FR, S5 = [r'.heap] ∧ Shr r1 r' [r2.ls, r2.now]))) (fun u S5 h5 => ?_)
              obtain ⟨r3, rfl, hsh3⟩ := h5
              have hsh := hsh1.trans hsh3
              refine j_subl (S' := [r3.heap, q2.ownR, r2.own, q.heap]) (by repeat first | exact slR _ | exact slN _ | apply slC | apply slD) ?_
              refine j_perm (S' := [FR.heap { r2 with X := r3.X, P := r3.P }, RF.heap q2, [(r3.gf, r3.fm.obj)] ++ r3.now.heap ++ r3.tc ++ r3.ls.heap ++ ([(q.gf, q.obj)] ++ q.base.heap ++ q.now.heap ++ q.lc)]) (by
                classical
                refine List.perm_iff_count.2 fun x => ?_
                have e1 := List.perm_iff_count.1 r3.parts_own x
                have e2 : List.count x (FR.heap { r2 with X := r3.X, P := r3.P }) = List.count x (([(r2.gf, r2.fm.obj)] ++ r2.now.heap ++ r2.tc ++ r2.ls.heap) ++ (r3.X ++ ph r3.P)) := List.perm_iff_count.1 (FR.parts_own { r2 with X := r3.X, P := r3.P }) x
                simp only [FR.own, FR.shared, List.count_append] at e1 e2
                simp only [FR.own, FR.shared, RF.heap, RF.ownR, hP2, List.set, List.flatten_cons, List.flatten_nil, List.append_nil, List.nil_append, List.cons_append, List.count_append, List.count_cons, List.count_nil] at e1 e2 ⊢ <;> omega) ?_
              refine j_subl (S' := [FR.heap { r2 with X := r3.X, P := r3.P }, RF.heap q2]) (by repeat first | exact slR _ | exact slN _ | apply slC | apply slD) ?_
              have hok4 := hok2.shift (X := r3.X) (P := r3.P) (by rw [hX2]; exact hsh.xs) (by rw [hP2r]; exact hsh.rv) (hsh.vw _ (by simp) (hP2r ▸ hok2.lv)) (hsh.vw _ (by simp) (hP2r ▸ hok2.nv))
              refine j_q (qs_add64 rfl rfl (by first | omega | (simp only [bnA] at *; omega))) ?_
              refine j_back rfl ?_
              exact ⟨rs.length - (i + 1), by omega, i + 1, { r2 with X := r3.X, P := r3.P }, q2, { a with fused := false, left := 0 }, rfl, rfl, hok4, hq2, hroom, by show a.pend.length ≤ _; omega, hia.copy.up, hi1, hi2, rfl⟩
          · skip
            refine j_q (qs_ixn (g := g) (off := off) (n := rs.length) (c := cap) (i := i) Tryz.underlying22 sz34 rfl rfl hi1) ?_
            refine j_q (qs_loadrecw (encA := encS) (rs := rs) (d := St0) (i := i) encS_len (rd_cells hcl (by simp)) hi1 Tryz.underlying34 rfl sz34 rfl) ?_
            obtain ⟨hxk, hxn, hxa2, hxt, hxb, hxl⟩ := script_ok hs hi1
            refine j_perm (S' := [r.heap ++ q.heap]) (by simp) ?_
            refine j_call 0 ent12 rfl rfl rfl rfl (fun w' hw' => stp_con r q a a (rs.getD i St0) (i + 1) w' hok hq (by rw [hroom]; exact h.2) (by omega) (by omega) (str_ok hxa2) (str_ok hxt) hxn (br0 hxb hw') (base_sep hxb hw' 0 rfl) (hhv9 i hi1 hi2) (fun p hp => by have := hia.now p hp; omega) (fun p hp => by have := hia.now p hp; omega)) (fun u S5 h5 => ?_)
            obtain ⟨ok, rfl, hok9, r', q', rfl, hok', hq', hgf', hgq'⟩ := h5
            obtain rfl := hok9 rfl
            rw [next_same hok] at hq'
            refine j_subl (S' := [r'.heap, q'.heap]) (by repeat first | exact slR _ | exact slN _ | apply slC | apply slD) ?_
            have hpr : r.ptr = r'.ptr := by simp only [FR.ptr, hgf']
            have hpq : q.ptr = q'.ptr := by simp only [RF.ptr, hgq']
            rw [hpr, hpq]
            refine j_q (v := .bool false) (qs_not (b0 := true) rfl) ?_
            refine j_gt rfl (qs_mt rfl) ?_
            refine j_gt rfl (qs_mt rfl) ?_
            refine j_gt rfl (qs_call ent13 rfl rfl rfl (fun w' hw' => stood_con r' q' _ w' (in_own hw' 0 rfl) (in_own hw' 1 rfl) hok' hq')) ?_
            refine j_gt (v := .bool false) rfl (qs_not (b0 := true) rfl) ?_
            refine j_q (v := .bool false) (qs_or (b0 := false) (b1 := false) rfl rfl) ?_
            refine j_cond rfl (fun hc6 => ?_) (fun hc6 => ?_)
            · skip
              cases hc6
            · skip
              refine j_q (qs_add64 rfl rfl (by first | omega | (simp only [bnA] at *; omega))) ?_
              refine j_back rfl ?_
              have h7 := nextF_len a a.now.used (rs.getD i St0) (i + 1)
              exact ⟨rs.length - (i + 1), by omega, i + 1, r', q', _, rfl, rfl, hok', hq', (nextF_room _ _ _ _).trans hroom, by omega, hia.next _ _, hi1, hi2, rfl⟩
        · skip
          refine j_call0 ent5 rfl rfl rfl (fun w' hw' => known_con w') (fun u S2 hu => ?_)
          subst hu
          refine j_ret_con (vs := [_]) (fun w' hw' => ⟨rfl, trivial⟩) ?_
          rfl
theorem fsPlays_con (room : Int) (rs : List St) (vl : Value) (w : World) (_ : -9223372036854775808 ≤ room ∧ room ≤ 9223372036854775807) (hs : Script w vl rs) (_ : rs.length ≤ 4611686018427387903) : Con Tryz.prog 3 [.int .i64 room, vl] w [] fun u _ => u = .bool true := by
  by_cases h : 0 ≤ room ∧ room ≤ 1073741824
  · exact fsPlaysG_con room rs vl w hs h
  · exact fsPlaysZ_con room rs vl w hs h
end Go.Proofs.YtckpegkpdepokaaGreat
/-! Arg44 -/
namespace Go.Proofs.YtckpegkpdepokaaGreat
open Go Go.Sx Go.ChangeShapes Go.WideShapes Go.ChangeAt Go.RowKit
set_option linter.unusedVariables false
set_option maxRecDepth 100000
theorem trod_struct5 {H : Type} {enc : TypeId × Value → H} {P : Program} {w : World} {base : Nat} {spare : Nat → Bool} {held : Bool} {t : TypeId} {f0 f1 f2 f3 f4 : Field} {fuel : Nat} {cs : List Value} {x : DataW H × List MemPlace} (ht : P.underlying t = some (.struct #[f0, f1, f2, f3, f4])) (h : DataW.trod enc P w base spare held fuel t cs = some x) :
    ∃ y0 y1 y2 y3 y4 n, x = (.agg [y0.1, y1.1, y2.1, y3.1, y4.1], y0.2 ++ (y1.2 ++ (y2.2 ++ (y3.2 ++ y4.2)))) ∧ cs.length = P.cellsOf t ∧ DataW.trod enc P w base spare held n f0.type ((cs.drop f0.offset).take (P.cellsOf f0.type)) = some y0 ∧
      DataW.trod enc P w base spare held n f1.type ((cs.drop f1.offset).take (P.cellsOf f1.type)) = some y1 ∧ DataW.trod enc P w base spare held n f2.type ((cs.drop f2.offset).take (P.cellsOf f2.type)) = some y2 ∧
      DataW.trod enc P w base spare held n f3.type ((cs.drop f3.offset).take (P.cellsOf f3.type)) = some y3 ∧ DataW.trod enc P w base spare held n f4.type ((cs.drop f4.offset).take (P.cellsOf f4.type)) = some y4 := by
  obtain ⟨xs, n, _, rfl, hl, hlen, hf⟩ := DataW.trod_struct ht h
  match xs, hlen with
  | [y0, y1, y2, y3, y4], _ => exact ⟨y0, y1, y2, y3, y4, n, by simp, hl, by simpa using hf 0 f0 rfl, by simpa using hf 1 f1 rfl, by simpa using hf 2 f2 rfl, by simpa using hf 3 f3 rfl, by simpa using hf 4 f4 rfl⟩
theorem intOk_wf {n : Int} (h : (Lit.int .i64 n).wf = true) : intOk n := by
  have h1 : IntKind.i64.min = -9223372036854775808 := rfl
  have h2 : IntKind.i64.max = 9223372036854775807 := rfl
  simp only [Lit.wf, h1, h2, Bool.and_eq_true, decide_eq_true_eq] at h
  exact h
theorem st_trod {H : Type} {enc : TypeId × Value → H} {w : World} {b0 : Nat} {sp : Nat → Bool} {held : Bool} (fuel : Nat) (cs : List Value) (y : DataW H × List MemPlace) (h : DataW.trod enc Tryz.prog w b0 sp held fuel 34 cs = some y) (hw : (y.1.weights Tryz.prog 34).all (· ≤ reachBytes) = true) :
    ∃ a : St, a.Ok w ∧ cs = encS a := by
  obtain ⟨y0, y1, y2, y3, y4, n, rfl, hl, h0, h1, h2, h3, h4⟩ := trod_struct5 Tryz.underlying34 h
  have hc : Tryz.prog.cellsOf 34 = 5 := by kernel_rfl
  rw [hc] at hl
  match cs, hl with
  | [c0, c1, c2, c3, c4], _ =>
    have e3 : Tryz.prog.cellsOf 3 = 1 := by kernel_rfl
    have e9 : Tryz.prog.cellsOf 9 = 1 := by kernel_rfl
    have e23 : Tryz.prog.cellsOf 32 = 1 := by kernel_rfl
    simp only [e3, e9, e23, List.drop_zero, List.take_succ_cons, List.take_zero, List.drop_succ_cons] at h0 h1 h2 h3 h4
    obtain ⟨k0, hk0, e0, w0⟩ := DataW.trod_int Tryz.underlying3 h0
    obtain ⟨k1, hk1, e1, w1⟩ := DataW.trod_int Tryz.underlying3 h1
    obtain ⟨s2, hs2, e2, w2⟩ := DataW.trod_string Tryz.underlying9 h2
    obtain ⟨s3, hs3, e3', w3⟩ := DataW.trod_string Tryz.underlying9 h3
    unfold DataW.weights at hw
    rw [Tryz.underlying34] at hw
    simp only [List.map_cons, List.map_nil, DataW.weightsEach, List.all_append, List.all_nil, Bool.and_eq_true, Bool.and_true] at hw
    obtain ⟨hw0, hw1, hw2, hw3, hw4⟩ := hw
    obtain ⟨p4, ⟨hp4, hp5⟩, hb4⟩ := row_trod n [c4] y4 h4 hw4
    injection hk0 with hk0
    injection hk1 with hk1
    injection hs2 with hs2
    injection hs3 with hs3
    injection hb4 with hb4
    subst hk0 hk1 hs2 hs3 hb4
    have hreach : reachBytes = 140737488351232 := rfl
    refine ⟨⟨k0, k1, s2.data.toList, s3.data.toList, p4.1, p4.2⟩, ⟨intOk_wf w0, intOk_wf w1, ?_, ?_, brz_br hp4, hp5⟩, ?_⟩
    · subst e2
      simp only [DataW.weights, List.all_cons, List.all_nil, Bool.and_true, decide_eq_true_eq] at hw2
      show s2.data.toList.length ≤ 140737488351232
      omega
    · subst e3'
      simp only [DataW.weights, List.all_cons, List.all_nil, Bool.and_true, decide_eq_true_eq] at hw3
      show s3.data.toList.length ≤ 140737488351232
      omega
    · unfold encS
      simp only [← bs_of]
theorem open_script {H : Type} {enc : TypeId × Value → H} {w : World} {r : Go.Reach} {base b0 : Nat} {sp : Nat → Bool} {held : Bool} {v : Value} {x : DataW H × List MemPlace} (hv : Value.okWide Tryz.prog w r base 22 v)
    (h : ∃ fuel, DataW.trod enc Tryz.prog w b0 sp held fuel 22 v.cells.toList = some x) (hw : (x.1.weights Tryz.prog 22).all (· ≤ reachBytes) = true) : ∃ rs : List St, Script w v rs ∧ rs.length ≤ 4611686018427387903 := by
  obtain ⟨rs, h1, h2, h3⟩ := open_sln (α := St) encS (St.Ok w) encS_len (by decide) Tryz.underlying22 (by kernel_rfl) hv st_trod h hw
  have hb : Tryz.prog.bytesOf 34 = 72 := by kernel_rfl
  have hreach : reachBytes = 140737488351232 := rfl
  rw [hb] at h3
  exact ⟨rs, ⟨h1, h2⟩, by omega⟩
end Go.Proofs.YtckpegkpdepokaaGreat
/-! SxT -/
namespace Go.Sx
open Go Go.ChangeShapes Go.WideShapes Go.ChangeAt Go.RowKit
set_option linter.unusedVariables false
end Go.Sx
/-! RowD -/
namespace Go.Proofs.YtckpegkpdepokaaGreat
open Go Go.Sx Go.ChangeShapes Go.WideShapes Go.ChangeAt Go.RowKit
set_option linter.unusedVariables false
theorem own_fsPlays : ownKnob Tryz.prog.godebug = none := by kernel_rfl
theorem laid_fsPlays : laidOutB Tryz.prog = true := by kernel_rfl
set_option maxRecDepth 100000 in
theorem fsPlays_lifted (os : Os) (started : os.Started) (H : Type) (enc : TypeId × Value → H) :
    ReturnsInHanded {} Tryz.checked os 3 .any (Rows.fsPlaysSpec.pre6 enc Tryz.prog Tryz.f3 Rows.fsPlaysRow.domain false) (Rows.fsPlaysSpec.post enc Tryz.prog Tryz.f3 false true false false) := by
  refine returnsInHanded_of_change_sized (C := Tryz.checked) own_fsPlays started (by kernel_rfl) Tryz.func3
    (ChangeSpec.witness6 (enc := enc) (C := Tryz.checked) false ⟨#[], #[.int .i64 0, .slice none 0 0], []⟩ 8 (by kernel_rfl) (by kernel_rfl) (by kernel_rfl) (by kernel_rfl)) ?_
  intro W base args ds gs before hval0 hW hcnd hsz0 _
  have hsz : (DataW.weightsEach Tryz.prog (Tryz.f3.params.toList ++ Rows.fsPlaysSpec.plain.varTypes Tryz.prog) (ds ++ gs)).all (· ≤ reachBytes) = true := hsz0
  have hreach : reachBytes = 140737488351232 := rfl
  have hval : ∀ (j : Nat) t v, Tryz.f3.params[j]? = some t → args[j]? = some v → Value.okWide Tryz.prog W .any base t v := hval0
  have hW' := hW
  obtain ⟨p, q, hA0, hV, rfl, hfz, hnd⟩ := hW
  have hA : DataW.TrodAll enc Tryz.prog W 0 (fun _ => true) true Tryz.f3.params.toList args.toList ds p := hA0
  rw [Tryz.params3] at hA hval
  obtain ⟨v0, v1, d0, d1, p0, p1, rfl, rfl, rfl, h0, h1⟩ := trodAll_two hA
  obtain ⟨rfl, rfl⟩ := trodVars_none hV
  obtain ⟨a0, rfl, rfl, rfl, wa0⟩ := open_int Tryz.underlying3 (hval 0 3 v0 rfl rfl) h0
  obtain ⟨a1, wa1_0, wa1_1⟩ := open_script (hval 1 22 v1 rfl rfl) h1 (weights_at hsz (j := 1) (t := 22) (by rw [Tryz.params3]; rfl) rfl)
  clear hA0 hval0
  have hc := fsPlays_con a0 a1 v1 W (int_wf wa0) wa1_0 wa1_1 (by simp) (by simp)
  refine hc.mono fun e W' h => ?_
  obtain ⟨v, S', rfl, rfl, hS⟩ := h
  exact ⟨_, rfl, post_law hW' rfl rfl laid_fsPlays (by decide +kernel) rfl Tryz.underlying4 (below_of_sig hS)⟩
theorem fsPlays_holds : Rows.FsPlaysSaid :=
  OpenClaim.holds_of_wide 3 Tryz.f3 rfl rfl rfl rfl rfl rfl rfl ⟨rfl, rfl, rfl, rfl, rfl⟩ rfl rfl rfl rfl rfl (by kernel_rfl) Tryz.func3 (by kernel_rfl)
    (of_decide_eq_true (by kernel_rfl)) (by unfold Func.isWrapper; first | (rw [if_pos (by decide +kernel)]; kernel_rfl) | (rw [if_neg (by decide +kernel)]; exact ⟨rfl, rfl⟩))
    (fun os started H enc _ => fsPlays_lifted os started H enc)
end Go.Proofs.YtckpegkpdepokaaGreat
