/- Part 9. -/
import Derived.Test.YtomajiicjinekaaGreatDoorPD8
import Derived.Test.YtomajiicjinekaaGreatDoorPD3
import Derived.SliceStrings
import Derived.Test.YtomajiicjinekaaGreatDoorRows
import Derived.ProofKit
import Derived.LaidMore
import Derived.Lib.LaidTab
import Derived.Stop.LaidErr
import Derived.MakeChecks
import Derived.SevenTiedAt
import Derived.Test.YtomajiicjinekaaGreatDoorCards
import Derived.Test.YtomajiicjinekaaGreatDoorTie
import Derived.Carry
import Derived.SizedLaws
/-! Jn19 -/
namespace Go.Proofs.YtomajiicjinekaaGreatDoor
open Go Go.Sx Go.MapKept Go.WideMaps Go.Maps
set_option maxRecDepth 100000
set_option linter.unusedVariables false
def valD (l : List UInt8) : Nat := l.foldl (fun n c => n * 10 + (c.toNat - 48)) 0
theorem valD_snoc (l : List UInt8) (c : UInt8) : valD (l ++ [c]) = valD l * 10 + (c.toNat - 48) := by
  unfold valD
  rw [List.foldl_append]
  rfl
theorem dig_nat {d : Nat} (h : d < 10) : (UInt8.ofNat (48 + d)).toNat = 48 + d := by
  rw [UInt8.toNat_ofNat']
  omega
theorem valD_dec (n : Nat) : valD (dec n) = n := by
  induction n using Nat.strongRecOn with
  | _ n ih =>
    by_cases h : n < 10
    · rw [dec_small h]
      show 0 * 10 + ((UInt8.ofNat (48 + n)).toNat - 48) = n
      rw [dig_nat h]
      omega
    · rw [dec_big (by omega), valD_snoc, ih (n / 10) (by omega), dig_nat (Nat.mod_lt _ (by decide))]
      omega
theorem dec_dig (n : Nat) : ∀ c ∈ dec n, c ≠ 46 := by
  induction n using Nat.strongRecOn with
  | _ n ih =>
    intro c hc e
    by_cases h : n < 10
    · rw [dec_small h, List.mem_singleton] at hc
      rw [hc] at e
      have := congrArg UInt8.toNat e
      rw [dig_nat h] at this
      simp at this
      omega
    · rw [dec_big (by omega)] at hc
      rcases List.mem_append.1 hc with hc | hc
      · exact ih (n / 10) (by omega) c hc e
      · rw [List.mem_singleton] at hc
        rw [hc] at e
        have := congrArg UInt8.toNat e
        rw [dig_nat (Nat.mod_lt _ (by decide))] at this
        simp at this
        omega
theorem dec_inj {n m : Nat} (h : dec n = dec m) : n = m := by rw [← valD_dec n, h, valD_dec]
theorem split46 {a b c d : List UInt8} (ha : ∀ x ∈ a, x ≠ 46) (hb : ∀ x ∈ b, x ≠ 46) (h : a ++ 46 :: c = b ++ 46 :: d) : a = b ∧ c = d := by
  induction a generalizing b with
  | nil =>
    cases b with
    | nil => exact ⟨rfl, by simpa using h⟩
    | cons y b =>
      rw [List.nil_append, List.cons_append] at h
      injection h with h1 h2
      exact absurd h1.symm (hb y (List.mem_cons_self ..))
  | cons x a ih =>
    cases b with
    | nil =>
      rw [List.nil_append, List.cons_append] at h
      injection h with h1 h2
      exact absurd h1 (ha x (List.mem_cons_self ..))
    | cons y b =>
      rw [List.cons_append, List.cons_append] at h
      injection h with h1 h2
      obtain ⟨h3, h4⟩ := ih (fun z hz => ha z (List.mem_cons_of_mem _ hz)) (fun z hz => hb z (List.mem_cons_of_mem _ hz)) h2
      exact ⟨by rw [h1, h3], h4⟩
theorem fileN_inj {name : List UInt8} {a p a' p' : Nat} (h : fileN name a p = fileN name a' p') : a = a' ∧ p = p' := by
  unfold fileN at h
  simp only [List.append_assoc, List.cons_append, List.nil_append] at h
  have h1 := List.append_cancel_left h
  injection h1 with _ h2
  obtain ⟨h3, h4⟩ := split46 (dec_dig a) (dec_dig a') h2
  exact ⟨dec_inj h3, dec_inj h4⟩
theorem fileN_ne (name : List UInt8) (a p : Nat) : fileN name a p ≠ name := fun h => by
  have := congrArg List.length h
  unfold fileN at this
  simp only [List.length_append, List.length_cons, List.length_nil] at this
  omega
theorem JS.rm {name : List UInt8} {age : Nat} {s : AS} (h : JS name age [] s) {n : List UInt8} (hn : n ≠ name) : JS name age [] (letsA s n) := by
  have hno : ∀ k, alook s.nm k = none → alook (letsA s n).nm k = none := fun k hk => by
    rw [alook_lets]
    split
    · rfl
    · exact hk
  refine ⟨?_, .inl ⟨rfl, ?_⟩, hno _ h.f1, fun a ha p => hno _ (h.nx a ha p)⟩
  · rcases h.hd with ⟨h1, h2⟩ | ⟨h1, h2⟩
    · exact .inl ⟨h1, hno _ h2⟩
    · refine .inr ⟨?_, by rw [cont_lets hn]; exact h2⟩
      rw [alook_lets, if_neg hn]
      exact h1
  · rcases h.f0 with ⟨_, h2⟩ | ⟨h2, _⟩
    · exact hno _ h2
    · exact absurd rfl h2
theorem JS.com {a : JA} {s : AS} (h : JS a.name a.age a.gs s) (hs : Sole s) {id : Nat} (hf : ∀ q ∈ s.nm, q.2 ≠ id) : JS a.name a.age (a.gs ++ [a.down]) (doA s (comT a id)) := by
  have h1 : ∀ p, fileN a.name a.age 0 ≠ fileN a.name a.age (p + 1) := fun p e => by have := (fileN_inj e).2; omega
  have h2 : ∀ b p, a.age < b → fileN a.name a.age 0 ≠ fileN a.name b p := fun b p hb e => by have := (fileN_inj e).1; omega
  have h3 := fileN_ne a.name a.age 0
  unfold comT
  by_cases hg : a.gs = []
  · rw [if_pos hg]
    show JS _ _ _ (writeA s _ _ id)
    refine ⟨?_, .inr ⟨by simp, by rw [alook_write, if_pos rfl]; simp, by rw [cont_write hf, if_pos rfl, hg, gsE_snoc, gsE_nil, List.nil_append]⟩, ?_, fun b hb p => ?_⟩
    · rw [alook_write, if_neg h3, cont_write hf, if_neg h3]
      exact h.hd
    · rw [alook_write, if_neg (h1 0)]
      exact h.f1
    · rw [alook_write, if_neg (h2 b p hb)]
      exact h.nx b hb p
  · rw [if_neg hg]
    obtain ⟨hy, hc⟩ : alook s.nm (fileN a.name a.age 0) ≠ none ∧ contA s (fileN a.name a.age 0) = gsE a.gs := by
      rcases h.f0 with ⟨h4, _⟩ | ⟨_, h4, h5⟩
      · exact absurd h4 hg
      · exact ⟨h4, h5⟩
    show JS _ _ _ (appA s _ _)
    refine ⟨?_, .inr ⟨by simp, by rw [alook_appA]; exact hy, by rw [cont_app hs hy, if_pos rfl, hc, gsE_snoc]⟩, ?_, fun b hb p => ?_⟩
    · rw [alook_appA, cont_app hs hy, if_neg h3]
      exact h.hd
    · rw [alook_appA]
      exact h.f1
    · rw [alook_appA]
      exact h.nx b hb p
end Go.Proofs.YtomajiicjinekaaGreatDoor
/-! Jn20 -/
namespace Go.Proofs.YtomajiicjinekaaGreatDoor
open Go Go.Sx Go.MapKept Go.WideMaps Go.Maps
set_option maxRecDepth 100000
set_option linter.unusedVariables false
structure Bd (a : AS) (u : Int) (n i : Nat) : Prop where
  us : a.used ≤ u
  nm : a.nm.length ≤ n
  id : ∀ q ∈ a.nm, q.2 < i
theorem mdel_le {β : Type} (m : List (List UInt8 × β)) (k : List UInt8) : (mdel m k).length ≤ m.length := by
  unfold mdel
  exact List.length_filter_le _ _
theorem mem_mdel {β : Type} {m : List (List UInt8 × β)} {k : List UInt8} {q : List UInt8 × β} (h : q ∈ mdel m k) : q ∈ m := by
  unfold mdel at h
  exact (List.mem_filter.1 h).1
theorem Bd.lets {a : AS} {u : Int} {n i : Nat} (h : Bd a u n i) (k : List UInt8) : Bd (letsA a k) u n i := by
  unfold letsA
  cases hk : alook a.nm k with
  | none => exact h
  | some j =>
    refine ⟨?_, Nat.le_trans (mdel_le _ _) h.nm, fun q hq => h.id q (mem_mdel hq)⟩
    simp only
    have := h.us
    split
    · have : (0 : Int) ≤ ((a.dt j).length : Int) := Int.natCast_nonneg _
      omega
    · exact this
theorem Bd.gives {a : AS} {u : Int} {n i : Nat} (h : Bd a u n i) (k : List UInt8) {j : Nat} (hj : j < i) : Bd (givesA a k j) u (n + 1) i := by
  unfold givesA
  split
  · exact ⟨h.us, Nat.le_succ_of_le h.nm, h.id⟩
  · have h1 := h.lets k
    refine ⟨h1.us, ?_, fun q hq => ?_⟩
    · simp only [List.length_append, List.length_cons, List.length_nil]
      have := h1.nm
      omega
    · rcases List.mem_append.1 hq with hq | hq
      · exact h1.id q hq
      · rw [List.mem_singleton.1 hq]
        exact hj
theorem Bd.mono {a : AS} {u u' : Int} {n n' i i' : Nat} (h : Bd a u n i) (hu : u ≤ u') (hn : n ≤ n') (hi : i ≤ i') : Bd a u' n' i' :=
  ⟨Int.le_trans h.us hu, Nat.le_trans h.nm hn, fun q hq => Nat.lt_of_lt_of_le (h.id q hq) hi⟩
theorem Bd.write {a : AS} {u : Int} {n i : Nat} (h : Bd a u n i) (k xs : List UInt8) : Bd (writeA a k xs i) (u + (xs.length : Int)) (n + 1) (i + 1) := by
  have h1 := (h.lets k).mono (Int.le_refl _) (Nat.le_refl _) (Nat.le_succ i)
  have h2 : Bd { letsA a k with dt := updA (letsA a k).dt i xs } u n (i + 1) := ⟨h1.us, h1.nm, h1.id⟩
  have h3 := h2.gives k (j := i) (Nat.lt_succ_self i)
  unfold writeA
  exact ⟨Int.add_le_add_right h3.us _, h3.nm, h3.id⟩
theorem Bd.app {a : AS} {u : Int} {n i : Nat} (h : Bd a u n i) (k xs : List UInt8) : Bd (appA a k xs) (u + (xs.length : Int)) n i := by
  unfold appA
  have := h.us
  split
  · exact ⟨by omega, h.nm, h.id⟩
  · exact ⟨by simp only; omega, h.nm, h.id⟩
end Go.Proofs.YtomajiicjinekaaGreatDoor
/-! Jn21 -/
namespace Go.Proofs.YtomajiicjinekaaGreatDoor
open Go Go.Sx Go.MapKept Go.WideMaps Go.Maps
set_option maxRecDepth 100000
set_option linter.unusedVariables false
def AllF (P : AS → Prop) (f : AF) : Prop := ∀ k, k ≤ f.pend.length → P (runA f.base (f.pend.take k))
theorem AllF.now {P : AS → Prop} {f : AF} (h : AllF P f) : P f.now := by
  have := h f.pend.length (Nat.le_refl _)
  rwa [List.take_length] at this
theorem AllF.mono {P Q : AS → Prop} {f : AF} (h : AllF P f) (hq : ∀ s, P s → Q s) : AllF Q f := fun k hk => hq _ (h k hk)
theorem AllF.and {P Q : AS → Prop} {f : AF} (h : AllF P f) (h2 : AllF Q f) : AllF (fun s => P s ∧ Q s) f := fun k hk => ⟨h k hk, h2 k hk⟩
theorem AllF.step {P : AS → Prop} {f : AF} (h : AllF P f) {t : AT} (ht : P (doA f.now t)) : AllF P (stepF f t) := fun k hk => by
  have hk' : k ≤ f.pend.length + 1 := by simpa [stepF] using hk
  show P (runA f.base ((f.pend ++ [t]).take k))
  rcases Nat.lt_or_ge k (f.pend.length + 1) with h1 | h1
  · rw [List.take_append_of_le_length (by omega)]
    exact h k (by omega)
  · rw [List.take_of_length_le (by rw [List.length_append]; simp; omega), runA_snoc]
    exact ht
theorem AllF.sync {P : AS → Prop} {f : AF} (h : P f.now) : AllF P (syncF f) := fun k hk => by
  have hk' : k ≤ 0 := by simpa [syncF] using hk
  have h0 : k = 0 := by omega
  subst h0
  exact h
theorem AllF.crash {P : AS → Prop} {f : AF} (h : AllF P f) (keep : Int) : AllF P (crashF f keep) := fun k hk => by
  have hk' : k ≤ 0 := by simpa [crashF] using hk
  have h0 : k = 0 := by omega
  subst h0
  show P (runA f.base (f.pend.take (keepN f.pend.length keep)))
  rcases Nat.le_total (keepN f.pend.length keep) f.pend.length with h1 | h1
  · exact h _ h1
  · rw [List.take_of_length_le h1, ← List.take_length (l := f.pend)]
    exact h _ (Nat.le_refl _)
theorem AllF.rm {P : AS → Prop} {f : AF} (h : AllF P f) {n : List UInt8} (ht : P (letsA f.now n)) : AllF P (rmF f n) := by
  unfold rmF
  split
  · exact h.step ht
  · exact h
theorem AllF.fuse {P : AS → Prop} {f : AF} (h : AllF P f) (n : Int) : AllF P (fuseF f n) := h
theorem AllF.new {P : AS → Prop} {room : Int} (h : P AS0) : AllF P (AF0 room) := fun k hk => by
  have hk' : k ≤ 0 := by simpa [AF0] using hk
  have h0 : k = 0 := by omega
  subst h0
  exact h
end Go.Proofs.YtomajiicjinekaaGreatDoor
/-! Jn22 -/
namespace Go.Proofs.YtomajiicjinekaaGreatDoor
open Go Go.Sx Go.MapKept Go.WideMaps Go.Maps
set_option maxRecDepth 100000
set_option linter.unusedVariables false
def JI (u : Int) (n i : Nat) (a : JA) (f : AF) : Prop := AllF (fun s => JS a.name a.age a.gs s ∧ Sole s ∧ Bd s u n i) f
theorem Bd.fresh {s : AS} {u : Int} {n i : Nat} (h : Bd s u n i) : ∀ q ∈ s.nm, q.2 ≠ i := fun q hq => Nat.ne_of_lt (h.id q hq)
theorem JI.mono {u u' : Int} {n n' i i' : Nat} {a : JA} {f : AF} (h : JI u n i a f) (hu : u ≤ u') (hn : n ≤ n') (hi : i ≤ i') : JI u' n' i' a f :=
  AllF.mono h fun s hs => ⟨hs.1, hs.2.1, hs.2.2.mono hu hn hi⟩
theorem JI.comNow {u : Int} {n i : Nat} {a : JA} {f : AF} (h : JI u n i a f) : JS a.name a.age (a.gs ++ [a.down]) (doA f.now (comT a i)) ∧ Sole (doA f.now (comT a i)) ∧ Bd (doA f.now (comT a i)) (u + ((grpE a.down).length : Int)) (n + 1) (i + 1) := by
  obtain ⟨h1, h2, h3⟩ := AllF.now h
  refine ⟨h1.com h2 h3.fresh, ?_, ?_⟩
  · unfold comT
    split
    · exact h2.write h3.fresh
    · exact h2.app
  · unfold comT
    split
    · exact h3.write _ _
    · exact (h3.app _ _).mono (Int.le_refl _) (Nat.le_succ n) (Nat.le_succ i)
theorem JI.com {u : Int} {n i : Nat} {a : JA} {f : AF} (h : JI u n i a f) (he : comE a f i = 0) : JI (u + ((grpE a.down).length : Int)) (n + 1) (i + 1) (comJ a f i) (comA a f i) := by
  have h0 := h.mono (show u ≤ u + ((grpE a.down).length : Int) by have : (0 : Int) ≤ ((grpE a.down).length : Int) := Int.natCast_nonneg _; omega) (Nat.le_succ n) (Nat.le_succ i)
  cases hd : a.dead
  · by_cases hdn : a.down = []
    · have e1 : comJ a f i = a := by simp [comJ, hd, hdn]
      have e2 : comA a f i = f := by simp [comA, hd, hdn]
      rw [e1, e2]
      exact h0
    · cases hb : burnt f
      · cases hb2 : burnt (stepF f (comT a i))
        · obtain ⟨_, e1, e2⟩ := com3 (id := i) hd hdn hb hb2
          rw [e1, e2]
          refine AllF.sync ?_
          show _ ∧ _
          have := h.comNow
          have e : (stepF f (comT a i)).now = doA f.now (comT a i) := runA_snoc
          rw [e]
          exact this
        · obtain ⟨e0, _⟩ := com2 (id := i) hd hdn hb hb2
          rw [e0] at he
          cases he
      · obtain ⟨e0, _⟩ := com1 (id := i) hd hdn hb
        rw [e0] at he
        cases he
  · have e0 : comE a f i = 26 := by simp [comE, hd]
    rw [e0] at he
    cases he
end Go.Proofs.YtomajiicjinekaaGreatDoor
/-! Jn23 -/
namespace Go.Proofs.YtomajiicjinekaaGreatDoor
open Go Go.Sx Go.MapKept Go.WideMaps Go.Maps
set_option maxRecDepth 100000
set_option linter.unusedVariables false
theorem JI.crash {u : Int} {n i : Nat} {a : JA} {f : AF} (h : JI u n i a f) (keep : Int) : JI u n i { a with down := [] } (crashF f keep) := AllF.crash h keep
theorem JI.new {name : List UInt8} {room : Int} : JI 0 0 0 ⟨name, 0, [], [], false⟩ (AF0 room) := AllF.new ⟨⟨.inl ⟨rfl, rfl⟩, .inl ⟨rfl, rfl⟩, rfl, fun _ _ _ => rfl⟩, (fun k k' i h _ => by cases h), ⟨Int.le_refl _, Nat.le_refl _, fun q hq => by cases hq⟩⟩
end Go.Proofs.YtomajiicjinekaaGreatDoor
/-! Jn24 -/
namespace Go.Proofs.YtomajiicjinekaaGreatDoor
open Go Go.Sx Go.MapKept Go.WideMaps Go.Maps
set_option maxRecDepth 100000
set_option linter.unusedVariables false
theorem crashG_con (r : FR) (a : AF) (keep : Int) (w : World) (hok : r.Ok a) : Con Tryz.prog 21 [r.ptr, .int .i64 keep] w r.heap fun _ S' => ∃ r' : FR, S' = [r'.heap] ∧ r'.Ok (crashF a keep) ∧ r'.gf = r.gf :=
  (crash_con r a keep w hok).mono fun u S' hu => by
    obtain ⟨r', h2, h3, h4⟩ := hu
    exact ⟨r', h2, h3, h4.gf⟩
theorem fuseG_con (r : FR) (a : AF) (n : Int) (w : World) (hok : r.Ok a) (hn : -9223372036854775808 ≤ n ∧ n ≤ 9223372036854775807) : Con Tryz.prog 15 [r.ptr, .int .i64 n] w r.heap fun _ S' => ∃ r' : FR, S' = [r'.heap] ∧ r'.Ok (fuseF a n) ∧ r'.gf = r.gf :=
  (fuse_con r a n w hok hn).mono fun u S' hu => by
    obtain ⟨r', h2, h3, h4⟩ := hu
    exact ⟨r', h2, h3, h4.gf⟩
theorem lit_seen {α : Type} {R : World → Value → α → Prop} {w : World} {g : Nat} {e : TypeId} {fz : Nat × Nat} {vs : List Value} {l : List α} (hg : w.heap[g]? = some (.cells vs.toArray e fz)) (hl : vs.length = l.length) {n : Nat} (hn : n = l.length) (h : ∀ (i : Nat) (x : α) (u : Value), l[i]? = some x → vs[i]? = some u → R w u x) : SeenL R w (.slice (some ⟨g, 0, none⟩) n n) l := by
  subst hn
  refine ⟨_, _, vs, rfl, hl, fun _ => ⟨_, rfl, fun j u hu => ?_⟩, h⟩
  rw [add_off, Nat.zero_add, cell_of hg]
  exact hu
theorem zero_out {w w' : World} {S : List SH} (hw : Sig ⟨w, dom []⟩ S w') (h0 : 0 < w.heap.size) {k : Nat} {c : SH} (hk : S[k]? = some c) : 0 ∉ dom c := fun h => by
  obtain ⟨q, hq, e⟩ := List.mem_map.1 h
  rcases hw.dom_ 0 (List.mem_map.2 ⟨q, mem_flatten_of hk hq, e⟩) with h1 | h1
  · simp [dom] at h1
  · simp only at h1
    omega
end Go.Proofs.YtomajiicjinekaaGreatDoor
/-! Jn25 -/
namespace Go.Proofs.YtomajiicjinekaaGreatDoor
open Go Go.Sx
set_option maxRecDepth 100000
set_option maxHeartbeats 4000000
set_option linter.unusedVariables false
set_option linter.unusedSimpArgs false
attribute [local irreducible] J JQ QS Con W opW
abbrev kA : JA := ⟨[106], 0, [], [[97], [98]], false⟩
theorem kDn : limR kA.down := ⟨by decide, by decide⟩
theorem kOk : ComOk kA (AF0 10000) 0 := by
  have h := grpE_lim kDn
  have h0 := (AllF.now (JI.new (name := [106]) (room := 10000))).1
  refine ⟨h0, by decide, (fun g hg => by cases hg), kDn, by decide, ?_, by decide, ⟨by decide, ?_⟩, by decide, by decide, (fun q hq => by cases hq), by decide, by decide⟩
  · show (gsE []).length + _ ≤ _
    rw [gsE_nil, List.length_nil]
    omega
  · have h2 : (grpE kA.down).length ≤ 10000 := by
      unfold grpE
      rw [List.length_append, List.length_append, sum_length]
      have h3 := recsE_len (rs := [[97], [98]]) (by decide)
      have h4 := num_len (show 2 < 268435456 by decide)
      have h5 : (bodyE kA.down).length ≤ 100 := by
        show (num 2 ++ recsE [[97], [98]]).length ≤ 100
        rw [List.length_append]
        have h6 : sizeR [[97], [98]] = 2 := by decide
        have h7 : ([[97], [98]] : List (List UInt8)).length = 2 := rfl
        omega
      have h8 := num_len (show (bodyE kA.down).length < 268435456 by omega)
      omega
    show (0 : Int) + _ ≤ 10000
    omega
theorem kCom : comE kA (AF0 10000) 0 = 0 := (com3 (id := 0) rfl (by decide) rfl rfl).1
theorem kL : limG [[[97], [98]]] := ⟨by decide, fun g hg => by rw [List.mem_singleton.1 hg]; exact kDn⟩
theorem kJ : comJ kA (AF0 10000) 0 = ⟨[106], 0, [[[97], [98]]], [], false⟩ := (com3 (id := 0) rfl (by decide) rfl rfl).2.1
theorem kI : JI (0 + ((grpE kA.down).length : Int)) 1 1 ⟨[106], 0, [[[97], [98]]], [], false⟩ (comA kA (AF0 10000) 0) := by
  have h0 : JI 0 0 0 kA (AF0 10000) := JI.new (name := [106]) (room := 10000)
  have h := h0.com kCom
  rwa [kJ] at h
attribute [local irreducible] sum gsE headE fileN contA readE grpE fillE
theorem known_con (w : World) (hP : P10 w) : Con Tryz.prog 8 [] w [] fun u _ => u = .bool true := by
  refine con_of_tree mix Tryz.func8 T8_ok (by kernel_rfl) ?_
  unfold T8
  refine j_q (qs_ac) ?_
  refine j_call0 ent9 rfl rfl rfl (fun w' hw' => newR_con 10000 w' (by decide) (by decide)) (fun u S2 hu => ?_)
  obtain ⟨r, rfl, rfl, hr⟩ := hu
  refine j_subl (S' := [r.heap]) (by repeat first | exact slR _ | exact slN _ | apply slC | apply slD) ?_
  refine j_q (qs_ext rfl rfl) ?_
  refine j_q (qs_ext rfl rfl) ?_
  refine j_call0 ent10 rfl rfl rfl (fun w' hw' => open_con r (AF0 10000) [106] 0 [] w' (in_own hw' 0 rfl) hr (AllF.now (JI.new (name := [106]) (room := 10000))).1 ⟨by decide, fun g hg => by cases hg⟩ (by decide) (by decide) (by decide) (hP.keep hw' (by simp))) (fun u S2 hu => ?_)
  obtain ⟨j, rfl, rfl, hj, hjf⟩ := hu
  refine j_q (qs_ext rfl rfl) ?_
  refine j_q (qs_ext rfl rfl) ?_
  refine j_q (qs_neq rfl rfl) ?_
  rw [show ((0 : Int) != 0) = false from rfl]
  refine j_gt rfl (qs_mt rfl) ?_
  refine j_gt rfl (qs_pnil Tryz.underlying29 rfl) ?_
  refine j_q (qs_or rfl rfl) ?_
  refine j_gt rfl (qs_mt rfl) ?_
  refine j_ga rfl ?_
  refine j_lit (vs := [.int .u8 97]) Tryz.underlying39 sz5 zero5 rfl (by simp [oneV]) ⟨rfl, by decide⟩ (fun g12 v12 c12 hv12 hc12 ho12 => ?_)
  subst hv12 hc12
  refine j_ga rfl ?_
  refine j_convsl 0 Tryz.underlying39 Tryz.underlying5 rfl rfl ?_
  have hf12 : Sx.Own 5 1 (ints [97]) (.slice (some ⟨g12, 0, none⟩) 1 1) [(g12, .cells (ints [97]).toArray 5 (1, 2))] := own_froz (xs := [97])
  refine j_ga rfl ?_
  refine j_call 1 ent16 rfl rfl rfl rfl (fun w' hw' => jadd_con j ⟨[106], 0, [], [], false⟩ _ [97] w' hj (own_br hf12 0 rfl hw') (sep_own hf12 (k := 0) (m := 1) rfl rfl (by decide) hw') (by decide) (by decide)) (fun u S2 hu => ?_)
  obtain ⟨rfl, j1, rfl, hj1, hgj1, hpj1⟩ := hu
  rw [show mayJ ⟨[106], 0, [], [], false⟩ = 0 from rfl]
  refine j_subl (S' := [j1.heap, r.heap]) (by repeat first | exact slR _ | exact slN _ | apply slC | apply slD) ?_
  refine j_gt rfl (qs_neq rfl rfl) ?_
  rw [show ((0 : Int) != 0) = false from rfl]
  refine j_q (qs_or rfl rfl) ?_
  refine j_gt rfl (qs_mt rfl) ?_
  refine j_ga rfl ?_
  refine j_lit (vs := [.int .u8 98]) Tryz.underlying39 sz5 zero5 rfl (by simp [oneV]) ⟨rfl, by decide⟩ (fun g18 v18 c18 hv18 hc18 ho18 => ?_)
  subst hv18 hc18
  refine j_ga rfl ?_
  refine j_convsl 0 Tryz.underlying39 Tryz.underlying5 rfl rfl ?_
  have hf18 : Sx.Own 5 1 (ints [98]) (.slice (some ⟨g18, 0, none⟩) 1 1) [(g18, .cells (ints [98]).toArray 5 (1, 2))] := own_froz (xs := [98])
  rw [show j.ptr = j1.ptr from by rw [JM.ptr, JM.ptr, hgj1]]
  refine j_ga rfl ?_
  refine j_call 1 ent16 rfl rfl rfl rfl (fun w' hw' => jadd_con j1 ⟨[106], 0, [], [[97]], false⟩ _ [98] w' hj1 (own_br hf18 0 rfl hw') (sep_own hf18 (k := 0) (m := 1) rfl rfl (by decide) hw') (by decide) (by decide)) (fun u S2 hu => ?_)
  obtain ⟨rfl, j2, rfl, hj2, hgj2, hpj2⟩ := hu
  rw [show mayJ ⟨[106], 0, [], [[97]], false⟩ = 0 from rfl]
  refine j_subl (S' := [j2.heap, r.heap]) (by repeat first | exact slR _ | exact slN _ | apply slC | apply slD) ?_
  refine j_gt rfl (qs_neq rfl rfl) ?_
  rw [show ((0 : Int) != 0) = false from rfl]
  refine j_q (qs_or rfl rfl) ?_
  refine j_gt rfl (qs_mt rfl) ?_
  rw [show j1.ptr = j2.ptr from by rw [JM.ptr, JM.ptr, hgj2]]
  refine j_ga rfl ?_
  refine j_perm (S' := [j2.heap ++ r.heap]) (by simp) ?_
  refine j_call 0 ent18 rfl rfl rfl rfl (fun w' hw' => jcomU_con j2 kA r (AF0 10000) 0 w' hj2 hr (hpj2.trans (hpj1.trans hjf)) (fun _ _ => kOk) (hP.keep hw' (by simp)) (zero_out hw' hP.1 (k := 0) rfl)) (fun u S2 hu => ?_)
  obtain ⟨rfl, j3, r1, rfl, hj3, hr1, hgj3, hpj3, hrg1⟩ := hu
  rw [kCom]
  rw [kJ] at hj3
  refine j_subl (S' := [j3.heap, r1.heap]) (by repeat first | exact slR _ | exact slN _ | apply slC | apply slD) ?_
  refine j_gt rfl (qs_neq rfl rfl) ?_
  rw [show ((0 : Int) != 0) = false from rfl]
  refine j_q (qs_or rfl rfl) ?_
  refine j_gt rfl (qs_mt rfl) ?_
  refine j_ga rfl ?_
  refine j_lit (vs := [.int .u8 99]) Tryz.underlying39 sz5 zero5 rfl (by simp [oneV]) ⟨rfl, by decide⟩ (fun g28 v28 c28 hv28 hc28 ho28 => ?_)
  subst hv28 hc28
  refine j_ga rfl ?_
  refine j_convsl 0 Tryz.underlying39 Tryz.underlying5 rfl rfl ?_
  have hf28 : Sx.Own 5 1 (ints [99]) (.slice (some ⟨g28, 0, none⟩) 1 1) [(g28, .cells (ints [99]).toArray 5 (1, 2))] := own_froz (xs := [99])
  rw [show j2.ptr = j3.ptr from by rw [JM.ptr, JM.ptr, hgj3]]
  refine j_ga rfl ?_
  refine j_call 1 ent16 rfl rfl rfl rfl (fun w' hw' => jadd_con j3 ⟨[106], 0, [[[97], [98]]], [], false⟩ _ [99] w' hj3 (own_br hf28 0 rfl hw') (sep_own hf28 (k := 0) (m := 1) rfl rfl (by decide) hw') (by decide) (by decide)) (fun u S2 hu => ?_)
  obtain ⟨rfl, j4, rfl, hj4, hgj4, hpj4⟩ := hu
  rw [show mayJ ⟨[106], 0, [[[97], [98]]], [], false⟩ = 0 from rfl]
  refine j_subl (S' := [j4.heap, r1.heap]) (by repeat first | exact slR _ | exact slN _ | apply slC | apply slD) ?_
  refine j_gt rfl (qs_neq rfl rfl) ?_
  rw [show ((0 : Int) != 0) = false from rfl]
  refine j_q (qs_or rfl rfl) ?_
  refine j_cond rfl (fun hc0 => ?_) (fun hc0 => ?_)
  · skip
    simp at hc0
  · skip
    rw [show r.ptr = r1.ptr from by rw [FR.ptr, FR.ptr, hrg1]]
    refine j_call 1 ent21 rfl rfl rfl rfl (fun w' hw' => crashG_con r1 _ 0 w' hr1) (fun u S2 hu => ?_)
    obtain ⟨r2, rfl, hr2, hrg2⟩ := hu
    refine j_subl (S' := [r2.heap]) (by repeat first | exact slR _ | exact slN _ | apply slC | apply slD) ?_
    rw [show r1.ptr = r2.ptr from by rw [FR.ptr, FR.ptr, hrg2]]
    refine j_call0 ent10 rfl rfl rfl (fun w' hw' => open_con r2 _ [106] 0 [[[97], [98]]] w' (in_own hw' 0 rfl) hr2 (AllF.now (kI.crash 0)).1 kL (by decide) (by decide) (by decide) (hP.keep hw' (by simp))) (fun u S2 hu => ?_)
    obtain ⟨j5, rfl, rfl, hj5, hjf5⟩ := hu
    refine j_q (qs_ext rfl rfl) ?_
    refine j_q (qs_ext rfl rfl) ?_
    refine j_q (qs_eql rfl rfl) ?_
    rw [show ((0 : Int) == 0) = true from rfl]
    refine j_gt rfl (qs_mt rfl) ?_
    refine j_gt rfl (qs_pnnil Tryz.underlying29 rfl) ?_
    refine j_q (qs_and rfl rfl) ?_
    refine j_gt rfl (qs_mt rfl) ?_
    refine j_ga rfl ?_
    refine j_call0 ent12 rfl rfl rfl (fun w' hw' => jgroups_con j5 _ w' (in_own hw' 0 rfl) hj5 kL) (fun u S2 hu => ?_)
    obtain ⟨n, rfl, rfl, hn, hng⟩ := hu
    refine j_ga rfl ?_
    refine j_lit (vs := [.int .u8 97]) Tryz.underlying39 sz5 zero5 rfl (by simp [oneV]) ⟨rfl, by decide⟩ (fun g44 v44 c44 hv44 hc44 ho44 => ?_)
    subst hv44 hc44
    refine j_ga rfl ?_
    refine j_convsl 0 Tryz.underlying39 Tryz.underlying5 rfl rfl ?_
    have hf44 : Sx.Own 5 1 (ints [97]) (.slice (some ⟨g44, 0, none⟩) 1 1) [(g44, .cells (ints [97]).toArray 5 (1, 2))] := own_froz (xs := [97])
    refine j_ga rfl ?_
    refine j_lit (vs := [.int .u8 98]) Tryz.underlying39 sz5 zero5 rfl (by simp [oneV]) ⟨rfl, by decide⟩ (fun g46 v46 c46 hv46 hc46 ho46 => ?_)
    subst hv46 hc46
    refine j_ga rfl ?_
    refine j_convsl 0 Tryz.underlying39 Tryz.underlying5 rfl rfl ?_
    have hf46 : Sx.Own 5 1 (ints [98]) (.slice (some ⟨g46, 0, none⟩) 1 1) [(g46, .cells (ints [98]).toArray 5 (1, 2))] := own_froz (xs := [98])
    refine j_ga rfl ?_
    refine j_lit (vs := [.slice (some ⟨g44, 0, none⟩) 1 1, .slice (some ⟨g46, 0, none⟩) 1 1]) Tryz.underlying34 sz39 zero39 rfl (by simp [oneV]) ⟨rfl, by decide⟩ (fun g48 v48 c48 hv48 hc48 ho48 => ?_)
    subst hv48 hc48
    refine j_ga rfl ?_
    refine j_lit (vs := [.slice (some ⟨g48, 0, none⟩) 2 2]) Tryz.underlying33 sz34 zero34 rfl (by simp [oneV]) ⟨rfl, by decide⟩ (fun g49 v49 c49 hv49 hc49 ho49 => ?_)
    subst hv49 hc49
    refine j_ga rfl ?_
    refine j_call0 ent13 rfl rfl rfl (fun w' hw' => groups_con n.gs [[[97], [98]]] _ _ w' (hn.seen (fun q hq => by
      rcases List.mem_append.1 hq with h | h
      · exact in_own hw' 4 rfl q h
      · exact in_own hw' 5 rfl q h)) (by
      refine lit_seen (R := BRR) (l := [[[97], [98]]]) (n := 1) (hw'.at_ (k := 0) rfl) rfl rfl ?_
      rintro (_ | i) x u hx hu
      · simp at hx hu
        subst hx hu
        refine lit_seen (R := BR) (l := [[97], [98]]) (n := 2) (hw'.at_ (k := 1) rfl) rfl rfl ?_
        rintro (_ | _ | i) x u hx hu
        · simp at hx hu
          subst hx hu
          exact own_br hf44 3 rfl hw'
        · simp at hx hu
          subst hx hu
          exact own_br hf46 2 rfl hw'
        · simp at hx
      · simp at hx) (by rw [hng]; decide) (by rw [hng]; decide)) (fun u S2 hu => ?_)
    obtain ⟨bb, rfl, hbb⟩ := hu
    rw [hbb hng]
    refine j_sub (S' := []) (List.nil_sublist _) ?_
    refine j_q (qs_and rfl rfl) ?_
    refine j_ret_con (vs := [_]) (fun w' hw' => ⟨rfl, trivial⟩) ?_
    rfl
end Go.Proofs.YtomajiicjinekaaGreatDoor
/-! Jn26 -/
namespace Go.Proofs.YtomajiicjinekaaGreatDoor
open Go Go.Sx
set_option maxRecDepth 100000
set_option maxHeartbeats 4000000
set_option linter.unusedVariables false
set_option linter.unusedSimpArgs false
attribute [local irreducible] J JQ QS Con W opW
attribute [local irreducible] sum gsE headE fileN contA readE grpE fillE
end Go.Proofs.YtomajiicjinekaaGreatDoor
/-! Jn27 -/
namespace Go.Proofs.YtomajiicjinekaaGreatDoor
open Go Go.Sx Go.MapKept Go.WideMaps Go.Maps
set_option maxRecDepth 100000
set_option linter.unusedVariables false
attribute [local irreducible] sum
theorem used_pos {r : FR} {a : AF} (h : r.Ok a) : 0 ≤ a.now.used := by
  obtain ⟨_, ⟨_, _, h1⟩, ⟨_, _, h2⟩⟩ := h.now
  omega
theorem grpE_len2 {g : List (List UInt8)} (h : limR g) : (grpE g).length ≤ sizeR g + 440 := by
  have h0 := grpE_lim h
  have h1 := recsE_len (rs := g) fun x hx => Nat.le_trans (sizeR_get hx) h.2
  have h2 := num_len (show g.length < 268435456 by have := h.1; omega)
  have h3 : (bodyE g).length = (num g.length).length + (recsE g).length := by unfold bodyE; rw [List.length_append]
  have h4 := bodyE_lim h
  have h5 := num_len (show (bodyE g).length < 268435456 by omega)
  have h6 : (grpE g).length = (num (bodyE g).length).length + ((bodyE g).length + 32) := by unfold grpE; rw [List.length_append, List.length_append, sum_length]
  have := h.1
  omega
theorem gsE_len2 {gs : List (List (List UInt8))} (h : ∀ g ∈ gs, limR g) : (gsE gs).length ≤ sizeG gs + gs.length * 440 := by
  induction gs with
  | nil => exact Nat.le_refl _
  | cons g gs ih =>
    have h1 := ih fun x hx => h x (List.mem_cons_of_mem _ hx)
    have h2 := grpE_len2 (h g (List.mem_cons_self ..))
    rw [gsE_cons, List.length_append, List.length_cons]
    have h3 : sizeG (g :: gs) = sizeR g + sizeG gs := by unfold sizeG; rw [List.map_cons, List.sum_cons]
    omega
structure PI (nm : List UInt8) (i b : Nat) (a : JA) (f : AF) : Prop where
  ji : JI (12600 * (i : Int)) i i a f
  nm : a.name = nm
  sz : sizeG a.gs + sizeR a.down ≤ b
  ln : a.gs.length + a.down.length ≤ i
  gl : ∀ g ∈ a.gs, g.length ≤ 100 ∧ sizeR g ≤ 12000
  ag : a.age ≤ i
  rm : f.room ≤ 1073741824
  pd : f.pend.length ≤ i
theorem PI.lim {nm : List UInt8} {i b : Nat} {a : JA} {f : AF} (h : PI nm i b a f) (hi : i ≤ 100) : limG a.gs := ⟨by have := h.ln; omega, h.gl⟩
theorem PI.limD {nm : List UInt8} {i b : Nat} {a : JA} {f : AF} (h : PI nm i b a f) (hi : i ≤ 100) (hb : b ≤ 12000) : limR a.down := ⟨by have := h.ln; omega, by have := h.sz; omega⟩
theorem PI.comOk {nm : List UInt8} {i b : Nat} {a : JA} {f : AF} (h : PI nm i b a f) (hi : i ≤ 100) (hb : b ≤ 12000) (hu : 0 ≤ f.now.used) (hdn : a.down ≠ []) (hn : nm.length ≤ 100) (hr : 12600 * ((i + 1 : Nat) : Int) ≤ f.room) : ComOk a f i := by
  have hl := h.lim hi
  have hd := h.limD hi hb
  have h1 := h.ln
  have h2 : 1 ≤ a.down.length := by
    cases hx : a.down with
    | nil => exact absurd hx hdn
    | cons x l => rw [List.length_cons]; omega
  obtain ⟨hj, hs, hbd⟩ := AllF.now h.ji
  have hsz := h.sz
  have h3 := gsE_len2 hl.2
  have h4 := grpE_lim hd
  have h5 := h.rm
  have h6 := hbd.us
  have h7 := hbd.nm
  have h8 := h.pd
  have h9 := h.ag
  have h10 := hl.1
  refine ⟨hj, by omega, hl.2, hd, by omega, by omega, h5, ⟨hu, by omega⟩, by omega, by omega, hbd.fresh, by omega, by rw [h.nm]; exact hn⟩
theorem PI.up {nm : List UInt8} {i b b' : Nat} {a : JA} {f : AF} (h : PI nm i b a f) (hb : b ≤ b') : PI nm (i + 1) b' a f :=
  ⟨h.ji.mono (by omega) (Nat.le_succ i) (Nat.le_succ i), h.nm, Nat.le_trans h.sz hb, Nat.le_succ_of_le h.ln, h.gl, Nat.le_succ_of_le h.ag, h.rm, Nat.le_succ_of_le h.pd⟩
theorem PI.le {nm : List UInt8} {i b b' : Nat} {a : JA} {f : AF} (h : PI nm i b a f) (hb : b ≤ b') : PI nm i b' a f := ⟨h.ji, h.nm, Nat.le_trans h.sz hb, h.ln, h.gl, h.ag, h.rm, h.pd⟩
theorem PI.add {nm : List UInt8} {i b : Nat} {a : JA} {f : AF} (h : PI nm i b a f) (xs : List UInt8) : PI nm (i + 1) (b + xs.length) (addJ a xs) f := by
  have h1 := h.up (Nat.le_add_right b xs.length)
  unfold addJ
  split
  · exact h1
  · refine ⟨h1.ji, h1.nm, ?_, ?_, h1.gl, h1.ag, h1.rm, h1.pd⟩
    · show sizeG a.gs + sizeR (a.down ++ [xs]) ≤ _
      rw [sizeR_snoc]
      have := h.sz
      omega
    · show a.gs.length + (a.down ++ [xs]).length ≤ _
      rw [List.length_append, List.length_singleton]
      have := h.ln
      omega
theorem PI.drop {nm : List UInt8} {i b : Nat} {a : JA} {f : AF} (h : PI nm i b a f) : PI nm (i + 1) b { a with down := [] } f := by
  have h1 := h.up (Nat.le_refl b)
  refine ⟨h1.ji, h1.nm, ?_, ?_, h1.gl, h1.ag, h1.rm, h1.pd⟩
  · show sizeG a.gs + sizeR [] ≤ _
    have e : sizeR [] = 0 := rfl
    have := h.sz
    omega
  · show a.gs.length + 0 ≤ _
    have := h.ln
    omega
theorem PI.crash {nm : List UInt8} {i b : Nat} {a : JA} {f : AF} (h : PI nm i b a f) (k : Int) : PI nm (i + 1) b { a with down := [] } (crashF f k) := by
  have h1 := h.drop
  exact ⟨JI.crash (a := a) (h.up (Nat.le_refl b)).ji k, h1.nm, h1.sz, h1.ln, h1.gl, h1.ag, h1.rm, Nat.zero_le _⟩
theorem comA_room (a : JA) (f : AF) (id : Nat) : (comA a f id).room = f.room ∧ (comA a f id).fused = f.fused ∧ (comA a f id).pend.length ≤ f.pend.length + 1 := by
  unfold comA
  repeat' split
  all_goals first | exact ⟨rfl, rfl, Nat.le_succ _⟩ | exact ⟨rfl, rfl, by show (f.pend ++ [_]).length ≤ _; rw [List.length_append]; exact Nat.le_refl _⟩ | exact ⟨rfl, rfl, Nat.zero_le _⟩
theorem PI.com {nm : List UInt8} {i b : Nat} {a : JA} {f : AF} (h : PI nm i b a f) (hi : i ≤ 100) (hb : b ≤ 12000) (he : comE a f i = 0) : PI nm (i + 1) b (comJ a f i) (comA a f i) := by
  have h0 := comA_room a f i
  have hd := h.limD hi hb
  have h1 : JI (12600 * ((i + 1 : Nat) : Int)) (i + 1) (i + 1) (comJ a f i) (comA a f i) := (h.ji.com he).mono (by have := grpE_lim hd; omega) (Nat.le_refl _) (Nat.le_refl _)
  have h2 : (comJ a f i).name = a.name ∧ (comJ a f i).age = a.age := by
    unfold comJ
    repeat' split
    all_goals exact ⟨rfl, rfl⟩
  have hp := h.pd
  refine ⟨h1, by rw [h2.1]; exact h.nm, ?_, ?_, ?_, by rw [h2.2]; exact Nat.le_succ_of_le h.ag, by rw [h0.1]; exact h.rm, by omega⟩
  · have hs := h.sz
    unfold comJ
    repeat' split
    all_goals first | exact hs | skip
    show sizeG (a.gs ++ [a.down]) + sizeR [] ≤ b
    rw [sizeG_snoc]
    have e : sizeR [] = 0 := rfl
    omega
  · have hs := h.ln
    unfold comJ
    split
    · omega
    split
    · omega
    rename_i hdn
    have h2 : 1 ≤ a.down.length := by
      cases hx : a.down with
      | nil => exact absurd hx hdn
      | cons x l => rw [List.length_cons]; omega
    repeat' split
    all_goals first | exact Nat.le_succ_of_le hs | skip
    show (a.gs ++ [a.down]).length + 0 ≤ i + 1
    rw [List.length_append, List.length_singleton]
    omega
  · intro g hg
    unfold comJ at hg
    repeat' split at hg
    all_goals first | exact h.gl g hg | skip
    rcases List.mem_append.1 hg with hg | hg
    · exact h.gl g hg
    · rw [List.mem_singleton.1 hg]
      exact hd
theorem PI.new {nm : List UInt8} {room : Int} (h : room ≤ 1073741824) : PI nm 0 0 ⟨nm, 0, [], [], false⟩ (AF0 room) :=
  ⟨JI.new, rfl, Nat.le_refl _, Nat.le_refl _, (fun g hg => by cases hg), Nat.le_refl _, h, Nat.le_refl _⟩
theorem PI.fuse {nm : List UInt8} {i b : Nat} {a : JA} {f : AF} (h : PI nm i b a f) (n : Int) : PI nm i b a (fuseF f n) := ⟨h.ji, h.nm, h.sz, h.ln, h.gl, h.ag, h.rm, h.pd⟩
end Go.Proofs.YtomajiicjinekaaGreatDoor
/-! Jn28 -/
namespace Go.Proofs.YtomajiicjinekaaGreatDoor
open Go Go.Sx
set_option maxRecDepth 100000
set_option maxHeartbeats 4000000
set_option linter.unusedVariables false
set_option linter.unusedSimpArgs false
attribute [local irreducible] J JQ QS Con W opW
attribute [local irreducible] sum gsE headE fileN contA readE grpE fillE
abbrev logN : List UInt8 := [108, 111, 103]
structure SJ where
  kind : Int
  n : Int
  bv : Value
  xs : List UInt8
def intOk (n : Int) : Prop := -9223372036854775808 ≤ n ∧ n ≤ 9223372036854775807
structure SJ.Ok (w : World) (x : SJ) : Prop where
  k : intOk x.kind
  n : intOk x.n
  b : BR w x.bv x.xs ∧ x.xs.length ≤ 140737488351232
theorem jDead_con (v : Value) (xs : List UInt8) (w : World) (h : BR w v xs) (hP : P10 w) : Con Tryz.prog 5 [v] w [] fun u _ => u = .bool true := by
  refine con_of_tree mix Tryz.func5 T5_ok (by kernel_rfl) ?_
  unfold T5
  obtain ⟨A1, c1, hv1, hc1'⟩ := br_form h
  subst hv1
  refine j_q (qs_ac) ?_
  refine j_q (qs_lenl Tryz.underlying39 rfl) ?_
  refine j_q (qs_gtr rfl rfl) ?_
  refine j_cond rfl (fun hc0 => ?_) (fun hc0 => ?_)
  · skip
    refine j_q (qs_ac) ?_
    refine j_ret_con (vs := [_]) (fun w' hw' => ⟨rfl, trivial⟩) ?_
    rfl
  · skip
    have hxl : xs.length ≤ 12000 := by
      have h9 := of_decide_eq_false hc0
      omega
    refine j_call0 ent9 rfl rfl rfl (fun w' hw' => newR_con 1048576 w' (by decide) (by decide)) (fun u S2 hu => ?_)
    obtain ⟨r, rfl, rfl, hr⟩ := hu
    refine j_subl (S' := [r.heap]) (by repeat first | exact slR _ | exact slN _ | apply slC | apply slD) ?_
    refine j_q (qs_ext rfl rfl) ?_
    refine j_q (qs_ext rfl rfl) ?_
    refine j_call0 ent10 rfl rfl rfl (fun w' hw' => open_con r (AF0 1048576) logN 0 [] w' (in_own hw' 0 rfl) hr (AllF.now (JI.new (name := logN) (room := 1048576))).1 ⟨by decide, fun g hg => by cases hg⟩ (by decide) (by decide) (by decide) (hP.keep hw' (by simp))) (fun u S2 hu => ?_)
    obtain ⟨j, rfl, rfl, hj, hjf⟩ := hu
    refine j_q (qs_ext rfl rfl) ?_
    refine j_q (qs_ext rfl rfl) ?_
    refine j_q (qs_neq rfl rfl) ?_
    rw [show ((0 : Int) != 0) = false from rfl]
    refine j_gt rfl (qs_mt rfl) ?_
    refine j_gt rfl (qs_pnil Tryz.underlying29 rfl) ?_
    refine j_q (qs_or rfl rfl) ?_
    refine j_gt rfl (qs_mt rfl) ?_
    refine j_gt rfl (qs_mt rfl) ?_
    refine j_ga rfl ?_
    refine j_call 0 ent16 rfl rfl rfl rfl (fun w' hw' => jadd_con j ⟨logN, 0, [], [], false⟩ _ xs w' hj (br0 h hw') (base_sep h hw' 0 rfl) (by show 0 + xs.length ≤ _; omega) (by decide)) (fun u S2 hu => ?_)
    obtain ⟨rfl, j1, rfl, hj1, hgj1, hpj1⟩ := hu
    rw [show mayJ ⟨logN, 0, [], [], false⟩ = 0 from rfl]
    refine j_subl (S' := [j1.heap, r.heap]) (by repeat first | exact slR _ | exact slN _ | apply slC | apply slD) ?_
    refine j_gt rfl (qs_neq rfl rfl) ?_
    rw [show ((0 : Int) != 0) = false from rfl]
    refine j_q (qs_or rfl rfl) ?_
    refine j_cond rfl (fun hc1 => ?_) (fun hc1 => ?_)
    · skip
      simp at hc1
    · skip
      refine j_call 1 ent15 rfl rfl rfl rfl (fun w' hw' => fuseG_con r _ 0 w' hr (by decide)) (fun u S2 hu => ?_)
      obtain ⟨r1, rfl, hr1, hgr1⟩ := hu
      refine j_perm (S' := [j1.heap ++ r1.heap]) (by
        classical
        refine List.perm_iff_count.2 fun x => ?_
        simp only [List.set, List.flatten_cons, List.flatten_nil, List.append_nil, List.nil_append, List.cons_append, List.count_append, List.count_cons, List.count_nil]
        all_goals omega) ?_
      have hpi : PI logN 1 (0 + xs.length) (addJ ⟨logN, 0, [], [], false⟩ xs) (fuseF (AF0 1048576) 0) := ((PI.new (nm := logN) (room := 1048576) (by decide)).add xs).fuse 0
      have hdn1 : (addJ ⟨logN, 0, [], [], false⟩ xs).down ≠ [] := by simp [addJ]
      obtain ⟨hce, hcj, hca⟩ := com1 (a := (addJ ⟨logN, 0, [], [], false⟩ xs)) (f := (fuseF (AF0 1048576) 0)) (id := 1) rfl hdn1 rfl
      rw [show j.ptr = j1.ptr from by rw [JM.ptr, JM.ptr, hgj1]]
      refine j_call 0 ent18 rfl rfl rfl rfl (fun w' hw' => jcomU_con j1 (addJ ⟨logN, 0, [], [], false⟩ xs) r1 (fuseF (AF0 1048576) 0) 1 w' hj1 hr1 ((hpj1.trans hjf).trans (by rw [FR.ptr, FR.ptr, hgr1])) (fun _ _ => hpi.comOk (by decide) (by omega) (used_pos hr1) hdn1 (by decide) (by decide)) (hP.keep hw' (by simp)) (zero_out hw' hP.1 (k := 0) rfl)) (fun u S2 hu => ?_)
      obtain ⟨rfl, j2, r2, rfl, hj2, hr2, hgj2, hpj2, hgr2⟩ := hu
      rw [hce]
      rw [hcj] at hj2
      rw [hca] at hr2
      refine j_subl (S' := [j2.heap, r2.heap]) (by repeat first | exact slR _ | exact slN _ | apply slC | apply slD) ?_
      rw [show r.ptr = r1.ptr from by rw [FR.ptr, FR.ptr, hgr1]]
      rw [show r1.ptr = r2.ptr from by rw [FR.ptr, FR.ptr, hgr2]]
      refine j_call 1 ent15 rfl rfl rfl rfl (fun w' hw' => fuseG_con r2 _ (-1) w' hr2 (by decide)) (fun u S2 hu => ?_)
      obtain ⟨r3, rfl, hr3, hgr3⟩ := hu
      refine j_perm (S' := [j2.heap, r3.heap]) (by
        classical
        refine List.perm_iff_count.2 fun x => ?_
        simp only [List.set, List.flatten_cons, List.flatten_nil, List.append_nil, List.nil_append, List.cons_append, List.count_append, List.count_cons, List.count_nil]
        all_goals omega) ?_
      refine j_q (qs_eql rfl rfl) ?_
      rw [show ((26 : Int) == 26) = true from rfl]
      refine j_gt rfl (qs_mt rfl) ?_
      refine j_gt rfl (qs_mt rfl) ?_
      have hs2 : sizeR [xs] + xs.length ≤ 24000 := by
        have e : sizeR [xs] = xs.length := by simp [sizeR]
        omega
      rw [show j1.ptr = j2.ptr from by rw [JM.ptr, JM.ptr, hgj2]]
      refine j_ga rfl ?_
      refine j_call 0 ent16 rfl rfl rfl rfl (fun w' hw' => jadd_con j2 { addJ ⟨logN, 0, [], [], false⟩ xs with dead := true } _ xs w' hj2 (br0 h hw') (base_sep h hw' 0 rfl) hs2 (show ([xs] : List (List UInt8)).length ≤ 1000 by simp)) (fun u S2 hu => ?_)
      obtain ⟨rfl, j3, rfl, hj3, hgj3, hpj3⟩ := hu
      rw [show mayJ { addJ ⟨logN, 0, [], [], false⟩ xs with dead := true } = 26 from rfl]
      refine j_perm (S' := [j3.heap ++ r3.heap]) (by
        classical
        refine List.perm_iff_count.2 fun x => ?_
        simp only [List.set, List.flatten_cons, List.flatten_nil, List.append_nil, List.nil_append, List.cons_append, List.count_append, List.count_cons, List.count_nil]
        all_goals omega) ?_
      refine j_gt rfl (qs_eql rfl rfl) ?_
      rw [show ((26 : Int) == 26) = true from rfl]
      refine j_q (qs_and rfl rfl) ?_
      refine j_gt rfl (qs_mt rfl) ?_
      rw [show j2.ptr = j3.ptr from by rw [JM.ptr, JM.ptr, hgj3]]
      refine j_ga rfl ?_
      refine j_call 0 ent18 rfl rfl rfl rfl (fun w' hw' => jcomU_con j3 (addJ { addJ ⟨logN, 0, [], [], false⟩ xs with dead := true } xs) r3 _ 2 w' hj3 hr3 ((hpj3.trans (hpj2.trans (hpj1.trans hjf))).trans (by rw [FR.ptr, FR.ptr, hgr3, hgr2, hgr1])) (fun hd _ => by cases hd) (hP.keep hw' (by simp)) (zero_out hw' hP.1 (k := 0) rfl)) (fun u S2 hu => ?_)
      obtain ⟨rfl, j4, r4, rfl, hj4, hr4, hgj4, hpj4, hgr4⟩ := hu
      rw [show comE (addJ { addJ ⟨logN, 0, [], [], false⟩ xs with dead := true } xs) (fuseF (fuseF (AF0 1048576) 0) (-1)) 2 = 26 from rfl]
      refine j_subl (S' := [j4.heap, r4.heap]) (by repeat first | exact slR _ | exact slN _ | apply slC | apply slD) ?_
      refine j_gt rfl (qs_eql rfl rfl) ?_
      rw [show ((26 : Int) == 26) = true from rfl]
      refine j_q (qs_and rfl rfl) ?_
      refine j_gt rfl (qs_mt rfl) ?_
      rw [show j3.ptr = j4.ptr from by rw [JM.ptr, JM.ptr, hgj4]]
      refine j_gt rfl (qs_call ent20 rfl rfl rfl (fun w' hw' => jresetD_con j4 _ w' hj4 rfl (JM.in_j (in_own hw' 0 rfl)))) ?_
      refine j_gt rfl (qs_eql rfl rfl) ?_
      rw [show ((26 : Int) == 26) = true from rfl]
      refine j_q (qs_and rfl rfl) ?_
      refine j_gt rfl (qs_call ent8 rfl rfl rfl (fun w' hw' => known_con w' (hP.keep hw' (by simp)))) ?_
      refine j_q (qs_and rfl rfl) ?_
      refine j_ret_con (vs := [_]) (fun w' hw' => ⟨rfl, trivial⟩) ?_
      rfl
theorem journalDead_con (xs : List UInt8) (v : Value) (w : World) (h : RSl w v (ints xs)) (hP : P10 w) : Con Tryz.prog 5 [v] w [] fun u _ => u = .bool true := jDead_con v xs w (br_rsl h) hP
end Go.Proofs.YtomajiicjinekaaGreatDoor
/-! SxT -/
namespace Go.Sx
open Go Go.ChangeShapes Go.WideShapes Go.ChangeAt Go.RowKit
set_option linter.unusedVariables false
end Go.Sx
/-! RowD -/
namespace Go.Proofs.YtomajiicjinekaaGreatDoor
open Go Go.Sx Go.ChangeShapes Go.WideShapes Go.ChangeAt Go.RowKit
set_option linter.unusedVariables false
theorem own_journalDead : ownKnob Tryz.prog.godebug = none := by kernel_rfl
theorem laid_journalDead : laidOutB Tryz.prog = true := by kernel_rfl
set_option maxRecDepth 100000 in
theorem door_met_journalDead (os : Os) (args : Array Value) : laidMetH Tryz.prog Rows.journalDeadRow.laid ((World.doorLaid Tryz.prog 400 os).forCall (fun _ _ => 0) ⟨#[], args, []⟩).memory := by
  rw [MakeChecks.laidMetH_plain _ _ _ (by kernel_rfl)]
  exact laidMet_of_run' 8 (by kernel_rfl) (by kernel_rfl)
theorem p10_of_laid_journalDead {W : World} (h : laidMetH Tryz.prog Rows.journalDeadRow.laid W) : P10 W := by
  rw [MakeChecks.laidMetH_plain _ _ _ (by kernel_rfl)] at h
  have h3 : Lib.TabIs Tryz.prog W "internal/strconv.uint64pow10" .u64 p10 := Lib.tabIs_of_head (t := 164) (e := 59) (n := 20) (g := 0) (by kernel_rfl) (by kernel_rfl) Tryz.underlying164 Tryz.underlying59 (by kernel_rfl) (by kernel_rfl) (rest := []) h.tail.tail
  have hc : ∀ i, i < 20 → W.cell? ⟨0, i, none⟩ = some (.int .u64 (p10.getD i 0)) := fun i hi => h3.cell (by kernel_rfl) i hi
  refine ⟨?_, fun j u hu => ?_⟩
  · have h0 := hc 0 (by decide)
    unfold World.cell? at h0
    by_cases hz : 0 < W.heap.size
    · exact hz
    · rw [Array.getElem?_eq_none (by simp only []; omega)] at h0
      cases h0
  · obtain ⟨hj, rfl⟩ := List.getElem?_eq_some_iff.1 hu
    have hj' : j < 20 := by rw [ks_length] at hj; exact hj
    rw [add_off, Nat.zero_add, hc j hj']
    have := ks_get (k := .u64) (l := p10) (i := j) hj'
    rw [← this, List.getElem?_eq_getElem hj]
set_option maxRecDepth 100000 in
theorem journalDead_lifted (os : Os) (started : os.Started) (H : Type) (enc : TypeId × Value → H) :
    ReturnsInHanded {} Tryz.checked os 5 .any (fun w args => (Rows.journalDeadSpec.pre enc Tryz.prog Tryz.f5 [] false w args ∧ laidMetH Tryz.prog Rows.journalDeadRow.laid w) ∧ sizedMet enc Tryz.prog Tryz.f5 (OpenSpec.ofChange Rows.journalDeadSpec) false w args) (Rows.journalDeadSpec.post enc Tryz.prog Tryz.f5 false true false false) := by
  refine returnsInHanded_of_change_and (C := Tryz.checked) (X := fun w _ => laidMetH Tryz.prog Rows.journalDeadRow.laid w) (fun _ _ _ hh h => h.of_heap hh) own_journalDead started (by kernel_rfl) Tryz.func5
    (ChangeSpec.witness_shaped (enc := enc) (C := Tryz.checked) (os := os) (X := fun w _ => laidMetH Tryz.prog Rows.journalDeadRow.laid w) false (World.doorLaid Tryz.prog 400 os) #[.slice none 0 0] 8 rfl (World.shaped_of_RefB (by kernel_rfl) (by kernel_rfl)) (by kernel_rfl) (by kernel_rfl) (by kernel_rfl) (door_met_journalDead os _)) ?_
  intro W base args ds gs before hval0 hW hcnd hsz0 hL _
  have hsz : (DataW.weightsEach Tryz.prog (Tryz.f5.params.toList ++ Rows.journalDeadSpec.plain.varTypes Tryz.prog) (ds ++ gs)).all (· ≤ reachBytes) = true := hsz0
  have hreach : reachBytes = 140737488351232 := rfl
  have hval : ∀ (j : Nat) t v, Tryz.f5.params[j]? = some t → args[j]? = some v → Value.okWide Tryz.prog W .any base t v := hval0
  have hW' := hW
  obtain ⟨p, q, hA0, hV, rfl, hfz, hnd⟩ := hW
  have hA : DataW.TrodAll enc Tryz.prog W 0 (fun _ => true) true Tryz.f5.params.toList args.toList ds p := hA0
  rw [Tryz.params5] at hA hval
  obtain ⟨v0, d0, rfl, rfl, h0⟩ := trodAll_one hA
  obtain ⟨rfl, rfl⟩ := trodVars_none hV
  obtain ⟨a0, wa0, wc0⟩ := open_bytesl Tryz.underlying39 Tryz.underlying5 (by kernel_rfl) (hval 0 39 v0 rfl rfl) h0
  have wb0 : a0.length ≤ reachBytes := bytes_sized hsz (j := 0) (t := 39) (by rw [Tryz.params5]; rfl) rfl Tryz.underlying39 (by kernel_rfl) wc0
  clear hA0 hval0
  have hP := p10_of_laid_journalDead hL
  have hc := journalDead_con a0 v0 W wa0 hP (by simp) (by simp)
  refine hc.mono fun e W' h => ?_
  obtain ⟨v, S', rfl, rfl, hS⟩ := h
  exact ⟨_, rfl, post_law hW' rfl rfl laid_journalDead (by decide +kernel) rfl Tryz.underlying4 (below_of_sig hS)⟩
theorem journalDead_holds : Rows.JournalDeadSaid :=
  OpenClaim.holds_of_wide 5 Tryz.f5 rfl rfl rfl rfl rfl rfl rfl ⟨rfl, rfl, rfl, rfl, rfl⟩ rfl rfl rfl rfl rfl (by kernel_rfl) Tryz.func5 (by kernel_rfl)
    (of_decide_eq_true (by kernel_rfl)) (by unfold Func.isWrapper; first | (rw [if_pos (by decide +kernel)]; kernel_rfl) | (rw [if_neg (by decide +kernel)]; exact ⟨rfl, rfl⟩))
    (fun os started H enc _ => journalDead_lifted os started H enc)
theorem journalDeadCard_holds : Rows.JournalDeadCardSaid :=
  Claim7.holds_tied_plain_at .later [] [.data, .data, .data] true (true, "977d215e86fb9408077f2dbeaf3a1bea85ca5a5894d8e6e3efd3f1765f63237c") false
    journalDead_holds (fun _ h => by cases h) (by kernel_rfl) (fun _ h => by cases h) journalDead_row_tie rfl ⟨rfl, rfl⟩ (by kernel_rfl) rfl
    (fun f fn hf hfn => by
      obtain rfl : f = 5 := Option.some.inj ((show Tryz.prog.funcNamed "pantry/pantrylaw8.JournalDead" = some 5 by kernel_rfl).symm.trans hf) |>.symm
      obtain rfl : fn = Tryz.f5 := (Option.some.inj (Tryz.func5.symm.trans hfn)).symm
      exact ⟨by kernel_rfl, fun j t ht => by
        rw [Tryz.params5] at ht
        have hm : t ∈ [39] := by simpa using Array.mem_of_getElem? ht
        have hall : ([39].all fun u => !Tryz.prog.wantsStandIn u) = true := by kernel_rfl
        exact (show Tryz.prog.wantsStandIn t = false by simpa using List.all_eq_true.1 hall t hm)⟩)
    (by kernel_rfl)
end Go.Proofs.YtomajiicjinekaaGreatDoor
