/- Part 4. -/
import Derived.Test.YtckpegkpdepokaaPC3
import Derived.Test.YtckpegkpdepokaaPC2
import Derived.Shelf.SlIter.Nil
import Derived.Shelf.SortM.Plain
import Derived.Shelf.SortM.SortNone
import Derived.Ground.GgzProg
import Derived.Ground.SlgmProg
import Derived.Test.YtckpegkpdepokaaProg
/-! Pool -/
namespace Go.Proofs.Ytckpegkpdepokaa
open Go Go.Sx Go.MapKept Go.WideMaps Go.Maps
set_option maxRecDepth 100000
set_option linter.unusedVariables false
set_option linter.unusedSimpArgs false
set_option linter.unusedSectionVars false
structure BK where
  g : Nat
  xs : List UInt8
  rest : List Value
  fz : Nat × Nat
  own : Nat
def BK.h (b : BK) : Nat × Obj := (b.g, .cells (ints b.xs ++ b.rest).toArray 5 b.fz)
def ph (P : List BK) : SH := P.map BK.h
def BK.len (b : BK) : Nat := (ints b.xs ++ b.rest).length
def BK.free (b : BK) : Prop := ∀ j, j < b.len → ¬ (b.fz.1 ≤ j ∧ j < b.fz.2)
def RV (P : List BK) (v : Value) (xs : List UInt8) : Prop :=
  (v = .slice none 0 0 ∧ xs = []) ∨ ∃ b ∈ P, ∃ cap, v = .slice (some ⟨b.g, 0, none⟩) xs.length cap ∧ xs <+: b.xs ∧ xs.length ≤ cap
def Vw (P : List BK) (o : Nat) (v : Value) (xs : List UInt8) : Prop :=
  (v = .slice none 0 0 ∧ xs = []) ∨ ∃ b ∈ P, ∃ cap, v = .slice (some ⟨b.g, 0, none⟩) xs.length cap ∧ xs <+: b.xs ∧ xs.length ≤ cap ∧ (cap = xs.length ∨ (b.own = o ∧ xs = b.xs ∧ cap = b.len ∧ b.free))
theorem Vw.rv {P : List BK} {o : Nat} {v : Value} {xs : List UInt8} (h : Vw P o v xs) : RV P v xs := by
  rcases h with h | ⟨b, hb, cap, h1, h2, h3, _⟩
  · exact .inl h
  · exact .inr ⟨b, hb, cap, h1, h2, h3⟩
theorem RV.form {P : List BK} {v : Value} {xs : List UInt8} (h : RV P v xs) : ∃ A cap, v = .slice A xs.length cap ∧ xs.length ≤ cap ∧ (A = none ∨ ∃ g, A = some ⟨g, 0, none⟩) := by
  rcases h with ⟨rfl, rfl⟩ | ⟨b, _, cap, rfl, _, h⟩
  · exact ⟨none, 0, rfl, Nat.le_refl _, .inl rfl⟩
  · exact ⟨_, cap, rfl, h, .inr ⟨_, rfl⟩⟩
def PLe (o : Nat) (P P' : List BK) : Prop := ∀ b ∈ P, ∃ b' ∈ P', b'.g = b.g ∧ b'.own = b.own ∧ b.xs <+: b'.xs ∧ (b.own ≠ o → b' = b)
theorem PLe.refl (o : Nat) (P : List BK) : PLe o P P := fun b hb => ⟨b, hb, rfl, rfl, List.prefix_refl _, fun _ => rfl⟩
theorem PLe.cons (o : Nat) (P : List BK) (c : BK) : PLe o P (c :: P) := fun b hb => ⟨b, List.mem_cons_of_mem _ hb, rfl, rfl, List.prefix_refl _, fun _ => rfl⟩
theorem PLe.trans {o : Nat} {P Q R : List BK} (h1 : PLe o P Q) (h2 : PLe o Q R) : PLe o P R := fun b hb => by
  obtain ⟨c, hc, e1, e2, e3, e4⟩ := h1 b hb
  obtain ⟨d, hd, f1, f2, f3, f4⟩ := h2 c hc
  refine ⟨d, hd, f1.trans e1, f2.trans e2, e3.trans f3, fun h => ?_⟩
  rw [f4 (by rw [e2]; exact h), e4 h]
theorem RV.mono {o : Nat} {P Q : List BK} {v : Value} {xs : List UInt8} (hp : PLe o P Q) (h : RV P v xs) : RV Q v xs := by
  rcases h with h | ⟨b, hb, cap, h1, h2, h3⟩
  · exact .inl h
  · obtain ⟨c, hc, e1, _, e3, _⟩ := hp b hb
    exact .inr ⟨c, hc, cap, by rw [e1]; exact h1, h2.trans e3, h3⟩
theorem Vw.mono {o o' : Nat} {P Q : List BK} {v : Value} {xs : List UInt8} (hp : PLe o P Q) (hne : o' ≠ o) (h : Vw P o' v xs) : Vw Q o' v xs := by
  rcases h with h | ⟨b, hb, cap, h1, h2, h3, h4⟩
  · exact .inl h
  · obtain ⟨c, hc, e1, e2, e3, e4⟩ := hp b hb
    refine .inr ⟨c, hc, cap, by rw [e1]; exact h1, h2.trans e3, h3, ?_⟩
    rcases h4 with h4 | ⟨h4, h5⟩
    · exact .inl h4
    · have : c = b := e4 (by rw [h4]; exact hne)
      rw [this]
      exact .inr ⟨h4, h5⟩
theorem Vw.clip {P : List BK} {v : Value} {xs : List UInt8} (o : Nat) (h : RV P v xs) {A : Option Addr} {n c : Nat} (e : v = .slice A n c) : Vw P o (.slice (if n = 0 then A else A.map (fun a : Addr => a.add (0 * 1))) n n) xs := by
  rcases h with ⟨rfl, rfl⟩ | ⟨b, hb, cap, rfl, h2, h3⟩
  · injection e with e1 e2 e3
    subst e1 e2
    exact .inl ⟨rfl, rfl⟩
  · injection e with e1 e2 e3
    subst e1 e2
    refine .inr ⟨b, hb, xs.length, ?_, h2, Nat.le_refl _, .inl rfl⟩
    split <;> simp [Addr.add]
theorem rdo_flat {b : Base} {S : List SH} {g : Nat} {o : Obj} (h : (g, o) ∈ S.flatten) : RdO b S g o := fun w hw => hw.own _ h
theorem ints_pre {xs ys : List UInt8} {rest : List Value} (h : xs <+: ys) : ((ints ys ++ rest).drop 0).take xs.length = ints xs := by
  obtain ⟨t, rfl⟩ := h
  rw [List.drop_zero, ints_append, List.append_assoc, List.take_left' (ints_length _)]
theorem rd_bk {b : Base} {S : List SH} {k : BK} {xs : List UInt8} (h : k.h ∈ S.flatten) (hp : xs <+: k.xs) : Rd b S ⟨k.g, 0, none⟩ (ints xs) := rd_rdo (off := 0) (n := xs.length) (rdo_flat h) (ints_pre hp)
theorem src_rv {b : Base} {S : List SH} {P : List BK} {v : Value} {xs : List UInt8} (h : RV P v xs) (hm : ∀ k ∈ P, k.h ∈ S.flatten) : Src b S 1 v xs.length (ints xs) := by
  rcases h with ⟨rfl, rfl⟩ | ⟨k, hk, cap, rfl, h2, h3⟩
  · exact .inr (.inl ⟨0, rfl, rfl, rfl⟩)
  · exact .inl ⟨_, cap, rfl, rd_bk (hm k hk) h2, by rw [ints_length, Nat.mul_one]⟩
theorem sbB : (Try.prog.info? 5).map (fun i => (i.size, i.bytes)) = some (1, 1) := by kernel_rfl
theorem zeroB : zeroL Try.prog 5 = some [.int .u8 0] := by kernel_rfl
section
variable {R : Ending → World → Prop} {env : Env} {b : Base} {S : List SH} {B : JB} {T : Tree} {ty : TypeId}
theorem j_appendP {x y : Operand} {xs news : List UInt8} {P : List BK} {o : Nat} (k : Nat) (hk : S[k]? = some (ph P)) (hx : Vw P o (ev env x) xs) (hy : Src b S 1 (ev env y) news.length (ints news)) (hb : xs.length + news.length ≤ 70000000000000)
    (h : ∀ v' P', Vw P' o v' (xs ++ news) → PLe o P P' → J Try.prog R T (v' :: env) (S.set k (ph P')) b B) : J Try.prog R (.op (O (.call ⟨.builtin .append, #[x, y], #[23, 23]⟩) ty) T) env S b B := by
  have hone : ∀ u ∈ ints news, oneV u = true := ints_one
  have hbb : ((ints xs).length + (ints news).length) * (1 + 1) ≤ 140737488355328 ∧ 0 < 1 := by
    rw [ints_length, ints_length]
    omega
  have hset : S.set k (ph P) = S := by
    obtain ⟨hlt, he⟩ := List.getElem?_eq_some_iff.1 hk
    have := List.set_getElem_self hlt
    rwa [he] at this
  have hzero : ∀ {A : Option Addr} {n cap : Nat}, ev env x = .slice A n cap → news.length = 0 → J Try.prog R T (.slice A n cap :: env) S b B := fun he h0 => by
    have hn := List.eq_nil_of_length_eq_zero h0
    subst hn
    have h1 := h _ P (by rw [List.append_nil]; exact hx) (PLe.refl o P)
    rw [hset, he] at h1
    exact h1
  -- a new row
  have hnew : ∀ (S2 : List SH), S2.flatten.Perm S.flatten → ∀ (g' cap' : Nat) (rest : List Value), (xs ++ news).length ≤ cap' → ((ints xs ++ ints news) ++ rest).length = cap' * 1 → J Try.prog R T (.slice (some ⟨g', 0, none⟩) (xs ++ news).length cap' :: env) ([(g', .cells ((ints xs ++ ints news) ++ rest).toArray 5 (0, 0))] :: S2) b B := fun S2 hS2 g' cap' rest h1 h2 => by
    have hc : ((⟨g', xs ++ news, rest, (0, 0), o⟩ : BK) :: P).map BK.h = (g', .cells ((ints xs ++ ints news) ++ rest).toArray 5 (0, 0)) :: ph P := by
      rw [List.map_cons]
      simp only [BK.h, ints_append, ph]
    obtain ⟨r, p1, p2⟩ := flatten_set hk (ph ((⟨g', xs ++ news, rest, (0, 0), o⟩ : BK) :: P))
    refine j_perm (S' := S.set k (ph ((⟨g', xs ++ news, rest, (0, 0), o⟩ : BK) :: P))) ?_ (h _ _ (.inr ⟨⟨g', xs ++ news, rest, (0, 0), o⟩, by simp, cap', rfl, List.prefix_refl _, h1, .inr ⟨rfl, rfl, ?_, fun j _ hj => by simp at hj⟩⟩) (PLe.cons _ _ _))
    · refine List.Perm.trans ?_ p2.symm
      show ([(g', _)] ++ S2.flatten).Perm _
      rw [show ph ((⟨g', xs ++ news, rest, (0, 0), o⟩ : BK) :: P) = _ from hc]
      exact List.Perm.cons _ (hS2.trans p1)
    · show cap' = (ints (xs ++ news) ++ rest).length
      rw [ints_append]
      omega
  rcases hx with ⟨hxe, rfl⟩ | ⟨c, hc, cap, hxe, hpre, hcap, hown⟩
  · refine j_appendK (A := none) (n := 0) (cap := 0) (xs := []) (news := ints news) (z := [.int .u8 0]) 0 Try.underlying23 Try.underlying23 (.inr ⟨_, rfl⟩) sbB zeroB rfl hxe rfl (.inl ⟨rfl, rfl⟩) (Nat.le_refl _) hy hone hbb ?_ (hzero hxe) ?_
    · intro _ g' cap' rest h1 h2
      have h3 := hnew S (.refl _) g' cap' rest (by simpa using h1) h2
      rw [List.nil_append] at h3
      rw [Nat.zero_add]
      exact h3
    · intro h1 h2
      omega
  · obtain ⟨P1, P2, rfl⟩ := List.append_of_mem hc
    obtain ⟨r, p1, p2⟩ := flatten_set hk (ph (P1 ++ P2))
    have hph : ph (P1 ++ c :: P2) = ph P1 ++ c.h :: ph P2 := by simp [ph]
    have hph2 : ph (P1 ++ P2) = ph P1 ++ ph P2 := by simp [ph]
    have hS2 : ([c.h] :: S.set k (ph (P1 ++ P2))).flatten.Perm S.flatten := by
      rw [List.flatten_cons]
      refine List.Perm.trans (List.Perm.append_left _ p2) (List.Perm.trans ?_ p1.symm)
      rw [hph, hph2, List.singleton_append, List.append_assoc, List.append_assoc, List.cons_append]
      exact List.perm_middle.symm
    refine j_perm (S' := [c.h] :: S.set k (ph (P1 ++ P2))) hS2.symm ?_
    have hy2 : Src b ([c.h] :: S.set k (ph (P1 ++ P2))) 1 (ev env y) news.length (ints news) := by
      rcases hy with ⟨a, cc, e1, e2, e3⟩ | h1 | h1
      · exact .inl ⟨a, cc, e1, fun w hw => e2 w (hw.perm hS2), e3⟩
      · exact .inr (.inl h1)
      · exact .inr (.inr h1)
    refine j_appendK (A := some ⟨c.g, 0, none⟩) (n := xs.length) (cap := cap) (xs := ints xs) (news := ints news) (z := [.int .u8 0]) 0 Try.underlying23 Try.underlying23 (.inr ⟨_, rfl⟩) sbB zeroB rfl hxe (by rw [ints_length, Nat.mul_one]) (.inr ⟨c.g, rfl, rd_bk (by simp) hpre⟩) hcap hy2 hone hbb ?_ (fun h0 => ?_) ?_
    · intro _ g' cap' rest h1 h2
      have h3 := hnew _ hS2 g' cap' rest (by rw [List.length_append]; exact h1) h2
      rw [List.length_append] at h3
      exact h3
    · exact j_perm hS2 (hzero hxe h0)
    · intro hroom hm
      rcases hown with he | ⟨ho, hxs, hcl, hfr⟩
      · omega
      · subst hxs
        refine ⟨c.g, c.rest, c.fz, rfl, rfl, by rw [Nat.mul_one]; exact hcl.symm, hfr, ?_⟩
        have hn : news.length = (ints news).length := (ints_length _).symm
        obtain ⟨r', q1, q2⟩ := flatten_set hk (ph (P1 ++ (⟨c.g, c.xs ++ news, c.rest.drop (ints news).length, c.fz, o⟩ : BK) :: P2))
        have hlen : (⟨c.g, c.xs ++ news, c.rest.drop (ints news).length, c.fz, o⟩ : BK).len = c.len := by
          simp only [BK.len, List.length_append, ints_length, List.length_drop] at hcl ⊢
          omega
        have h1 := h (.slice (some ⟨c.g, 0, none⟩) (c.xs ++ news).length cap) (P1 ++ (⟨c.g, c.xs ++ news, c.rest.drop (ints news).length, c.fz, o⟩ : BK) :: P2) (.inr ⟨⟨c.g, c.xs ++ news, c.rest.drop (ints news).length, c.fz, o⟩, by simp, cap, rfl, List.prefix_refl _, by rw [List.length_append]; exact hroom, .inr ⟨rfl, rfl, by rw [hlen]; exact hcl, fun j hj => hfr j (by rw [← hlen]; exact hj)⟩⟩) (fun b2 hb2 => by
          rcases List.mem_append.1 hb2 with hb2 | hb2
          · exact ⟨b2, List.mem_append_left _ hb2, rfl, rfl, List.prefix_refl _, fun _ => rfl⟩
          · rcases List.mem_cons.1 hb2 with rfl | hb2
            · exact ⟨_, List.mem_append_right _ (List.mem_cons_self ..), rfl, ho.symm, List.prefix_append _ _, fun hne => absurd ho hne⟩
            · exact ⟨b2, List.mem_append_right _ (List.mem_cons_of_mem _ hb2), rfl, rfl, List.prefix_refl _, fun _ => rfl⟩)
        rw [List.length_append] at h1
        refine j_perm ?_ h1
        show (([(c.g, _)] : SH) ++ (S.set k (ph (P1 ++ P2))).flatten).Perm _
        refine List.Perm.trans (List.Perm.append_left _ p2) (List.Perm.trans ?_ q2.symm)
        have hr : r.Perm r' := by
          have := p1.symm.trans q1
          exact (List.perm_append_left_iff _).1 this
        rw [hph2]
        have e : ph (P1 ++ (⟨c.g, c.xs ++ news, c.rest.drop (ints news).length, c.fz, o⟩ : BK) :: P2) = ph P1 ++ (c.g, .cells ((ints c.xs ++ ints news) ++ c.rest.drop (ints news).length).toArray 5 c.fz) :: ph P2 := by
          simp [ph, BK.h, ints_append]
        have key : ∀ q : Nat × Obj, ([q] ++ (ph P1 ++ ph P2 ++ r)).Perm (ph P1 ++ q :: ph P2 ++ r') := fun q => by
          rw [List.singleton_append, List.append_assoc, List.append_assoc, List.cons_append]
          exact (List.Perm.cons _ (List.Perm.append_left _ (List.Perm.append_left _ hr))).trans List.perm_middle.symm
        rw [e]
        exact key _
end
end Go.Proofs.Ytckpegkpdepokaa
/-! Fs3 -/
namespace Go.Proofs.Ytckpegkpdepokaa
open Go Go.Sx
set_option maxRecDepth 100000
set_option maxHeartbeats 4000000
set_option linter.unusedVariables false
set_option linter.unusedSimpArgs false
attribute [local irreducible] J JQ QS Con W opW
open Go.MapKept Go.WideMaps Go.Maps
theorem letsM_es (s : SM) (n : List UInt8) (e : Array MapEntry) (c : Nat) : letsM { s with es := e, ck := c } n = { letsM s n with es := e, ck := c } := by
  unfold letsM
  simp only
  cases alook s.ml n with
  | none => rfl
  | some p =>
    simp only
    cases getF s.fs p.2 with
    | none => rfl
    | some f =>
      simp only
      split <;> rfl
theorem givesM_es (s : SM) (n : List UInt8) (p : Nat × Nat) (e : Array MapEntry) (c : Nat) : givesM { s with es := e, ck := c } n p = { givesM s n p with es := e, ck := c } := by
  unfold givesM
  simp only
  split
  · rfl
  · rw [show ({ gs := s.gs, gm := s.gm, es := e, ck := c, ml := s.ml, fs := bump s.fs p.2 1, used := s.used } : SM) = { ({ s with fs := bump s.fs p.2 1 } : SM) with es := e, ck := c } from rfl, letsM_es]
theorem givesM_gs (s : SM) (n : List UInt8) (p : Nat × Nat) : (givesM s n p).gs = s.gs ∧ (givesM s n p).gm = s.gm := by
  unfold givesM
  split
  · exact ⟨rfl, rfl⟩
  · exact ⟨(letsM_gs _ _).1, (letsM_gs _ _).2.1⟩
theorem lets_tot {s : SM} (h : Raw s) (n : List UInt8) {d : Int} (ht : (tot s.fs : Int) + d ≤ s.used) : (tot (letsM s n).fs : Int) + d ≤ (letsM s n).used ∧ (letsM s n).used ≤ s.used := by
  unfold letsM
  cases hl : alook s.ml n with
  | none => exact ⟨ht, Int.le_refl _⟩
  | some p =>
    obtain ⟨f, hf, hfg, hfi⟩ := h.has _ (alook_mem hl)
    obtain ⟨a, b, hab⟩ := List.append_of_mem hf
    have hids := h.ids
    rw [hab] at hids
    have hg : getF s.fs p.2 = some f := by rw [hab, ← hfi]; exact getF_split hids
    have hts := tot_split a b f
    rw [← hab] at hts
    simp only
    rw [hg]
    simp only
    split
    · have hfs : s.fs.filter (fun x => decide (x.id ≠ p.2)) = a ++ b := by rw [hab, ← hfi]; exact filter_split hids
      simp only
      rw [hfs]
      omega
    · simp only
      rw [tot_bump]
      omega
theorem lets_sub {s : SM} {n : List UInt8} {x : FL} (hx : x ∈ (letsM s n).fs) : ∃ y ∈ s.fs, x.id = y.id ∧ x.g = y.g ∧ x.v = y.v ∧ x.xs = y.xs := by
  unfold letsM at hx
  cases hl : alook s.ml n with
  | none => rw [hl] at hx; exact ⟨x, hx, rfl, rfl, rfl, rfl⟩
  | some p =>
    rw [hl] at hx
    simp only at hx
    cases hg : getF s.fs p.2 with
    | none => rw [hg] at hx; exact ⟨x, hx, rfl, rfl, rfl, rfl⟩
    | some f =>
      rw [hg] at hx
      simp only at hx
      split at hx
      · exact ⟨x, (List.mem_filter.1 hx).1, rfl, rfl, rfl, rfl⟩
      · obtain ⟨y, hy, h1, h2, h3, h4, _⟩ := mem_bump hx
        exact ⟨y, hy, h1, h2, h3, h4⟩
theorem cnt_zero {s : SM} (h : Raw s) {id : Nat} (hid : ∀ f ∈ s.fs, f.id ≠ id) : cnt s.ml id = 0 := by
  unfold cnt
  rw [List.length_eq_zero_iff, List.filter_eq_nil_iff]
  intro q hq
  obtain ⟨f, hf, _, h2⟩ := h.has q hq
  simp only [decide_eq_true_eq]
  intro e
  exact hid f hf (h2.trans e)
def newM (s : SM) (id : Nat) (v : Value) (xs : List UInt8) (g : Nat) : SM := { s with fs := ⟨g, id, v, xs, 0⟩ :: s.fs }
theorem raw_new {s : SM} (h : Raw s) {id : Nat} {v : Value} {xs : List UInt8} {g : Nat} (hid : ∀ f ∈ s.fs, f.id ≠ id) (hg : ∀ f ∈ s.fs, f.g ≠ g) (hv : ∃ A cap, v = .slice A xs.length cap ∧ xs.length ≤ 1000000000) (ht : (tot s.fs : Int) ≤ s.used) : Raw (newM s id v xs g) := by
  obtain ⟨A, cap, hv1, hv2⟩ := hv
  have hus := h.us
  refine ⟨h.map, h.nd, ?_, ?_, fun q hq => ?_, fun f hf => ?_, fun f hf => ?_, ?_⟩
  · show ((_ :: s.fs).map FL.id).Nodup
    rw [List.map_cons, List.nodup_cons]
    exact ⟨fun hm => by obtain ⟨f, hf, e⟩ := List.mem_map.1 hm; exact hid f hf e, h.ids⟩
  · show ((_ :: s.fs).map FL.g).Nodup
    rw [List.map_cons, List.nodup_cons]
    exact ⟨fun hm => by obtain ⟨f, hf, e⟩ := List.mem_map.1 hm; exact hg f hf e, h.gnd⟩
  · obtain ⟨f, hf, h1⟩ := h.has q hq
    exact ⟨f, List.mem_cons_of_mem _ hf, h1⟩
  · rcases List.mem_cons.1 hf with rfl | hf
    · exact ⟨A, cap, hv1, hv2⟩
    · exact h.form f hf
  · rcases List.mem_cons.1 hf with rfl | hf
    · show ((cnt s.ml id : Nat) : Int) ≤ 0 ∧ (0 : Int) ≤ 1000000
      rw [cnt_zero h hid]
      exact ⟨Int.le_refl _, by decide⟩
    · exact h.le f hf
  · show (tot (_ :: s.fs) : Int) ≤ s.used + 2000000000 ∧ _
    have e : tot ((⟨g, id, v, xs, 0⟩ : FL) :: s.fs) = xs.length + tot s.fs := by simp [tot]
    rw [e]
    exact ⟨by omega, hus.2⟩
theorem SM.split (s : SM) : ([s.heap] : List SH).flatten.Perm ([[(s.gs, s.sobj)], [(s.gm, .map s.es s.ck)], s.fs.map FL.h] : List SH).flatten := List.Perm.of_eq (by simp [SM.heap])
def writeM (s : SM) (n : List UInt8) (id : Nat) (v : Value) (xs : List UInt8) (g : Nat) : SM :=
  { givesM (newM (letsM s n) id v xs g) n (g, id) with used := (givesM (newM (letsM s n) id v xs g) n (g, id)).used + (xs.length : Int) }
theorem gives_tot {s : SM} (h : Raw s) {n : List UInt8} {f : FL} (hf : f ∈ s.fs) (hk : f.k + 1 ≤ 1000000) {d : Int} (ht : (tot s.fs : Int) + d ≤ s.used) : (tot (givesM s n (f.g, f.id)).fs : Int) + d ≤ (givesM s n (f.g, f.id)).used ∧ (givesM s n (f.g, f.id)).used ≤ s.used := by
  unfold givesM
  split
  · exact ⟨ht, Int.le_refl _⟩
  · exact lets_tot (raw_bump h hf hk) n (d := d) (by show (tot (bump s.fs f.id 1) : Int) + d ≤ _; rw [tot_bump]; exact ht)
theorem raw_used {s : SM} (h : Raw s) (u : Int) (hu : (tot s.fs : Int) ≤ u + 2000000000 ∧ u ≤ 1000000000000000) : Raw { s with used := u } := ⟨h.map, h.nd, h.ids, h.gnd, h.has, h.form, h.le, hu⟩
theorem wr_con (s : SM) (P : List BK) (n : List UInt8) (bv : Value) (xs : List UInt8) (A : Option Addr) (c id g1 g2 : Nat) (w : World) (h : Raw s) (ht : (tot s.fs : Int) ≤ s.used) (hu : s.used ≤ 2000000000) (hid : ∀ f ∈ s.fs, f.id ≠ id) (hbv : bv = .slice A xs.length c) (hc : xs.length ≤ c) (hxl : xs.length ≤ 1000000000) (hn : strOk n) (h1 : w.heap[g1]? = some (.cells [.string (bs n)].toArray 9 (0, 0))) (hd1 : g1 ∉ dom (s.heap ++ ph P)) (h2 : w.heap[g2]? = some (.cells [bv].toArray 23 (0, 0))) (hd2 : g2 ∉ dom (s.heap ++ ph P)) : Con Try.prog 35 [s.ptr, .pointer (some ⟨g1, 0, none⟩), .pointer (some ⟨g2, 0, none⟩)] w (s.heap ++ ph P) fun _ S' => ∃ (es : Array MapEntry) (ck g : Nat), w.heap.size ≤ g ∧ S' = [SM.heap { writeM s n id (.slice (if xs.length = 0 then A else A.map (fun a : Addr => a.add (0 * 1))) xs.length xs.length) xs g with es := es, ck := ck }, ph P] ∧ Raw { writeM s n id (.slice (if xs.length = 0 then A else A.map (fun a : Addr => a.add (0 * 1))) xs.length xs.length) xs g with es := es, ck := ck } := by
  refine con_of_tree mix Try.func35 T35_ok (by kernel_rfl) ?_
  unfold T35
  obtain ⟨cv, hcv⟩ : ∃ v : Value, v = (.slice (if xs.length = 0 then A else A.map (fun a : Addr => a.add (0 * 1))) xs.length xs.length) := ⟨_, rfl⟩
  rw [← hcv]
  subst hbv
  refine j_perm (S' := [s.heap, ph P]) (by simp) ?_
  refine j_q (qs_loadO (rdo_base h1 hd1) Try.underlying9 rfl rfl rfl) ?_
  refine j_call 0 ent36 rfl rfl rfl rfl (fun w' hw' => lets_con s n w' h hn) (fun u S2 hu1 => ?_)
  obtain ⟨es1, rfl, hr1⟩ := hu1
  refine j_subl (S' := [SM.heap ({ letsM s n with es := es1 } : SM), ph P]) (by repeat first | exact slR _ | exact slN _ | apply slC | apply slD) ?_
  have ht1 := lets_tot h n (d := 0) (by omega)
  refine j_q (qs_loadO (rdo_base h2 hd2) Try.underlying23 rfl rfl rfl) ?_
  refine j_q (qs_call ent37 rfl rfl rfl (fun w' hw' => clip_con A xs.length c hc w')) ?_
  rw [← hcv]
  refine j_q (qs_build (places := [(0, 1), (1, 1)]) (offs := [(0, [cv])]) Try.underlying73 zero73 (by kernel_rfl) rfl (by rintro (_ | j) p q hp hq <;> first | (simp at hp hq; subst hp hq; exact ⟨rfl, (by show cv.cells = #[cv]; rw [hcv]; rfl), by simp⟩) | (simp at hp))) ?_
  refine j_box (l := [cv, .int .i32 0]) rfl (fun g5 hg5 hs5 => ?_)
  refine j_q (qs_loadO (rdo_base h1 hd1) Try.underlying9 rfl rfl rfl) ?_
  have hg5' : ∀ f ∈ (letsM s n).fs, f.g ≠ g5 := fun f hf e => hs5 (by
    rw [← e]
    exact List.mem_map.2 ⟨f.h, by simp only [List.flatten_cons, List.flatten_nil, List.append_nil, SM.heap]; exact List.mem_append_left _ (List.mem_append_right _ (List.mem_map.2 ⟨f, hf, rfl⟩)), rfl⟩)
  have hid1 : ∀ f ∈ (letsM s n).fs, f.id ≠ id := fun f hf e => by
    obtain ⟨y, hy, e1, _⟩ := lets_sub hf
    exact hid y hy (e1.symm.trans e)
  have hr2 : Raw (newM ({ letsM s n with es := es1 } : SM) id cv xs g5) := raw_new hr1 hid1 hg5' ⟨_, _, hcv, hxl⟩ (by have := ht1.1; show (tot (letsM s n).fs : Int) ≤ (letsM s n).used; omega)
  refine j_perm (S' := [SM.heap (newM ({ letsM s n with es := es1 } : SM) id cv xs g5), ph P]) (by
    classical
    refine List.perm_iff_count.2 fun x => ?_
    simp only [SM.heap, newM, rest, FL.h, flcells, SM.sobj, smcells, List.set, List.map_append, List.map_cons, List.flatten_cons, List.flatten_nil, List.append_nil, List.nil_append, List.cons_append, List.count_append, List.count_cons, List.count_nil] <;> omega) ?_
  have hp2 : SM.ptr (newM ({ letsM s n with es := es1 } : SM) id cv xs g5) = s.ptr := by simp only [SM.ptr, newM, (letsM_gs s n).1]
  refine j_call 0 ent38 rfl rfl (by rw [hp2]; rfl) rfl (fun w' hw' => gives_con (newM ({ letsM s n with es := es1 } : SM) id cv xs g5) n (⟨g5, id, cv, xs, 0⟩ : FL) w' hr2 hn (by simp [newM]) (by show (0 : Int) + 1 ≤ _; decide)) (fun u S2 hu1 => ?_)
  obtain ⟨es3, ck3, rfl, hr3⟩ := hu1
  have hg3t := gives_tot hr2 (f := (⟨g5, id, cv, xs, 0⟩ : FL)) (n := n) (by simp [newM]) (by show (0 : Int) + 1 ≤ _; decide) (d := -(xs.length : Int)) (by
    show (tot (_ :: (letsM s n).fs) : Int) + _ ≤ (letsM s n).used
    have e : tot ((⟨g5, id, cv, xs, 0⟩ : FL) :: (letsM s n).fs) = xs.length + tot (letsM s n).fs := by simp [tot]
    rw [e]
    have := ht1.1
    omega)
  have hlu := ht1.2
  obtain ⟨s3, hs3⟩ : ∃ x : SM, x = ({ givesM (newM ({ letsM s n with es := es1 } : SM) id cv xs g5) n (g5, id) with es := es3, ck := ck3 } : SM) := ⟨_, rfl⟩
  have hgs3 : s3.gs = s.gs := by
    rw [hs3]
    show (givesM (newM ({ letsM s n with es := es1 } : SM) id cv xs g5) n (g5, id)).gs = s.gs
    rw [(givesM_gs _ _ _).1]
    exact (letsM_gs s n).1
  have hr3' : Raw s3 := by rw [hs3]; exact hr3
  have hg3a : (tot s3.fs : Int) + -(xs.length : Int) ≤ s3.used := by rw [hs3]; exact hg3t.1
  have hg3u : s3.used ≤ (letsM s n).used := by rw [hs3]; exact hg3t.2
  have hfin : ({ writeM s n id cv xs g5 with es := es3, ck := ck3 } : SM) = { s3 with used := s3.used + (xs.length : Int) } := by
    have e1 : givesM (newM ({ letsM s n with es := es1 } : SM) id cv xs g5) n (g5, id) = { givesM (newM (letsM s n) id cv xs g5) n (g5, id) with es := es1, ck := (letsM s n).ck } := by
      rw [show (newM ({ letsM s n with es := es1 } : SM) id cv xs g5) = { newM (letsM s n) id cv xs g5 with es := es1, ck := (letsM s n).ck } from rfl, givesM_es]
    rw [hs3, e1]
    rfl
  refine j_perm (S' := [s3.heap, ph P]) (by rw [hs3]; exact List.Perm.refl _) ?_
  clear hs3 hr3 hr2 hg3t
  refine j_perm (S' := [[(s.gs, .cells (smcells s3).toArray 66 (0, 0))], [(s3.gm, .map s3.es s3.ck)], s3.fs.map FL.h, ph P]) (by
    rw [← hgs3]
    have h0 := s3.split.append_right (ph P)
    simpa using h0) ?_
  refine j_draw ?_
  refine jq_q (qs_nil rfl) ?_
  refine jq_q (qs_field Try.underlying66 rfl sz3 (by decide) rfl) ?_
  refine jq_q (qs_load (l := smcells s3) 0 Try.underlying3 rfl rfl rfl rfl) ?_
  refine jq_q (qs_loadO (rdo_base h2 hd2) Try.underlying23 rfl rfl rfl) ?_
  refine jq_q (qs_lenl Try.underlying23 rfl) ?_
  refine jq_q (qs_add64 rfl rfl (by first | omega | (simp only [bnA] at *; omega))) ?_
  refine jq_q (qs_nil rfl) ?_
  refine jq_q (qs_field Try.underlying66 rfl sz3 (by decide) rfl) ?_
  refine jq_nil ?_
  refine j_store (l := smcells s3) 0 sz3 rfl rfl rfl rfl (by simp) (by simp) ?_
  refine j_perm (S' := [SM.heap { s3 with used := s3.used + (xs.length : Int) }, ph P]) (by
    rw [← hgs3]
    have h0 := (SM.split { s3 with used := s3.used + (xs.length : Int) }).symm.append_right (ph P)
    refine List.Perm.trans (List.Perm.of_eq ?_) (List.Perm.trans h0 (List.Perm.of_eq (by simp)))
    simp [List.set]
    rfl) ?_
  refine j_ret_con (vs := []) (fun w' hw' => trivial) ?_
  refine ⟨es3, ck3, g5, hg5, ?_, ?_⟩
  · rw [hfin]
  · rw [hfin]
    exact raw_used hr3' _ ⟨by omega, by omega⟩
end Go.Proofs.Ytckpegkpdepokaa
/-! Fs4 -/
namespace Go.Proofs.Ytckpegkpdepokaa
open Go Go.Sx
set_option maxRecDepth 100000
set_option maxHeartbeats 4000000
set_option linter.unusedVariables false
set_option linter.unusedSimpArgs false
attribute [local irreducible] J JQ QS Con W opW
open Go.MapKept Go.WideMaps Go.Maps
def app1 (id : Nat) (v : Value) (xs : List UInt8) (f : FL) : FL := if f.id = id then { f with v := v, xs := f.xs ++ xs } else f
def appM (s : SM) (id : Nat) (v : Value) (xs : List UInt8) : SM := { s with fs := s.fs.map (app1 id v xs), used := s.used + (xs.length : Int) }
theorem app_split {a b : List FL} {f : FL} {v : Value} {xs : List UInt8} (h : ((a ++ f :: b).map FL.id).Nodup) : (a ++ f :: b).map (app1 f.id v xs) = a ++ { f with v := v, xs := f.xs ++ xs } :: b := by
  obtain ⟨h1, h2⟩ := off_ids h
  have off : ∀ {c : List FL}, (∀ x ∈ c, x.id ≠ f.id) → c.map (app1 f.id v xs) = c := fun {c} hc => by
    conv => rhs; rw [← List.map_id c]
    exact List.map_congr_left fun x hx => by unfold app1; rw [if_neg (hc x hx)]; rfl
  rw [List.map_append, List.map_cons, off h1, off h2]
  congr 2
  unfold app1
  rw [if_pos rfl]
theorem app_id (id : Nat) (v : Value) (xs : List UInt8) (f : FL) : (app1 id v xs f).id = f.id ∧ (app1 id v xs f).g = f.g ∧ (app1 id v xs f).k = f.k := by
  unfold app1
  split <;> exact ⟨rfl, rfl, rfl⟩
theorem raw_app {s : SM} (h : Raw s) {f : FL} (hf : f ∈ s.fs) {v : Value} {xs : List UInt8} (hv : ∃ A cap, v = .slice A (f.xs ++ xs).length cap) (hl : (f.xs ++ xs).length ≤ 1000000000) (hu : s.used + (xs.length : Int) ≤ 1000000000000000) : Raw (appM s f.id v xs) := by
  obtain ⟨a, b, hab⟩ := List.append_of_mem hf
  have hids := h.ids
  rw [hab] at hids
  have hfs : s.fs.map (app1 f.id v xs) = a ++ { f with v := v, xs := f.xs ++ xs } :: b := by rw [hab]; exact app_split hids
  have hus := h.us
  refine ⟨h.map, h.nd, ?_, ?_, fun q hq => ?_, fun x hx => ?_, fun x hx => ?_, ?_⟩
  · show ((s.fs.map (app1 f.id v xs)).map FL.id).Nodup
    rw [List.map_map]
    have e : s.fs.map (FL.id ∘ app1 f.id v xs) = s.fs.map FL.id := List.map_congr_left fun x _ => (app_id _ _ _ x).1
    rw [e]
    exact h.ids
  · show ((s.fs.map (app1 f.id v xs)).map FL.g).Nodup
    rw [List.map_map]
    have e : s.fs.map (FL.g ∘ app1 f.id v xs) = s.fs.map FL.g := List.map_congr_left fun x _ => (app_id _ _ _ x).2.1
    rw [e]
    exact h.gnd
  · obtain ⟨x, hx, h1, h2⟩ := h.has q hq
    exact ⟨app1 f.id v xs x, List.mem_map.2 ⟨x, hx, rfl⟩, (app_id _ _ _ x).2.1.trans h1, (app_id _ _ _ x).1.trans h2⟩
  · have hx' : x ∈ a ++ { f with v := v, xs := f.xs ++ xs } :: b := by rw [← hfs]; exact hx
    rcases List.mem_append.1 hx' with hx' | hx'
    · exact h.form x (by rw [hab]; exact List.mem_append_left _ hx')
    · rcases List.mem_cons.1 hx' with rfl | hx'
      · obtain ⟨A, cap, e⟩ := hv
        exact ⟨A, cap, e, hl⟩
      · exact h.form x (by rw [hab]; exact List.mem_append_right _ (List.mem_cons_of_mem _ hx'))
  · obtain ⟨y, hy, rfl⟩ := List.mem_map.1 hx
    rw [(app_id _ _ _ y).1, (app_id _ _ _ y).2.2]
    exact h.le y hy
  · show (tot (s.fs.map (app1 f.id v xs)) : Int) ≤ s.used + (xs.length : Int) + 2000000000 ∧ s.used + (xs.length : Int) ≤ 1000000000000000
    have t1 := tot_split a b f
    have t2 := tot_split a b { f with v := v, xs := f.xs ++ xs }
    rw [← hab] at t1
    rw [hfs, t2]
    simp only [List.length_append]
    exact ⟨by omega, hu⟩
def BR (w : World) (v : Value) (xs : List UInt8) : Prop := (v = .slice none 0 0 ∧ xs = []) ∨ ∃ a cap, v = .slice (some a) xs.length cap ∧ xs.length ≤ cap ∧ (0 < xs.length → a.block < w.heap.size) ∧ Cells w a (ints xs)
theorem br_form {w : World} {v : Value} {xs : List UInt8} (h : BR w v xs) : ∃ A cap, v = .slice A xs.length cap ∧ xs.length ≤ cap := by
  rcases h with ⟨rfl, rfl⟩ | ⟨a, cap, rfl, h, _⟩
  · exact ⟨none, 0, rfl, Nat.le_refl _⟩
  · exact ⟨_, cap, rfl, h⟩
theorem br_rsl {w : World} {v : Value} {xs : List UInt8} (h : RSl w v (ints xs)) : BR w v xs := by
  rcases h with ⟨rfl, h⟩ | ⟨g, off, cap, rfl, h1, h2, h3⟩
  · refine .inl ⟨rfl, ?_⟩
    have := congrArg List.length h
    rw [ints_length] at this
    exact List.eq_nil_of_length_eq_zero this
  · rw [ints_length] at h2 ⊢
    exact .inr ⟨_, cap, rfl, h2, fun _ => h1, h3⟩
theorem br_rv {w : World} {P : List BK} {v : Value} {xs : List UInt8} (h : RV P v xs) (hin : In w (ph P)) : BR w v xs := by
  rcases h with h | ⟨b, hb, cap, rfl, h2, h3⟩
  · exact .inl h
  · have hg : w.heap[b.g]? = some (.cells (ints b.xs ++ b.rest).toArray 5 b.fz) := hin b.h (List.mem_map.2 ⟨b, hb, rfl⟩)
    refine .inr ⟨_, cap, rfl, h3, fun _ => lt_of_get hg, fun j u hu => ?_⟩
    rw [add_off, Nat.zero_add, cell_of hg]
    obtain ⟨t, ht⟩ := h2
    rw [← ht, ints_append, List.append_assoc]
    rw [List.getElem?_append_left (List.getElem?_eq_some_iff.1 hu).1]
    exact hu
theorem own_pool {xs : List UInt8} {v : Value} {c : SH} (h : Sx.Own 5 1 (ints xs) v c) : ∃ Q : List BK, c = ph Q ∧ RV Q v xs := by
  rcases h with ⟨rfl, h, rfl⟩ | ⟨g, n, cap, rest, fz, rfl, rfl, h1, h2, h3, h4⟩
  · refine ⟨[], rfl, .inl ⟨rfl, ?_⟩⟩
    have := congrArg List.length h
    rw [ints_length] at this
    exact List.eq_nil_of_length_eq_zero this
  · rw [ints_length, Nat.mul_one] at h1
    subst h1
    exact ⟨[⟨g, xs, rest, fz, 0⟩], rfl, .inr ⟨⟨g, xs, rest, fz, 0⟩, by simp, cap, rfl, List.prefix_refl _, h3⟩⟩
theorem clone_con (v : Value) (xs : List UInt8) (w : World) (h : BR w v xs) (hl : xs.length ≤ 1000000000) : Con Try.prog 31 [v] w [] fun u S' => ∃ Q : List BK, S' = [ph Q] ∧ RV Q u xs := by
  refine con_of_tree mix Try.func31 T31_ok (by kernel_rfl) ?_
  unfold T31
  have hf := br_form h
  obtain ⟨A, cap, hv, hcap⟩ := hf
  subst hv
  refine j_q (qs_ac) ?_
  refine j_q (qs_slnil Try.underlying23 rfl) ?_
  refine j_cond rfl (fun hc0 => ?_) (fun hc0 => ?_)
  · skip
    have h0 : A = none := by cases A with
      | none => rfl
      | some a => simp at hc0
    subst h0
    have hx0 : xs = [] := by
      rcases h with ⟨_, h⟩ | ⟨a, c, e, _⟩
      · exact h
      · cases e
    subst hx0
    refine j_q (qs_ac) ?_
    refine j_perm (S' := [ph []]) (by simp [ph]) ?_
    refine j_ret_con (vs := [_]) (fun w' hw' => ⟨rfl, trivial⟩) ?_
    exact ⟨[], rfl, .inl ⟨rfl, rfl⟩⟩
  · skip
    obtain ⟨a, rfl⟩ : ∃ a, A = some a := by
      cases A with
      | none => simp at hc0
      | some a => exact ⟨a, rfl⟩
    have hcl : Cells w a (ints xs) := by
      rcases h with ⟨e, _⟩ | ⟨a', c, e, _, _, h⟩
      · cases e
      · injection e with e1 e2 e3
        injection e1 with e1
        rw [e1]
        exact h
    refine j_lit (vs := []) Try.underlying23 sz5 zero5 rfl (by simp [oneV]) ⟨rfl, by decide⟩ (fun g3 v3 c3 hv3 hc3 ho3 => ?_)
    subst hv3 hc3
    refine j_append 0 Try.underlying23 Try.underlying23 (.inr ⟨_, rfl⟩) sb5 zero5 rfl ho3 rfl (src_sl (rd_cells hcl (by simp)) (by rw [ints_length, Nat.mul_one])) ints_one ⟨(by rw [ints_length]; simp only [List.length_nil]; omega), (by decide)⟩ (fun v4 c4 ho4 => ?_)
    rw [List.nil_append] at ho4
    obtain ⟨Q, hQ, hrv⟩ := own_pool ho4
    refine j_subl (S' := [c4]) (by repeat first | exact slR _ | exact slN _ | apply slC | apply slD) ?_
    refine j_ret_con (vs := [_]) (fun w' hw' => ⟨rfl, trivial⟩) ?_
    exact ⟨Q, by rw [hQ], hrv⟩
theorem ap_con (s : SM) (P : List BK) (n : List UInt8) (f : FL) (bv : Value) (xs : List UInt8) (g1 g2 : Nat) (w : World) (h : Raw s) (hf : f ∈ s.fs) (hl : alook s.ml n = some (f.g, f.id)) (hvw : Vw P f.g f.v f.xs) (hrv : RV P bv xs) (hxl : (f.xs ++ xs).length ≤ 1000000000) (hu : -1000000000000000 ≤ s.used ∧ s.used + (xs.length : Int) ≤ 1000000000000000) (hn : strOk n) (h1 : w.heap[g1]? = some (.cells [.string (bs n)].toArray 9 (0, 0))) (hd1 : g1 ∉ dom (s.heap ++ ph P)) (h2 : w.heap[g2]? = some (.cells [bv].toArray 23 (0, 0))) (hd2 : g2 ∉ dom (s.heap ++ ph P)) : Con Try.prog 40 [s.ptr, .pointer (some ⟨g1, 0, none⟩), .pointer (some ⟨g2, 0, none⟩)] w (s.heap ++ ph P) fun _ S' => ∃ (v' : Value) (P' : List BK), S' = [SM.heap (appM s f.id v' xs), ph P'] ∧ Vw P' f.g v' (f.xs ++ xs) ∧ PLe f.g P P' ∧ Raw (appM s f.id v' xs) := by
  refine con_of_tree mix Try.func40 T40_ok (by kernel_rfl) ?_
  unfold T40
  obtain ⟨a, b, hab⟩ := List.append_of_mem hf
  have hids := h.ids
  rw [hab] at hids
  obtain ⟨bA, bc, hbv, hbc, _⟩ := hrv.form
  subst hbv
  rw [List.length_append] at hxl
  refine j_perm (S' := [[(s.gs, s.sobj)], [(s.gm, .map s.es s.ck)], [f.h], rest a b, ph P]) (by
    have h0 := (SM.open_ hab).append_right (ph P)
    simpa using h0) ?_
  refine j_draw ?_
  refine jq_q (qs_nil rfl) ?_
  refine jq_q (qs_field Try.underlying66 rfl sz64 (by decide) rfl) ?_
  refine jq_q (qs_load (l := smcells s) 0 Try.underlying64 rfl rfl rfl rfl) ?_
  refine jq_q (qs_loadO (rdo_base h1 hd1) Try.underlying9 rfl rfl rfl) ?_
  refine jq_q (qs_lookup (key := n) strKey 1 Try.underlying64 zv63 rfl rfl rfl h.map hn) ?_
  rw [mlook_map fptr, getD_fptr, hl, Option.map_some]
  refine jq_nil ?_
  refine j_mix [[f.h]] (Le.of_sub (by repeat first | exact slR _ | exact slN _ | apply slC | apply slD)) ?_
  refine j_mq (qs_nil rfl) ?_
  refine j_mq (qs_field Try.underlying73 rfl sz23 (by decide) rfl) ?_
  refine j_mq (qs_load (l := flcells f) 0 Try.underlying23 rfl rfl rfl rfl) ?_
  refine j_mq (qs_loadO (rdo_base h2 hd2) Try.underlying23 rfl rfl rfl) ?_
  refine j_appendP (xs := f.xs) (news := xs) (P := P) (o := f.g) 4 rfl hvw (src_rv hrv (fun k hk => mem_flatten_of (k := 4) rfl (List.mem_map.2 ⟨k, hk, rfl⟩))) (by omega) (fun v9 P9 hv9 hp9 => ?_)
  refine j_mD0 (Le.of_sub (by repeat first | exact slR _ | exact slN _ | apply slC | apply slD)) ?_
  refine j_mq (qs_nil rfl) ?_
  refine j_mq (qs_field Try.underlying73 rfl sz23 (by decide) rfl) ?_
  refine j_store (l := flcells f) 2 sz23 rfl rfl (by obtain ⟨A', c', e', _⟩ := hv9.rv.form; show oneV v9 = true; rw [e']; rfl) rfl (by simp) (by simp) ?_
  refine j_mR _ (.refl _) ?_
  refine j_mend ?_
  refine j_draw ?_
  refine jq_q (qs_nil rfl) ?_
  refine jq_q (qs_field Try.underlying66 rfl sz3 (by decide) rfl) ?_
  refine jq_q (qs_load (l := smcells s) 0 Try.underlying3 rfl rfl rfl rfl) ?_
  refine jq_q (qs_loadO (rdo_base h2 hd2) Try.underlying23 rfl rfl rfl) ?_
  refine jq_q (qs_lenl Try.underlying23 rfl) ?_
  refine jq_q (qs_add64 rfl rfl (by first | omega | (simp only [bnA] at *; omega))) ?_
  refine jq_q (qs_nil rfl) ?_
  refine jq_q (qs_field Try.underlying66 rfl sz3 (by decide) rfl) ?_
  refine jq_nil ?_
  refine j_store (l := smcells s) 0 sz3 rfl rfl rfl rfl (by simp) (by simp) ?_
  refine j_perm (S' := [SM.heap (appM s f.id v9 xs), ph P9]) (by
    have e : (appM s f.id v9 xs).fs = a ++ ({ f with v := v9, xs := f.xs ++ xs } : FL) :: b := by
      show s.fs.map (app1 f.id v9 xs) = _
      rw [hab]
      exact app_split hids
    have h0 := (SM.open_ e).append_right (ph P9)
    refine List.Perm.trans ?_ (List.Perm.trans h0.symm (List.Perm.of_eq (by simp)))
    refine List.Perm.of_eq ?_
    simp [appM, FL.h, smcells, flcells, SM.sobj, List.set]
    exact ⟨rfl, rfl⟩) ?_
  refine j_ret_con (vs := []) (fun w' hw' => trivial) ?_
  obtain ⟨A', c', e', _⟩ := hv9.rv.form
  exact ⟨v9, P9, rfl, hv9, hp9, raw_app h hf ⟨A', c', e'⟩ (by rw [List.length_append]; omega) hu.2⟩
theorem li_con (s : SM) (P : List BK) (n old : List UInt8) (f : FL) (g1 g2 : Nat) (w : World) (h : Raw s) (hf : f ∈ s.fs) (hk : f.k + 1 ≤ 1000000) (hl : alook s.ml old = some (f.g, f.id)) (hn : strOk n) (ho : strOk old) (h1 : w.heap[g1]? = some (.cells [.string (bs n)].toArray 9 (0, 0))) (hd1 : g1 ∉ dom (s.heap ++ ph P)) (h2 : w.heap[g2]? = some (.cells [.string (bs old)].toArray 9 (0, 0))) (hd2 : g2 ∉ dom (s.heap ++ ph P)) : Con Try.prog 39 [s.ptr, .pointer (some ⟨g1, 0, none⟩), .pointer (some ⟨g2, 0, none⟩)] w (s.heap ++ ph P) fun _ S' => ∃ (es : Array MapEntry) (ck : Nat), S' = [SM.heap { givesM s n (f.g, f.id) with es := es, ck := ck }, ph P] ∧ Raw { givesM s n (f.g, f.id) with es := es, ck := ck } := by
  refine con_of_tree mix Try.func39 T39_ok (by kernel_rfl) ?_
  unfold T39
  refine j_perm (S' := [[(s.gs, s.sobj)], [(s.gm, .map s.es s.ck)], s.fs.map FL.h, ph P]) (by
    have h0 := s.split.append_right (ph P)
    simpa using h0) ?_
  refine j_mix _ (.refl _) ?_
  refine j_mq (qs_loadO (rdo_base h1 hd1) Try.underlying9 rfl rfl rfl) ?_
  refine j_mq (qs_nil rfl) ?_
  refine j_mq (qs_field Try.underlying66 rfl sz64 (by decide) rfl) ?_
  refine j_mq (qs_load (l := smcells s) 0 Try.underlying64 rfl rfl rfl rfl) ?_
  refine j_mq (qs_loadO (rdo_base h2 hd2) Try.underlying9 rfl rfl rfl) ?_
  refine j_mq (qs_lookup (key := old) strKey 1 Try.underlying64 zv63 rfl rfl rfl h.map ho) ?_
  rw [mlook_map fptr, getD_fptr, hl, Option.map_some]
  refine j_perm (S' := [s.heap, ph P]) (by
    have h0 := s.split.symm.append_right (ph P)
    simpa using h0) ?_
  refine j_call 0 ent38 rfl rfl rfl rfl (fun w' hw' => gives_con s n f w' h hn hf hk) (fun u S2 hu => ?_)
  obtain ⟨es1, ck1, rfl, hr1⟩ := hu
  refine j_subl (S' := [SM.heap { givesM s n (f.g, f.id) with es := es1, ck := ck1 }, ph P]) (by repeat first | exact slR _ | exact slN _ | apply slC | apply slD) ?_
  refine j_mR _ (.refl _) ?_
  refine j_mend ?_
  refine j_ret_con (vs := []) (fun w' hw' => trivial) ?_
  exact ⟨es1, ck1, rfl, hr1⟩
end Go.Proofs.Ytckpegkpdepokaa
/-! Fs5 -/
namespace Go.Proofs.Ytckpegkpdepokaa
open Go Go.Sx
set_option maxRecDepth 100000
set_option maxHeartbeats 4000000
set_option linter.unusedVariables false
set_option linter.unusedSimpArgs false
attribute [local irreducible] J JQ QS Con W opW
open Go.MapKept Go.WideMaps Go.Maps
structure FM where
  gf : Nat
  room : Int
  lp : Value
  now : SM
  ts : List Value
  tv : Value
  tc : SH
  fused : Bool
  left : Int
  more : SH
  P : List BK
abbrev fmcells (f : FM) : List Value := [.int .i64 f.room, f.lp, f.now.ptr, f.tv, .bool f.fused, .int .i64 f.left]
abbrev FM.obj (f : FM) : Obj := .cells (fmcells f).toArray 62 (0, 0)
def FM.heap (f : FM) : SH := [(f.gf, f.obj)] ++ f.now.heap ++ f.tc ++ f.more ++ ph f.P
abbrev FM.ptr (f : FM) : Value := .pointer (some ⟨f.gf, 0, none⟩)
abbrev FM.parts (f : FM) : List SH := [[(f.gf, f.obj)], f.now.heap ++ ph f.P, f.tc, f.more]
theorem FM.split (f : FM) : ([f.heap] : List SH).flatten.Perm (f.parts).flatten := by
  classical
  refine List.perm_iff_count.2 fun x => ?_
  simp only [FM.heap, FM.parts, List.flatten_cons, List.flatten_nil, List.append_nil, List.nil_append, List.cons_append, List.count_append, List.count_cons, List.count_nil] <;> omega
structure FM.Ok (B : Nat) (f : FM) : Prop where
  row : Sx.Own 100 1 f.ts f.tv f.tc
  lt : f.ts.length ≤ B
  raw : Raw f.now
  vw : ∀ x ∈ f.now.fs, Vw f.P x.g x.v x.xs
  lpv : oneV f.lp = true
theorem FM.in_gf {f : FM} {w : World} (h : In w f.heap) : w.heap[f.gf]? = some f.obj := h (f.gf, f.obj) (by simp [FM.heap])
theorem FM.in_now {f : FM} {w : World} (h : In w f.heap) : In w f.now.heap := fun q hq => h q (by simp [FM.heap, hq])
theorem FM.in_P {f : FM} {w : World} (h : In w f.heap) : In w (ph f.P) := fun q hq => h q (by simp [FM.heap, hq])
theorem SM.in_gs {s : SM} {w : World} (h : In w s.heap) : w.heap[s.gs]? = some s.sobj := h (s.gs, s.sobj) (by simp [SM.heap])
theorem SM.in_gm {s : SM} {w : World} (h : In w s.heap) : w.heap[s.gm]? = some (.map s.es s.ck) := h (s.gm, .map s.es s.ck) (by simp [SM.heap])
theorem SM.in_f {s : SM} {w : World} (h : In w s.heap) {x : FL} (hx : x ∈ s.fs) : w.heap[x.g]? = some (.cells (flcells x).toArray 73 (0, 0)) := h x.h (by
  unfold SM.heap
  exact List.mem_append_right _ (List.mem_map.2 ⟨x, hx, rfl⟩))
def nameOk (n : List UInt8) : Bool := decide (1 ≤ n.length) && decide (n.length ≤ 300)
def mayE (fused : Bool) (left : Int) (ns : List (List UInt8)) : Int := if fused && decide (left = 0) then 26 else if ns.all nameOk then 0 else 9
theorem strs_len (ss : List (List UInt8)) : (strs ss).length = ss.length := by simp [strs]
theorem str_get {ss : List (List UInt8)} {i : Nat} (h : i < ss.length) : (strs ss)[i]? = some (.string (bs (ss.getD i []))) := by
  unfold strs
  rw [List.getElem?_map, List.getD_eq_getElem?_getD, List.getElem?_eq_getElem h]
  rfl
theorem in_keep0 {w w' : World} {c : SH} {S : List SH} (h : In w c) (hs : Sig ⟨w, dom []⟩ S w') : In w' c := in_keep h hs
theorem rsl_keep {w w' : World} {v : Value} {vs : List Value} (h : RSl w v vs) {S : List SH} (hs : Sig ⟨w, dom []⟩ S w') : RSl w' v vs := by
  rcases h with h | ⟨g, off, cap, h1, h2, h3, h4⟩
  · exact .inl h
  · exact .inr ⟨g, off, cap, h1, Nat.lt_of_lt_of_le h2 hs.size, h3, rd_w (rd_cells h4 (by simp)) hs⟩
theorem isName_con (n : List UInt8) (w : World) : Con Try.prog 66 [.string (bs n)] w [] fun v _ => v = .bool (nameOk n) := by
  refine con_of_tree mix Try.func66 T66_ok (by kernel_rfl) ?_
  unfold T66
  refine j_q (qs_ac) ?_
  refine j_q (qs_lens Try.underlying9 rfl) ?_
  refine j_q (qs_geq rfl rfl) ?_
  refine j_g rfl (fun hb => qs_mt rfl) ?_
  refine j_g rfl (fun hb => qs_lens Try.underlying9 (gd_eq hb)) ?_
  refine j_g rfl (fun hb => qs_leq (gd_eq hb) rfl) ?_
  refine j_q (qs_and rfl rfl) ?_
  refine j_ret_con (vs := [_]) (fun w' hw' => ⟨rfl, trivial⟩) ?_
  show Value.bool _ = _
  unfold nameOk
  congr 1
  by_cases h1 : 1 ≤ n.length <;> by_cases h2 : n.length ≤ 300 <;> simp [gd, h1, h2] <;> omega
theorem may1_con (n : List UInt8) (w : World) : Con Try.prog 65 [.string (bs n)] w [] fun v _ => v = .bool (!nameOk n) := by
  refine con_of_tree mix Try.func65 T65_ok (by kernel_rfl) ?_
  unfold T65
  refine j_q (qs_ac) ?_
  refine j_q (qs_call ent66 rfl rfl rfl (fun w' hw' => isName_con n w')) ?_
  refine j_q (qs_not rfl) ?_
  refine j_ret_con (vs := [_]) (fun w' hw' => ⟨rfl, trivial⟩) ?_
  rfl
theorem index_con (ns : List (List UInt8)) (v : Value) (w : World) (h : RSl w v (strs ns)) (hl : ns.length ≤ 1000) : Con Try.prog 84 [v, .func (.func 65) #[] #[]] w [] fun u _ => ∃ k : Int, u = .int .i64 k ∧ ((k = -1 ∧ ns.all nameOk = true) ∨ (0 ≤ k ∧ ns.all nameOk = false)) := by
  refine con_of_tree mix Try.func84 T84_ok (by kernel_rfl) ?_
  unfold T84
  obtain ⟨A, c, rfl, hc'⟩ := rsl_form h
  rw [strs_len] at h hc' ⊢
  refine j_q (qs_ac) ?_
  refine j_q (qs_lenl Try.underlying41 rfl) ?_
  refine j_q (qs_mc) ?_
  refine j_loop (fun m vs S' => ∃ i : Nat, vs = [.int .i64 (i : Int)] ∧ S' = [[]] ∧ (∀ j, j < i → nameOk (ns.getD j []) = true) ∧ i ≤ ns.length ∧ m = ns.length - i) ⟨_, 0, rfl, rfl, (fun j hj => by omega), Nat.zero_le _, rfl⟩ ?_
  rintro m vs S' hlen ⟨i, rfl, rfl, hall, hi, rfl⟩
  refine j_q (qs_lss rfl rfl) ?_
  refine j_cond rfl (fun hc0 => ?_) (fun hc0 => ?_)
  · skip
    have hi1 : i < ns.length := by
      simp only [bnA] at *
      omega
    obtain ⟨g1, o1, rfl, _, hcells1⟩ := rsl_addr h (by rw [strs_len]; omega)
    refine j_q (qs_ixn (i := i) Try.underlying41 sz9 rfl rfl hi1) ?_
    refine j_q (qs_loadR (v := .string (bs (ns.getD i []))) (a := ⟨g1, o1, none⟩) (i := i) (rd_cells hcells1 (by simp)) Try.underlying9 rfl (by rw [add_off]; show Value.pointer (some ⟨g1, o1 + i * 1, none⟩) = _; rw [Nat.mul_one]) (str_get hi1)) ?_
    refine j_q (qs_callf ent65 rfl rfl rfl (fun w' hw' => may1_con (ns.getD i []) w')) ?_
    refine j_cond rfl (fun hc1 => ?_) (fun hc1 => ?_)
    · skip
      have hd : nameOk (ns.getD i []) = false := by simpa using hc1
      refine j_ret_con (vs := [_]) (fun w' hw' => ⟨rfl, trivial⟩) ?_
      refine ⟨_, rfl, .inr ⟨by omega, ?_⟩⟩
      rw [List.all_eq_false]
      exact ⟨ns.getD i [], by rw [List.getD_eq_getElem?_getD, List.getElem?_eq_getElem hi1]; exact List.getElem_mem hi1, by rw [hd]; decide⟩
    · skip
      have hd : nameOk (ns.getD i []) = true := by simpa using hc1
      refine j_q (qs_add64 rfl rfl (by first | omega | (simp only [bnA] at *; omega))) ?_
      refine j_back rfl ?_
      exact ⟨ns.length - (i + 1), by omega, i + 1, rfl, rfl, fun j hj => by
        rcases Nat.lt_or_ge j i with h | h
        · exact hall j h
        · obtain rfl : j = i := by omega
          exact hd, by omega, rfl⟩
  · skip
    have hi1 : i = ns.length := by
      simp only [bnA] at *
      omega
    refine j_q (qs_ac) ?_
    refine j_ret_con (vs := [_]) (fun w' hw' => ⟨rfl, trivial⟩) ?_
    refine ⟨_, rfl, .inl ⟨rfl, ?_⟩⟩
    rw [List.all_eq_true]
    intro x hx
    obtain ⟨j, hj, rfl⟩ := List.getElem_of_mem hx
    have := hall j (by omega)
    rwa [List.getD_eq_getElem?_getD, List.getElem?_eq_getElem hj, Option.getD_some] at this
theorem contains_con (ns : List (List UInt8)) (v : Value) (w : World) (h : RSl w v (strs ns)) (hl : ns.length ≤ 1000) : Con Try.prog 64 [v, .func (.func 65) #[] #[]] w [] fun u _ => u = .bool (!ns.all nameOk) := by
  refine con_of_tree mix Try.func64 T64_ok (by kernel_rfl) ?_
  unfold T64
  refine j_q (qs_ac) ?_
  refine j_call0 ent84 rfl rfl rfl (fun w' hw' => index_con ns v w' (rsl_keep h hw') hl) (fun u S2 hu => ?_)
  obtain ⟨k, rfl, hk⟩ := hu
  refine j_subl (S' := [[]]) (by simp) ?_
  refine j_q (qs_geq rfl rfl) ?_
  refine j_ret_con (vs := [_]) (fun w' hw' => ⟨rfl, trivial⟩) ?_
  show Value.bool _ = _
  congr 1
  rcases hk with ⟨rfl, h⟩ | ⟨h0, h⟩
  · rw [h]
    rfl
  · rw [h]
    simpa using h0
theorem ready_con (f : FM) (w : World) (hin : In w f.heap) : Con Try.prog 47 [f.ptr] w [] fun _ _ => True := by
  refine con_of_tree mix Try.func47 T47_ok (by kernel_rfl) ?_
  unfold T47
  refine j_q (qs_nil rfl) ?_
  refine j_q (qs_field Try.underlying62 rfl sz58 (by decide) rfl) ?_
  refine j_q (qs_loadO (rdo_base (FM.in_gf hin) (by simp)) Try.underlying58 rfl rfl rfl) ?_
  refine j_q (qs_pnil Try.underlying58 rfl) ?_
  refine j_cond rfl (fun hc0 => ?_) (fun hc0 => ?_)
  · skip
    simp at hc0
  · skip
    refine j_ret_con (vs := []) (fun w' hw' => trivial) ?_
    trivial
theorem may_con (f : FM) (ns : List (List UInt8)) (v : Value) (w : World) (hin : In w f.heap) (h : RSl w v (strs ns)) (hl : ns.length ≤ 1000) : Con Try.prog 32 [f.ptr, v] w [] fun u _ => u = .int .i64 (mayE f.fused f.left ns) := by
  refine con_of_tree mix Try.func32 T32_ok (by kernel_rfl) ?_
  unfold T32
  refine j_q (qs_ac) ?_
  refine j_q (qs_pnil Try.underlying25 rfl) ?_
  refine j_cond rfl (fun hc0 => ?_) (fun hc0 => ?_)
  · skip
    simp at hc0
  · skip
    refine j_call0 ent47 rfl rfl rfl (fun w' hw' => ready_con f w' (in_keep0 hin hw')) (fun u S2 hu => ?_)
    refine j_subl (S' := [[]]) (by simp) ?_
    refine j_q (qs_nil rfl) ?_
    refine j_q (qs_field Try.underlying62 rfl sz4 (by decide) rfl) ?_
    refine j_q (qs_loadO (rdo_base (FM.in_gf hin) (by simp)) Try.underlying4 rfl rfl rfl) ?_
    refine j_g rfl (fun hb => qs_mt rfl) ?_
    refine j_g rfl (fun hb => qs_nil (gd_eq hb)) ?_
    refine j_g rfl (fun hb => qs_field Try.underlying62 rfl sz3 (by decide) (gd_eq hb)) ?_
    refine j_g rfl (fun hb => qs_loadO (rdo_base (FM.in_gf hin) (by simp)) Try.underlying3 rfl (gd_eq hb) rfl) ?_
    refine j_g rfl (fun hb => qs_eql (gd_eq hb) rfl) ?_
    refine j_q (qs_and rfl rfl) ?_
    refine j_cond rfl (fun hc1 => ?_) (fun hc1 => ?_)
    · skip
      have hd : (f.fused && decide (f.left = 0)) = true := by
        cases hf : f.fused <;> simp [gd, hf] at hc1 ⊢
        exact hc1
      refine j_q (qs_ac) ?_
      refine j_ret_con (vs := [_]) (fun w' hw' => ⟨rfl, trivial⟩) ?_
      unfold mayE
      rw [hd]
      rfl
    · skip
      have hd : (f.fused && decide (f.left = 0)) = false := by
        cases hf : f.fused <;> simp [gd, hf] at hc1 ⊢
        exact hc1
      refine j_q (qs_call ent64 rfl rfl rfl (fun w' hw' => contains_con ns v w' (rsl_keep h hw') hl)) ?_
      refine j_cond rfl (fun hc2 => ?_) (fun hc2 => ?_)
      · skip
        refine j_q (qs_ac) ?_
        refine j_ret_con (vs := [_]) (fun w' hw' => ⟨rfl, trivial⟩) ?_
        unfold mayE
        rw [hd]
        have h2 : ns.all nameOk = false := by simpa using hc2
        rw [h2]
        rfl
      · skip
        refine j_q (qs_ac) ?_
        refine j_ret_con (vs := [_]) (fun w' hw' => ⟨rfl, trivial⟩) ?_
        unfold mayE
        rw [hd]
        have h2 : ns.all nameOk = true := by simpa using hc2
        rw [h2]
        rfl
theorem burns_con (f : FM) (w : World) (hl : -1000000000 ≤ f.left ∧ f.left ≤ 9223372036854775807) : Con Try.prog 46 [f.ptr] w [(f.gf, f.obj)] fun _ S' => S' = [[(f.gf, FM.obj ({ f with left := if f.fused then f.left - 1 else f.left } : FM))]] := by
  refine con_of_tree mix Try.func46 T46_ok (by kernel_rfl) ?_
  unfold T46
  refine j_q (qs_nil rfl) ?_
  refine j_q (qs_field Try.underlying62 rfl sz4 (by decide) rfl) ?_
  refine j_q (qs_load (l := fmcells f) 0 Try.underlying4 rfl rfl rfl rfl) ?_
  refine j_cond rfl (fun hc0 => ?_) (fun hc0 => ?_)
  · skip
    have hf : f.fused = true := hc0
    refine j_q (qs_nil rfl) ?_
    refine j_q (qs_field Try.underlying62 rfl sz3 (by decide) rfl) ?_
    refine j_q (qs_load (l := fmcells f) 0 Try.underlying3 rfl rfl rfl rfl) ?_
    refine j_q (qs_sub64 rfl rfl (by first | omega | (simp only [bnA] at *; omega))) ?_
    refine j_q (qs_nil rfl) ?_
    refine j_q (qs_field Try.underlying62 rfl sz3 (by decide) rfl) ?_
    refine j_store (l := fmcells f) 0 sz3 rfl rfl rfl rfl (by simp) (by simp) ?_
    refine j_ret_con (vs := []) (fun w' hw' => trivial) ?_
    rw [FM.obj, fmcells, hf]
    rfl
  · skip
    have hf : f.fused = false := hc0
    refine j_ret_con (vs := []) (fun w' hw' => trivial) ?_
    rw [FM.obj, fmcells, hf]
    rfl
end Go.Proofs.Ytckpegkpdepokaa
/-! Fs6 -/
namespace Go.Proofs.Ytckpegkpdepokaa
open Go Go.Sx
set_option maxRecDepth 100000
set_option maxHeartbeats 4000000
set_option linter.unusedVariables false
set_option linter.unusedSimpArgs false
attribute [local irreducible] J JQ QS Con W opW
open Go.MapKept Go.WideMaps Go.Maps
abbrev SM0 (gs gm : Nat) : SM := ⟨gs, gm, #[], 0, [], [], 0⟩
theorem raw0 (gs gm : Nat) : Raw (SM0 gs gm) := ⟨mapOk_nil, List.nodup_nil, List.nodup_nil, List.nodup_nil, (fun q h => by cases h), (fun f h => by cases h), (fun f h => by cases h), by simp [tot]⟩
theorem nodup_disj {α : Type} {A B C D : List α} (h : (A ++ (B ++ (C ++ D))).Nodup) : ∀ x ∈ D, x ∉ B := fun x hx hb => by
  rw [List.nodup_append, List.nodup_append] at h
  exact h.2.1.2.2 x hb x (List.mem_append_right _ hx) rfl
theorem parts_disj {b : Base} {f : FM} {w : World} (hw : Sig b f.parts w) : ∀ g ∈ dom f.more, g ∉ dom (f.now.heap ++ ph f.P) := by
  have h := hw.nodup
  simp only [FM.parts, dom, List.flatten_cons, List.flatten_nil, List.append_nil, List.map_append] at h
  rw [← List.map_append] at h
  exact nodup_disj h
abbrev doneF (f : FM) (s : SM) (P : List BK) (t tv : Value) (tc : SH) : FM := { f with now := s, P := P, ts := f.ts ++ [t], tv := tv, tc := tc, left := if f.fused then f.left - 1 else f.left }
theorem begun_con (w : World) : Con Try.prog 30 [] w [] fun v S' => ∃ gs gm : Nat, S' = [(SM0 gs gm).heap] ∧ v = (SM0 gs gm).ptr := by
  refine con_of_tree mix Try.func30 T30_ok (by kernel_rfl) ?_
  unfold T30
  refine j_q (qs_ac) ?_
  refine j_mkmap (fun g1 hg1 => ?_)
  refine j_q (qs_build (places := [(0, 1), (1, 1)]) (offs := [(0, [.map (some g1)])]) Try.underlying66 zero66 (by kernel_rfl) rfl (by rintro (_ | _ | _ | j) p q hp hq <;> first | (simp at hp hq; subst hp hq; exact ⟨rfl, rfl, by simp⟩) | (simp at hp))) ?_
  refine j_box (l := [.map (some g1), .int .i64 0]) rfl (fun g3 hg3 hs3 => ?_)
  refine j_perm (S' := [(SM0 g3 g1).heap]) (List.Perm.of_eq (by simp [SM.heap])) ?_
  refine j_ret_con (vs := [_]) (fun w' hw' => ⟨rfl, trivial⟩) ?_
  exact ⟨g3, g1, rfl, rfl⟩
theorem new_con (room : Int) (w : World) (h0 : 0 ≤ room) (h1 : room ≤ 1073741824) : Con Try.prog 10 [.int .i64 room] w [] fun v S' => ∃ f : FM, S' = [f.heap] ∧ v = .tuple #[f.ptr, .int .i64 0] ∧ f.Ok 0 ∧ f.room = room ∧ f.fused = false ∧ f.left = 0 ∧ f.P = [] ∧ f.ts = [] ∧ f.now.ml = [] ∧ f.now.fs = [] ∧ f.now.used = 0 := by
  refine con_of_tree mix Try.func10 T10_ok (by kernel_rfl) ?_
  unfold T10
  refine j_q (qs_ac) ?_
  refine j_q (qs_ac) ?_
  refine j_q (qs_lss rfl rfl) ?_
  refine j_g rfl (fun hb => qs_mt rfl) ?_
  refine j_g rfl (fun hb => qs_gtr (gd_eq hb) rfl) ?_
  refine j_q (qs_or rfl rfl) ?_
  refine j_cond rfl (fun hc0 => ?_) (fun hc0 => ?_)
  · skip
    simp [gd] at hc0
    omega
  · skip
    refine j_call0 ent30 rfl rfl rfl (fun w' hw' => begun_con w') (fun u S2 hu => ?_)
    obtain ⟨gs1, gm1, rfl, rfl⟩ := hu
    refine j_subl (S' := [(SM0 gs1 gm1).heap]) (by repeat first | exact slR _ | exact slN _ | apply slC | apply slD) ?_
    refine j_call0 ent30 rfl rfl rfl (fun w' hw' => begun_con w') (fun u S2 hu => ?_)
    obtain ⟨gs2, gm2, rfl, rfl⟩ := hu
    refine j_subl (S' := [(SM0 gs2 gm2).heap, (SM0 gs1 gm1).heap]) (by repeat first | exact slR _ | exact slN _ | apply slC | apply slD) ?_
    refine j_q (qs_build (places := [(0, 1), (1, 1), (2, 1), (3, 1), (4, 1), (5, 1)]) (offs := [(0, [.int .i64 room]), (1, [(SM0 gs1 gm1).ptr]), (2, [(SM0 gs2 gm2).ptr])]) Try.underlying62 zero62 (by kernel_rfl) rfl (by rintro (_ | _ | _ | j) p q hp hq <;> first | (simp at hp hq; subst hp hq; exact ⟨rfl, rfl, by simp⟩) | (simp at hp))) ?_
    refine j_box (l := fmcells (⟨0, room, (SM0 gs1 gm1).ptr, SM0 gs2 gm2, [], .slice none 0 0, [], false, 0, (SM0 gs1 gm1).heap, []⟩ : FM)) rfl (fun g11 hg11 hs11 => ?_)
    refine j_q (qs_ac) ?_
    refine j_perm (S' := [FM.heap (⟨g11, room, (SM0 gs1 gm1).ptr, SM0 gs2 gm2, [], .slice none 0 0, [], false, 0, (SM0 gs1 gm1).heap, []⟩ : FM)]) (List.Perm.of_eq (by simp [FM.heap, ph])) ?_
    refine j_ret_con (vs := [_, _]) (fun w' hw' => ⟨rfl, rfl, trivial⟩) ?_
    exact ⟨(⟨g11, room, (SM0 gs1 gm1).ptr, SM0 gs2 gm2, [], .slice none 0 0, [], false, 0, (SM0 gs1 gm1).heap, []⟩ : FM), rfl, rfl, ⟨own_nil, Nat.le_refl _, raw0 _ _, (fun x h => by cases h), rfl⟩, rfl, rfl, rfl, rfl, rfl, rfl, rfl, rfl⟩
theorem does_con (f : FM) (B : Nat) (hB : B < 16384) (fid : FuncId) (caps : Array Value) (Q : SM → List BK → Prop) (w : World) (hok : f.Ok B) (hl : -100000000 ≤ f.left ∧ f.left ≤ 9223372036854775807) (he : Sx.Enters Try.prog fid) (hT : ∀ w', In w' f.more → (∀ g ∈ dom f.more, g ∉ dom (f.now.heap ++ ph f.P)) → Con Try.prog fid (f.now.ptr :: caps.toList) w' (f.now.heap ++ ph f.P) (fun _ S' => ∃ (s' : SM) (P' : List BK), S' = [s'.heap, ph P'] ∧ s'.gs = f.now.gs ∧ Q s' P')) : Con Try.prog 34 [f.ptr, .func (.func fid) #[] caps] w f.heap fun v S' => v = .int .i64 0 ∧ ∃ (s' : SM) (P' : List BK) (tv : Value) (tc : SH), S' = [FM.heap (doneF f s' P' (.func (.func fid) #[] caps) tv tc)] ∧ Sx.Own 100 1 (f.ts ++ [.func (.func fid) #[] caps]) tv tc ∧ s'.gs = f.now.gs ∧ Q s' P' := by
  refine con_of_tree mix Try.func34 T34_ok (by kernel_rfl) ?_
  unfold T34
  obtain ⟨n1, A1, cap1, htv, hn1⟩ := own_form hok.row (by decide)
  rw [Nat.mul_one] at hn1
  subst hn1
  have hlt := hok.lt
  refine j_perm (S' := f.parts) (by simpa using f.split) ?_
  refine j_q (qs_ac) ?_
  refine j_q (qs_nil rfl) ?_
  refine j_q (qs_field Try.underlying62 rfl sz60 (by decide) rfl) ?_
  refine j_q (qs_load (l := fmcells f) 0 Try.underlying60 rfl rfl rfl rfl) ?_
  refine j_q (qs_lenl (n := f.ts.length) (A := A1) (c := cap1) Try.underlying60 htv) ?_
  refine j_q (qs_geq rfl rfl) ?_
  refine j_cond rfl (fun hc0 => ?_) (fun hc0 => ?_)
  · skip
    simp at hc0
    omega
  · skip
    refine j_q (qs_nil rfl) ?_
    refine j_q (qs_field Try.underlying62 rfl sz58 (by decide) rfl) ?_
    refine j_q (qs_load (l := fmcells f) 0 Try.underlying58 rfl rfl rfl rfl) ?_
    refine j_callf 1 he rfl rfl rfl rfl (fun w' hw' => hT w' (in_own hw' 3 rfl) (parts_disj hw')) (fun u S2 hu => ?_)
    obtain ⟨s', P', rfl, hgs, hQ⟩ := hu
    refine j_q (qs_nil rfl) ?_
    refine j_q (qs_field Try.underlying62 rfl sz60 (by decide) rfl) ?_
    refine j_q (qs_load (l := fmcells f) 2 Try.underlying60 rfl rfl rfl rfl) ?_
    refine j_lit (vs := [.func (.func fid) #[] caps]) Try.underlying60 sz100 zero100 rfl (by simp [oneV]) ⟨rfl, by decide⟩ (fun g32 v32 c32 hv32 hc32 ho32 => ?_)
    subst hv32 hc32
    refine j_append 5 Try.underlying60 Try.underlying60 (.inr ⟨_, rfl⟩) sb100 zero100 rfl hok.row rfl (.inl ⟨_, _, rfl, own_rd ho32 0 rfl, rfl⟩) (by intro u hu; rw [List.mem_singleton] at hu; rw [hu]; rfl) ⟨(by simp only [List.length_singleton]; omega), (by decide)⟩ (fun v33 c33 ho33 => ?_)
    refine j_q (qs_nil rfl) ?_
    refine j_q (qs_field Try.underlying62 rfl sz60 (by decide) rfl) ?_
    refine j_store (l := fmcells f) 3 sz60 rfl rfl (by obtain ⟨n', A', cap', e', _⟩ := own_form ho33 (by decide); show oneV v33 = true; rw [e']; rfl) rfl (by simp) (by simp) ?_
    refine j_call 3 ent46 rfl rfl rfl rfl (fun w' hw' => burns_con ({ f with tv := v33 } : FM) w' (by show _ ≤ f.left ∧ f.left ≤ _; omega)) (fun u S2 hu => ?_)
    subst hu
    refine j_q (qs_ac) ?_
    refine j_subl (S' := [[(f.gf, FM.obj { ({ f with tv := v33 } : FM) with left := if f.fused then f.left - 1 else f.left })], s'.heap, ph P', c33, f.more]) (by repeat first | exact slR _ | exact slN _ | apply slC | apply slD) ?_
    have hp : s'.ptr = f.now.ptr := by simp only [SM.ptr, hgs]
    refine j_perm (S' := [FM.heap (doneF f s' P' (.func (.func fid) #[] caps) v33 c33)]) (by
      have e : FM.obj { ({ f with tv := v33 } : FM) with left := if f.fused then f.left - 1 else f.left } = FM.obj (doneF f s' P' (.func (.func fid) #[] caps) v33 c33) := by
        simp only [FM.obj, fmcells, hp]
      rw [e]
      exact (by
      classical
      refine List.perm_iff_count.2 fun x => ?_
      simp only [FM.heap, FM.obj, fmcells, SM.ptr, List.set, List.flatten_cons, List.flatten_nil, List.append_nil, List.nil_append, List.cons_append, List.count_append, List.count_cons, List.count_nil] <;> omega)) ?_
    refine j_ret_con (vs := [_]) (fun w' hw' => ⟨rfl, trivial⟩) ?_
    exact ⟨rfl, s', P', v33, c33, rfl, ho33, hgs, hQ⟩
end Go.Proofs.Ytckpegkpdepokaa
/-! Fs7 -/
namespace Go.Proofs.Ytckpegkpdepokaa
open Go Go.Sx
set_option maxRecDepth 100000
set_option maxHeartbeats 4000000
set_option linter.unusedVariables false
set_option linter.unusedSimpArgs false
attribute [local irreducible] J JQ QS Con W opW
open Go.MapKept Go.WideMaps Go.Maps
abbrev FM.parts2 (f : FM) : List SH := [[(f.gf, f.obj)], [(f.now.gs, f.now.sobj)], [(f.now.gm, .map f.now.es f.now.ck)], f.now.fs.map FL.h, f.tc ++ f.more ++ ph f.P]
theorem FM.split2 (f : FM) : ([f.heap] : List SH).flatten.Perm (f.parts2).flatten := by
  classical
  refine List.perm_iff_count.2 fun x => ?_
  simp only [FM.heap, SM.heap, FM.parts2, List.flatten_cons, List.flatten_nil, List.append_nil, List.nil_append, List.cons_append, List.count_append, List.count_cons, List.count_nil] <;> omega
theorem RV.more {P P' : List BK} {v : Value} {xs : List UInt8} (hs : ∀ b ∈ P, b ∈ P') (h : RV P v xs) : RV P' v xs := by
  rcases h with h | ⟨b, hb, h⟩
  · exact .inl h
  · exact .inr ⟨b, hs b hb, h⟩
theorem Vw.more {P P' : List BK} {o : Nat} {v : Value} {xs : List UInt8} (hs : ∀ b ∈ P, b ∈ P') (h : Vw P o v xs) : Vw P' o v xs := by
  rcases h with h | ⟨b, hb, h⟩
  · exact .inl h
  · exact .inr ⟨b, hs b hb, h⟩
theorem br_keep {w w' : World} {v : Value} {xs : List UInt8} {Fp : SH} {S : List SH} (h : BR w v xs) (hd : ∀ a n c, v = .slice (some a) n c → 0 < n → a.block ∉ dom Fp) (hs : Sig ⟨w, dom Fp⟩ S w') : BR w' v xs := by
  rcases h with h | ⟨a, cap, h1, h2, h3, h4⟩
  · exact .inl h
  · refine .inr ⟨a, cap, h1, h2, fun h0 => Nat.lt_of_lt_of_le (h3 h0) hs.size, ?_⟩
    rcases Nat.eq_zero_or_pos xs.length with h0 | h0
    · rw [List.eq_nil_of_length_eq_zero h0]
      intro j u hu
      simp [ints] at hu
    · exact rd_w (rd_cells h4 (hd _ _ _ h1 h0)) hs
theorem writeM_gs (s : SM) (n : List UInt8) (id : Nat) (v : Value) (xs : List UInt8) (g : Nat) : (writeM s n id v xs g).gs = s.gs ∧ (writeM s n id v xs g).gm = s.gm := by
  unfold writeM
  have h := givesM_gs (newM (letsM s n) id v xs g) n (g, id)
  exact ⟨h.1.trans (letsM_gs s n).1, h.2.trans (letsM_gs s n).2.1⟩
def clipV (xs : List UInt8) (A : Option Addr) : Value := .slice (if xs.length = 0 then A else A.map (fun a : Addr => a.add (0 * 1))) xs.length xs.length
theorem write_con (f : FM) (B : Nat) (hB : B < 16384) (n : List UInt8) (bv : Value) (xs : List UInt8) (w : World) (hok : f.Ok B) (hl : -100000000 ≤ f.left ∧ f.left ≤ 9223372036854775807) (hn : strOk n) (hbr : BR w bv xs) (hbd : ∀ a m c, bv = .slice (some a) m c → 0 < m → a.block ∉ dom f.heap) (hxl : xs.length ≤ 1000000000) (ht : (tot f.now.fs : Int) ≤ f.now.used) (hu : f.now.used ≤ 1073741824) (hfu : f.fused = false) (hroom : f.now.used + (xs.length : Int) ≤ f.room) (hx2 : xs.length ≤ 1048576) (hnn : nameOk n = true) (id : Nat) (hid : ∀ x ∈ f.now.fs, x.id ≠ id) (hlk : alook f.now.ml n = none) (hml : f.now.ml.length < 16384) : Con Try.prog 13 [f.ptr, .string (bs n), bv] w f.heap fun v S' => v = .int .i64 0 ∧ ∃ (s' : SM) (A2 : Option Addr) (Q more : SH) (P2 : List BK) (t tv : Value) (tc : SH), S' = [FM.heap (doneF { f with more := more, P := P2 } s' P2 t tv tc)] ∧ Sx.Own 100 1 (f.ts ++ [t]) tv tc ∧ (∃ (es : Array MapEntry) (ck g : Nat), s' = { writeM f.now n id (clipV xs A2) xs g with es := es, ck := ck }) ∧ Raw s' ∧ (∃ c, RV P2 (.slice A2 xs.length c) xs) ∧ (∀ b ∈ f.P, b ∈ P2) ∧ s'.gs = f.now.gs := by
  refine con_of_tree mix Try.func13 T13_ok (by kernel_rfl) ?_
  unfold T13
  obtain ⟨A, cap, hbv, hcap⟩ := br_form hbr
  have hone : oneV bv = true := by rw [hbv]; rfl
  have hutot : 0 ≤ f.now.used := by omega
  refine j_box (l := [.string (bs n)]) rfl (fun g0 hg0 hs0 => ?_)
  refine j_box (l := [bv]) (by show bv.cells = #[bv]; rw [hbv]; rfl) (fun g1 hg1 hs1 => ?_)
  refine j_q (qs_ac) ?_
  refine j_q (qs_load (l := [.string (bs n)]) 1 Try.underlying9 rfl rfl rfl rfl) ?_
  refine j_lit (vs := [.string (bs _)]) Try.underlying41 sz9 zero9 rfl (by simp [oneV]) ⟨rfl, by decide⟩ (fun g4 v4 c4 hv4 hc4 ho4 => ?_)
  subst hv4 hc4
  refine j_q (qs_call ent32 rfl rfl rfl (fun w' hw' => may_con f [n] _ w' (in_own hw' 3 rfl) (rsl_own ho4 0 rfl hw') (by simp))) ?_
  refine j_q (qs_neq rfl rfl) ?_
  refine j_cond rfl (fun hc0 => ?_) (fun hc0 => ?_)
  · skip
    have hm0 : mayE f.fused f.left [n] = 0 := by
      unfold mayE
      rw [hfu]
      simp [hnn]
    rw [hm0] at hc0
    simp at hc0
  · skip
    have hm0 : mayE f.fused f.left [n] = 0 := by
      unfold mayE
      rw [hfu]
      simp [hnn]
    refine j_q (qs_load (l := [bv]) 1 Try.underlying23 rfl rfl rfl rfl) ?_
    refine j_q (qs_lenl (n := xs.length) (A := A) (c := cap) Try.underlying23 hbv) ?_
    refine j_q (qs_gtr rfl rfl) ?_
    refine j_cond rfl (fun hc1 => ?_) (fun hc1 => ?_)
    · skip
      simp at hc1
      omega
    · skip
      refine j_perm (S' := [[(g4, .cells [Value.string (bs n)].toArray 9 (0, 0))], [(g1, .cells [bv].toArray 23 (0, 0))], [(g0, .cells [.string (bs n)].toArray 9 (0, 0))], [(f.gf, f.obj)], [(f.now.gs, f.now.sobj)], [(f.now.gm, .map f.now.es f.now.ck)], f.now.fs.map FL.h, f.tc ++ f.more ++ ph f.P]) (by
        have h0 := f.split2
        classical
        refine List.perm_iff_count.2 fun x => ?_
        have h2 := List.perm_iff_count.1 h0 x
        simp only [FM.parts2, List.set, List.flatten_cons, List.flatten_nil, List.append_nil, List.nil_append, List.cons_append, List.count_append, List.count_cons, List.count_nil] at h2 ⊢
        omega) ?_
      refine j_draw ?_
      refine jq_q (qs_nil rfl) ?_
      refine jq_q (qs_field Try.underlying62 rfl sz58 (by decide) rfl) ?_
      refine jq_q (qs_load (l := fmcells f) 3 Try.underlying58 rfl rfl rfl rfl) ?_
      refine jq_q (qs_nil rfl) ?_
      refine jq_q (qs_field Try.underlying66 rfl sz64 (by decide) rfl) ?_
      refine jq_q (qs_load (l := smcells f.now) 4 Try.underlying64 rfl rfl rfl rfl) ?_
      refine jq_q (qs_load (l := [.string (bs n)]) 2 Try.underlying9 rfl rfl rfl rfl) ?_
      refine jq_q (qs_lookup (key := n) strKey 5 Try.underlying64 zv63 rfl rfl rfl hok.raw.map hn) ?_
      rw [mlook_map fptr, getD_fptr, hlk]
      refine jq_nil ?_
      refine j_q (qs_ac) ?_
      refine j_q (qs_pnnil Try.underlying63 rfl) ?_
      refine j_gf rfl (by simp) ?_
      refine j_gf rfl (by simp) ?_
      refine j_gf rfl (by simp) ?_
      refine j_gf rfl (by simp) ?_
      refine j_gf rfl (by simp) ?_
      refine j_q (qs_and (b0 := false) (b1 := false) rfl rfl) ?_
      refine j_cond rfl (fun hc2 => ?_) (fun hc2 => ?_)
      · skip
        simp [gd] at hc2
      · skip
        refine j_draw ?_
        refine jq_q (qs_pnil Try.underlying63 rfl) ?_
        refine jq_g rfl (fun hb => qs_mt rfl) ?_
        refine jq_g rfl (fun hb => qs_nil (gd_eq hb)) ?_
        refine jq_g rfl (fun hb => qs_field Try.underlying62 rfl sz58 (by decide) (gd_eq hb)) ?_
        refine jq_g rfl (fun hb => qs_load (l := fmcells f) 3 Try.underlying58 rfl (gd_eq hb) rfl rfl) ?_
        refine jq_g rfl (fun hb => qs_nil (gd_eq hb)) ?_
        refine jq_g rfl (fun hb => qs_field Try.underlying66 rfl sz64 (by decide) (gd_eq hb)) ?_
        refine jq_g rfl (fun hb => qs_load (l := smcells f.now) 4 Try.underlying64 rfl (gd_eq hb) rfl rfl) ?_
        refine jq_g rfl (fun hb => qs_maplen (rdo_mem (o := .map f.now.es f.now.ck) 5 rfl (by simp)) Try.underlying64 (gd_eq hb) hok.raw.map) ?_
        refine jq_g rfl (fun hb => qs_geq (gd_eq hb) rfl) ?_
        refine jq_q (qs_and rfl rfl) ?_
        refine jq_g rfl (fun hb => qs_mt rfl) ?_
        refine jq_g rfl (fun hb => qs_nil (gd_eq hb)) ?_
        refine jq_g rfl (fun hb => qs_field Try.underlying62 rfl sz58 (by decide) (gd_eq hb)) ?_
        refine jq_g rfl (fun hb => qs_load (l := fmcells f) 3 Try.underlying58 rfl (gd_eq hb) rfl rfl) ?_
        refine jq_g rfl (fun hb => qs_nil (gd_eq hb)) ?_
        refine jq_g rfl (fun hb => qs_field Try.underlying66 rfl sz3 (by decide) (gd_eq hb)) ?_
        refine jq_g rfl (fun hb => qs_load (l := smcells f.now) 4 Try.underlying3 rfl (gd_eq hb) rfl rfl) ?_
        refine jq_g rfl (fun hb => qs_mt rfl) ?_
        refine jq_g rfl (fun hb => qs_sub64 (gd_eq hb) (gd_eq hb) (by first | omega | (simp only [bnA] at *; omega))) ?_
        refine jq_g rfl (fun hb => qs_load (l := [bv]) 1 Try.underlying23 rfl rfl rfl rfl) ?_
        refine jq_g rfl (fun hb => qs_lenl (n := xs.length) (A := A) (c := cap) Try.underlying23 ((gd_eq hb).trans hbv)) ?_
        refine jq_g rfl (fun hb => qs_add64 (gd_eq hb) (gd_eq hb) (by first | omega | (simp only [bnA] at *; omega))) ?_
        refine jq_g rfl (fun hb => qs_mt rfl) ?_
        refine jq_g rfl (fun hb => qs_nil (gd_eq hb)) ?_
        refine jq_g rfl (fun hb => qs_field Try.underlying62 rfl sz3 (by decide) (gd_eq hb)) ?_
        refine jq_g rfl (fun hb => qs_load (l := fmcells f) 3 Try.underlying3 rfl (gd_eq hb) rfl rfl) ?_
        refine jq_g rfl (fun hb => qs_gtr (gd_eq hb) (gd_eq hb)) ?_
        refine jq_q (qs_or rfl rfl) ?_
        refine jq_nil ?_
        refine j_cond rfl (fun hc4 => ?_) (fun hc4 => ?_)
        · skip
          simp [gd] at hc4
          omega
        · skip
          refine j_q (qs_load (l := [bv]) 1 Try.underlying23 rfl rfl rfl rfl) ?_
          refine j_call0 ent31 rfl rfl rfl (fun w' hw' => clone_con bv xs w' (br_keep hbr hbd hw') hxl) (fun u S2 hu1 => ?_)
          obtain ⟨Q, rfl, hrv⟩ := hu1
          obtain ⟨bv2, hbv2⟩ : ∃ y, y = u := ⟨_, rfl⟩
          rw [← hbv2] at hrv ⊢
          refine j_subl (S' := [ph Q, [(g4, .cells [Value.string (bs n)].toArray 9 (0, 0))], [(g1, .cells [bv].toArray 23 (0, 0))], [(g0, .cells [.string (bs n)].toArray 9 (0, 0))], [(f.gf, f.obj)], [(f.now.gs, f.now.sobj)], [(f.now.gm, .map f.now.es f.now.ck)], f.now.fs.map FL.h, f.tc ++ f.more ++ ph f.P]) (by repeat first | exact slR _ | exact slN _ | apply slC | apply slD) ?_
          obtain ⟨A2, c2, hbe, hbc, _⟩ := hrv.form
          refine j_store (l := [bv]) 2 sz23 rfl rfl (by show oneV bv2 = true; rw [hbe]; rfl) rfl (by simp) (by simp) ?_
          refine j_q (qs_mkfuncv (vs := [.pointer (some ⟨g0, 0, none⟩), .pointer (some ⟨g1, 0, none⟩)]) rfl) ?_
          refine j_subl (S' := [ph Q, [(g4, .cells [Value.string (bs n)].toArray 9 (0, 0))], [(g1, .cells [bv2].toArray 23 (0, 0))], [(g0, .cells [.string (bs n)].toArray 9 (0, 0))], [(f.gf, f.obj)], [(f.now.gs, f.now.sobj)], [(f.now.gm, .map f.now.es f.now.ck)], f.now.fs.map FL.h, f.tc ++ f.more ++ ph f.P]) (by repeat first | exact slR _ | exact slN _ | apply slC | apply slD) ?_
          refine j_perm (S' := [FM.heap ({ f with more := [(g0, .cells [.string (bs n)].toArray 9 (0, 0))] ++ [(g1, .cells [bv2].toArray 23 (0, 0))] ++ f.more, P := Q ++ f.P } : FM), [(g4, .cells [Value.string (bs n)].toArray 9 (0, 0))]]) (by
            classical
            refine List.perm_iff_count.2 fun x => ?_
            simp only [FM.heap, FM.obj, fmcells, SM.heap, ph, List.map_append, List.set, List.flatten_cons, List.flatten_nil, List.append_nil, List.nil_append, List.cons_append, List.count_append, List.count_cons, List.count_nil] <;> omega) ?_
          have hok2 : FM.Ok B ({ f with more := [(g0, .cells [.string (bs n)].toArray 9 (0, 0))] ++ [(g1, .cells [bv2].toArray 23 (0, 0))] ++ f.more, P := Q ++ f.P } : FM) := ⟨hok.row, hok.lt, hok.raw, fun x hx => (hok.vw x hx).more (fun b hb => List.mem_append_right _ hb), hok.lpv⟩
          refine j_call 0 ent34 rfl rfl rfl rfl (fun w' hw' => does_con ({ f with more := [(g0, .cells [.string (bs n)].toArray 9 (0, 0))] ++ [(g1, .cells [bv2].toArray 23 (0, 0))] ++ f.more, P := Q ++ f.P } : FM) B hB 35 #[.pointer (some ⟨g0, 0, none⟩), .pointer (some ⟨g1, 0, none⟩)] (fun s' P' => (∃ (es : Array MapEntry) (ck g : Nat), s' = { writeM f.now n id (clipV xs A2) xs g with es := es, ck := ck }) ∧ Raw s' ∧ P' = Q ++ f.P) w' hok2 hl ent35 (fun w2 hin hdj => (wr_con f.now (Q ++ f.P) n bv2 xs A2 c2 id g0 g1 w2 hok.raw ht (by omega) hid hbe hbc hxl hn (hin (g0, .cells [.string (bs n)].toArray 9 (0, 0)) (by simp)) (hdj g0 (List.mem_map.2 ⟨(g0, .cells [.string (bs n)].toArray 9 (0, 0)), by simp, rfl⟩)) (hin (g1, .cells [bv2].toArray 23 (0, 0)) (by simp)) (hdj g1 (List.mem_map.2 ⟨(g1, .cells [bv2].toArray 23 (0, 0)), by simp, rfl⟩))).mono (fun u S3 hu3 => by
            obtain ⟨es, ck, g, _, e1, e2⟩ := hu3
            exact ⟨_, _, e1, (writeM_gs _ _ _ _ _ _).1, ⟨es, ck, g, rfl⟩, e2, rfl⟩))) (fun u S2 hu2 => ?_)
          obtain ⟨rfl, s', P', tv', tc', rfl, hrow, hgs, hQ, hrw, hP⟩ := hu2
          refine j_subl (S' := [FM.heap (doneF ({ f with more := [(g0, .cells [.string (bs n)].toArray 9 (0, 0))] ++ [(g1, .cells [bv2].toArray 23 (0, 0))] ++ f.more, P := Q ++ f.P } : FM) s' P' (.func (.func 35) #[] #[.pointer (some ⟨g0, 0, none⟩), .pointer (some ⟨g1, 0, none⟩)]) tv' tc')]) (by repeat first | exact slR _ | exact slN _ | apply slC | apply slD) ?_
          refine j_ret_con (vs := [_]) (fun w' hw' => ⟨rfl, trivial⟩) ?_
          subst hP
          exact ⟨rfl, s', A2, [], _, _, _, tv', tc', rfl, hrow, hQ, hrw, ⟨c2, by rw [← hbe]; exact hrv.more (fun b hb => List.mem_append_left _ hb)⟩, (fun b hb => List.mem_append_right _ hb), hgs⟩
end Go.Proofs.Ytckpegkpdepokaa
/-! Fs8 -/
namespace Go.Proofs.Ytckpegkpdepokaa
open Go Go.Sx
set_option maxRecDepth 100000
set_option maxHeartbeats 4000000
set_option linter.unusedVariables false
set_option linter.unusedSimpArgs false
attribute [local irreducible] J JQ QS Con W opW
open Go.MapKept Go.WideMaps Go.Maps
theorem append_con (f : FM) (B : Nat) (hB : B < 16384) (n : List UInt8) (bv : Value) (xs : List UInt8) (w : World) (hok : f.Ok B) (hl : -100000000 ≤ f.left ∧ f.left ≤ 9223372036854775807) (hn : strOk n) (hbr : BR w bv xs) (hbd : ∀ a m c, bv = .slice (some a) m c → 0 < m → a.block ∉ dom f.heap) (hxl : xs.length ≤ 1000000000) (ht : (tot f.now.fs : Int) ≤ f.now.used) (hu : f.now.used ≤ 1073741824) (hfu : f.fused = false) (hroom : f.now.used + (xs.length : Int) ≤ f.room) (hx2 : xs.length ≤ 1048576) (hnn : nameOk n = true) (x : FL) (hx : x ∈ f.now.fs) (hlk : alook f.now.ml n = some (x.g, x.id)) (hxx : x.xs.length + xs.length ≤ 1048576) : Con Try.prog 16 [f.ptr, .string (bs n), bv] w f.heap fun v S' => v = .int .i64 0 ∧ ∃ (v' : Value) (more : SH) (P2 : List BK) (t tv : Value) (tc : SH), S' = [FM.heap (doneF { f with more := more, P := P2 } (appM f.now x.id v' xs) P2 t tv tc)] ∧ Sx.Own 100 1 (f.ts ++ [t]) tv tc ∧ Raw (appM f.now x.id v' xs) ∧ (∀ y ∈ (appM f.now x.id v' xs).fs, Vw P2 y.g y.v y.xs) := by
  refine con_of_tree mix Try.func16 T16_ok (by kernel_rfl) ?_
  unfold T16
  obtain ⟨A, cap, hbv, hcap⟩ := br_form hbr
  have hone : oneV bv = true := by rw [hbv]; rfl
  have hutot : 0 ≤ f.now.used := by omega
  obtain ⟨xA, xc, hxv, _⟩ := hok.raw.form x hx
  refine j_box (l := [.string (bs n)]) rfl (fun g0 hg0 hs0 => ?_)
  refine j_box (l := [bv]) (by show bv.cells = #[bv]; rw [hbv]; rfl) (fun g1 hg1 hs1 => ?_)
  refine j_q (qs_ac) ?_
  refine j_q (qs_load (l := [.string (bs n)]) 1 Try.underlying9 rfl rfl rfl rfl) ?_
  refine j_lit (vs := [.string (bs _)]) Try.underlying41 sz9 zero9 rfl (by simp [oneV]) ⟨rfl, by decide⟩ (fun g4 v4 c4 hv4 hc4 ho4 => ?_)
  subst hv4 hc4
  refine j_q (qs_call ent32 rfl rfl rfl (fun w' hw' => may_con f [n] _ w' (in_own hw' 3 rfl) (rsl_own ho4 0 rfl hw') (by simp))) ?_
  refine j_q (qs_neq rfl rfl) ?_
  refine j_cond rfl (fun hc0 => ?_) (fun hc0 => ?_)
  · skip
    have hm0 : mayE f.fused f.left [n] = 0 := by
      unfold mayE
      rw [hfu]
      simp [hnn]
    rw [hm0] at hc0
    simp at hc0
  · skip
    have hm0 : mayE f.fused f.left [n] = 0 := by
      unfold mayE
      rw [hfu]
      simp [hnn]
    refine j_perm (S' := [[(g4, .cells [Value.string (bs n)].toArray 9 (0, 0))], [(g1, .cells [bv].toArray 23 (0, 0))], [(g0, .cells [.string (bs n)].toArray 9 (0, 0))], [(f.gf, f.obj)], [(f.now.gs, f.now.sobj)], [(f.now.gm, .map f.now.es f.now.ck)], f.now.fs.map FL.h, f.tc ++ f.more ++ ph f.P]) (by
      have h0 := f.split2
      classical
      refine List.perm_iff_count.2 fun x => ?_
      have h2 := List.perm_iff_count.1 h0 x
      simp only [FM.parts2, List.set, List.flatten_cons, List.flatten_nil, List.append_nil, List.nil_append, List.cons_append, List.count_append, List.count_cons, List.count_nil] at h2 ⊢
      omega) ?_
    refine j_draw ?_
    refine jq_q (qs_nil rfl) ?_
    refine jq_q (qs_field Try.underlying62 rfl sz58 (by decide) rfl) ?_
    refine jq_q (qs_load (l := fmcells f) 3 Try.underlying58 rfl rfl rfl rfl) ?_
    refine jq_q (qs_nil rfl) ?_
    refine jq_q (qs_field Try.underlying66 rfl sz64 (by decide) rfl) ?_
    refine jq_q (qs_load (l := smcells f.now) 4 Try.underlying64 rfl rfl rfl rfl) ?_
    refine jq_q (qs_load (l := [.string (bs n)]) 2 Try.underlying9 rfl rfl rfl rfl) ?_
    refine jq_q (qs_lookup (key := n) strKey 5 Try.underlying64 zv63 rfl rfl rfl hok.raw.map hn) ?_
    rw [mlook_map fptr, getD_fptr, hlk, Option.map_some]
    refine jq_nil ?_
    refine j_q (qs_pnil Try.underlying63 rfl) ?_
    refine j_cond rfl (fun hc1 => ?_) (fun hc1 => ?_)
    · skip
      simp at hc1
    · skip
      refine j_draw ?_
      refine jq_q (qs_load (l := [bv]) 1 Try.underlying23 rfl rfl rfl rfl) ?_
      refine jq_q (qs_lenl (n := xs.length) (A := A) (c := cap) Try.underlying23 hbv) ?_
      refine jq_q (qs_nil rfl) ?_
      refine jq_q (qs_field Try.underlying73 rfl sz23 (by decide) rfl) ?_
      refine jq_q (qs_loadO (l := flcells x) (rdo_mem (o := x.h.2) 6 rfl (List.mem_map.2 ⟨x, hx, rfl⟩)) Try.underlying23 rfl rfl rfl) ?_
      refine jq_q (qs_lenl (n := x.xs.length) (A := xA) (c := xc) Try.underlying23 hxv) ?_
      refine jq_q (qs_sub64 rfl rfl (by first | omega | (simp only [bnA] at *; omega))) ?_
      refine jq_q (qs_gtr rfl rfl) ?_
      refine jq_nil ?_
      refine j_cond rfl (fun hc2 => ?_) (fun hc2 => ?_)
      · skip
        simp at hc2
        omega
      · skip
        refine j_draw ?_
        refine jq_q (qs_nil rfl) ?_
        refine jq_q (qs_field Try.underlying62 rfl sz58 (by decide) rfl) ?_
        refine jq_q (qs_load (l := fmcells f) 3 Try.underlying58 rfl rfl rfl rfl) ?_
        refine jq_q (qs_nil rfl) ?_
        refine jq_q (qs_field Try.underlying66 rfl sz3 (by decide) rfl) ?_
        refine jq_q (qs_load (l := smcells f.now) 4 Try.underlying3 rfl rfl rfl rfl) ?_
        refine jq_q (qs_load (l := [bv]) 1 Try.underlying23 rfl rfl rfl rfl) ?_
        refine jq_q (qs_lenl (n := xs.length) (A := A) (c := cap) Try.underlying23 hbv) ?_
        refine jq_q (qs_add64 rfl rfl (by first | omega | (simp only [bnA] at *; omega))) ?_
        refine jq_q (qs_nil rfl) ?_
        refine jq_q (qs_field Try.underlying62 rfl sz3 (by decide) rfl) ?_
        refine jq_q (qs_load (l := fmcells f) 3 Try.underlying3 rfl rfl rfl rfl) ?_
        refine jq_q (qs_gtr rfl rfl) ?_
        refine jq_nil ?_
        refine j_cond rfl (fun hc3 => ?_) (fun hc3 => ?_)
        · skip
          simp at hc3
          omega
        · skip
          refine j_q (qs_load (l := [bv]) 1 Try.underlying23 rfl rfl rfl rfl) ?_
          refine j_call0 ent31 rfl rfl rfl (fun w' hw' => clone_con bv xs w' (br_keep hbr hbd hw') hxl) (fun u S2 hu1 => ?_)
          obtain ⟨Q, rfl, hrv⟩ := hu1
          obtain ⟨bv2, hbv2⟩ : ∃ y, y = u := ⟨_, rfl⟩
          rw [← hbv2] at hrv ⊢
          refine j_subl (S' := [ph Q, [(g4, .cells [Value.string (bs n)].toArray 9 (0, 0))], [(g1, .cells [bv].toArray 23 (0, 0))], [(g0, .cells [.string (bs n)].toArray 9 (0, 0))], [(f.gf, f.obj)], [(f.now.gs, f.now.sobj)], [(f.now.gm, .map f.now.es f.now.ck)], f.now.fs.map FL.h, f.tc ++ f.more ++ ph f.P]) (by repeat first | exact slR _ | exact slN _ | apply slC | apply slD) ?_
          obtain ⟨A2, c2, hbe, hbc, _⟩ := hrv.form
          refine j_store (l := [bv]) 2 sz23 rfl rfl (by show oneV bv2 = true; rw [hbe]; rfl) rfl (by simp) (by simp) ?_
          refine j_q (qs_mkfuncv (vs := [.pointer (some ⟨g0, 0, none⟩), .pointer (some ⟨g1, 0, none⟩)]) rfl) ?_
          refine j_subl (S' := [ph Q, [(g4, .cells [Value.string (bs n)].toArray 9 (0, 0))], [(g1, .cells [bv2].toArray 23 (0, 0))], [(g0, .cells [.string (bs n)].toArray 9 (0, 0))], [(f.gf, f.obj)], [(f.now.gs, f.now.sobj)], [(f.now.gm, .map f.now.es f.now.ck)], f.now.fs.map FL.h, f.tc ++ f.more ++ ph f.P]) (by repeat first | exact slR _ | exact slN _ | apply slC | apply slD) ?_
          refine j_perm (S' := [FM.heap ({ f with more := [(g0, .cells [.string (bs n)].toArray 9 (0, 0))] ++ [(g1, .cells [bv2].toArray 23 (0, 0))] ++ f.more, P := Q ++ f.P } : FM), [(g4, .cells [Value.string (bs n)].toArray 9 (0, 0))]]) (by
            classical
            refine List.perm_iff_count.2 fun x => ?_
            simp only [FM.heap, FM.obj, fmcells, SM.heap, ph, List.map_append, List.set, List.flatten_cons, List.flatten_nil, List.append_nil, List.nil_append, List.cons_append, List.count_append, List.count_cons, List.count_nil] <;> omega) ?_
          have hok2 : FM.Ok B ({ f with more := [(g0, .cells [.string (bs n)].toArray 9 (0, 0))] ++ [(g1, .cells [bv2].toArray 23 (0, 0))] ++ f.more, P := Q ++ f.P } : FM) := ⟨hok.row, hok.lt, hok.raw, fun x hx => (hok.vw x hx).more (fun b hb => List.mem_append_right _ hb), hok.lpv⟩
          refine j_call 0 ent34 rfl rfl rfl rfl (fun w' hw' => does_con ({ f with more := [(g0, .cells [.string (bs n)].toArray 9 (0, 0))] ++ [(g1, .cells [bv2].toArray 23 (0, 0))] ++ f.more, P := Q ++ f.P } : FM) B hB 40 #[.pointer (some ⟨g0, 0, none⟩), .pointer (some ⟨g1, 0, none⟩)] (fun s' P' => ∃ v' : Value, s' = appM f.now x.id v' xs ∧ Vw P' x.g v' (x.xs ++ xs) ∧ PLe x.g (Q ++ f.P) P' ∧ Raw s') w' hok2 hl ent40 (fun w2 hin hdj => (ap_con f.now (Q ++ f.P) n x bv2 xs g0 g1 w2 hok.raw hx hlk ((hok.vw x hx).more (fun b hb => List.mem_append_right _ hb)) (hrv.more (fun b hb => List.mem_append_left _ hb)) (by rw [List.length_append]; omega) ⟨by omega, by omega⟩ hn (hin (g0, .cells [.string (bs n)].toArray 9 (0, 0)) (by simp)) (hdj g0 (List.mem_map.2 ⟨(g0, .cells [.string (bs n)].toArray 9 (0, 0)), by simp, rfl⟩)) (hin (g1, .cells [bv2].toArray 23 (0, 0)) (by simp)) (hdj g1 (List.mem_map.2 ⟨(g1, .cells [bv2].toArray 23 (0, 0)), by simp, rfl⟩))).mono (fun u S3 hu3 => by
            obtain ⟨v', P', e1, e2, e3, e4⟩ := hu3
            exact ⟨_, _, e1, rfl, v', rfl, e2, e3, e4⟩))) (fun u S2 hu2 => ?_)
          obtain ⟨rfl, s', P', tv', tc', rfl, hrow, hgs, v', rfl, hvw2, hple, hraw2⟩ := hu2
          refine j_subl (S' := [FM.heap (doneF ({ f with more := [(g0, .cells [.string (bs n)].toArray 9 (0, 0))] ++ [(g1, .cells [bv2].toArray 23 (0, 0))] ++ f.more, P := Q ++ f.P } : FM) (appM f.now x.id v' xs) P' (.func (.func 40) #[] #[.pointer (some ⟨g0, 0, none⟩), .pointer (some ⟨g1, 0, none⟩)]) tv' tc')]) (by repeat first | exact slR _ | exact slN _ | apply slC | apply slD) ?_
          refine j_ret_con (vs := [_]) (fun w' hw' => ⟨rfl, trivial⟩) ?_
          refine ⟨rfl, v', _, P', _, tv', tc', rfl, hrow, hraw2, fun y hy => ?_⟩
          obtain ⟨z, hz, rfl⟩ := List.mem_map.1 hy
          unfold app1
          split
          · rename_i he
            have hzx : z = x := by
              obtain ⟨a, b, hab⟩ := List.append_of_mem hx
              have hids := hok.raw.ids
              rw [hab] at hids
              rw [hab] at hz
              rcases List.mem_append.1 hz with hz | hz
              · exact absurd he ((off_ids hids).1 z hz)
              · rcases List.mem_cons.1 hz with hz | hz
                · exact hz
                · exact absurd he ((off_ids hids).2 z hz)
            rw [hzx]
            exact hvw2
          · rename_i he
            have hg : z.g ≠ x.g := fun e => he (by rw [fs_uniq hok.raw hx hz e])
            exact ((hok.vw z hz).more (fun b hb => List.mem_append_right _ hb)).mono hple hg
theorem link_con (f : FM) (B : Nat) (hB : B < 16384) (old n : List UInt8) (w : World) (hok : f.Ok B) (hl : -100000000 ≤ f.left ∧ f.left ≤ 9223372036854775807) (hso : strOk old) (hn : strOk n) (hfu : f.fused = false) (hno : nameOk old = true) (hnn : nameOk n = true) (x : FL) (hx : x ∈ f.now.fs) (hlk : alook f.now.ml old = some (x.g, x.id)) (hk : x.k + 1 ≤ 1000000) (hfree : alook f.now.ml n = none) (hml : f.now.ml.length < 16384) : Con Try.prog 15 [f.ptr, .string (bs old), .string (bs n)] w f.heap fun v S' => v = .int .i64 0 ∧ ∃ (s' : SM) (more : SH) (t tv : Value) (tc : SH), S' = [FM.heap (doneF { f with more := more } s' f.P t tv tc)] ∧ Sx.Own 100 1 (f.ts ++ [t]) tv tc ∧ (∃ (es : Array MapEntry) (ck : Nat), s' = { givesM f.now n (x.g, x.id) with es := es, ck := ck }) ∧ Raw s' := by
  refine con_of_tree mix Try.func15 T15_ok (by kernel_rfl) ?_
  unfold T15
  refine j_box (l := [.string (bs old)]) rfl (fun g0 hg0 hs0 => ?_)
  refine j_box (l := [.string (bs n)]) rfl (fun g1 hg1 hs1 => ?_)
  refine j_q (qs_ac) ?_
  refine j_q (qs_load (l := [.string (bs old)]) 1 Try.underlying9 rfl rfl rfl rfl) ?_
  refine j_q (qs_load (l := [.string (bs n)]) 0 Try.underlying9 rfl rfl rfl rfl) ?_
  refine j_lit (vs := [.string (bs _), .string (bs _)]) Try.underlying41 sz9 zero9 rfl (by simp [oneV]) ⟨rfl, by decide⟩ (fun g5 v5 c5 hv5 hc5 ho5 => ?_)
  subst hv5 hc5
  refine j_q (qs_call ent32 rfl rfl rfl (fun w' hw' => may_con f [old, n] _ w' (in_own hw' 3 rfl) (rsl_own ho5 0 rfl hw') (by simp))) ?_
  refine j_q (qs_neq rfl rfl) ?_
  refine j_cond rfl (fun hc0 => ?_) (fun hc0 => ?_)
  · skip
    have hm0 : mayE f.fused f.left [old, n] = 0 := by
      unfold mayE
      rw [hfu]
      simp [hno, hnn]
    rw [hm0] at hc0
    simp at hc0
  · skip
    have hm0 : mayE f.fused f.left [old, n] = 0 := by
      unfold mayE
      rw [hfu]
      simp [hno, hnn]
    refine j_perm (S' := [[(g5, .cells [Value.string (bs old), Value.string (bs n)].toArray 9 (0, 0))], [(g1, .cells [.string (bs n)].toArray 9 (0, 0))], [(g0, .cells [.string (bs old)].toArray 9 (0, 0))], [(f.gf, f.obj)], [(f.now.gs, f.now.sobj)], [(f.now.gm, .map f.now.es f.now.ck)], f.now.fs.map FL.h, f.tc ++ f.more ++ ph f.P]) (by
      have h0 := f.split2
      classical
      refine List.perm_iff_count.2 fun x => ?_
      have h2 := List.perm_iff_count.1 h0 x
      simp only [FM.parts2, List.set, List.flatten_cons, List.flatten_nil, List.append_nil, List.nil_append, List.cons_append, List.count_append, List.count_cons, List.count_nil] at h2 ⊢
      omega) ?_
    refine j_draw ?_
    refine jq_q (qs_nil rfl) ?_
    refine jq_q (qs_field Try.underlying62 rfl sz58 (by decide) rfl) ?_
    refine jq_q (qs_load (l := fmcells f) 3 Try.underlying58 rfl rfl rfl rfl) ?_
    refine jq_q (qs_nil rfl) ?_
    refine jq_q (qs_field Try.underlying66 rfl sz64 (by decide) rfl) ?_
    refine jq_q (qs_load (l := smcells f.now) 4 Try.underlying64 rfl rfl rfl rfl) ?_
    refine jq_q (qs_load (l := [.string (bs old)]) 2 Try.underlying9 rfl rfl rfl rfl) ?_
    refine jq_q (qs_lookup (key := old) strKey 5 Try.underlying64 zv63 rfl rfl rfl hok.raw.map hso) ?_
    rw [mlook_map fptr, getD_fptr, hlk, Option.map_some]
    refine jq_q (qs_pnil Try.underlying63 rfl) ?_
    refine jq_nil ?_
    refine j_cond rfl (fun hc1 => ?_) (fun hc1 => ?_)
    · skip
      simp at hc1
    · skip
      refine j_draw ?_
      refine jq_q (qs_nil rfl) ?_
      refine jq_q (qs_field Try.underlying62 rfl sz58 (by decide) rfl) ?_
      refine jq_q (qs_load (l := fmcells f) 3 Try.underlying58 rfl rfl rfl rfl) ?_
      refine jq_q (qs_nil rfl) ?_
      refine jq_q (qs_field Try.underlying66 rfl sz64 (by decide) rfl) ?_
      refine jq_q (qs_load (l := smcells f.now) 4 Try.underlying64 rfl rfl rfl rfl) ?_
      refine jq_q (qs_load (l := [.string (bs n)]) 1 Try.underlying9 rfl rfl rfl rfl) ?_
      refine jq_q (qs_lookup (key := n) strKey 5 Try.underlying64 zv63 rfl rfl rfl hok.raw.map hn) ?_
      rw [mlook_map fptr, getD_fptr, hfree]
      refine jq_q (qs_pnnil Try.underlying63 rfl) ?_
      refine jq_nil ?_
      refine j_cond rfl (fun hc2 => ?_) (fun hc2 => ?_)
      · skip
        simp at hc2
      · skip
        refine j_q (qs_nil rfl) ?_
        refine j_q (qs_field Try.underlying62 rfl sz58 (by decide) rfl) ?_
        refine j_q (qs_load (l := fmcells f) 3 Try.underlying58 rfl rfl rfl rfl) ?_
        refine j_q (qs_nil rfl) ?_
        refine j_q (qs_field Try.underlying66 rfl sz64 (by decide) rfl) ?_
        refine j_q (qs_load (l := smcells f.now) 4 Try.underlying64 rfl rfl rfl rfl) ?_
        refine j_q (qs_maplen (rdo_mem (o := .map f.now.es f.now.ck) 5 rfl (by simp)) Try.underlying64 rfl hok.raw.map) ?_
        refine j_q (qs_geq rfl rfl) ?_
        refine j_cond rfl (fun hc3 => ?_) (fun hc3 => ?_)
        · skip
          simp at hc3
          omega
        · skip
          refine j_q (qs_mkfuncv (vs := [.pointer (some ⟨g1, 0, none⟩), .pointer (some ⟨g0, 0, none⟩)]) rfl) ?_
          refine j_perm (S' := [FM.heap ({ f with more := [(g0, .cells [.string (bs old)].toArray 9 (0, 0))] ++ [(g1, .cells [.string (bs n)].toArray 9 (0, 0))] ++ f.more } : FM), [(g5, .cells [Value.string (bs old), Value.string (bs n)].toArray 9 (0, 0))]]) (by
            classical
            refine List.perm_iff_count.2 fun x => ?_
            simp only [FM.heap, FM.obj, fmcells, SM.heap, ph, List.map_append, List.set, List.flatten_cons, List.flatten_nil, List.append_nil, List.nil_append, List.cons_append, List.count_append, List.count_cons, List.count_nil] <;> omega) ?_
          have hok2 : FM.Ok B ({ f with more := [(g0, .cells [.string (bs old)].toArray 9 (0, 0))] ++ [(g1, .cells [.string (bs n)].toArray 9 (0, 0))] ++ f.more } : FM) := ⟨hok.row, hok.lt, hok.raw, fun x hx => hok.vw x hx, hok.lpv⟩
          refine j_call 0 ent34 rfl rfl rfl rfl (fun w' hw' => does_con ({ f with more := [(g0, .cells [.string (bs old)].toArray 9 (0, 0))] ++ [(g1, .cells [.string (bs n)].toArray 9 (0, 0))] ++ f.more } : FM) B hB 39 #[.pointer (some ⟨g1, 0, none⟩), .pointer (some ⟨g0, 0, none⟩)] (fun s' P' => (∃ (es : Array MapEntry) (ck : Nat), s' = { givesM f.now n (x.g, x.id) with es := es, ck := ck }) ∧ Raw s' ∧ P' = f.P) w' hok2 hl ent39 (fun w2 hin hdj => (li_con f.now f.P n old x g1 g0 w2 hok.raw hx hk hlk hn hso (hin (g1, .cells [.string (bs n)].toArray 9 (0, 0)) (by simp)) (hdj g1 (List.mem_map.2 ⟨(g1, .cells [.string (bs n)].toArray 9 (0, 0)), by simp, rfl⟩)) (hin (g0, .cells [.string (bs old)].toArray 9 (0, 0)) (by simp)) (hdj g0 (List.mem_map.2 ⟨(g0, .cells [.string (bs old)].toArray 9 (0, 0)), by simp, rfl⟩))).mono (fun u S3 hu3 => by
            obtain ⟨es, ck, e1, e2⟩ := hu3
            exact ⟨_, _, e1, (givesM_gs _ _ _).1, ⟨es, ck, rfl⟩, e2, rfl⟩))) (fun u S2 hu2 => ?_)
          obtain ⟨rfl, s', P', tv', tc', rfl, hrow, hgs, hQ, hrw, hP⟩ := hu2
          refine j_subl (S' := [FM.heap (doneF ({ f with more := [(g0, .cells [.string (bs old)].toArray 9 (0, 0))] ++ [(g1, .cells [.string (bs n)].toArray 9 (0, 0))] ++ f.more } : FM) s' P' (.func (.func 39) #[] #[.pointer (some ⟨g1, 0, none⟩), .pointer (some ⟨g0, 0, none⟩)]) tv' tc')]) (by repeat first | exact slR _ | exact slN _ | apply slC | apply slD) ?_
          refine j_ret_con (vs := [_]) (fun w' hw' => ⟨rfl, trivial⟩) ?_
          subst hP
          exact ⟨rfl, s', _, _, tv', tc', rfl, hrow, hQ, hrw⟩
theorem read_con (f : FM) (B : Nat) (n : List UInt8) (w : World) (hin : In w f.heap) (hok : f.Ok B) (hn : strOk n) (x : FL) (hx : x ∈ f.now.fs) (hlk : alook f.now.ml n = some (x.g, x.id)) : Con Try.prog 11 [f.ptr, .string (bs n)] w [] fun u S' => ∃ (v : Value) (Q : List BK), u = .tuple #[v, .int .i64 0] ∧ S' = [ph Q] ∧ RV Q v x.xs := by
  refine con_of_tree mix Try.func11 T11_ok (by kernel_rfl) ?_
  unfold T11
  obtain ⟨xA, xc, hxv, hxl⟩ := hok.raw.form x hx
  refine j_q (qs_ac) ?_
  refine j_q (qs_ac) ?_
  refine j_q (qs_pnil Try.underlying25 rfl) ?_
  refine j_g rfl (fun hb => qs_mt rfl) ?_
  refine j_g rfl (fun hb => qs_nil (gd_eq hb)) ?_
  refine j_g rfl (fun hb => qs_field Try.underlying62 rfl sz58 (by decide) (gd_eq hb)) ?_
  refine j_g rfl (fun hb => qs_loadO (rdo_base (FM.in_gf hin) (by simp)) Try.underlying58 rfl (gd_eq hb) rfl) ?_
  refine j_g rfl (fun hb => qs_pnil Try.underlying58 (gd_eq hb)) ?_
  refine j_q (qs_or rfl rfl) ?_
  refine j_g rfl (fun hb => qs_mt rfl) ?_
  refine j_g rfl (fun hb => qs_nil (gd_eq hb)) ?_
  refine j_g rfl (fun hb => qs_field Try.underlying62 rfl sz58 (by decide) (gd_eq hb)) ?_
  refine j_g rfl (fun hb => qs_loadO (rdo_base (FM.in_gf hin) (by simp)) Try.underlying58 rfl (gd_eq hb) rfl) ?_
  refine j_g rfl (fun hb => qs_nil (gd_eq hb)) ?_
  refine j_g rfl (fun hb => qs_field Try.underlying66 rfl sz64 (by decide) (gd_eq hb)) ?_
  refine j_g rfl (fun hb => qs_loadO (rdo_base (SM.in_gs (FM.in_now hin)) (by simp)) Try.underlying64 rfl (gd_eq hb) rfl) ?_
  refine j_g rfl (fun hb => qs_mt rfl) ?_
  refine j_g rfl (fun hb => qs_lookupR (key := n) strKey (rdo_base (SM.in_gm (FM.in_now hin)) (by simp)) Try.underlying64 zv63 (gd_eq hb) (gd_eq hb) hok.raw.map hn) ?_
  rw [mlook_map fptr, getD_fptr, hlk, Option.map_some]
  refine j_g rfl (fun hb => qs_pnil Try.underlying63 (gd_eq hb)) ?_
  refine j_q (qs_or rfl rfl) ?_
  refine j_cond rfl (fun hc0 => ?_) (fun hc0 => ?_)
  · skip
    simp [gd] at hc0
  · skip
    refine j_q (qs_nil rfl) ?_
    refine j_q (qs_field Try.underlying62 rfl sz58 (by decide) rfl) ?_
    refine j_q (qs_loadO (rdo_base (FM.in_gf hin) (by simp)) Try.underlying58 rfl rfl rfl) ?_
    refine j_q (qs_nil rfl) ?_
    refine j_q (qs_field Try.underlying66 rfl sz64 (by decide) rfl) ?_
    refine j_q (qs_loadO (rdo_base (SM.in_gs (FM.in_now hin)) (by simp)) Try.underlying64 rfl rfl rfl) ?_
    refine j_q (qs_lookupR (key := n) strKey (rdo_base (SM.in_gm (FM.in_now hin)) (by simp)) Try.underlying64 zv63 rfl rfl hok.raw.map hn) ?_
    rw [mlook_map fptr, getD_fptr, hlk, Option.map_some]
    refine j_q (qs_nil rfl) ?_
    refine j_q (qs_field Try.underlying73 rfl sz23 (by decide) rfl) ?_
    refine j_q (qs_loadO (rdo_base (SM.in_f (FM.in_now hin) hx) (by simp)) Try.underlying23 rfl rfl rfl) ?_
    refine j_call0 ent31 rfl rfl rfl (fun w' hw' => clone_con x.v x.xs w' (br_rv (hok.vw x hx).rv (in_keep0 (FM.in_P hin) hw')) hxl) (fun u S2 hu1 => ?_)
    obtain ⟨Q, rfl, hrv⟩ := hu1
    refine j_subl (S' := [ph Q]) (by repeat first | exact slR _ | exact slN _ | apply slC | apply slD) ?_
    refine j_q (qs_ac) ?_
    refine j_ret_con (vs := [_, _]) (fun w' hw' => ⟨rfl, rfl, trivial⟩) ?_
    exact ⟨_, Q, rfl, rfl, hrv⟩
end Go.Proofs.Ytckpegkpdepokaa
/-! Fs9 -/
namespace Go.Proofs.Ytckpegkpdepokaa
open Go Go.Sx
set_option maxRecDepth 100000
set_option maxHeartbeats 4000000
set_option linter.unusedVariables false
set_option linter.unusedSimpArgs false
attribute [local irreducible] J JQ QS Con W opW
theorem same_con (xs ys : List UInt8) (v1 v2 : Value) (w : World) (h1 : BR w v1 xs) (h2 : BR w v2 ys) (hl : xs.length ≤ 1000000000) : Con Try.prog 14 [v1, v2] w [] fun u _ => u = .bool (xs == ys) := by
  refine con_of_tree mix Try.func14 T14_ok (by kernel_rfl) ?_
  unfold T14
  obtain ⟨A1, c1, hv1, hc1'⟩ := br_form h1
  obtain ⟨A2, c2, hv2, hc2'⟩ := br_form h2
  subst hv1 hv2
  refine j_q (qs_ac) ?_
  refine j_q (qs_lenl Try.underlying23 rfl) ?_
  refine j_q (qs_lenl Try.underlying23 rfl) ?_
  refine j_q (qs_neq rfl rfl) ?_
  refine j_cond rfl (fun hc0 => ?_) (fun hc0 => ?_)
  · skip
    have hne : xs.length ≠ ys.length := by
      simp only [bnA] at *
      omega
    refine j_q (qs_ac) ?_
    refine j_ret_con (vs := [_]) (fun w' hw' => ⟨rfl, trivial⟩) ?_
    show Value.bool _ = _
    congr 1
    symm
    rw [beq_eq_false_iff_ne]
    exact fun e => hne (by rw [e])
  · skip
    have heq : xs.length = ys.length := by
      simp only [bnA] at *
      omega
    refine j_q (qs_ac) ?_
    refine j_loop (fun m vs S' => ∃ i : Nat, vs = [.int .i64 (i : Int)] ∧ S' = [[]] ∧ (∀ j, j < i → xs.getD j 0 = ys.getD j 0) ∧ i ≤ xs.length ∧ m = xs.length - i) ⟨_, 0, rfl, rfl, (fun j hj => by omega), Nat.zero_le _, rfl⟩ ?_
    rintro m vs S' hlen ⟨i, rfl, rfl, hall, hin, rfl⟩
    refine j_q (qs_lenl Try.underlying23 rfl) ?_
    refine j_q (qs_lss rfl rfl) ?_
    refine j_cond rfl (fun hc1 => ?_) (fun hc1 => ?_)
    · skip
      have hi : i < xs.length := by
        simp only [bnA] at *
        omega
      have hi2 : i < ys.length := by omega
      obtain ⟨a1, rfl, hcl1⟩ : ∃ a, A1 = some a ∧ Cells w a (ints xs) := by
        rcases h1 with ⟨_, e⟩ | ⟨a, c, e, _, _, hcc⟩
        · rw [e] at hi; simp at hi
        · injection e with e1
          exact ⟨a, e1, hcc⟩
      obtain ⟨a2, rfl, hcl2⟩ : ∃ a, A2 = some a ∧ Cells w a (ints ys) := by
        rcases h2 with ⟨_, e⟩ | ⟨a, c, e, _, _, hcc⟩
        · rw [e] at hi2; simp at hi2
        · injection e with e1
          exact ⟨a, e1, hcc⟩
      refine j_draw ?_
      refine jq_q (qs_ixl0 Try.underlying23 sz5 rfl rfl ⟨(by first | omega | (simp only [bnA] at *; omega)), (by first | omega | (simp only [bnA] at *; omega))⟩) ?_
      refine jq_q (qs_loadR (v := .int .u8 ((xs.getD i 0).toNat : Int)) (a := a1) (i := i) (rd_cells hcl1 (by simp)) Try.underlying5 rfl (by show Value.pointer (some (Addr.add a1 (i : Int).toNat)) = _; rw [Int.toNat_natCast]) (ints_get_lt hi)) ?_
      refine jq_q (qs_ixl0 Try.underlying23 sz5 rfl rfl ⟨(by first | omega | (simp only [bnA] at *; omega)), (by first | omega | (simp only [bnA] at *; omega))⟩) ?_
      refine jq_q (qs_loadR (v := .int .u8 ((ys.getD i 0).toNat : Int)) (a := a2) (i := i) (rd_cells hcl2 (by simp)) Try.underlying5 rfl (by show Value.pointer (some (Addr.add a2 (i : Int).toNat)) = _; rw [Int.toNat_natCast]) (ints_get_lt hi2)) ?_
      refine jq_q (qs_neq rfl rfl) ?_
      refine jq_nil ?_
      refine j_cond rfl (fun hc2 => ?_) (fun hc2 => ?_)
      · skip
        have hd : xs.getD i 0 ≠ ys.getD i 0 := fun e => by rw [e] at hc2; simp at hc2
        refine j_q (qs_ac) ?_
        refine j_ret_con (vs := [_]) (fun w' hw' => ⟨rfl, trivial⟩) ?_
        show Value.bool _ = _
        congr 1
        symm
        rw [beq_eq_false_iff_ne]
        exact fun e => hd (by rw [e])
      · skip
        have hd : xs.getD i 0 = ys.getD i 0 := by
          have h3 : ((xs.getD i 0).toNat : Int) = ((ys.getD i 0).toNat : Int) := by simpa using hc2
          exact UInt8.toNat_inj.1 (by omega)
        refine j_q (qs_add64 rfl rfl (by first | omega | (simp only [bnA] at *; omega))) ?_
        refine j_back rfl ?_
        exact ⟨xs.length - (i + 1), by omega, i + 1, rfl, rfl, fun j hj => by
          rcases Nat.lt_or_ge j i with h | h
          · exact hall j h
          · obtain rfl : j = i := by omega
            exact hd, by omega, rfl⟩
    · skip
      have hi : i = xs.length := by
        simp only [bnA] at *
        omega
      refine j_q (qs_ac) ?_
      refine j_ret_con (vs := [_]) (fun w' hw' => ⟨rfl, trivial⟩) ?_
      show Value.bool _ = _
      congr 1
      symm
      rw [beq_iff_eq]
      apply List.ext_getElem heq
      intro j h3 h4
      have h5 := hall j (by omega)
      rw [List.getD_eq_getElem?_getD, List.getD_eq_getElem?_getD, List.getElem?_eq_getElem h3, List.getElem?_eq_getElem h4] at h5
      simpa using h5
end Go.Proofs.Ytckpegkpdepokaa
/-! Iter -/
namespace Go.Proofs
open Go.RowKit Go.Maps Go.Sort Go.Shelf
def Try.keys42_ren : Go.Shelf.Ren := ⟨fun | 7 => 42 | 10 => 70 | n => n, fun | 23 => 64 | 26 => 9 | 3 => 63 | 28 => 82 | 0 => 0 | 27 => 81 | 33 => 102 | 4 => 4 | n => n, fun | n => n⟩
theorem Try.keys42 : Go.Proofs.SlLaysZ.n7 Try.prog Try.keys42_ren := {
  mixed := by kernel_rfl
  f7 := ⟨Try.f42.name, by decide, Try.func42.trans (congrArg some (by kernel_rfl))⟩
  f10 := ⟨Try.f70.name, by decide, Try.func70.trans (congrArg some (by kernel_rfl))⟩
  t0 := Try.underlying0
  a0 := Try.isAgg0
  z0 := Try.sizeOf0
  v0 := Try.zeroValue0
  t4 := Try.underlying4
  a4 := Try.isAgg4
  z4 := Try.sizeOf4
  v4 := Try.zeroValue4
  t23 := Try.underlying64
  a23 := Try.isAgg64
  z23 := Try.sizeOf64
  v23 := Try.zeroValue64
  t26 := Try.underlying9
  a26 := Try.isAgg9
  z26 := Try.sizeOf9
  v26 := Try.zeroValue9
  t27 := Try.underlying81
  a27 := Try.isAgg81
  z27 := Try.sizeOf81
  v27 := Try.zeroValue81
  t28 := Try.underlying82
  a28 := Try.isAgg82
  z28 := Try.sizeOf82
  v28 := Try.zeroValue82
  t33 := Try.underlying102
  a33 := Try.isAgg102
  z33 := Try.sizeOf102
  v33 := Try.zeroValue102 }
def Try.sorted41_ren : Go.Shelf.Ren := ⟨fun | 6 => 41 | 8 => 69 | 9 => 44 | 11 => 86 | 13 => 73 | 12 => 72 | 23 => 96 | 24 => 97 | 14 => 87 | 15 => 88 | 16 => 89 | 17 => 90 | 18 => 91 | 19 => 92 | 20 => 93 | 21 => 94 | 22 => 95 | 25 => 102 | 26 => 103 | 27 => 104 | 28 => 105 | 29 => 106 | 30 => 107 | 31 => 108 | n => n, fun | 26 => 9 | 28 => 82 | 24 => 41 | 0 => 0 | 3 => 3 | 37 => 40 | 48 => 131 | 50 => 133 | 4 => 4 | 40 => 124 | 39 => 123 | 45 => 128 | 5 => 5 | 9 => 9 | 51 => 138 | 55 => 142 | 57 => 144 | 58 => 145 | 33 => 102 | n => n, fun | n => n⟩
theorem Try.sorted41 : Go.Proofs.SlLaysZ.n6 Try.prog Try.sorted41_ren := {
  mixed := by kernel_rfl
  f6 := ⟨Try.f41.name, by decide, Try.func41.trans (congrArg some (by kernel_rfl))⟩
  f8 := ⟨Try.f69.name, by decide, Try.func69.trans (congrArg some (by kernel_rfl))⟩
  f11 := ⟨Try.f86.name, by decide, Try.func86.trans (congrArg some (by kernel_rfl))⟩
  t0 := Try.underlying0
  a0 := Try.isAgg0
  z0 := Try.sizeOf0
  v0 := Try.zeroValue0
  t24 := Try.underlying41
  a24 := Try.isAgg41
  z24 := Try.sizeOf41
  v24 := Try.zeroValue41
  t26 := Try.underlying9
  a26 := Try.isAgg9
  z26 := Try.sizeOf9
  v26 := Try.zeroValue9
  t28 := Try.underlying82
  a28 := Try.isAgg82
  z28 := Try.sizeOf82
  v28 := Try.zeroValue82
  i26 := by kernel_rfl }
def Try.sort44_ren : Go.Shelf.Ren := ⟨fun | 6 => 44 | 8 => 73 | 9 => 72 | 19 => 96 | 20 => 97 | 21 => 87 | 22 => 88 | 23 => 89 | 24 => 90 | 25 => 91 | 26 => 92 | 27 => 93 | 28 => 94 | 29 => 95 | 36 => 102 | 31 => 103 | 32 => 104 | 37 => 105 | 38 => 106 | 39 => 107 | 41 => 108 | n => n, fun | 27 => 41 | 29 => 9 | 3 => 3 | 32 => 40 | 26 => 41 | 0 => 0 | 44 => 131 | 46 => 133 | 4 => 4 | 36 => 124 | 35 => 123 | 41 => 128 | 5 => 5 | 9 => 9 | 53 => 138 | 57 => 142 | 63 => 144 | 64 => 145 | n => n, fun | n => n⟩
theorem Try.sort44 : Go.Proofs.SlLaysM.n6 Try.prog Try.sort44_ren := {
  mixed := by kernel_rfl
  f6 := ⟨Try.f44.name, by decide, Try.func44.trans (congrArg some (by kernel_rfl))⟩
  f8 := Try.func73.trans (congrArg some (by kernel_rfl))
  f9 := ⟨Try.f72.name, by decide, Try.func72.trans (congrArg some (by kernel_rfl))⟩
  f19 := Try.func96.trans (congrArg some (by kernel_rfl))
  f20 := Try.func97.trans (congrArg some (by kernel_rfl))
  f21 := ⟨Try.f87.name, by decide, Try.func87.trans (congrArg some (by kernel_rfl))⟩
  f22 := ⟨Try.f88.name, by decide, Try.func88.trans (congrArg some (by kernel_rfl))⟩
  f23 := ⟨Try.f89.name, by decide, Try.func89.trans (congrArg some (by kernel_rfl))⟩
  f24 := ⟨Try.f90.name, by decide, Try.func90.trans (congrArg some (by kernel_rfl))⟩
  f25 := ⟨Try.f91.name, by decide, Try.func91.trans (congrArg some (by kernel_rfl))⟩
  f26 := ⟨Try.f92.name, by decide, Try.func92.trans (congrArg some (by kernel_rfl))⟩
  f27 := ⟨Try.f93.name, by decide, Try.func93.trans (congrArg some (by kernel_rfl))⟩
  f28 := ⟨Try.f94.name, by decide, Try.func94.trans (congrArg some (by kernel_rfl))⟩
  f29 := ⟨Try.f95.name, by decide, Try.func95.trans (congrArg some (by kernel_rfl))⟩
  f31 := Try.func103.trans (congrArg some (by kernel_rfl))
  f32 := Try.func104.trans (congrArg some (by kernel_rfl))
  f36 := ⟨Try.f102.name, by decide, Try.func102.trans (congrArg some (by kernel_rfl))⟩
  f37 := ⟨Try.f105.name, by decide, Try.func105.trans (congrArg some (by kernel_rfl))⟩
  f38 := ⟨Try.f106.name, by decide, Try.func106.trans (congrArg some (by kernel_rfl))⟩
  f39 := ⟨Try.f107.name, by decide, Try.func107.trans (congrArg some (by kernel_rfl))⟩
  f41 := ⟨Try.f108.name, by decide, Try.func108.trans (congrArg some (by kernel_rfl))⟩
  t0 := Try.underlying0
  a0 := Try.isAgg0
  z0 := Try.sizeOf0
  v0 := Try.zeroValue0
  t3 := Try.underlying3
  a3 := Try.isAgg3
  z3 := Try.sizeOf3
  v3 := Try.zeroValue3
  t4 := Try.underlying4
  a4 := Try.isAgg4
  z4 := Try.sizeOf4
  v4 := Try.zeroValue4
  t5 := Try.underlying5
  a5 := Try.isAgg5
  z5 := Try.sizeOf5
  v5 := Try.zeroValue5
  t9 := Try.underlying9
  a9 := Try.isAgg9
  z9 := Try.sizeOf9
  v9 := Try.zeroValue9
  t26 := Try.underlying41
  a26 := Try.isAgg41
  z26 := Try.sizeOf41
  v26 := Try.zeroValue41
  t27 := Try.underlying41
  a27 := Try.isAgg41
  z27 := Try.sizeOf41
  v27 := Try.zeroValue41
  t29 := Try.underlying9
  a29 := Try.isAgg9
  z29 := Try.sizeOf9
  v29 := Try.zeroValue9
  t32 := Try.underlying40
  a32 := Try.isAgg40
  z32 := Try.sizeOf40
  v32 := Try.zeroValue40
  t35 := Try.underlying123
  a35 := Try.isAgg123
  z35 := Try.sizeOf123
  v35 := Try.zeroValue123
  t36 := Try.underlying124
  a36 := Try.isAgg124
  z36 := Try.sizeOf124
  v36 := Try.zeroValue124
  t41 := Try.underlying128
  a41 := Try.isAgg128
  z41 := Try.sizeOf128
  v41 := Try.zeroValue128
  t44 := Try.underlying131
  a44 := Try.isAgg131
  z44 := Try.sizeOf131
  v44 := Try.zeroValue131
  t46 := Try.underlying133
  a46 := Try.isAgg133
  z46 := Try.sizeOf133
  v46 := Try.zeroValue133
  t53 := Try.underlying138
  a53 := Try.isAgg138
  z53 := Try.sizeOf138
  v53 := Try.zeroValue138
  t57 := Try.underlying142
  a57 := Try.isAgg142
  z57 := Try.sizeOf142
  v57 := Try.zeroValue142
  t63 := Try.underlying144
  a63 := Try.isAgg144
  z63 := Try.sizeOf144
  v63 := Try.zeroValue144
  t64 := Try.underlying145
  a64 := Try.isAgg145
  z64 := Try.sizeOf145
  v64 := Try.zeroValue145 }
theorem Try.sorts41 (m : Nat) : AnyZ.SortsIn Try.prog Try.sorted41_ren Fence.wide m :=
  ⟨fun blk off cap ss W hH hblk hsz => callsIn_wide.2 (AnyM.slices_Sort_string Try.sort44 blk off cap ss W hH hblk hsz),
   fun p cap W => callsIn_wide.2 (AnyM.slices_Sort_string_none Try.sort44 p cap W)⟩
theorem Try.maps_Keys_42 (mb : Option Nat) (W : World) : CallsIn Fence.wide 5 Try.prog 42 #[.map mb] W fun e w' => e = .returned (.func (.func 70) #[] #[.pointer (some ⟨W.heap.size, 0, none⟩)]) ∧ w' = W.alloc (.cells #[.map mb] 64) :=
  AnyZ.keys_in Try.keys42 Fence.wide 5 trivial rfl mb W
end Go.Proofs
/-! Srk7 -/
namespace Go.Proofs.Ytckpegkpdepokaa
open Go Go.Sx
set_option maxRecDepth 100000
set_option maxHeartbeats 4000000
set_option linter.unusedVariables false
set_option linter.unusedSimpArgs false
attribute [local irreducible] J JQ QS Con W opW
open Go.MapKept Go.WideMaps Go.Maps Go.RowKit Go.Shelf Go.Sort
theorem sortedKeys_at {H : Type} (Bs b nn : Nat) (D0 : DataW H) (R : Value → Option (DataW H × List MemPlace)) (W : World) (hBs : Bs < W.heap.size) (hc : W.cell? ⟨Bs, 0, none⟩ = some (.map (some b))) (hown : W.ownsMap Try.prog 9 R b nn D0) (hmax : Maps.size D0 ≤ maxLen) (hbytes : Maps.size D0 * 16 ≤ 140737488355328) :
    CallsIn Fence.wide 5 Try.prog 41 #[.func (.func 70) #[] #[.pointer (some ⟨Bs, 0, none⟩)]] W fun e w' => ∃ (v : Value) (ss : List (List UInt8)), e = .returned v ∧ ss.Perm (strKeys D0) ∧
      w'.ownsRow W.heap.size 9 1 v ss.length ((ss.mergeSort (fun x y => decide (x ≤ y))).map encStr) ∧ (v = .slice none 0 0 ↔ ss = []) ∧ Go.RowKit.Below W.heap.size W w' :=
  AnyZ.sorted_in Try.sorted41 Fence.wide 5 trivial trivial trivial trivial rfl (by omega) (Try.sorts41 _) (enters_of Try.func44 (by kernel_rfl) rfl) 70 #[.pointer (some ⟨Bs, 0, none⟩)] trivial (enters_of Try.func70 (by kernel_rfl) rfl) _ _ hmax hbytes _
    (AnyZ.keys_gives (ρ := Try.keys42_ren) { Try.keys42 with } Fence.wide _ trivial rfl (by omega) Bs b nn D0 W hBs hc hown)
theorem sortedNames_con (Bs b : Nat) {es : Array MapEntry} {clock : Nat} {m : List (List UInt8 × Value)} (w : World) (hBs : Bs < w.heap.size) (hc : w.cell? ⟨Bs, 0, none⟩ = some (.map (some b))) (hb : w.heap[b]? = some (.map es clock)) (hm : MapOk strEnc strOk es clock m) (hsz : m.length ≤ 1000000000) :
    Con Try.prog 41 [.func (.func 70) #[] #[.pointer (some ⟨Bs, 0, none⟩)]] w [] fun v S' => ∃ c, S' = [c] ∧ Sx.Own 9 1 (strs (sortS (m.map Prod.fst))) v c := by
  let R : Value → Option (DataW Unit × List MemPlace) := fun _ => some (.lit (.bool true), [])
  have hkey : ∀ l : List UInt8, l.length ≤ 9223372036854775807 → keyOf Try.prog 9 (.string (bs l)) = some (.string l) := fun l hl => by
    have : (bs l).size ≤ maxLen := hl
    simp [keyOf, Try.underlying9, mapKey, this, bs_data]
  have hrd : ∀ x ∈ es.toList, ∃ p ∈ m, x.key = strEnc p.1 := fun x hx => by
    have : (x.key, x.val) ∈ m.map (fun p => (strEnc p.1, p.2)) := by rw [← hm.ents]; exact List.mem_map_of_mem (f := fun e : MapEntry => (e.key, e.val)) hx
    obtain ⟨p, hp, e1⟩ := List.mem_map.1 this
    injection e1 with e1 e2
    exact ⟨p, hp, e1.symm⟩
  have hrg : es.toList.map (WideElems.rg Try.prog 9 R) = m.map fun p => (Lit.string p.1, DataW.lit (.bool true)) := by
    have e1 : es.toList.map (WideElems.rg Try.prog 9 R) = (es.toList.map (fun e => (e.key, e.val))).map fun q => ((keyOf Try.prog 9 q.1).map fun k => (k, (DataW.lit (.bool true) : DataW Unit))).getD (.bool false, .nil) := by
      rw [List.map_map]
      refine List.map_congr_left fun x _ => ?_
      simp only [Function.comp, WideElems.rg, WideElems.rd, R, Option.map_some]
      cases keyOf Try.prog 9 x.key <;> rfl
    rw [e1, hm.ents, List.map_map]
    refine List.map_congr_left fun p hp => ?_
    simp only [Function.comp, strEnc, hkey p.1 (hm.keys p hp), Option.map_some, Option.getD_some]
  have hfit : WideElems.Fit Try.prog 9 R es clock := ⟨by rw [hm.size]; simp only [maxLen]; omega, hm.stamped, fun x hx => by
    obtain ⟨p, hp, e1⟩ := hrd x hx
    exact ⟨(.string p.1, .lit (.bool true)), by simp only [WideElems.rd, e1, strEnc, hkey p.1 (hm.keys p hp), Option.bind_some, R, Option.map_some]⟩⟩
  have hown : w.ownsMap Try.prog 9 R b es.size (.map ((es.toList.map (WideElems.rg Try.prog 9 R)).foldr DataW.insert [])) := ⟨es, clock, hb, hfit, Nat.le_refl _, rfl⟩
  have hperm := Go.WideShapes.sorted_perm (H := Unit) (es.toList.map (WideElems.rg Try.prog 9 R))
  have hsk : (strKeys (DataW.map ((es.toList.map (WideElems.rg Try.prog 9 R)).foldr DataW.insert []))).Perm (m.map Prod.fst) := by
    refine (hperm.map _).trans ?_
    rw [hrg, List.map_map]
    exact .of_eq (List.map_congr_left fun p _ => rfl)
  have hsize : Maps.size (DataW.map ((es.toList.map (WideElems.rg Try.prog 9 R)).foldr DataW.insert [])) = m.length := by
    have h1 := hperm.length_eq
    have h2 : es.toList.length = m.length := by rw [Array.length_toList, hm.size]
    rw [List.length_map, h2] at h1
    exact h1
  have h := (callsIn_wide (n := 5)).1 (sortedKeys_at Bs b es.size _ R w hBs hc hown (by rw [hsize]; simp only [maxLen]; omega) (by rw [hsize]; omega))
  have hc2 : Con Try.prog 41 [.func (.func 70) #[] #[.pointer (some ⟨Bs, 0, none⟩)]] w [] fun v S' => ∃ c, S' = [c] ∧ Sx.Own 9 1 (strs (sortS (m.map Prod.fst))) v c := by
    refine con_of_own (n := (m.map Prod.fst).length) (h.mono ?_)
    rintro e w' ⟨v, ss, rfl, hp, hrow, _, hB⟩
    have hpp := hp.trans hsk
    refine ⟨v, rfl, ?_, hB⟩
    rw [hpp.length_eq, mergeSort_of_perm hpp] at hrow
    unfold sortS
    exact hrow
  exact hc2
theorem keysN_con (mb : Option Nat) (w : World) : Con Try.prog 42 [.map mb] w [] fun v S' => ∃ g, v = .func (.func 70) #[] #[.pointer (some ⟨g, 0, none⟩)] ∧ S' = [[(g, .cells [.map mb].toArray 64 (0, 0))]] := con_calls <| by
  refine ((callsIn_wide (n := 5)).1 (Try.maps_Keys_42 mb w)).mono ?_
  rintro e w' ⟨rfl, rfl⟩
  refine ⟨_, _, rfl, ⟨_, rfl, rfl⟩, ?_⟩
  have hs : Sig ⟨w, dom []⟩ [[]] w := ⟨rfl, rfl, rfl, Nat.le_refl _, by simp, by simp, by simp, fun _ _ _ => rfl⟩
  exact (hs.new (o := .cells [.map mb].toArray 64 (0, 0)) (w' := w.alloc (.cells #[.map mb] 64)) rfl rfl rfl rfl).1.sub (by simp)
end Go.Proofs.Ytckpegkpdepokaa
/-! Fs10 -/
namespace Go.Proofs.Ytckpegkpdepokaa
open Go Go.Sx
set_option maxRecDepth 100000
set_option maxHeartbeats 4000000
set_option linter.unusedVariables false
set_option linter.unusedSimpArgs false
attribute [local irreducible] J JQ QS Con W opW
open Go.MapKept Go.WideMaps Go.Maps
theorem sortAB : sortS [[97], [98]] = [[97], [98]] := by
  unfold sortS
  exact List.mergeSort_of_pairwise (List.Pairwise.cons (fun y hy => by rw [List.mem_singleton] at hy; rw [hy]; decide) (List.pairwise_singleton _ _))
theorem in_any {w w' : World} {c : SH} {S : List SH} (h : In w c) (hs : Sig ⟨w, dom []⟩ S w') : In w' c := in_keep h hs
theorem node_con (f : FM) (B : Nat) (n : List UInt8) (w : World) (hin : In w f.heap) (hok : f.Ok B) (hn : strOk n) (x : FL) (hx : x ∈ f.now.fs) (hlk : alook f.now.ml n = some (x.g, x.id)) (hml : f.now.ml.length ≤ 1000000) : Con Try.prog 17 [f.ptr, .string (bs n)] w [] fun u _ => ∃ first : List UInt8, u = .tuple #[.string (bs first), .int .i64 x.k] ∧ (x.k = 1 → first = n) ∧ (x.k ≠ 1 → ∃ i, i < (sortS (f.now.ml.map Prod.fst)).length ∧ first = (sortS (f.now.ml.map Prod.fst)).getD i [] ∧ alook f.now.ml first = some (x.g, x.id) ∧ ∀ j, j < i → alook f.now.ml ((sortS (f.now.ml.map Prod.fst)).getD j []) ≠ some (x.g, x.id)) := by
  refine con_of_tree mix Try.func17 T17_ok (by kernel_rfl) ?_
  unfold T17
  have hk := hok.raw.le x hx
  obtain ⟨nm, hnm⟩ : ∃ l, l = sortS (f.now.ml.map Prod.fst) := ⟨_, rfl⟩
  rw [← hnm]
  have hmem : ∀ y, y ∈ nm ↔ y ∈ f.now.ml.map Prod.fst := fun y => by rw [hnm]; unfold sortS; exact List.mem_mergeSort
  refine j_q (qs_ac) ?_
  refine j_q (qs_ac) ?_
  refine j_q (qs_pnil Try.underlying25 rfl) ?_
  refine j_g rfl (fun hb => qs_mt rfl) ?_
  refine j_g rfl (fun hb => qs_nil (gd_eq hb)) ?_
  refine j_g rfl (fun hb => qs_field Try.underlying62 rfl sz58 (by decide) (gd_eq hb)) ?_
  refine j_g rfl (fun hb => qs_loadO (rdo_base (FM.in_gf hin) (by simp)) Try.underlying58 rfl (gd_eq hb) rfl) ?_
  refine j_g rfl (fun hb => qs_pnil Try.underlying58 (gd_eq hb)) ?_
  refine j_q (qs_or rfl rfl) ?_
  refine j_g rfl (fun hb => qs_mt rfl) ?_
  refine j_g rfl (fun hb => qs_nil (gd_eq hb)) ?_
  refine j_g rfl (fun hb => qs_field Try.underlying62 rfl sz58 (by decide) (gd_eq hb)) ?_
  refine j_g rfl (fun hb => qs_loadO (rdo_base (FM.in_gf hin) (by simp)) Try.underlying58 rfl (gd_eq hb) rfl) ?_
  refine j_g rfl (fun hb => qs_nil (gd_eq hb)) ?_
  refine j_g rfl (fun hb => qs_field Try.underlying66 rfl sz64 (by decide) (gd_eq hb)) ?_
  refine j_g rfl (fun hb => qs_loadO (rdo_base (SM.in_gs (FM.in_now hin)) (by simp)) Try.underlying64 rfl (gd_eq hb) rfl) ?_
  refine j_g rfl (fun hb => qs_mt rfl) ?_
  refine j_g rfl (fun hb => qs_lookupR (key := n) strKey (rdo_base (SM.in_gm (FM.in_now hin)) (by simp)) Try.underlying64 zv63 (gd_eq hb) (gd_eq hb) hok.raw.map hn) ?_
  rw [mlook_map fptr, getD_fptr, hlk, Option.map_some]
  refine j_g rfl (fun hb => qs_pnil Try.underlying63 (gd_eq hb)) ?_
  refine j_q (qs_or rfl rfl) ?_
  refine j_cond rfl (fun hc0 => ?_) (fun hc0 => ?_)
  · skip
    simp [gd] at hc0
  · skip
    refine j_q (qs_nil rfl) ?_
    refine j_q (qs_field Try.underlying62 rfl sz58 (by decide) rfl) ?_
    refine j_q (qs_loadO (rdo_base (FM.in_gf hin) (by simp)) Try.underlying58 rfl rfl rfl) ?_
    refine j_q (qs_nil rfl) ?_
    refine j_q (qs_field Try.underlying66 rfl sz64 (by decide) rfl) ?_
    refine j_q (qs_loadO (rdo_base (SM.in_gs (FM.in_now hin)) (by simp)) Try.underlying64 rfl rfl rfl) ?_
    refine j_q (qs_lookupR (key := n) strKey (rdo_base (SM.in_gm (FM.in_now hin)) (by simp)) Try.underlying64 zv63 rfl rfl hok.raw.map hn) ?_
    rw [mlook_map fptr, getD_fptr, hlk, Option.map_some]
    refine j_q (qs_nil rfl) ?_
    refine j_q (qs_field Try.underlying73 rfl sz71 (by decide) rfl) ?_
    refine j_q (qs_call ent33 rfl rfl rfl (fun w' hw' => aload_con x.g 1 (flcells x) 73 (0, 0) x.k w' (SM.in_f (FM.in_now (in_any hin hw')) hx) rfl)) ?_
    refine j_q (qs_eql rfl rfl) ?_
    refine j_cond rfl (fun hc1 => ?_) (fun hc1 => ?_)
    · skip
      have hk1 : x.k = 1 := by simpa using hc1
      refine j_q (qs_ac) ?_
      refine j_ret_con (vs := [_, _]) (fun w' hw' => ⟨rfl, rfl, trivial⟩) ?_
      exact ⟨n, by rw [hk1]; rfl, fun _ => rfl, fun h => absurd hk1 h⟩
    · skip
      have hk1 : x.k ≠ 1 := by simpa using hc1
      refine j_q (qs_nil rfl) ?_
      refine j_q (qs_field Try.underlying62 rfl sz58 (by decide) rfl) ?_
      refine j_q (qs_loadO (rdo_base (FM.in_gf hin) (by simp)) Try.underlying58 rfl rfl rfl) ?_
      refine j_q (qs_nil rfl) ?_
      refine j_q (qs_field Try.underlying66 rfl sz64 (by decide) rfl) ?_
      refine j_q (qs_loadO (rdo_base (SM.in_gs (FM.in_now hin)) (by simp)) Try.underlying64 rfl rfl rfl) ?_
      refine j_call0 ent42 rfl rfl rfl (fun w' hw' => keysN_con (some f.now.gm) w') (fun u S2 hu => ?_)
      obtain ⟨gk, rfl, rfl⟩ := hu
      refine j_subl (S' := [[(gk, .cells [.map (some f.now.gm)].toArray 64 (0, 0))]]) (by repeat first | exact slR _ | exact slN _ | apply slC | apply slD) ?_
      refine j_call0 ent41 rfl rfl rfl (fun w' hw' => sortedNames_con gk f.now.gm w' (lt_of_get (hw'.own (gk, .cells [.map (some f.now.gm)].toArray 64 (0, 0)) (by simp))) (by rw [cell_of (hw'.own (gk, .cells [.map (some f.now.gm)].toArray 64 (0, 0)) (by simp))]; rfl) (SM.in_gm (FM.in_now (in_any hin hw'))) hok.raw.map (by rw [List.length_map]; omega)) (fun u S2 hu => ?_)
      obtain ⟨kc, rfl, hok0⟩ := hu
      rw [show (f.now.ml.map fun q => (q.1, fptr q.2)).map Prod.fst = f.now.ml.map Prod.fst by rw [List.map_map]; rfl, ← hnm] at hok0
      refine j_subl (S' := [kc]) (by repeat first | exact slR _ | exact slN _ | apply slC | apply slD) ?_
      obtain ⟨nk, Ak, capk, rfl, hnk⟩ := own_form hok0 (by decide)
      rw [strs_len, Nat.mul_one] at hnk
      subst hnk
      have hnl : nm.length ≤ 1000000 := by
        rw [hnm]
        unfold sortS
        rw [(List.mergeSort_perm _ _).length_eq, List.length_map]
        exact hml
      refine j_q (qs_lenl Try.underlying41 rfl) ?_
      refine j_q (qs_mc) ?_
      refine j_loop (fun m vs S' => ∃ i : Nat, vs = [.int .i64 (i : Int)] ∧ S' = [kc] ∧ (∀ j, j < i → alook f.now.ml (nm.getD j []) ≠ some (x.g, x.id)) ∧ i ≤ nm.length ∧ m = nm.length - i) ⟨_, 0, rfl, rfl, (fun j hj => by omega), Nat.zero_le _, rfl⟩ ?_
      rintro m vs S' hlen ⟨i, rfl, rfl, hall, hi, rfl⟩
      refine j_q (qs_lss rfl rfl) ?_
      refine j_cond rfl (fun hc2 => ?_) (fun hc2 => ?_)
      · skip
        have hi1 : i < nm.length := by
          simp only [bnA] at *
          omega
        obtain ⟨gq, rfl⟩ := own_addr hok0 (by rw [strs_len]; omega)
        have hnx : strOk (nm.getD i []) := by
          have h1 : (nm.getD i []) ∈ nm := by rw [List.getD_eq_getElem?_getD, List.getElem?_eq_getElem hi1]; exact List.getElem_mem hi1
          obtain ⟨q, hq, e⟩ := List.mem_map.1 ((hmem _).1 h1)
          rw [← e]
          exact hok.raw.map.keys (q.1, fptr q.2) (List.mem_map.2 ⟨q, hq, rfl⟩)
        refine j_q (qs_ixn (i := i) Try.underlying41 sz9 rfl rfl hi1) ?_
        refine j_q (qs_loadR (v := .string (bs (nm.getD i []))) (a := ⟨gq, 0, none⟩) (i := i) (own_rd hok0 0 rfl) Try.underlying9 rfl (by rw [add_off]; show Value.pointer (some ⟨gq, 0 + i * 1, none⟩) = _; rw [Nat.mul_one]) (str_get hi1)) ?_
        refine j_q (qs_nil rfl) ?_
        refine j_q (qs_field Try.underlying62 rfl sz58 (by decide) rfl) ?_
        refine j_q (qs_loadO (rdo_base (FM.in_gf hin) (by simp)) Try.underlying58 rfl rfl rfl) ?_
        refine j_q (qs_nil rfl) ?_
        refine j_q (qs_field Try.underlying66 rfl sz64 (by decide) rfl) ?_
        refine j_q (qs_loadO (rdo_base (SM.in_gs (FM.in_now hin)) (by simp)) Try.underlying64 rfl rfl rfl) ?_
        refine j_q (qs_lookupR (key := (nm.getD i [])) strKey (rdo_base (SM.in_gm (FM.in_now hin)) (by simp)) Try.underlying64 zv63 rfl rfl hok.raw.map hnx) ?_
        rw [mlook_map fptr, getD_fptr]
        refine j_q (qs_peq Try.underlying63 sz73 (by decide) rfl rfl (fun a' ha' => by
          obtain ⟨p, hp, rfl⟩ := Option.map_eq_some_iff.1 ha'
          obtain ⟨y, hy, h1, h2⟩ := hok.raw.has _ (alook_mem hp)
          simp only at h1
          rw [← h1]
          exact ⟨_, _, rdo_base (SM.in_f (FM.in_now hin) hy) (by simp)⟩) ⟨_, _, rdo_base (SM.in_f (FM.in_now hin) hx) (by simp)⟩) ?_
        refine j_cond rfl (fun hc3 => ?_) (fun hc3 => ?_)
        · skip
          have hlk2 : alook f.now.ml (nm.getD i []) = some (x.g, x.id) := by
            cases hq : alook f.now.ml (nm.getD i []) with
            | none => rw [hq] at hc3; simp at hc3
            | some p =>
              rw [hq] at hc3
              have h1 : p.1 = x.g := by simpa using hc3
              obtain ⟨y, hy, h2, h3⟩ := hok.raw.has _ (alook_mem hq)
              have h4 := fs_uniq hok.raw hx hy (h2.trans h1)
              rw [h4] at h3
              exact congrArg some (Prod.ext h1 h3.symm)
          refine j_q (qs_nil rfl) ?_
          refine j_q (qs_field Try.underlying73 rfl sz71 (by decide) rfl) ?_
          refine j_q (qs_call ent33 rfl rfl rfl (fun w' hw' => aload_con x.g 1 (flcells x) 73 (0, 0) x.k w' (SM.in_f (FM.in_now (in_any hin hw')) hx) rfl)) ?_
          refine j_q (qs_conv Try.underlying21 Try.underlying3 rfl) ?_
          refine j_ret_con (vs := [_, _]) (fun w' hw' => ⟨rfl, rfl, trivial⟩) ?_
          refine ⟨(nm.getD i []), ?_, fun h => absurd h hk1, fun _ => ⟨i, hi1, rfl, hlk2, hall⟩⟩
          show Value.tuple _ = _
          rw [show IntKind.i64.wrap x.k = x.k from IntWalk.i64_in _ (by omega)]
          rfl
        · skip
          have hne : alook f.now.ml (nm.getD i []) ≠ some (x.g, x.id) := fun e => by
            rw [e] at hc3
            simp at hc3
          refine j_q (qs_add64 rfl rfl (by first | omega | (simp only [bnA] at *; omega))) ?_
          refine j_back rfl ?_
          exact ⟨nm.length - (i + 1), by omega, i + 1, rfl, rfl, fun j hj => by
            rcases Nat.lt_or_ge j i with h | h
            · exact hall j h
            · obtain rfl : j = i := by omega
              exact hne, by omega, rfl⟩
      · skip
        have hi2 : i = nm.length := by
          simp only [bnA] at *
          omega
        have hn1 : n ∈ nm := (hmem n).2 (List.mem_map.2 ⟨_, alook_mem hlk, rfl⟩)
        obtain ⟨j, hj, e⟩ := List.getElem_of_mem hn1
        refine absurd ?_ (hall j (by omega))
        rw [List.getD_eq_getElem?_getD, List.getElem?_eq_getElem hj, Option.getD_some, e]
        exact hlk
end Go.Proofs.Ytckpegkpdepokaa
/-! Fs11 -/
namespace Go.Proofs.Ytckpegkpdepokaa
open Go Go.Sx
set_option maxRecDepth 100000
set_option maxHeartbeats 4000000
set_option linter.unusedVariables false
set_option linter.unusedSimpArgs false
attribute [local irreducible] J JQ QS Con W opW
open Go.MapKept Go.WideMaps Go.Maps
theorem sep_head {b : Base} {g : Nat} {o : Obj} {H : SH} {S : List SH} {w : World} (hw : Sig b ([(g, o)] :: H :: S) w) {A : Nat} : ∀ (a : Addr) (m c : Nat), Value.slice (some ⟨g, 0, none⟩) A A = .slice (some a) m c → 0 < m → a.block ∉ dom H := fun a m c e _ hm => by
  injection e with e1
  injection e1 with e1
  have hnd := hw.nodup
  simp only [dom, List.flatten_cons, List.map_append, List.map_cons, List.map_nil, List.cons_append, List.nil_append, List.nodup_cons] at hnd
  rw [← e1] at hm
  exact hnd.1 (List.mem_append_left _ hm)
theorem br_lit {w : World} {g : Nat} {xs : List UInt8} {fz : Nat × Nat} (hg : w.heap[g]? = some (.cells (ints xs).toArray 5 fz)) : BR w (.slice (some ⟨g, 0, none⟩) xs.length xs.length) xs := .inr ⟨_, _, rfl, Nat.le_refl _, fun _ => lt_of_get hg, fun j u hu => by
  rw [add_off, Nat.zero_add, cell_of hg]
  exact hu⟩
theorem known_con (w : World) : Con Try.prog 9 [] w [] fun v _ => v = .bool true := by
  refine con_of_tree mix Try.func9 T9_ok (by kernel_rfl) ?_
  unfold T9
  refine j_q (qs_ac) ?_
  refine j_call0 ent10 rfl rfl rfl (fun w' hw' => new_con 100 w' (by decide) (by decide)) (fun u S2 hu => ?_)
  obtain ⟨f0, rfl, rfl, hok0, hroom0, hfu0, hleft0, hP0, hts0, hml0, hfs0, hus0⟩ := hu
  refine j_subl (S' := [f0.heap]) (by repeat first | exact slR _ | exact slN _ | apply slC | apply slD) ?_
  refine j_q (qs_ext (vs := [f0.ptr, .int .i64 0]) rfl rfl) ?_
  refine j_q (qs_ext (vs := [f0.ptr, .int .i64 0]) rfl rfl) ?_
  refine j_q (qs_neq rfl rfl) ?_
  refine j_g rfl (fun hb => qs_mt rfl) ?_
  refine j_g rfl (fun hb => qs_pnil Try.underlying25 (gd_eq hb)) ?_
  refine j_q (qs_or rfl rfl) ?_
  refine j_g rfl (fun hb => qs_mt rfl) ?_
  refine j_ga rfl ?_
  refine j_lit (vs := [.int .u8 120]) Try.underlying23 sz5 zero5 rfl (by simp [oneV]) ⟨rfl, by decide⟩ (fun g9 v9 c9 hv9 hc9 ho9 => ?_)
  subst hv9 hc9
  refine j_ga rfl ?_
  refine j_convsl 0 Try.underlying23 Try.underlying5 rfl rfl ?_
  refine j_ga rfl ?_
  refine j_call 1 ent13 rfl rfl rfl rfl (fun w' hw' => write_con f0 0 (by decide) [97] _ [120] w' hok0 (by rw [hleft0]; decide) (by decide) (br_lit (xs := [120]) (fz := (1, 2)) (hw'.own (g9, .cells [.int .u8 120].toArray 5 (1, 2)) (by simp))) (sep_head hw') (by decide) (by rw [hfs0, hus0]; decide) (by rw [hus0]; decide) hfu0 (by rw [hus0, hroom0]; decide) (by decide) (by decide) 0 (by rw [hfs0]; intro x hx; cases hx) (by rw [hml0]; rfl) (by rw [hml0]; decide)) (fun u S2 hu => ?_)
  obtain ⟨rfl, s1, A2, _, more1, P1, t1, tv1, tc1, rfl, hrow1, ⟨es1, ck1, g1, hs1⟩, hraw1, ⟨cc1, hrv1⟩, _, hgs1⟩ := hu
  have hml1 : s1.ml = [([97], (g1, 0))] := by rw [hs1]; simp [writeM, givesM, newM, letsM, hml0, hfs0, bump, alook]
  have hfs1 : s1.fs = [⟨g1, 0, clipV [120] A2, [120], 1⟩] := by rw [hs1]; simp [writeM, givesM, newM, letsM, hml0, hfs0, bump, alook]
  have hus1 : s1.used = 1 := by rw [hs1]; simp [writeM, givesM, newM, letsM, hml0, hfs0, hus0, bump, alook]
  obtain ⟨f1, hf1⟩ : ∃ y : FM, y = doneF { f0 with more := more1, P := P1 } s1 P1 t1 tv1 tc1 := ⟨_, rfl⟩
  have hok1 : f1.Ok 1 := by
    rw [hf1]
    refine ⟨hrow1, ?_, hraw1, fun x hx => ?_, hok0.lpv⟩
    · show (f0.ts ++ [t1]).length ≤ 1
      rw [hts0]
      simp
    · have hx' : x ∈ s1.fs := hx
      rw [hfs1, List.mem_singleton] at hx'
      rw [hx']
      exact Vw.clip g1 hrv1 rfl
  have hn1 : f1.now = s1 := by rw [hf1]
  have hfu1 : f1.fused = false := by rw [hf1]; exact hfu0
  have hl1 : f1.left = 0 := by
    rw [hf1]
    show (if f0.fused then f0.left - 1 else f0.left) = 0
    rw [hfu0]
    exact hleft0
  have hroom1 : f1.room = 100 := by rw [hf1]; exact hroom0
  have hp1 : f0.ptr = f1.ptr := by rw [hf1]
  have hts1 : f1.ts.length = 1 := by
    rw [hf1]
    show (f0.ts ++ [t1]).length = 1
    rw [hts0]
    rfl
  rw [← hn1] at hml1 hfs1 hus1
  refine j_subl (S' := [f1.heap]) (by rw [hf1]; exact (by repeat first | exact slR _ | exact slN _ | apply slC | apply slD)) ?_
  rw [hp1]
  refine j_g rfl (fun hb => qs_neq (gd_eq hb) rfl) ?_
  refine j_q (qs_or rfl rfl) ?_
  refine j_g rfl (fun hb => qs_mt rfl) ?_
  refine j_ga rfl ?_
  refine j_call 0 ent15 rfl rfl rfl rfl (fun w' hw' => link_con f1 1 (by decide) [97] [98] w' hok1 (by rw [hl1]; decide) (by decide) (by decide) hfu1 (by decide) (by decide) (⟨g1, 0, clipV [120] A2, [120], 1⟩ : FL) (by rw [hfs1]; simp) (by rw [hml1]; rfl) (by show (1 : Int) + 1 ≤ 1000000; decide) (by rw [hml1]; rfl) (by rw [hml1]; simp)) (fun u S2 hu => ?_)
  obtain ⟨rfl, s2, more2, t2, tv2, tc2, rfl, hrow2, ⟨es2, ck2, hs2⟩, hraw2⟩ := hu
  have hml2 : s2.ml = [([97], (g1, 0)), ([98], (g1, 0))] := by rw [hs2]; simp [givesM, letsM, hml1, hfs1, bump, alook]
  have hfs2 : s2.fs = [⟨g1, 0, clipV [120] A2, [120], 2⟩] := by rw [hs2]; simp [givesM, letsM, hml1, hfs1, bump, alook]
  have hus2 : s2.used = 1 := by rw [hs2]; simp [givesM, letsM, hml1, hfs1, hus1, bump, alook]
  obtain ⟨f2, hf2⟩ : ∃ y : FM, y = doneF { f1 with more := more2 } s2 f1.P t2 tv2 tc2 := ⟨_, rfl⟩
  have hok2 : f2.Ok 2 := by
    rw [hf2]
    refine ⟨hrow2, ?_, hraw2, fun x hx => ?_, hok1.lpv⟩
    · show (f1.ts ++ [t2]).length ≤ 2
      rw [List.length_append, hts1]
      simp
    · have hx' : x ∈ s2.fs := hx
      rw [hfs2, List.mem_singleton] at hx'
      rw [hx']
      exact hok1.vw (⟨g1, 0, clipV [120] A2, [120], 1⟩ : FL) (by rw [hfs1]; simp)
  have hn2 : f2.now = s2 := by rw [hf2]
  have hfu2 : f2.fused = false := by rw [hf2]; exact hfu1
  have hl2 : f2.left = 0 := by
    rw [hf2]
    show (if f1.fused then f1.left - 1 else f1.left) = 0
    rw [hfu1]
    exact hl1
  have hroom2 : f2.room = 100 := by rw [hf2]; exact hroom1
  have hp2 : f1.ptr = f2.ptr := by rw [hf2]
  have hts2 : f2.ts.length = 2 := by
    rw [hf2]
    show (f1.ts ++ [t2]).length = 2
    rw [List.length_append, hts1]
    rfl
  rw [← hn2] at hml2 hfs2 hus2
  refine j_subl (S' := [f2.heap]) (by rw [hf2]; exact (by repeat first | exact slR _ | exact slN _ | apply slC | apply slD)) ?_
  rw [hp2]
  refine j_g rfl (fun hb => qs_neq (gd_eq hb) rfl) ?_
  refine j_q (qs_or rfl rfl) ?_
  refine j_g rfl (fun hb => qs_mt rfl) ?_
  refine j_ga rfl ?_
  refine j_lit (vs := [.int .u8 121]) Try.underlying23 sz5 zero5 rfl (by simp [oneV]) ⟨rfl, by decide⟩ (fun g19 v19 c19 hv19 hc19 ho19 => ?_)
  subst hv19 hc19
  refine j_ga rfl ?_
  refine j_convsl 0 Try.underlying23 Try.underlying5 rfl rfl ?_
  refine j_ga rfl ?_
  refine j_call 1 ent16 rfl rfl rfl rfl (fun w' hw' => append_con f2 2 (by decide) [98] _ [121] w' hok2 (by rw [hl2]; decide) (by decide) (br_lit (xs := [121]) (fz := (1, 2)) (hw'.own (g19, .cells [.int .u8 121].toArray 5 (1, 2)) (by simp))) (sep_head hw') (by decide) (by rw [hfs2, hus2]; simp [tot]) (by rw [hus2]; decide) hfu2 (by rw [hus2, hroom2]; decide) (by decide) (by decide) (⟨g1, 0, clipV [120] A2, [120], 2⟩ : FL) (by rw [hfs2]; simp) (by rw [hml2]; rfl) (by simp)) (fun u S2 hu => ?_)
  obtain ⟨rfl, v3, more3, P3, t3, tv3, tc3, rfl, hrow3, hraw3, hvw3⟩ := hu
  have hfs3 : (appM f2.now 0 v3 [121]).fs = [⟨g1, 0, v3, [120, 121], 2⟩] := by simp [appM, hfs2, app1]
  obtain ⟨f3, hf3⟩ : ∃ y : FM, y = doneF { f2 with more := more3, P := P3 } (appM f2.now 0 v3 [121]) P3 t3 tv3 tc3 := ⟨_, rfl⟩
  have hok3 : f3.Ok 3 := by
    rw [hf3]
    refine ⟨hrow3, ?_, hraw3, hvw3, hok2.lpv⟩
    show (f2.ts ++ [t3]).length ≤ 3
    rw [List.length_append, hts2]
    simp
  have hn3 : f3.now = appM f2.now 0 v3 [121] := by rw [hf3]
  have hml3 : f3.now.ml = [([97], (g1, 0)), ([98], (g1, 0))] := by rw [hn3]; exact hml2
  have hp3 : f2.ptr = f3.ptr := by rw [hf3]
  rw [← hn3] at hfs3
  refine j_subl (S' := [f3.heap]) (by rw [hf3]; exact (by repeat first | exact slR _ | exact slN _ | apply slC | apply slD)) ?_
  rw [hp3]
  refine j_g rfl (fun hb => qs_neq (gd_eq hb) rfl) ?_
  refine j_q (qs_or rfl rfl) ?_
  refine j_cond rfl (fun hc0 => ?_) (fun hc0 => ?_)
  · skip
    simp [gd] at hc0
  · skip
    refine j_call0 ent11 rfl rfl rfl (fun w' hw' => read_con f3 3 [97] w' (in_own hw' 0 rfl) hok3 (by decide) (⟨g1, 0, v3, [120, 121], 2⟩ : FL) (by rw [hfs3]; simp) (by rw [hml3]; rfl)) (fun u S2 hu => ?_)
    obtain ⟨vr, Q, rfl, rfl, hrvr⟩ := hu
    refine j_subl (S' := [ph Q, f3.heap]) (by repeat first | exact slR _ | exact slN _ | apply slC | apply slD) ?_
    refine j_q (qs_ext (vs := [vr, .int .i64 0]) rfl rfl) ?_
    refine j_q (qs_ext (vs := [vr, .int .i64 0]) rfl rfl) ?_
    refine j_call0 ent17 rfl rfl rfl (fun w' hw' => node_con f3 3 [98] w' (in_own hw' 1 rfl) hok3 (by decide) (⟨g1, 0, v3, [120, 121], 2⟩ : FL) (by rw [hfs3]; simp) (by rw [hml3]; rfl) (by rw [hml3]; simp)) (fun u S2 hu => ?_)
    obtain ⟨first, rfl, _, hfirst⟩ := hu
    obtain ⟨i, hi, hfe, hfl, hfa⟩ := hfirst (by simp)
    rw [hml3] at hi hfe hfl hfa
    have hso : sortS (List.map Prod.fst [(([97] : List UInt8), (g1, 0)), ([98], (g1, 0))]) = [[97], [98]] := sortAB
    rw [hso] at hi hfe hfa
    obtain rfl : i = 0 := by
      rcases Nat.eq_zero_or_pos i with h | h
      · exact h
      · exact absurd rfl (hfa 0 h)
    obtain rfl : first = [97] := hfe
    refine j_subl (S' := [ph Q, f3.heap]) (List.sublist_append_right _ _) ?_
    refine j_q (qs_ext (vs := [.string (bs [97]), .int .i64 2]) rfl rfl) ?_
    refine j_q (qs_ext (vs := [.string (bs [97]), .int .i64 2]) rfl rfl) ?_
    refine j_q (qs_eql rfl rfl) ?_
    refine j_g rfl (fun hb => qs_mt rfl) ?_
    refine j_ga rfl ?_
    refine j_lit (vs := [.int .u8 120, .int .u8 121]) Try.underlying23 sz5 zero5 rfl (by simp [oneV]) ⟨rfl, by decide⟩ (fun g33 v33 c33 hv33 hc33 ho33 => ?_)
    subst hv33 hc33
    refine j_ga rfl ?_
    refine j_convsl 0 Try.underlying23 Try.underlying5 rfl rfl ?_
    refine j_gt rfl (qs_call ent14 rfl rfl rfl (fun w' hw' => same_con [120, 121] [120, 121] _ _ w' (br_rv hrvr (in_own hw' 1 rfl)) (br_lit (xs := [120, 121]) (fz := (2, 3)) (hw'.own (g33, .cells [Value.int .u8 120, Value.int .u8 121].toArray 5 (2, 3)) (by simp))) (by decide))) ?_
    refine j_q (qs_and rfl rfl) ?_
    refine j_g rfl (fun hb => qs_mt rfl) ?_
    refine j_g rfl (fun hb => qs_seql (gd_eq hb) rfl) ?_
    refine j_q (qs_and rfl rfl) ?_
    refine j_g rfl (fun hb => qs_mt rfl) ?_
    refine j_g rfl (fun hb => qs_eql (gd_eq hb) rfl) ?_
    refine j_q (qs_and rfl rfl) ?_
    refine j_ret_con (vs := [_]) (fun w' hw' => ⟨rfl, trivial⟩) ?_
    rfl
end Go.Proofs.Ytckpegkpdepokaa
/-! Fs12 -/
namespace Go.Proofs.Ytckpegkpdepokaa
open Go Go.Sx
set_option maxRecDepth 100000
set_option maxHeartbeats 4000000
set_option linter.unusedVariables false
set_option linter.unusedSimpArgs false
attribute [local irreducible] J JQ QS Con W opW
open Go.MapKept Go.WideMaps Go.Maps
theorem base_sep {w w' : World} {v : Value} {xs : List UInt8} {S : List SH} (h : BR w v xs) (hs : Sig ⟨w, dom []⟩ S w') {H : SH} (k : Nat) (hk : S[k]? = some H) : ∀ (a : Addr) (m c : Nat), v = .slice (some a) m c → 0 < m → a.block ∉ dom H := fun a m c e h0 hm => by
  rcases h with ⟨h1, _⟩ | ⟨a', cap, h1, _, h3, _⟩
  · rw [h1] at e; cases e
  · rw [h1] at e
    injection e with e1 e0
    injection e1 with e1
    obtain ⟨q, hq, e2⟩ := List.mem_map.1 hm
    rcases hs.dom_ a.block (List.mem_map.2 ⟨q, mem_flatten_of hk hq, e2⟩) with h | h
    · simp [dom] at h
    · have h4 := h3 (by rw [e0]; exact h0)
      rw [e1] at h4
      exact absurd h (Nat.not_le.2 h4)
theorem br_src {w : World} {S : List SH} {v : Value} {xs : List UInt8} (h : BR w v xs) : Src (⟨w, dom []⟩ : Base) S 1 v xs.length (ints xs) := by
  rcases h with ⟨rfl, rfl⟩ | ⟨a, cap, rfl, _, _, h⟩
  · exact .inr (.inl ⟨0, rfl, rfl, rfl⟩)
  · exact .inl ⟨a, cap, rfl, rd_cells h (by simp [dom]), by rw [ints_length, Nat.mul_one]⟩
theorem br0 {w w' : World} {v : Value} {xs : List UInt8} {S : List SH} (h : BR w v xs) (hs : Sig ⟨w, dom []⟩ S w') : BR w' v xs := br_keep h (fun a m c e _ => by simp [dom]) hs
theorem own_br {b : Base} {S : List SH} {w : World} {v : Value} {c : SH} {xs : List UInt8} (h : Sx.Own 5 1 (ints xs) v c) (k : Nat) (hk : S[k]? = some c) (hw : Sig b S w) : BR w v xs := br_rsl (rsl_own h k hk hw)
theorem used_con (f : FM) (w : World) (hin : In w f.heap) : Con Try.prog 12 [f.ptr] w [] fun v _ => v = .int .i64 f.now.used := by
  refine con_of_tree mix Try.func12 T12_ok (by kernel_rfl) ?_
  unfold T12
  refine j_q (qs_ac) ?_
  refine j_q (qs_pnil Try.underlying25 rfl) ?_
  refine j_g rfl (fun hb => qs_mt rfl) ?_
  refine j_g rfl (fun hb => qs_nil (gd_eq hb)) ?_
  refine j_g rfl (fun hb => qs_field Try.underlying62 rfl sz58 (by decide) (gd_eq hb)) ?_
  refine j_g rfl (fun hb => qs_loadO (rdo_base (FM.in_gf hin) (by simp)) Try.underlying58 rfl (gd_eq hb) rfl) ?_
  refine j_g rfl (fun hb => qs_pnil Try.underlying58 (gd_eq hb)) ?_
  refine j_q (qs_or rfl rfl) ?_
  refine j_cond rfl (fun hc0 => ?_) (fun hc0 => ?_)
  · skip
    simp [gd] at hc0
  · skip
    refine j_q (qs_nil rfl) ?_
    refine j_q (qs_field Try.underlying62 rfl sz58 (by decide) rfl) ?_
    refine j_q (qs_loadO (rdo_base (FM.in_gf hin) (by simp)) Try.underlying58 rfl rfl rfl) ?_
    refine j_q (qs_nil rfl) ?_
    refine j_q (qs_field Try.underlying66 rfl sz3 (by decide) rfl) ?_
    refine j_q (qs_loadO (rdo_base (SM.in_gs (FM.in_now hin)) (by simp)) Try.underlying3 rfl rfl rfl) ?_
    refine j_ret_con (vs := [_]) (fun w' hw' => ⟨rfl, trivial⟩) ?_
    rfl
end Go.Proofs.Ytckpegkpdepokaa
/-! Fs13 -/
namespace Go.Proofs.Ytckpegkpdepokaa
open Go Go.Sx
set_option maxRecDepth 100000
set_option maxHeartbeats 4000000
set_option linter.unusedVariables false
set_option linter.unusedSimpArgs false
attribute [local irreducible] J JQ QS Con W opW
open Go.MapKept Go.WideMaps Go.Maps
end Go.Proofs.Ytckpegkpdepokaa
/-! Fs14 -/
namespace Go.Proofs.Ytckpegkpdepokaa
open Go Go.Sx
set_option maxRecDepth 100000
set_option maxHeartbeats 4000000
set_option linter.unusedVariables false
set_option linter.unusedSimpArgs false
attribute [local irreducible] J JQ QS Con W opW
open Go.MapKept Go.WideMaps Go.Maps
theorem letsM_none {s : SM} {n : List UInt8} (hl : alook s.ml n = none) : letsM s n = s := by
  unfold letsM
  rw [hl]
theorem gives_fresh {s : SM} {n : List UInt8} {id : Nat} {v : Value} {xs : List UInt8} {g : Nat} (hl : alook s.ml n = none) (hid : ∀ f ∈ s.fs, f.id ≠ id) : givesM (newM s id v xs g) n (g, id) = { s with ml := s.ml ++ [(n, (g, id))], fs := ⟨g, id, v, xs, 1⟩ :: s.fs } := by
  have hb : bump ((⟨g, id, v, xs, 0⟩ : FL) :: s.fs) id 1 = ⟨g, id, v, xs, 1⟩ :: s.fs := by
    have e : bump ((⟨g, id, v, xs, 0⟩ : FL) :: s.fs) id 1 = (if id = id then (⟨g, id, v, xs, 0 + 1⟩ : FL) else ⟨g, id, v, xs, 0⟩) :: bump s.fs id 1 := rfl
    rw [e, if_pos rfl, bump_off hid]
    rfl
  have h1 : alook (newM s id v xs g).ml n ≠ some (g, id) := by
    show alook s.ml n ≠ _
    rw [hl]
    exact fun e => by cases e
  unfold givesM
  rw [if_neg h1, letsM_none (by exact hl)]
  show ({ s with ml := s.ml ++ [(n, (g, id))], fs := bump ((⟨g, id, v, xs, 0⟩ : FL) :: s.fs) id 1 } : SM) = _
  rw [hb]
theorem tot_cons (x : FL) (fs : List FL) : tot (x :: fs) = x.xs.length + tot fs := by simp [tot]
theorem tot_filter {s : SM} (h : Raw s) {x : FL} (hx : x ∈ s.fs) : tot (s.fs.filter fun y => decide (y.id ≠ x.id)) + x.xs.length = tot s.fs := by
  obtain ⟨a, b, hab⟩ := List.append_of_mem hx
  have hids := h.ids
  rw [hab] at hids ⊢
  rw [filter_split hids, tot_split]
theorem readZ_con (f : FM) (B : Nat) (n : List UInt8) (w : World) (hin : In w f.heap) (hok : f.Ok B) (hn : strOk n) (hlk : alook f.now.ml n = none) : Con Try.prog 11 [f.ptr, .string (bs n)] w [] fun u S' => u = .tuple #[.slice none 0 0, .int .i64 7] ∧ S' = [[]] := by
  refine con_of_tree mix Try.func11 T11_ok (by kernel_rfl) ?_
  unfold T11
  refine j_q (qs_ac) ?_
  refine j_q (qs_ac) ?_
  refine j_q (qs_pnil Try.underlying25 rfl) ?_
  refine j_g rfl (fun hb => qs_mt rfl) ?_
  refine j_g rfl (fun hb => qs_nil (gd_eq hb)) ?_
  refine j_g rfl (fun hb => qs_field Try.underlying62 rfl sz58 (by decide) (gd_eq hb)) ?_
  refine j_g rfl (fun hb => qs_loadO (rdo_base (FM.in_gf hin) (by simp)) Try.underlying58 rfl (gd_eq hb) rfl) ?_
  refine j_g rfl (fun hb => qs_pnil Try.underlying58 (gd_eq hb)) ?_
  refine j_q (qs_or rfl rfl) ?_
  refine j_g rfl (fun hb => qs_mt rfl) ?_
  refine j_g rfl (fun hb => qs_nil (gd_eq hb)) ?_
  refine j_g rfl (fun hb => qs_field Try.underlying62 rfl sz58 (by decide) (gd_eq hb)) ?_
  refine j_g rfl (fun hb => qs_loadO (rdo_base (FM.in_gf hin) (by simp)) Try.underlying58 rfl (gd_eq hb) rfl) ?_
  refine j_g rfl (fun hb => qs_nil (gd_eq hb)) ?_
  refine j_g rfl (fun hb => qs_field Try.underlying66 rfl sz64 (by decide) (gd_eq hb)) ?_
  refine j_g rfl (fun hb => qs_loadO (rdo_base (SM.in_gs (FM.in_now hin)) (by simp)) Try.underlying64 rfl (gd_eq hb) rfl) ?_
  refine j_g rfl (fun hb => qs_mt rfl) ?_
  refine j_g rfl (fun hb => qs_lookupR (key := n) strKey (rdo_base (SM.in_gm (FM.in_now hin)) (by simp)) Try.underlying64 zv63 (gd_eq hb) (gd_eq hb) hok.raw.map hn) ?_
  rw [mlook_map fptr, getD_fptr, hlk, Option.map_none]
  refine j_g rfl (fun hb => qs_pnil Try.underlying63 (gd_eq hb)) ?_
  refine j_q (qs_or rfl rfl) ?_
  refine j_cond rfl (fun hc0 => ?_) (fun hc0 => ?_)
  · skip
    refine j_q (qs_ac) ?_
    refine j_q (qs_ac) ?_
    refine j_ret_con (vs := [_, _]) (fun w' hw' => ⟨rfl, rfl, trivial⟩) ?_
    exact ⟨rfl, rfl⟩
  · skip
    simp [gd] at hc0
end Go.Proofs.Ytckpegkpdepokaa
