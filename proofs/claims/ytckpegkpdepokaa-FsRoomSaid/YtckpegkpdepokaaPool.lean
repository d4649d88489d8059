/- Files that forget: rows of bytes that several look at. -/
import Derived.Test.YtckpegkpdepokaaFs2
namespace Go.Proofs.Ytckpegkpdepokaa
open Go Go.Sx Go.MapKept Go.WideMaps Go.Maps
set_option maxRecDepth 100000
set_option linter.unusedVariables false
set_option linter.unusedSimpArgs false
set_option linter.unusedSectionVars false
/-- a row of bytes, and the file that may lay more behind it -/
structure BK where
  g : Nat
  xs : List UInt8
  rest : List Value
  fz : Nat × Nat
  own : Nat
def BK.h (b : BK) : Nat × Obj := (b.g, .cells (ints b.xs ++ b.rest).toArray 5 b.fz)
def ph (P : List BK) : SH := P.map BK.h
def BK.len (b : BK) : Nat := (ints b.xs ++ b.rest).length
def BK.free (b : BK) : Prop := ∀ j, j < b.len → ¬ (b.fz.1 ≤ j ∧ j < b.fz.2)
/-- a slice that shows bytes -/
def RV (P : List BK) (v : Value) (xs : List UInt8) : Prop :=
  (v = .slice none 0 0 ∧ xs = []) ∨ ∃ b ∈ P, ∃ cap, v = .slice (some ⟨b.g, 0, none⟩) xs.length cap ∧ xs <+: b.xs ∧ xs.length ≤ cap
/-- a file's slice -/
def Vw (P : List BK) (o : Nat) (v : Value) (xs : List UInt8) : Prop :=
  (v = .slice none 0 0 ∧ xs = []) ∨ ∃ b ∈ P, ∃ cap, v = .slice (some ⟨b.g, 0, none⟩) xs.length cap ∧ xs <+: b.xs ∧ xs.length ≤ cap ∧ (cap = xs.length ∨ (b.own = o ∧ xs = b.xs ∧ cap = b.len ∧ b.free))
theorem Vw.rv {P : List BK} {o : Nat} {v : Value} {xs : List UInt8} (h : Vw P o v xs) : RV P v xs := by
  rcases h with h | ⟨b, hb, cap, h1, h2, h3, _⟩
  · exact .inl h
  · exact .inr ⟨b, hb, cap, h1, h2, h3⟩
theorem RV.form {P : List BK} {v : Value} {xs : List UInt8} (h : RV P v xs) : ∃ A cap, v = .slice A xs.length cap ∧ xs.length ≤ cap ∧ (A = none ∨ ∃ g, A = some ⟨g, 0, none⟩) := by
  rcases h with ⟨rfl, rfl⟩ | ⟨b, _, cap, rfl, _, h⟩
  · exact ⟨none, 0, rfl, Nat.le_refl _, .inl rfl⟩
  · exact ⟨_, cap, rfl, h, .inr ⟨_, rfl⟩⟩
/-- what was shown before is shown still -/
def PLe (o : Nat) (P P' : List BK) : Prop := ∀ b ∈ P, ∃ b' ∈ P', b'.g = b.g ∧ b'.own = b.own ∧ b.xs <+: b'.xs ∧ (b.own ≠ o → b' = b)
theorem PLe.refl (o : Nat) (P : List BK) : PLe o P P := fun b hb => ⟨b, hb, rfl, rfl, List.prefix_refl _, fun _ => rfl⟩
theorem PLe.cons (o : Nat) (P : List BK) (c : BK) : PLe o P (c :: P) := fun b hb => ⟨b, List.mem_cons_of_mem _ hb, rfl, rfl, List.prefix_refl _, fun _ => rfl⟩
theorem PLe.trans {o : Nat} {P Q R : List BK} (h1 : PLe o P Q) (h2 : PLe o Q R) : PLe o P R := fun b hb => by
  obtain ⟨c, hc, e1, e2, e3, e4⟩ := h1 b hb
  obtain ⟨d, hd, f1, f2, f3, f4⟩ := h2 c hc
  refine ⟨d, hd, f1.trans e1, f2.trans e2, e3.trans f3, fun h => ?_⟩
  rw [f4 (by rw [e2]; exact h), e4 h]
theorem RV.mono {o : Nat} {P Q : List BK} {v : Value} {xs : List UInt8} (hp : PLe o P Q) (h : RV P v xs) : RV Q v xs := by
  rcases h with h | ⟨b, hb, cap, h1, h2, h3⟩
  · exact .inl h
  · obtain ⟨c, hc, e1, _, e3, _⟩ := hp b hb
    exact .inr ⟨c, hc, cap, by rw [e1]; exact h1, h2.trans e3, h3⟩
theorem Vw.mono {o o' : Nat} {P Q : List BK} {v : Value} {xs : List UInt8} (hp : PLe o P Q) (hne : o' ≠ o) (h : Vw P o' v xs) : Vw Q o' v xs := by
  rcases h with h | ⟨b, hb, cap, h1, h2, h3, h4⟩
  · exact .inl h
  · obtain ⟨c, hc, e1, e2, e3, e4⟩ := hp b hb
    refine .inr ⟨c, hc, cap, by rw [e1]; exact h1, h2.trans e3, h3, ?_⟩
    rcases h4 with h4 | ⟨h4, h5⟩
    · exact .inl h4
    · have : c = b := e4 (by rw [h4]; exact hne)
      rw [this]
      exact .inr ⟨h4, h5⟩
/-- a slice cut down to what it shows -/
theorem Vw.clip {P : List BK} {v : Value} {xs : List UInt8} (o : Nat) (h : RV P v xs) {A : Option Addr} {n c : Nat} (e : v = .slice A n c) : Vw P o (.slice (if n = 0 then A else A.map (fun a : Addr => a.add (0 * 1))) n n) xs := by
  rcases h with ⟨rfl, rfl⟩ | ⟨b, hb, cap, rfl, h2, h3⟩
  · injection e with e1 e2 e3
    subst e1 e2
    exact .inl ⟨rfl, rfl⟩
  · injection e with e1 e2 e3
    subst e1 e2
    refine .inr ⟨b, hb, xs.length, ?_, h2, Nat.le_refl _, .inl rfl⟩
    split <;> simp [Addr.add]
theorem rdo_flat {b : Base} {S : List SH} {g : Nat} {o : Obj} (h : (g, o) ∈ S.flatten) : RdO b S g o := fun w hw => hw.own _ h
theorem ints_pre {xs ys : List UInt8} {rest : List Value} (h : xs <+: ys) : ((ints ys ++ rest).drop 0).take xs.length = ints xs := by
  obtain ⟨t, rfl⟩ := h
  rw [List.drop_zero, ints_append, List.append_assoc, List.take_left' (ints_length _)]
theorem rd_bk {b : Base} {S : List SH} {k : BK} {xs : List UInt8} (h : k.h ∈ S.flatten) (hp : xs <+: k.xs) : Rd b S ⟨k.g, 0, none⟩ (ints xs) := rd_rdo (off := 0) (n := xs.length) (rdo_flat h) (ints_pre hp)
theorem src_rv {b : Base} {S : List SH} {P : List BK} {v : Value} {xs : List UInt8} (h : RV P v xs) (hm : ∀ k ∈ P, k.h ∈ S.flatten) : Src b S 1 v xs.length (ints xs) := by
  rcases h with ⟨rfl, rfl⟩ | ⟨k, hk, cap, rfl, h2, h3⟩
  · exact .inr (.inl ⟨0, rfl, rfl, rfl⟩)
  · exact .inl ⟨_, cap, rfl, rd_bk (hm k hk) h2, by rw [ints_length, Nat.mul_one]⟩
theorem sbB : (Try.prog.info? 5).map (fun i => (i.size, i.bytes)) = some (1, 1) := by kernel_rfl
theorem zeroB : zeroL Try.prog 5 = some [.int .u8 0] := by kernel_rfl
section
variable {R : Ending → World → Prop} {env : Env} {b : Base} {S : List SH} {B : JB} {T : Tree} {ty : TypeId}
/-- bytes are laid behind a file's -/
theorem j_appendP {x y : Operand} {xs news : List UInt8} {P : List BK} {o : Nat} (k : Nat) (hk : S[k]? = some (ph P)) (hx : Vw P o (ev env x) xs) (hy : Src b S 1 (ev env y) news.length (ints news)) (hb : xs.length + news.length ≤ 70000000000000)
    (h : ∀ v' P', Vw P' o v' (xs ++ news) → PLe o P P' → J Try.prog R T (v' :: env) (S.set k (ph P')) b B) : J Try.prog R (.op (O (.call ⟨.builtin .append, #[x, y], #[23, 23]⟩) ty) T) env S b B := by
  have hone : ∀ u ∈ ints news, oneV u = true := ints_one
  have hbb : ((ints xs).length + (ints news).length) * (1 + 1) ≤ 140737488355328 ∧ 0 < 1 := by
    rw [ints_length, ints_length]
    omega
  have hset : S.set k (ph P) = S := by
    obtain ⟨hlt, he⟩ := List.getElem?_eq_some_iff.1 hk
    have := List.set_getElem_self hlt
    rwa [he] at this
  have hzero : ∀ {A : Option Addr} {n cap : Nat}, ev env x = .slice A n cap → news.length = 0 → J Try.prog R T (.slice A n cap :: env) S b B := fun he h0 => by
    have hn := List.eq_nil_of_length_eq_zero h0
    subst hn
    have h1 := h _ P (by rw [List.append_nil]; exact hx) (PLe.refl o P)
    rw [hset, he] at h1
    exact h1
  -- a new row
  have hnew : ∀ (S2 : List SH), S2.flatten.Perm S.flatten → ∀ (g' cap' : Nat) (rest : List Value), (xs ++ news).length ≤ cap' → ((ints xs ++ ints news) ++ rest).length = cap' * 1 → J Try.prog R T (.slice (some ⟨g', 0, none⟩) (xs ++ news).length cap' :: env) ([(g', .cells ((ints xs ++ ints news) ++ rest).toArray 5 (0, 0))] :: S2) b B := fun S2 hS2 g' cap' rest h1 h2 => by
    have hc : ((⟨g', xs ++ news, rest, (0, 0), o⟩ : BK) :: P).map BK.h = (g', .cells ((ints xs ++ ints news) ++ rest).toArray 5 (0, 0)) :: ph P := by
      rw [List.map_cons]
      simp only [BK.h, ints_append, ph]
    obtain ⟨r, p1, p2⟩ := flatten_set hk (ph ((⟨g', xs ++ news, rest, (0, 0), o⟩ : BK) :: P))
    refine j_perm (S' := S.set k (ph ((⟨g', xs ++ news, rest, (0, 0), o⟩ : BK) :: P))) ?_ (h _ _ (.inr ⟨⟨g', xs ++ news, rest, (0, 0), o⟩, by simp, cap', rfl, List.prefix_refl _, h1, .inr ⟨rfl, rfl, ?_, fun j _ hj => by simp at hj⟩⟩) (PLe.cons _ _ _))
    · refine List.Perm.trans ?_ p2.symm
      show ([(g', _)] ++ S2.flatten).Perm _
      rw [show ph ((⟨g', xs ++ news, rest, (0, 0), o⟩ : BK) :: P) = _ from hc]
      exact List.Perm.cons _ (hS2.trans p1)
    · show cap' = (ints (xs ++ news) ++ rest).length
      rw [ints_append]
      omega
  rcases hx with ⟨hxe, rfl⟩ | ⟨c, hc, cap, hxe, hpre, hcap, hown⟩
  · refine j_appendK (A := none) (n := 0) (cap := 0) (xs := []) (news := ints news) (z := [.int .u8 0]) 0 Try.underlying23 Try.underlying23 (.inr ⟨_, rfl⟩) sbB zeroB rfl hxe rfl (.inl ⟨rfl, rfl⟩) (Nat.le_refl _) hy hone hbb ?_ (hzero hxe) ?_
    · intro _ g' cap' rest h1 h2
      have h3 := hnew S (.refl _) g' cap' rest (by simpa using h1) h2
      rw [List.nil_append] at h3
      rw [Nat.zero_add]
      exact h3
    · intro h1 h2
      omega
  · obtain ⟨P1, P2, rfl⟩ := List.append_of_mem hc
    obtain ⟨r, p1, p2⟩ := flatten_set hk (ph (P1 ++ P2))
    have hph : ph (P1 ++ c :: P2) = ph P1 ++ c.h :: ph P2 := by simp [ph]
    have hph2 : ph (P1 ++ P2) = ph P1 ++ ph P2 := by simp [ph]
    have hS2 : ([c.h] :: S.set k (ph (P1 ++ P2))).flatten.Perm S.flatten := by
      rw [List.flatten_cons]
      refine List.Perm.trans (List.Perm.append_left _ p2) (List.Perm.trans ?_ p1.symm)
      rw [hph, hph2, List.singleton_append, List.append_assoc, List.append_assoc, List.cons_append]
      exact List.perm_middle.symm
    refine j_perm (S' := [c.h] :: S.set k (ph (P1 ++ P2))) hS2.symm ?_
    have hy2 : Src b ([c.h] :: S.set k (ph (P1 ++ P2))) 1 (ev env y) news.length (ints news) := by
      rcases hy with ⟨a, cc, e1, e2, e3⟩ | h1 | h1
      · exact .inl ⟨a, cc, e1, fun w hw => e2 w (hw.perm hS2), e3⟩
      · exact .inr (.inl h1)
      · exact .inr (.inr h1)
    refine j_appendK (A := some ⟨c.g, 0, none⟩) (n := xs.length) (cap := cap) (xs := ints xs) (news := ints news) (z := [.int .u8 0]) 0 Try.underlying23 Try.underlying23 (.inr ⟨_, rfl⟩) sbB zeroB rfl hxe (by rw [ints_length, Nat.mul_one]) (.inr ⟨c.g, rfl, rd_bk (by simp) hpre⟩) hcap hy2 hone hbb ?_ (fun h0 => ?_) ?_
    · intro _ g' cap' rest h1 h2
      have h3 := hnew _ hS2 g' cap' rest (by rw [List.length_append]; exact h1) h2
      rw [List.length_append] at h3
      exact h3
    · exact j_perm hS2 (hzero hxe h0)
    · intro hroom hm
      rcases hown with he | ⟨ho, hxs, hcl, hfr⟩
      · omega
      · subst hxs
        refine ⟨c.g, c.rest, c.fz, rfl, rfl, by rw [Nat.mul_one]; exact hcl.symm, hfr, ?_⟩
        have hn : news.length = (ints news).length := (ints_length _).symm
        obtain ⟨r', q1, q2⟩ := flatten_set hk (ph (P1 ++ (⟨c.g, c.xs ++ news, c.rest.drop (ints news).length, c.fz, o⟩ : BK) :: P2))
        have hlen : (⟨c.g, c.xs ++ news, c.rest.drop (ints news).length, c.fz, o⟩ : BK).len = c.len := by
          simp only [BK.len, List.length_append, ints_length, List.length_drop] at hcl ⊢
          omega
        have h1 := h (.slice (some ⟨c.g, 0, none⟩) (c.xs ++ news).length cap) (P1 ++ (⟨c.g, c.xs ++ news, c.rest.drop (ints news).length, c.fz, o⟩ : BK) :: P2) (.inr ⟨⟨c.g, c.xs ++ news, c.rest.drop (ints news).length, c.fz, o⟩, by simp, cap, rfl, List.prefix_refl _, by rw [List.length_append]; exact hroom, .inr ⟨rfl, rfl, by rw [hlen]; exact hcl, fun j hj => hfr j (by rw [← hlen]; exact hj)⟩⟩) (fun b2 hb2 => by
          rcases List.mem_append.1 hb2 with hb2 | hb2
          · exact ⟨b2, List.mem_append_left _ hb2, rfl, rfl, List.prefix_refl _, fun _ => rfl⟩
          · rcases List.mem_cons.1 hb2 with rfl | hb2
            · exact ⟨_, List.mem_append_right _ (List.mem_cons_self ..), rfl, ho.symm, List.prefix_append _ _, fun hne => absurd ho hne⟩
            · exact ⟨b2, List.mem_append_right _ (List.mem_cons_of_mem _ hb2), rfl, rfl, List.prefix_refl _, fun _ => rfl⟩)
        rw [List.length_append] at h1
        refine j_perm ?_ h1
        show (([(c.g, _)] : SH) ++ (S.set k (ph (P1 ++ P2))).flatten).Perm _
        refine List.Perm.trans (List.Perm.append_left _ p2) (List.Perm.trans ?_ q2.symm)
        have hr : r.Perm r' := by
          have := p1.symm.trans q1
          exact (List.perm_append_left_iff _).1 this
        rw [hph2]
        have e : ph (P1 ++ (⟨c.g, c.xs ++ news, c.rest.drop (ints news).length, c.fz, o⟩ : BK) :: P2) = ph P1 ++ (c.g, .cells ((ints c.xs ++ ints news) ++ c.rest.drop (ints news).length).toArray 5 c.fz) :: ph P2 := by
          simp [ph, BK.h, ints_append]
        have key : ∀ q : Nat × Obj, ([q] ++ (ph P1 ++ ph P2 ++ r)).Perm (ph P1 ++ q :: ph P2 ++ r') := fun q => by
          rw [List.singleton_append, List.append_assoc, List.append_assoc, List.cons_append]
          exact (List.Perm.cons _ (List.Perm.append_left _ (List.Perm.append_left _ hr))).trans List.perm_middle.symm
        rw [e]
        exact key _
end
end Go.Proofs.Ytckpegkpdepokaa
