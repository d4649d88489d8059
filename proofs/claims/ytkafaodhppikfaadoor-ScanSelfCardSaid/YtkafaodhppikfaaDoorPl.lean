import Derived.Test.YtkafaodhppikfaaDoorMod
namespace Go.Proofs.YtkafaodhppikfaaDoor
open Go Go.Sx
def Sep : Nat → List Nat → Prop
  | _, [] => True
  | i, p :: ps => i ≤ p ∧ Sep (p + 32) ps
theorem Sep.mono {i j : Nat} (h : j ≤ i) : ∀ {ps : List Nat}, Sep i ps → Sep j ps
  | [], _ => trivial
  | p :: ps, hs => ⟨Nat.le_trans h hs.1, hs.2⟩
theorem Sep.ge {i : Nat} : ∀ {ps : List Nat}, Sep i ps → ∀ p ∈ ps, i ≤ p
  | [], _, p, hp => by cases hp
  | q :: ps, hs, p, hp => by
    rcases List.mem_cons.1 hp with rfl | hp
    · exact hs.1
    · have := Sep.ge hs.2 p hp
      have := hs.1
      omega
def Occ (l d : List UInt8) (i : Nat) : Prop := i + 32 ≤ l.length ∧ (l.drop i).take 32 = d
theorem plc_sep {l d : List UInt8} : ∀ (n i : Nat), l.length - i ≤ n → Sep i (plc l d i) ∧ ∀ p ∈ plc l d i, Occ l d p
  | 0, i, h => by rw [plc_end (by omega)]; exact ⟨trivial, fun p hp => by cases hp⟩
  | n + 1, i, h => by
    by_cases h1 : i + 32 ≤ l.length
    · by_cases hd : (l.drop i).take 32 = d
      · rw [plc_hit h1 hd]
        obtain ⟨a, b⟩ := plc_sep (l := l) (d := d) n (i + 32) (by omega)
        refine ⟨⟨Nat.le_refl _, a⟩, fun p hp => ?_⟩
        rcases List.mem_cons.1 hp with rfl | hp
        · exact ⟨h1, hd⟩
        · exact b p hp
      · rw [plc_miss h1 hd]
        obtain ⟨a, b⟩ := plc_sep (l := l) (d := d) n (i + 1) (by omega)
        exact ⟨a.mono (by omega), b⟩
    · rw [plc_end (by omega)]; exact ⟨trivial, fun p hp => by cases hp⟩
def Dom (A B : List Nat) : Prop := B.length ≤ A.length ∧ ∀ k, k < B.length → A.getD k 0 ≤ B.getD k 0
theorem Dom.cons {a b : Nat} {A B : List Nat} (h : a ≤ b) (hd : Dom A B) : Dom (a :: A) (b :: B) := by
  refine ⟨by simpa using hd.1, fun k hk => ?_⟩
  cases k with
  | zero => simpa using h
  | succ k => simpa using hd.2 k (by simpa using hk)
theorem Dom.antisymm {A B : List Nat} (h : Dom A B) (h2 : Dom B A) : A = B := by
  apply List.ext_getElem (Nat.le_antisymm h2.1 h.1)
  intro i h3 h4
  have a := h.2 i h4
  have b := h2.2 i h3
  simp only [List.getD_eq_getElem?_getD, List.getElem?_eq_getElem h3, List.getElem?_eq_getElem h4, Option.getD_some] at a b
  omega
theorem plc_dom {l d : List UInt8} : ∀ (n i : Nat) (B : List Nat), l.length - i ≤ n → Sep i B → (∀ p ∈ B, Occ l d p) → Dom (plc l d i) B
  | _, _, [], _, _, _ => ⟨Nat.zero_le _, fun k hk => by cases hk⟩
  | 0, i, b :: B, h, hs, ho => by
    have h1 := (ho b (by simp)).1
    have h2 := hs.1
    omega
  | n + 1, i, b :: B, h, hs, ho => by
    have h1 := ho b (by simp)
    have h2 := hs.1
    have h3 : i + 32 ≤ l.length := by have := h1.1; omega
    by_cases hd : (l.drop i).take 32 = d
    · rw [plc_hit h3 hd]
      exact Dom.cons h2 (plc_dom n (i + 32) B (by omega) (hs.2.mono (by omega)) fun p hp => ho p (by simp [hp]))
    · rw [plc_miss h3 hd]
      have hne : i ≠ b := by rintro rfl; exact hd h1.2
      exact plc_dom n (i + 1) (b :: B) (by omega) ⟨by omega, hs.2⟩ ho
theorem over_get {o t : List UInt8} {i : Nat} (h : i + t.length ≤ o.length) (j : Nat) : (over o i t)[j]? = if i ≤ j ∧ j < i + t.length then t[j - i]? else o[j]? := by
  unfold over
  rw [List.append_assoc]
  rcases Nat.lt_or_ge j i with h1 | h1
  · rw [List.getElem?_append_left (by rw [List.length_take]; omega), List.getElem?_take_of_lt h1, if_neg (by omega)]
  · rw [List.getElem?_append_right (by rw [List.length_take]; omega), List.length_take, Nat.min_eq_left (by omega)]
    rcases Nat.lt_or_ge j (i + t.length) with h2 | h2
    · rw [List.getElem?_append_left (by omega), if_pos ⟨h1, h2⟩]
    · rw [List.getElem?_append_right (by omega), if_neg (by omega), List.getElem?_drop]
      congr 1
      omega
theorem over_over {o t z : List UInt8} {i : Nat} (h : i + 32 ≤ o.length) (ht : t.length = 32) (hz : z.length = 32) : over (over o i t) i z = over o i z := by
  apply List.ext_getElem?
  intro j
  rw [over_get (by rw [over_len (by omega)]; omega), over_get (by omega), over_get (by omega), ht, hz]
  split <;> rfl
theorem over_comm {o t z : List UInt8} {p q : Nat} (h : q + 32 ≤ o.length) (hpq : p + 32 ≤ q) (ht : t.length = 32) (hz : z.length = 32) : over (over o q t) p z = over (over o p z) q t := by
  apply List.ext_getElem?
  intro j
  rw [over_get (by rw [over_len (by omega)]; omega), over_get (by omega), over_get (by rw [over_len (by omega)]; omega), over_get (by omega), ht, hz]
  split
  · rw [if_neg (by omega)]
  · rfl
def lay (ps : List Nat) (o t : List UInt8) : List UInt8 := ps.foldl (fun o i => over o i t) o
theorem lay_cons (p : Nat) (ps : List Nat) (o t : List UInt8) : lay (p :: ps) o t = lay ps (over o p t) t := rfl
theorem lay_len {t : List UInt8} (ht : t.length = 32) : ∀ {ps : List Nat} {o : List UInt8}, (∀ p ∈ ps, p + 32 ≤ o.length) → (lay ps o t).length = o.length
  | [], _, _ => rfl
  | p :: ps, o, h => by
    have h1 := over_len (o := o) (t := t) (i := p) (by rw [ht]; exact h p (by simp))
    rw [lay_cons, lay_len ht (fun q hq => by rw [h1]; exact h q (by simp [hq])), h1]
theorem lay_before {t : List UInt8} (ht : t.length = 32) : ∀ {ps : List Nat} {o : List UInt8} {i : Nat}, Sep i ps → (∀ p ∈ ps, p + 32 ≤ o.length) → ∀ j, j < i → (lay ps o t)[j]? = o[j]?
  | [], _, _, _, _, _, _ => rfl
  | p :: ps, o, i, hs, h, j, hj => by
    have hp := h p (by simp)
    have h1 := over_len (o := o) (t := t) (i := p) (by rw [ht]; exact hp)
    have := hs.1
    rw [lay_cons, lay_before ht hs.2 (fun q hq => by rw [h1]; exact h q (by simp [hq])) j (by omega), over_get (by omega), if_neg (by omega)]
theorem lay_occ {t : List UInt8} (ht : t.length = 32) : ∀ {ps : List Nat} {o : List UInt8} {i : Nat}, Sep i ps → (∀ p ∈ ps, p + 32 ≤ o.length) → ∀ p ∈ ps, Occ (lay ps o t) t p
  | [], _, _, _, _, p, hp => by cases hp
  | q :: ps, o, i, hs, h, p, hp => by
    have hq := h q (by simp)
    have h1 := over_len (o := o) (t := t) (i := q) (by rw [ht]; exact hq)
    have h2 : ∀ p ∈ ps, p + 32 ≤ (over o q t).length := fun p hp => by rw [h1]; exact h p (by simp [hp])
    rw [lay_cons]
    rcases List.mem_cons.1 hp with rfl | hp
    · refine ⟨by rw [lay_len ht h2, h1]; exact hq, ?_⟩
      apply List.ext_getElem?
      intro j
      rw [List.getElem?_take]
      split
      · rename_i hj
        rw [List.getElem?_drop, lay_before ht hs.2 h2 _ (by omega), over_get (by omega), if_pos (by omega)]
        congr 1
        omega
      · rw [List.getElem?_eq_none (by omega)]
    · exact lay_occ ht hs.2 h2 p hp
theorem lay_comm {t z : List UInt8} (ht : t.length = 32) (hz : z.length = 32) : ∀ {ps : List Nat} {o : List UInt8} {p : Nat}, Sep (p + 32) ps → (∀ q ∈ ps, q + 32 ≤ o.length) → over (lay ps o t) p z = lay ps (over o p z) t
  | [], _, _, _, _ => rfl
  | q :: ps, o, p, hs, h => by
    have hq := h q (by simp)
    have := hs.1
    have h1 := over_len (o := o) (t := t) (i := q) (by rw [ht]; exact hq)
    rw [lay_cons, lay_cons, lay_comm ht hz (hs.2.mono (by omega)) (fun r hr => by rw [h1]; exact h r (by simp [hr])), over_comm hq hs.1 ht hz]
theorem lay_lay {t z : List UInt8} (ht : t.length = 32) (hz : z.length = 32) : ∀ {ps : List Nat} {o : List UInt8} {i : Nat}, Sep i ps → (∀ q ∈ ps, q + 32 ≤ o.length) → lay ps (lay ps o t) z = lay ps o z
  | [], _, _, _, _ => rfl
  | p :: ps, o, i, hs, h => by
    have hp := h p (by simp)
    have h1 := over_len (o := o) (t := t) (i := p) (by rw [ht]; exact hp)
    have h2 := over_len (o := o) (t := z) (i := p) (by rw [hz]; exact hp)
    rw [lay_cons, lay_cons, lay_cons, lay_comm ht hz hs.2 (fun r hr => by rw [h1]; exact h r (by simp [hr])), over_over hp ht hz, lay_lay ht hz hs.2 (fun r hr => by rw [h2]; exact h r (by simp [hr]))]
/-- if what was rewritten comes back, the digits stand where the others stood -/
theorem self_law {l P Q z : List UInt8} (hP : P.length = 32) (hQ : Q.length = 32) (hz : z.length = 32) (h : rew (rew l P Q) Q P = l) : plc (rew l P Q) Q 0 = plc l P 0 ∧ rew (rew l P Q) Q z = rew l P z := by
  have hrl := rew_len l P Q hQ
  obtain ⟨c, hc⟩ : ∃ c, c = rew l P Q := ⟨_, rfl⟩
  obtain ⟨s1, o1⟩ := plc_sep (l := l) (d := P) l.length 0 (by omega)
  rw [← hc] at h hrl ⊢
  obtain ⟨s2, o2⟩ := plc_sep (l := c) (d := Q) c.length 0 (by omega)
  have e1 : c = lay (plc l P 0) l Q := by rw [hc]; unfold rew lay; rfl
  have e2 : l = lay (plc c Q 0) c P := by rw [← h]; unfold rew lay; rw [show (plc c Q 0).foldl (fun o i => over o i P) c = rew c Q P by unfold rew; rfl, h]
  have d1 : Dom (plc c Q 0) (plc l P 0) := plc_dom c.length 0 _ (by omega) s1 (by
    rw [e1]
    exact lay_occ hQ s1 fun p hp => (o1 p hp).1)
  have d2 : Dom (plc l P 0) (plc c Q 0) := plc_dom l.length 0 _ (by omega) s2 (by
    have := lay_occ hP s2 (fun p hp => (o2 p hp).1)
    rw [← e2] at this
    exact this)
  have e : plc c Q 0 = plc l P 0 := d1.antisymm d2
  refine ⟨e, ?_⟩
  have f1 : rew c Q z = lay (plc l P 0) c z := by unfold rew lay; rw [e]
  have f2 : rew l P z = lay (plc l P 0) l z := by unfold rew lay; rfl
  rw [f1, f2, e1]
  exact lay_lay hQ hz s1 fun p hp => (o1 p hp).1
end Go.Proofs.YtkafaodhppikfaaDoor
