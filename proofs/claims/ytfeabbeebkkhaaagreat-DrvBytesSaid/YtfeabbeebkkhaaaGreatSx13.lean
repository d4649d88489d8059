/- Rules for rows of strings, and for 'clear'. -/
import Derived.Test.YtfeabbeebkkhaaaGreatSx12
import Derived.Test.YtfeabbeebkkhaaaGreatSx11
namespace Go.Sx
open Go
set_option linter.unusedVariables false
set_option linter.unusedSimpArgs false
variable {P : Program} {R : Ending → World → Prop} {env : Env} {b : Base} {S : List SH} {B : JB} {T : Tree} {v : Value} {ty : TypeId}
theorem strs_append (l m : List (List UInt8)) : strs (l ++ m) = strs l ++ strs m := by simp [strs]
theorem strs_set (ys : List (List UInt8)) (i : Nat) (y : List UInt8) : (strs ys).set i (.string (bs y)) = strs (ys.set i y) := by simp [strs, List.map_set]
theorem strs_take (ys : List (List UInt8)) (i : Nat) : (strs ys).take i = strs (ys.take i) := by simp [strs]
theorem strs_drop (ys : List (List UInt8)) (i : Nat) : (strs ys).drop i = strs (ys.drop i) := by simp [strs]
theorem strs_nil {ys : List (List UInt8)} (h : strs ys = []) : ys = [] := by simpa [strs] using h
theorem qs_loadst {t : TypeId} {x : Operand} {g i : Nat} {ys : List (List UInt8)} {rest : List Value} {e : TypeId} {fz : Nat × Nat} (k : Nat) (hu : P.underlying t = some .string) (hx : ev env x = .pointer (some ⟨g, i, none⟩)) (hk : S[k]? = some [(g, .cells (strs ys ++ rest).toArray e fz)]) (hi : i < ys.length) :
    QS P (O (.load t x) ty) env b S (.string (bs (ys.getD i []))) := qs_load k hu rfl hx hk (by rw [List.getElem?_append_left (by rw [strs_length]; exact hi), strs_get hi])
theorem qs_loadst0 {t : TypeId} {x : Operand} {g o i : Nat} {ys : List (List UInt8)} {rest : List Value} {e : TypeId} {fz : Nat × Nat} (k : Nat) (hu : P.underlying t = some .string) (hx : ev env x = .pointer (some ((⟨g, o, none⟩ : Addr).add i))) (hk : S[k]? = some [(g, .cells (strs ys ++ rest).toArray e fz)]) (hi : o + i < ys.length) :
    QS P (O (.load t x) ty) env b S (.string (bs (ys.getD (o + i) []))) := qs_loadst k hu (by rw [hx, add_off]) hk hi
theorem qs_loadrs {t : TypeId} {x : Operand} {a : Addr} {i : Nat} {ys : List (List UInt8)} (hr : Rd b S a (strs ys)) (hu : P.underlying t = some .string) (hx : ev env x = .pointer (some (a.add i))) (hi : i < ys.length) :
    QS P (O (.load t x) ty) env b S (.string (bs (ys.getD i []))) := qs_loadR hr hu rfl hx (strs_get hi)
theorem j_storest {t : TypeId} {x y : Operand} {g i : Nat} {ys : List (List UInt8)} {z : List UInt8} {rest : List Value} {e : TypeId} {fz : Nat × Nat} (k : Nat) (hz : (P.info? t).map (·.size) = some 1) (hx : ev env x = .pointer (some ⟨g, i, none⟩)) (hy : ev env y = .string (bs z)) (hk : S[k]? = some [(g, .cells (strs ys ++ rest).toArray e fz)])
    (hfz : ¬ (fz.1 ≤ i ∧ i < fz.2)) (hi : i < ys.length) (h : J P R T (undef :: env) (S.set k [(g, .cells (strs (ys.set i z) ++ rest).toArray e fz)]) b B) : J P R (.op (O (.store t x y) ty) T) env S b B := by
  refine j_store k hz hx hy rfl hk (by rw [List.length_append, strs_length]; omega) hfz ?_
  rw [List.set_append_left _ _ (by rw [strs_length]; exact hi), strs_set]
  exact h
theorem zeroCells_one (z : Value) (n : Nat) : (Builtin.zeroCells #[z] n).toList = List.replicate n z := by
  apply List.ext_getElem?
  intro i
  simp only [Builtin.zeroCells, List.size_toArray, List.length_cons, List.length_nil, Nat.zero_add, Nat.mul_one, Nat.mod_one, Array.toList_map, List.getElem?_map, List.getElem?_replicate]
  by_cases h : i < n
  · rw [if_pos h]; simp [h]
  · rw [if_neg h]; simp [h]
/-- clear of a part of a row -/
theorem j_clear {t e : TypeId} {x : Operand} {g off n c : Nat} {l : List Value} {z : Value} {e' : TypeId} {fz : Nat × Nat} (k : Nat) (ht : P.underlying t = some (.slice e)) (h0 : zeroL P e = some [z]) (hz1 : oneV z = true) (hx : ev env x = .slice (some ⟨g, off, none⟩) n c) (hk : S[k]? = some [(g, .cells l.toArray e' fz)])
    (hi : off + n ≤ l.length) (hf : ∀ j, off ≤ j → j < off + n → ¬ (fz.1 ≤ j ∧ j < fz.2)) (h : J P R T (.tuple #[] :: env) (S.set k [(g, .cells (l.take off ++ List.replicate n z ++ l.drop (off + n)).toArray e' fz)]) b B) :
    J P R (.op (O (.call ⟨.builtin .clear, #[x], #[t]⟩) ty) T) env S b B := fun w hw => by
  have hg := hw.at_ hk
  show opW _ _ _ _ _ _
  unfold opW
  rw [run_b1 w, hx]
  by_cases hn : n = 0
  · subst hn
    have hset : S.set k [(g, .cells (l.take off ++ List.replicate 0 z ++ l.drop (off + 0)).toArray e' fz)] = S := by
      have e1 : l.take off ++ List.replicate 0 z ++ l.drop (off + 0) = l := by simp
      rw [e1]
      obtain ⟨hlt, he⟩ := List.getElem?_eq_some_iff.1 hk
      have := List.set_getElem_self hlt
      rwa [he] at this
    rw [hset] at h
    have hr : ∀ cs, (builtin .clear #[t] ty cs #[Value.slice (some ⟨g, off, none⟩) 0 c]).run P w = .ok (.value (.tuple #[])) w := by
      intro cs
      simp only [builtin, Builtin.clear_, List.getElem?_toArray, List.getElem?_cons_zero, Sem.run_bind, run_underlying_ok ht, Result.andThen_ok, Sem.run_pure]
    rw [hr]
    exact h w hw
  · obtain ⟨zv, hzv, hrunz⟩ := run_zero_ok h0
    obtain ⟨w', e1, e2, e3, e4, e5, e6, e7⟩ := run_storeCells_ok (P := P) (List.replicate n z) off 0 l w hg (by simpa using hi) (fun j h1 h2 => hf j (by omega) (by simpa using h2)) (fun v hv => by rw [List.eq_of_mem_replicate hv]; exact hz1)
    have hr : ∀ cs, (builtin .clear #[t] ty cs #[Value.slice (some ⟨g, off, none⟩) n c]).run P w = .ok (.value (.tuple #[])) w' := by
      intro cs
      obtain ⟨m, rfl⟩ : ∃ m, n = m + 1 := ⟨n - 1, by omega⟩
      simp only [builtin, Builtin.clear_, List.getElem?_toArray, List.getElem?_cons_zero, Sem.run_bind, run_underlying_ok ht, Result.andThen_ok, Sem.run_pure, hrunz, hzv, zeroCells_one, e1]
    rw [hr]
    refine h _ (hw.set hk e2 e3 e4 e5 ?_ e7)
    rw [e6]
    simp
/-- a part of an owned row, to be appended -/
theorem src_cut {e : TypeId} {xs : List Value} {A : Option Addr} {n cap : Nat} {c : SH} (ho : Own e 1 xs (.slice A n cap) c) (k : Nat) (hk : S[k]? = some c) {a z : Nat} (h1 : a ≤ z) (h2 : z ≤ n) :
    Src b S 1 (.slice (if cap = a then A else A.map (·.add (a * 1))) (z - a) (cap - a)) (z - a) ((xs.take z).drop a) := by
  rcases ho with ⟨hv, rfl, rfl⟩ | ⟨g, n', cap', rest, fz, hv, rfl, h3, h4, h5, h6⟩
  · injection hv with hA hn hc
    subst hA hn hc
    obtain rfl : z = 0 := by omega
    obtain rfl : a = 0 := by omega
    exact .inr (.inl ⟨0, by simp, rfl, by simp⟩)
  · injection hv with hA hn hc
    subst hA hn hc
    rw [Nat.mul_one] at h3 h4
    have hl : ((xs.take z).drop a).length = (z - a) * 1 := by simp only [List.length_drop, List.length_take, Nat.mul_one]; omega
    by_cases hca : cap = a
    · rw [if_pos hca]
      refine .inl ⟨_, _, rfl, fun w hw j u hu => ?_, hl⟩
      have := (List.getElem?_eq_some_iff.1 hu).1
      rw [hl] at this
      omega
    · rw [if_neg hca, Option.map_some, add_off, Nat.zero_add, Nat.mul_one]
      refine .inl ⟨_, _, rfl, rd_own (n := z - a) k hk ?_, hl⟩
      rw [List.drop_append_of_le_length (by omega), List.take_append_of_le_length (by simp only [List.length_drop]; omega), List.drop_take]
theorem own_addr {e : TypeId} {xs : List Value} {A : Option Addr} {n cap : Nat} {c : SH} (ho : Own e 1 xs (.slice A n cap) c) (h : 0 < xs.length) : ∃ g, A = some ⟨g, 0, none⟩ := by
  obtain ⟨g, n', cap', hv⟩ := own_some ho (by rintro rfl; simp at h)
  injection hv with hA
  exact ⟨g, hA⟩
theorem own_cap {e : TypeId} {sz : Nat} {xs : List Value} {A : Option Addr} {n cap : Nat} {c : SH} (ho : Own e sz xs (.slice A n cap) c) : n ≤ cap := by
  rcases ho with ⟨hv, rfl, rfl⟩ | ⟨g, n', cap', rest, fz, hv, rfl, h3, h4, h5, h6⟩
  · injection hv with hA hn hc; omega
  · injection hv with hA hn hc; omega
/-- a slice of strings that can be read -/
def StrSl (w : World) (v : Value) (rs : List (List UInt8)) : Prop :=
  (v = .slice none 0 0 ∧ rs = []) ∨ ∃ g off cap, v = .slice (some ⟨g, off, none⟩) rs.length cap ∧ g < w.heap.size ∧ rs.length ≤ cap ∧ Cells w ⟨g, off, none⟩ (strs rs)
theorem strsl_form {w : World} {v : Value} {rs : List (List UInt8)} (h : StrSl w v rs) : ∃ A cap, v = .slice A rs.length cap ∧ rs.length ≤ cap := by
  rcases h with ⟨rfl, rfl⟩ | ⟨g, off, cap, rfl, _, h, _⟩
  · exact ⟨none, 0, rfl, Nat.le_refl _⟩
  · exact ⟨_, cap, rfl, h⟩
theorem strsl_addr {w : World} {A : Option Addr} {n cap : Nat} {rs : List (List UInt8)} (h : StrSl w (.slice A n cap) rs) (h0 : 0 < rs.length) : ∃ g off, A = some ⟨g, off, none⟩ ∧ g < w.heap.size ∧ Cells w ⟨g, off, none⟩ (strs rs) := by
  rcases h with ⟨_, rfl⟩ | ⟨g, off, cap', hv, h1, _, h2⟩
  · simp at h0
  · injection hv with hA
    exact ⟨g, off, hA, h1, h2⟩
theorem cells_keep {w w' : World} {a : Addr} {vs : List Value} (h : Cells w a vs) (hs : Sig ⟨w, dom []⟩ S w') : Cells w' a vs := rd_w (rd_cells (b := ⟨w, dom []⟩) h (by simp)) hs
theorem strsl_keep {w w' : World} {v : Value} {rs : List (List UInt8)} (h : StrSl w v rs) (hs : Sig ⟨w, dom []⟩ S w') : StrSl w' v rs := by
  rcases h with h | ⟨g, off, cap, rfl, h1, h2, h3⟩
  · exact .inl h
  · exact .inr ⟨g, off, cap, rfl, Nat.lt_of_lt_of_le h1 hs.size, h2, cells_keep h3 hs⟩
theorem strsl_own {w : World} {e : TypeId} {xs : List (List UInt8)} {v : Value} {c : SH} (ho : Own e 1 (strs xs) v c) (k : Nat) (hk : S[k]? = some c) (hw : Sig b S w) : StrSl w v xs := by
  rcases ho with ⟨rfl, h, rfl⟩ | ⟨g, n, cap, rest, fz, rfl, rfl, h1, h2, h3, h4⟩
  · exact .inl ⟨rfl, strs_nil h⟩
  · rw [strs_length, Nat.mul_one] at h1
    subst h1
    exact .inr ⟨g, 0, cap, rfl, lt_of_get (hw.at_ hk), h3, rd_w (rd_own (n := (strs xs).length) k hk (by simp)) hw⟩
theorem strsl_cut {w : World} {A : Option Addr} {n cap : Nat} {rs : List (List UInt8)} (h : StrSl w (.slice A n cap) rs) {a z : Nat} (h1 : a ≤ z) (h2 : z ≤ n) (hn : n = rs.length) : StrSl w (.slice (if cap = a then A else A.map (·.add (a * 1))) (z - a) (cap - a)) ((rs.take z).drop a) := by
  rcases h with ⟨hv, rfl⟩ | ⟨g, off, cap', hv, h3, h4, h5⟩
  · injection hv with hA hn' hc
    subst hA hc
    simp at hn
    obtain rfl : a = 0 := by omega
    obtain rfl : z = 0 := by omega
    exact .inl ⟨by simp, by simp⟩
  · injection hv with hA hn' hc
    subst hA hc
    have hl : ((rs.take z).drop a).length = z - a := by simp only [List.length_drop, List.length_take]; omega
    have hc2 : ∀ o, (o = off ∧ z - a = 0) ∨ o = off + a → Cells w ⟨g, o, none⟩ (strs ((rs.take z).drop a)) := fun o ho j u hu => by
      have hj := (List.getElem?_eq_some_iff.1 hu).1
      rw [strs_length, hl] at hj
      rcases ho with ⟨_, ho⟩ | rfl
      · omega
      · have := h5 (a + j) u (by rw [← hu, ← strs_drop, ← strs_take, List.getElem?_drop, List.getElem?_take]; rw [if_pos (by omega)])
        rw [add_off] at this ⊢
        rwa [Nat.add_assoc]
    by_cases hca : cap = a
    · rw [if_pos hca]
      exact .inr ⟨g, off, _, by rw [hl], h3, by rw [hl]; omega, hc2 off (.inl ⟨rfl, by omega⟩)⟩
    · rw [if_neg hca, Option.map_some, add_off, Nat.mul_one]
      exact .inr ⟨g, off + a, _, by rw [hl], h3, by rw [hl]; omega, hc2 _ (.inr rfl)⟩
/-- what a slice that can be read holds, to be appended -/
theorem src_strsl {w : World} {A : Option Addr} {n cap : Nat} {rs : List (List UInt8)} (h : StrSl w (.slice A n cap) rs) : Src ⟨w, dom []⟩ S 1 (.slice A n cap) n (strs rs) := by
  rcases h with ⟨hv, rfl⟩ | ⟨g, off, cap', hv, h1, h2, h3⟩
  · injection hv with hA hn hc
    subst hA hn hc
    exact .inr (.inl ⟨0, rfl, rfl, rfl⟩)
  · injection hv with hA hn hc
    subst hA hn hc
    exact .inl ⟨_, _, rfl, rd_cells (b := ⟨w, dom []⟩) h3 (by simp), by rw [strs_length, Nat.mul_one]⟩
theorem j_subl {S' : List SH} (h : S'.Sublist S) (hj : J P R T env S' b B) : J P R T env S b B := j_sub (sub_flatten h) hj
theorem j_swap {c1 c2 : SH} (h : J P R T env (c2 :: c1 :: S) b B) : J P R T env (c1 :: c2 :: S) b B := j_perm (S' := c2 :: c1 :: S) (by simp only [List.flatten_cons]; exact List.perm_append_comm_assoc _ _ _) h
theorem bw255 (m : Int) : 0 ≤ bw .and .i64 m 255 ∧ bw .and .i64 m 255 ≤ 255 := by
  unfold bw
  dsimp only
  have h : (BitVec.ofInt IntKind.i64.bits m &&& BitVec.ofInt IntKind.i64.bits 255).toNat ≤ 255 := by
    rw [BitVec.toNat_and]
    exact Nat.le_trans Nat.and_le_right (by decide)
  rw [IntWalk.i64_in _ (by constructor <;> omega)]
  omega
end Go.Sx
