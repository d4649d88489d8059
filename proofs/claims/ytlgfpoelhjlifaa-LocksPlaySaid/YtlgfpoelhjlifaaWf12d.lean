/- Locks without memory: who holds alone. -/
import Derived.Test.YtlgfpoelhjlifaaWf12c
namespace Go.Proofs.Ytlgfpoelhjlifaa
open Go Go.Sx
set_option linter.unusedVariables false
def modeZ (s : Bool) : Int := if s then 2 else 1
/-- how each one asked stands in the book -/
structure AI (a : AT) (m : List ((Int × List UInt8) × Int)) : Prop where
  wf : WF a
  mode : ∀ n p, OccP a n p → alook m (p.1, n) = some (modeZ p.2)
theorem ai_nil : AI ⟨[], []⟩ [] := ⟨wf_nil, fun n p h => by obtain ⟨l, h, _⟩ := h; simp [alook] at h⟩
theorem take_ok {a : AT} {t : Int} {n : List UInt8} {s : Bool} (h : (takeF a t n s).2.2 = 0) : alook a.wm t = none ∧ alook (lockA a n).hm t = none := by
  unfold takeF at h
  split at h
  · simp at h
  · split at h
    · simp at h
    · rename_i hhas
      simp only [Bool.or_eq_true, not_or, Bool.not_eq_true] at hhas
      obtain ⟨h1, h2⟩ := hhas
      refine ⟨by simpa using h1, ?_⟩
      unfold holdsA at h2
      rw [ens_look, if_pos rfl] at h2
      simpa using h2
theorem ai_take0 {a : AT} {m : List ((Int × List UInt8) × Int)} (h : AI a m) (t : Int) (n : List UInt8) (s : Bool) (he : (takeF a t n s).2.2 = 0) : AI (takeF a t n s).1 (aset m (t, n) (modeZ s)) := by
  obtain ⟨h1, h2⟩ := take_ok he
  refine ⟨wf_take h.wf t n s, fun n' p ho => ?_⟩
  rw [alook_aset]
  rcases take_occ ho with ho | ⟨rfl, rfl, _, _⟩
  · split
    · rename_i e
      injection e with e1 e2
      subst e2
      exfalso
      obtain ⟨l, hl, ho⟩ := ho
      rw [lockA_some hl] at h2
      obtain ⟨x, b⟩ := p
      simp only at e1
      subst e1
      rcases ho with ho | ho
      · exact alook_none.1 h2 _ ho rfl
      · exact no_row h.wf h1 hl ho
    · exact h.mode n' p ho
  · rw [if_pos rfl]
theorem ai_take1 {a : AT} {m : List ((Int × List UInt8) × Int)} (h : AI a m) (t : Int) (n : List UInt8) (s : Bool) (he : (takeF a t n s).2.2 ≠ 0) : AI (takeF a t n s).1 m := by
  refine ⟨wf_take h.wf t n s, fun n' p ho => ?_⟩
  rcases take_occ ho with ho | ⟨_, _, _, h0⟩
  · exact h.mode n' p ho
  · exact absurd h0 he
theorem ai_give {a : AT} {m : List ((Int × List UInt8) × Int)} (h : AI a m) (t : Int) (n : List UInt8) : AI (giveF a t n).1 m := ⟨wf_give h.wf t n, fun n' p ho => h.mode n' p (give_occ ho)⟩
theorem ai_leave {a : AT} {m : List ((Int × List UInt8) × Int)} (h : AI a m) (t : Int) : AI (leaveF a t).1 m := ⟨wf_leave h.wf t, fun n' p ho => h.mode n' p (leave_occ ho)⟩
theorem holdsA_put {lm : List (List UInt8 × AL)} {wm : List (Int × List UInt8)} {n : List UInt8} {l : AL} {t : Int} : holdsA ⟨aset lm n l, wm⟩ n t = (alook l.hm t).isSome := by
  unfold holdsA
  simp only
  rw [alook_aset, if_pos rfl]
theorem take_got (a : AT) (t : Int) (n : List UInt8) (s : Bool) : (takeF a t n s).2.1 = (holdsA (takeF a t n s).1 n t && ((takeF a t n s).2.2 == 0)) := by
  by_cases he : (takeF a t n s).2.2 = 0
  · obtain ⟨h1, h2⟩ := take_ok he
    rw [he]
    revert he
    unfold takeF
    split
    · intro he; simp at he
    · split
      · intro he; simp at he
      · split
        · intro _
          show true = (holdsA _ n t && true)
          rw [holdsA_put]
          show true = ((alook (aset (lockA a n).hm t s) t).isSome && true)
          rw [alook_aset, if_pos rfl]
          rfl
        · split
          · intro he; simp at he
          · intro _
            show false = (holdsA _ n t && true)
            rw [holdsA_put]
            show false = ((alook (lockA a n).hm t).isSome && true)
            rw [h2]
            rfl
  · have : ((takeF a t n s).2.2 == 0) = false := by simpa using he
    rw [this, Bool.and_false]
    revert he
    unfold takeF
    split
    · intro _; rfl
    · split
      · intro _; rfl
      · split
        · intro he; simp at he
        · split
          · intro _; rfl
          · intro he; simp at he
/-- who holds a lock does not wait for it -/
theorem no_wait {a : AT} (h : WF a) {n : List UInt8} {t : Int} (hh : holdsA a n t = true) : alook a.wm t ≠ some n := fun hw => by
  obtain ⟨l, hl, h1⟩ := holdsA_some hh
  obtain ⟨l', hl', x, hx, rfl⟩ := h.wRow t n hw
  rw [hl] at hl'
  injection hl' with hl'
  subst hl'
  have := h.noBoth n l hl x hx
  rw [this] at h1
  cases h1
/-- those who were seen to hold a lock -/
structure SeenI (a : AT) (m : List ((Int × List UInt8) × Int)) (n : List UInt8) (seen : List Int) (al : Nat) : Prop where
  nd : seen.Nodup
  hold : ∀ t ∈ seen, holdsA a n t = true
  le : al ≤ seen.length
  some_ : 0 < al → ∃ t ∈ seen, alook m (t, n) = some 1
theorem seen_nil (a : AT) (m : List ((Int × List UInt8) × Int)) (n : List UInt8) : SeenI a m n [] 0 := ⟨List.nodup_nil, (fun t h => by cases h), Nat.le_refl _, fun h => absurd h (by decide)⟩
theorem seen_more {a : AT} {m : List ((Int × List UInt8) × Int)} {n : List UInt8} {seen : List Int} {al : Nat} (h : SeenI a m n seen al) {t : Int} (ht : t ∉ seen) (hh : holdsA a n t = true) (al' : Nat) (ha : al' = al ∨ (al' = al + 1 ∧ alook m (t, n) = some 1)) : SeenI a m n (seen ++ [t]) al' := by
  refine ⟨?_, fun u hu => ?_, ?_, fun h0 => ?_⟩
  · rw [List.nodup_append]
    exact ⟨h.nd, by simp, fun x hx y hy e => ht (by rw [List.mem_singleton] at hy; rw [← hy, ← e]; exact hx)⟩
  · rcases List.mem_append.1 hu with hu | hu
    · exact h.hold u hu
    · rw [List.mem_singleton.1 hu]; exact hh
  · rw [List.length_append, List.length_singleton]
    have := h.le
    rcases ha with rfl | ⟨rfl, _⟩ <;> omega
  · rcases ha with rfl | ⟨rfl, hm⟩
    · obtain ⟨u, hu, e⟩ := h.some_ h0
      exact ⟨u, List.mem_append_left _ hu, e⟩
    · exact ⟨t, by simp, hm⟩
theorem seen_alone {a : AT} {m : List ((Int × List UInt8) × Int)} (hai : AI a m) {n : List UInt8} {seen : List Int} {al : Nat} (h : SeenI a m n seen al) (h0 : 0 < al) : seen.length ≤ 1 := by
  obtain ⟨t, ht, hm⟩ := h.some_ h0
  obtain ⟨l, hl, h1⟩ := holdsA_some (h.hold t ht)
  obtain ⟨b, hb⟩ := Option.isSome_iff_exists.1 h1
  have hmem := alook_mem hb
  have hmode := hai.mode n (t, b) ⟨l, hl, .inl hmem⟩
  rw [hm] at hmode
  have hbf : b = false := by
    cases b with
    | false => rfl
    | true => simp [modeZ] at hmode
  subst hbf
  have hsub : ∀ u ∈ seen, u ∈ l.hm.map Prod.fst := fun u hu => by
    obtain ⟨l', hl', h2⟩ := holdsA_some (h.hold u hu)
    rw [hl] at hl'
    injection hl' with hl'
    subst hl'
    obtain ⟨c, hc⟩ := Option.isSome_iff_exists.1 h2
    exact List.mem_map.2 ⟨(u, c), alook_mem hc, rfl⟩
  have hlen : l.hm.length = 1 := by
    rcases hai.wf.excl n l hl with e | ⟨_, e⟩ | ⟨_, e, _⟩
    · rw [e] at hmem; cases hmem
    · have := e _ hmem; cases this
    · exact e
  have := List.Nodup.length_le_of_subset h.nd hsub
  rw [List.length_map] at this
  omega
end Go.Proofs.Ytlgfpoelhjlifaa
