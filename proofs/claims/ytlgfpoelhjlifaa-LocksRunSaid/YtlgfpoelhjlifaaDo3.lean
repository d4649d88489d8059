/- Tasks that take turns: a step, and its end, as contracts. -/
import Derived.Test.YtlgfpoelhjlifaaLk13
namespace Go.Proofs.Ytlgfpoelhjlifaa
open Go Go.Sx
set_option linter.unusedVariables false
set_option maxRecDepth 100000
attribute [local irreducible] J JQ QS W opW
theorem ent40 : Sx.Enters Try.prog 40 := ⟨_, Try.func40, by kernel_rfl, by kernel_rfl⟩
theorem sig_refl (w : World) (F : SH) (h : ∀ p ∈ F, w.heap[p.1]? = some p.2) (hn : (dom F).Nodup) : Sig ⟨w, dom F⟩ [F] w :=
  ⟨rfl, rfl, rfl, Nat.le_refl _, by simpa using h, by simpa using hn, fun k hk => .inl (by simpa using hk), fun _ _ _ => rfl⟩
theorem slow_con (gt gr gb1 gb0 : Nat) (fv bl tv st bu : Value) (n : Int) (w : World) (h1 : w.heap[gb1]? = some (.cells [Value.pointer (some ⟨gt, 0, none⟩)].toArray 78 (0, 0))) (h0 : w.heap[gb0]? = some (.cells [Value.pointer (some ⟨gr, 0, none⟩)].toArray 23 (0, 0))) (d1 : gb1 ≠ gt ∧ gb1 ≠ gr) (d0 : gb0 ≠ gt ∧ gb0 ≠ gr) (hn : 0 < n ∧ n ≤ 1000) :
    Con Try.prog 62 [.pointer (some ⟨gt, 2, none⟩), .func (.func 40) #[] #[.pointer (some ⟨gb1, 0, none⟩), .pointer (some ⟨gb0, 0, none⟩)]] w [(gt, .cells [fv, bl, .int .u32 0, .int .i32 0, .int .u32 0, .bool false].toArray 90 (0, 0)), (gr, .cells [tv, .int .i64 n, st, bu].toArray 77 (0, 0))]
      fun v S' => v = .tuple #[] ∧ S' = [[(gt, .cells [fv, bl, .int .u32 1, .int .i32 0, .int .u32 0, .bool true].toArray 90 (0, 0))], [(gr, .cells [tv, .int .i64 (n - 1), st, bu].toArray 77 (0, 0))]] := by
  intro hown hnd
  have hgt := hown (gt, _) (List.mem_cons_self)
  have hgr := hown (gr, _) (List.mem_cons_of_mem _ List.mem_cons_self)
  have hne : gt ≠ gr := by
    intro e
    simp only [dom, List.map_cons, List.map_nil, List.nodup_cons, List.mem_singleton] at hnd
    exact hnd.1 e
  simp only at hgt hgr
  -- the world with the lock taken
  have hs0 : Sig ⟨w, dom [(gt, Obj.cells [fv, bl, .int .u32 0, .int .i32 0, .int .u32 0, .bool false].toArray 90 (0, 0)), (gr, .cells [tv, .int .i64 n, st, bu].toArray 77 (0, 0))]⟩ [[(gt, Obj.cells [fv, bl, .int .u32 0, .int .i32 0, .int .u32 0, .bool false].toArray 90 (0, 0))], [(gr, .cells [tv, .int .i64 n, st, bu].toArray 77 (0, 0))]] w :=
    (sig_refl w _ hown hnd).perm (List.Perm.of_eq rfl)
  have hl1 : (w.setCell ⟨gt, 3, none⟩ (.int .i32 1)).heap[gt]? = some (.cells [fv, bl, .int .u32 0, .int .i32 1, .int .u32 0, .bool false].toArray 90 (0, 0)) := setCell_same hgt
  have hs1 := hs0.set (k := 0) (g := gt) (w' := w.setCell ⟨gt, 3, none⟩ (.int .i32 1)) rfl rfl rfl rfl (by unfold World.setCell; simp) hl1 (fun j hj => setCell_other hj)
  have hc1 := step1_con gt gr gb1 gb0 [fv, bl, .int .u32 0, .int .i32 1, .int .u32 0, .bool false] tv st bu n (w.setCell ⟨gt, 3, none⟩ (.int .i32 1)) rfl ((setCell_other d1.1).trans h1) ((setCell_other d0.1).trans h0) d1 d0 hn
    (by
      intro p hp
      simp only [List.mem_cons, List.not_mem_nil, or_false] at hp
      rcases hp with rfl | rfl
      · exact hl1
      · exact (setCell_other (fun e => hne e.symm)).trans hgr) (by
      simp only [dom, List.map_cons, List.map_nil, List.nodup_cons, List.mem_singleton, List.not_mem_nil, not_false_eq_true, List.nodup_nil, and_true]
      exact hne)
  refine (slow_gen gt 2 40 #[.pointer (some ⟨gb1, 0, none⟩), .pointer (some ⟨gb0, 0, none⟩)] w (fun w1 => Sig ⟨w, dom [(gt, Obj.cells [fv, bl, .int .u32 0, .int .i32 0, .int .u32 0, .bool false].toArray 90 (0, 0)), (gr, .cells [tv, .int .i64 n, st, bu].toArray 77 (0, 0))]⟩ [[(gt, .cells [fv, bl, .int .u32 0, .int .i32 1, .int .u32 0, .bool true].toArray 90 (0, 0))], [(gr, .cells [tv, .int .i64 (n - 1), st, bu].toArray 77 (0, 0))]] w1) ent40 (by rw [cell_of hgt]; rfl) (by rw [cell_of hgt]; rfl) (notFrozen hgt) (hc1.mono ?_)).mono ?_
  · rintro e w1 ⟨v, S', rfl, ⟨rfl, rfl⟩, hS⟩
    have hS1 : Sig ⟨w, dom [(gt, Obj.cells [fv, bl, .int .u32 0, .int .i32 0, .int .u32 0, .bool false].toArray 90 (0, 0)), (gr, .cells [tv, .int .i64 n, st, bu].toArray 77 (0, 0))]⟩ [[(gt, .cells [fv, bl, .int .u32 0, .int .i32 1, .int .u32 0, .bool true].toArray 90 (0, 0))], [(gr, .cells [tv, .int .i64 (n - 1), st, bu].toArray 77 (0, 0))]] w1 :=
      Sig.call (Fr := []) hs1 (by simp) hS (by simp)
    have hg1 := hS1.at_ (k := 0) rfl
    exact ⟨rfl, hS1, by rw [cell_of hg1]; rfl, notFrozen hg1, by rw [cell_of hg1]; rfl, notFrozen hg1⟩
  · rintro e w' ⟨rfl, w1, hS, rfl⟩
    refine ⟨_, _, rfl, ⟨rfl, rfl⟩, ?_⟩
    have hd := hS.drew
    have hg1 := hd.at_ (k := 0) rfl
    have h2 := hd.set (k := 0) (g := gt) (w' := w1.drew.setCell ⟨gt, 2, none⟩ (.int .u32 1)) rfl rfl rfl rfl (by unfold World.setCell; simp only [Array.size_modify]; rfl) (setCell_same hg1) (fun j hj => setCell_other hj)
    have hg2 := h2.at_ (k := 0) rfl
    exact h2.set (k := 0) (g := gt) (w' := (w1.drew.setCell ⟨gt, 2, none⟩ (.int .u32 1)).setCell ⟨gt, 3, none⟩ (.int .i32 0)) rfl rfl rfl rfl (by unfold World.setCell; simp) (setCell_same hg2) (fun j hj => setCell_other hj)
theorem alloc_old {w : World} {o : Obj} {k : Nat} (h : k < w.heap.size) : (w.alloc o).heap[k]? = w.heap[k]? := by
  unfold World.alloc
  simp [Array.getElem?_push, Nat.ne_of_lt h]
/-- a step of a task: what it does, it does; a panic is its last -/
theorem does_con (gt : Nat) (f : FuncId) (cap : Array Value) (tl : List Value) (w : World) (Fp : SH) (Q : Bool → List SH → Prop) (hen : Sx.Enters Try.prog f) (htl : (gt, Obj.cells tl.toArray 90 (0, 0)) ∈ Fp) (hf : tl[0]? = some (.func (.func f) #[] cap))
    (hc : ∀ w', (∀ k, k < w.heap.size → w'.heap[k]? = w.heap[k]?) → ConX Try.prog f cap.toList w' Fp (fun v S' => ∃ b, v = .bool b ∧ Q b S') (fun S' => Q false S')) :
    Con Try.prog 38 [.pointer (some ⟨gt, 0, none⟩)] w Fp fun v S' => ∃ b, v = .bool b ∧ Q b S' := by
  intro hown hnd
  have hold : ∀ k, k < w.heap.size → (w.alloc (.cells #[.bool false] 4)).heap[k]? = w.heap[k]? := fun k hk => alloc_old hk
  have hlt : ∀ p ∈ Fp, p.1 < w.heap.size := fun p hp => lt_of_get (hown p hp)
  have hnew : (w.alloc (.cells #[.bool false] 4)).heap[w.heap.size]? = some (.cells [Value.bool false].toArray 4 (0, 0)) := by
    unfold World.alloc
    simp
  have hsz : (w.alloc (.cells #[.bool false] 4)).heap.size = w.heap.size + 1 := by
    unfold World.alloc
    simp
  have hnot : w.heap.size ∉ dom Fp := fun hm => by
    obtain ⟨p, hp, e⟩ := List.mem_map.1 hm
    have := hlt p hp
    omega
  have hcl := hc (w.alloc (.cells #[.bool false] 4)) hold (fun p hp => (hold _ (hlt p hp)).trans (hown p hp)) hnd
  have hg := hown _ htl
  have hK : ∀ {S' : List SH} {w2 : World}, Sig ⟨w.alloc (.cells #[.bool false] 4), dom Fp⟩ S' w2 → w2.heap[w.heap.size]? = some (.cells [Value.bool false].toArray 4 (0, 0)) := fun hS =>
    (hS.frame w.heap.size (by show w.heap.size < (w.alloc _).heap.size; rw [hsz]; omega) hnot).trans hnew
  refine (does_gen gt f cap w (fun b w2 => ∃ S', Q b S' ∧ Sig ⟨w.alloc (.cells #[.bool false] 4), dom Fp⟩ S' w2) (by rw [cell_of ((hold gt (lt_of_get hg)).trans hg)]; exact hf) hen (by
    rw [show cap.toList.toArray = cap by simp] at hcl
    refine hcl.mono ?_
    rintro e w2 (⟨v, S', rfl, ⟨b, rfl, hQ⟩, hS⟩ | ⟨u, pv, S', rfl, hQ, hS⟩)
    · exact ⟨⟨_, by rw [cell_of (hK hS)]; rfl⟩, notFrozen (hK hS), .inl ⟨b, rfl, S', hQ, hS⟩⟩
    · exact ⟨⟨_, by rw [cell_of (hK hS)]; rfl⟩, notFrozen (hK hS), .inr ⟨u, pv, rfl, S', hQ, hS⟩⟩)).mono ?_
  rintro e w' ⟨b, w2, ⟨S', hQ, hS⟩, rfl, rfl⟩
  refine ⟨_, S', rfl, ⟨b, rfl, hQ⟩, hS.os, hS.tape, hS.output, ?_, fun p hp => ?_, hS.nodup, fun k hk => ?_, fun k hk hD => ?_⟩
  · have h1 := hS.size
    simp only at h1
    rw [hsz] at h1
    show w.heap.size ≤ (w2.setCell _ _).heap.size
    unfold World.setCell
    simp only [Array.size_modify]
    omega
  · have hne : p.1 ≠ w.heap.size := fun e => by
      rcases hS.dom_ p.1 (List.mem_map_of_mem hp) with h | h
      · exact hnot (by rw [← e]; exact h)
      · simp only at h
        rw [hsz] at h
        omega
    exact (setCell_other hne).trans (hS.own p hp)
  · rcases hS.dom_ k hk with h | h
    · exact .inl h
    · simp only at h
      rw [hsz] at h
      exact .inr (by show w.heap.size ≤ k; omega)
  · simp only at hk
    refine (setCell_other (by omega)).trans ((hS.frame k (by show k < (w.alloc _).heap.size; rw [hsz]; omega) hD).trans (hold k hk))
end Go.Proofs.Ytlgfpoelhjlifaa
