/- The keys of a map whose keys are numbers, collected. -/
import Derived.Test.YtlgfpoelhjlifaaTa
import Derived.Test.YtlgfpoelhjlifaaLk2
import Derived.Test.YtlgfpoelhjlifaaIter
import Derived.Test.YtlgfpoelhjlifaaSx15
namespace Go.Proofs.Ytlgfpoelhjlifaa
open Go Go.Sx
set_option maxRecDepth 100000
set_option maxHeartbeats 4000000
set_option linter.unusedVariables false
set_option linter.unusedSimpArgs false
attribute [local irreducible] J JQ QS Con W opW

open Go.MapKept Go.WideMaps Go.Maps Go.RowKit Go.Shelf Go.Sort
theorem own_of_row {w w' : World} {e : TypeId} {sz n : Nat} {xs : List Value} {v : Value} (ho : w'.ownsRow w.heap.size e sz v n xs) (hb : Go.RowKit.Below w.heap.size w w') : ∃ c, Sig ⟨w, dom []⟩ [c] w' ∧ Sx.Own e sz xs v c := by
  obtain ⟨hl, ho⟩ := ho
  rcases ho with ⟨rfl, rfl⟩ | ⟨g, cap, cur, rfl, hg1, hg2, hc1, hc2, hc3, hc4⟩
  · have hx : xs = [] := List.eq_nil_of_length_eq_zero (by simpa using hl)
    subst hx
    exact ⟨[], ⟨hb.os, hb.tape, hb.output, hb.size, by simp, by simp, by simp, fun k hk _ => hb.block k hk⟩, own_nil⟩
  · have hcur : cur = (xs ++ cur.toList.drop (n * sz)).toArray := by
      apply Array.ext'
      simp only
      rw [← hc4, List.take_append_drop]
    have hlen : (xs ++ cur.toList.drop (n * sz)).length = cap * sz := by
      rw [← hc4, List.take_append_drop, Array.length_toList, hc3]
    refine ⟨[(g, .cells (xs ++ cur.toList.drop (n * sz)).toArray e (0, 0))], ⟨hb.os, hb.tape, hb.output, hb.size, ?_, by simp, ?_, fun k hk _ => hb.block k hk⟩, .inr ⟨g, n, cap, cur.toList.drop (n * sz), (0, 0), rfl, rfl, hl, hlen, hc1, fun _ _ h => by omega⟩⟩
    · intro p hp
      simp only [List.flatten_cons, List.flatten_nil, List.append_nil, List.mem_singleton] at hp
      subst hp
      simp only []
      rw [hg2, ← hcur]
    · intro k hk
      simp only [dom, List.flatten_cons, List.flatten_nil, List.append_nil, List.map_cons, List.map_nil, List.mem_singleton] at hk
      subst hk
      exact .inr hg1
theorem collectKeys_con (Bs b : Nat) {es : Array MapEntry} {clock : Nat} {m : List (Int × Value)} (w : World) (hBs : Bs < w.heap.size) (hc : w.cell? ⟨Bs, 0, none⟩ = some (.map (some b))) (hb : w.heap[b]? = some (.map es clock)) (hm : MapOk intEnc intOk es clock m) (hsz : m.length ≤ 1000000000) :
    Con Try.prog 64 [.func (.func 76) #[] #[.pointer (some ⟨Bs, 0, none⟩)]] w [] fun v S' => ∃ c zs, S' = [c] ∧ Sx.Own 3 1 (ks .i64 zs) v c ∧ zs.Perm (m.map Prod.fst) := by
  let R : Value → Option (DataW Unit × List MemPlace) := fun _ => some (.lit (.bool true), [])
  have hkey : ∀ n : Int, intOk n → keyOf Try.prog 3 (.int .i64 n) = some (.int .i64 n) := fun n hn => keyOf_int_mk Try.underlying3 (by
    have h1 : IntKind.i64.min = -9223372036854775808 := rfl
    have h2 : IntKind.i64.max = 9223372036854775807 := rfl
    simp [Lit.wf, h1, h2]
    exact hn)
  have hrd : ∀ x ∈ es.toList, ∃ p ∈ m, x.key = intEnc p.1 := fun x hx => by
    have : (x.key, x.val) ∈ m.map (fun p => (intEnc p.1, p.2)) := by rw [← hm.ents]; exact List.mem_map_of_mem (f := fun e : MapEntry => (e.key, e.val)) hx
    obtain ⟨p, hp, e1⟩ := List.mem_map.1 this
    injection e1 with e1 e2
    exact ⟨p, hp, e1.symm⟩
  have hrg : es.toList.map (WideElems.rg Try.prog 3 R) = m.map fun p => (Lit.int .i64 p.1, DataW.lit (.bool true)) := by
    have e1 : es.toList.map (WideElems.rg Try.prog 3 R) = (es.toList.map (fun e => (e.key, e.val))).map fun q => ((keyOf Try.prog 3 q.1).map fun k => (k, (DataW.lit (.bool true) : DataW Unit))).getD (.bool false, .nil) := by
      rw [List.map_map]
      refine List.map_congr_left fun x _ => ?_
      simp only [Function.comp, WideElems.rg, WideElems.rd, R, Option.map_some]
      cases keyOf Try.prog 3 x.key <;> rfl
    rw [e1, hm.ents, List.map_map]
    refine List.map_congr_left fun p hp => ?_
    simp only [Function.comp, intEnc, hkey p.1 (hm.keys p hp), Option.map_some, Option.getD_some]
  have hfit : WideElems.Fit Try.prog 3 R es clock := ⟨by rw [hm.size]; simp only [maxLen]; omega, hm.stamped, fun x hx => by
    obtain ⟨p, hp, e1⟩ := hrd x hx
    exact ⟨(.int .i64 p.1, .lit (.bool true)), by simp only [WideElems.rd, e1, intEnc, hkey p.1 (hm.keys p hp), Option.bind_some, R, Option.map_some]⟩⟩
  have hown : w.ownsMap Try.prog 3 R b es.size (.map ((es.toList.map (WideElems.rg Try.prog 3 R)).foldr DataW.insert [])) := ⟨es, clock, hb, hfit, Nat.le_refl _, rfl⟩
  have hperm := Go.WideShapes.sorted_perm (H := Unit) (es.toList.map (WideElems.rg Try.prog 3 R))
  have hsk : (intKeys (DataW.map ((es.toList.map (WideElems.rg Try.prog 3 R)).foldr DataW.insert []))).Perm (m.map Prod.fst) := by
    refine (hperm.map _).trans ?_
    rw [hrg, List.map_map]
    exact .of_eq (List.map_congr_left fun p _ => rfl)
  have hsize : Maps.size (DataW.map ((es.toList.map (WideElems.rg Try.prog 3 R)).foldr DataW.insert [])) = m.length := by
    have h1 := hperm.length_eq
    have h2 : es.toList.length = m.length := by rw [Array.length_toList, hm.size]
    rw [List.length_map, h2] at h1
    exact h1
  have h := (callsIn_wide (n := 5)).1 (AnyZI.collect_in Try.collectI64 Fence.wide 5 trivial trivial rfl (by omega) 76 #[.pointer (some ⟨Bs, 0, none⟩)] trivial (enters_of Try.func76 (by kernel_rfl) rfl) _ _ (by rw [hsize]; simp only [maxLen]; omega) (by rw [hsize]; omega) _
    (AnyZI.keys_gives (ρ := Try.keysI65_ren) { Try.keysI65 with } Fence.wide _ trivial rfl (by omega) Bs b es.size _ w hBs hc hown))
  have h' : Calls Try.prog 64 #[.func (.func 76) #[] #[.pointer (some ⟨Bs, 0, none⟩)]] w fun e w' => ∃ (v : Value) (ss : List Int), e = .returned v ∧ ss.Perm (m.map Prod.fst) ∧ w'.ownsRow w.heap.size 3 1 v ss.length (ss.map encZ) ∧ Go.RowKit.Below w.heap.size w w' := h.mono fun e w' ⟨v, ss, h1, h2, h3, _, h5⟩ => ⟨v, ss, h1, h2.trans hsk, h3, h5⟩
  refine con_calls (h'.mono ?_)
  rintro e w' ⟨v, ss, rfl, hp, hrow, hB⟩
  obtain ⟨c, hS, ho⟩ := own_of_row hrow hB
  exact ⟨v, [c], rfl, ⟨c, ss, rfl, ho, hp⟩, hS⟩
theorem keysI_con (mb : Option Nat) (w : World) : Con Try.prog 65 [.map mb] w [] fun v S' => ∃ g, v = .func (.func 76) #[] #[.pointer (some ⟨g, 0, none⟩)] ∧ S' = [[(g, .cells [.map mb].toArray 103 (0, 0))]] := con_calls <| by
  refine ((callsIn_wide (n := 5)).1 (Try.maps_KeysI_65 mb w)).mono ?_
  rintro e w' ⟨rfl, rfl⟩
  refine ⟨_, _, rfl, ⟨_, rfl, rfl⟩, ?_⟩
  have hs : Sig ⟨w, dom []⟩ [[]] w := ⟨rfl, rfl, rfl, Nat.le_refl _, by simp, by simp, by simp, fun _ _ _ => rfl⟩
  exact (hs.new (o := .cells [.map mb].toArray 103 (0, 0)) (w' := w.alloc (.cells #[.map mb] 103)) rfl rfl rfl rfl).1.sub (by simp)

end Go.Proofs.Ytlgfpoelhjlifaa
