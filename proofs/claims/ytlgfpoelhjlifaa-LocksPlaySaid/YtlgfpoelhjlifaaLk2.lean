/- Locks by names: New, of, goes. -/
import Derived.Test.YtlgfpoelhjlifaaTa
import Derived.Test.YtlgfpoelhjlifaaLk1
namespace Go.Proofs.Ytlgfpoelhjlifaa
open Go Go.Sx
set_option maxRecDepth 100000
set_option maxHeartbeats 4000000
set_option linter.unusedVariables false
set_option linter.unusedSimpArgs false
attribute [local irreducible] J JQ QS Con W opW
theorem ent45 : Sx.Enters Try.prog 45 := ⟨_, Try.func45, by kernel_rfl, by kernel_rfl⟩
theorem ent46 : Sx.Enters Try.prog 46 := ⟨_, Try.func46, by kernel_rfl, by kernel_rfl⟩
theorem sb3 : (Try.prog.info? 3).map (fun i => (i.size, i.bytes)) = some (1, 8) := by kernel_rfl
theorem sz102 : (Try.prog.info? 102).map (·.size) = some 2 := by kernel_rfl
theorem sz104 : (Try.prog.info? 104).map (·.size) = some 1 := by kernel_rfl
theorem zero3 : zeroL Try.prog 3 = some ([.int .i64 0]) := by kernel_rfl
theorem zero98 : zeroL Try.prog 98 = some ([.map none, .map none]) := by kernel_rfl
theorem zero102 : zeroL Try.prog 102 = some ([.int .i64 0, .bool false]) := by kernel_rfl
theorem zero106 : zeroL Try.prog 106 = some ([.map none, .slice none 0 0, .bool false]) := by kernel_rfl

open Go.MapKept Go.WideMaps Go.Maps
theorem alook_split2 {α : Type} {m : List (List UInt8 × α)} {k : List UInt8} {v : α} (hn : (m.map Prod.fst).Nodup) (h : alook m k = some v) : ∃ a b, m = a ++ (k, v) :: b ∧ (∀ q ∈ a, q.1 ≠ k) ∧ ∀ q ∈ b, q.1 ≠ k := by
  obtain ⟨a, b, rfl, ha⟩ := alook_split h
  refine ⟨a, b, rfl, ha, fun q hq e => ?_⟩
  rw [List.map_append, List.map_cons, List.nodup_append, List.nodup_cons] at hn
  exact hn.2.1.1 (by rw [← e]; exact List.mem_map.2 ⟨q, hq, rfl⟩)
theorem aset_split {α : Type} {a b : List (List UInt8 × α)} {k : List UInt8} {v v' : α} (ha : ∀ q ∈ a, q.1 ≠ k) (hb : ∀ q ∈ b, q.1 ≠ k) : aset (a ++ (k, v) :: b) k v' = a ++ (k, v') :: b := by
  unfold aset
  rw [alook_append_hit ha]
  simp only [Option.isSome_some, if_true, List.map_append, List.map_cons]
  have e : ∀ (l : List (List UInt8 × α)), (∀ q ∈ l, q.1 ≠ k) → l.map (fun p => if p.1 = k then (p.1, v') else p) = l := fun l hl => by
    conv => rhs; rw [← List.map_id l]
    exact List.map_congr_left fun q hq => by rw [if_neg (hl q hq)]; rfl
  rw [e a ha, e b hb]
theorem PT.Ok.nodup {p : PT} {B : Nat} (h : p.Ok B) : (p.lm.map Prod.fst).Nodup := by
  have := h.L.nodup
  rwa [List.map_map] at this
/-- the rest of the locks -/
def restH (a b : List (List UInt8 × PL)) : SH := (a.map (·.2.heap)).flatten ++ (b.map (·.2.heap)).flatten
/-- the pieces of the memory, with one lock by itself -/
def PT.parts (p : PT) (l : PL) (a b : List (List UInt8 × PL)) : List SH := [[(p.gt, p.tobj)], [(p.gL, .map p.Les p.Lck)], [(p.gW, .map p.Wes p.Wck)], [(l.gl, l.obj)], [(l.gh, l.hobj)], l.rc, restH a b]
theorem PT.open_ {p : PT} {n : List UInt8} {l : PL} {a b : List (List UInt8 × PL)} (h : p.lm = a ++ (n, l) :: b) : p.heap.Perm (p.parts l a b).flatten := by
  classical
  refine List.perm_iff_count.2 fun x => ?_
  simp only [PT.heap, PT.base, PT.parts, PL.heap, restH, h, List.flatten_cons, List.flatten_nil, List.append_nil, List.nil_append, List.map_append, List.map_cons, List.map_nil, List.flatten_append, List.count_append, List.count_cons, List.count_nil]
  omega
theorem aset_ptr {p : PT} {n : List UInt8} {l l' : PL} (h : alook p.lm n = some l) (hg : l'.gl = l.gl) (hn : (p.lm.map Prod.fst).Nodup) : (aset p.lm n l').map (fun q => (q.1, ptrL q.2)) = p.lm.map fun q => (q.1, ptrL q.2) := by
  obtain ⟨a, b, e, ha, hb⟩ := alook_split2 hn h
  rw [e, aset_split ha hb]
  simp only [List.map_append, List.map_cons, ptrL, hg]
/-- one lock turned, and the tasks that wait -/
theorem PT.Ok.put {p : PT} {n : List UInt8} {l l' : PL} {B B' : Nat} (h : p.Ok B) (hl : alook p.lm n = some l) (hg : l'.gl = l.gl) (hl' : l'.Ok B') (hB : B ≤ B') {es : Array MapEntry} {ck : Nat} {wm : List (Int × List UInt8)} (hW : MapOk intEnc intOk es ck (wm.map fun q => (q.1, nameV q.2))) (hwl : ∀ q ∈ wm, (alook p.lm q.2).isSome = true) :
    PT.Ok B' { p with Wes := es, Wck := ck, wm := wm, lm := aset p.lm n l' } := by
  obtain ⟨a, b, e, ha, hb⟩ := alook_split2 h.nodup hl
  refine ⟨?_, hW, fun q hq => ?_, ?_, fun q hq => ?_⟩
  · show MapOk _ _ _ _ ((aset p.lm n l').map fun q => (q.1, ptrL q.2))
    rw [aset_ptr hl hg h.nodup]
    exact h.L
  · show q.2.Ok B'
    have hq' : q ∈ aset p.lm n l' := hq
    rw [e, aset_split ha hb] at hq'
    have up : ∀ q ∈ p.lm, q.2.Ok B' := fun q hq => by
      obtain ⟨h1, h2, h3, h4⟩ := h.each q hq
      exact ⟨h1, h2, h3, by omega⟩
    rcases List.mem_append.1 hq' with hq' | hq'
    · exact up q (by rw [e]; exact List.mem_append_left _ hq')
    · rcases List.mem_cons.1 hq' with rfl | hq'
      · exact hl'
      · exact up q (by rw [e]; exact List.mem_append_right _ (List.mem_cons_of_mem _ hq'))
  · show (aset p.lm n l').length ≤ B'
    have := h.lmB
    rw [e] at this
    rw [e, aset_split ha hb]
    simp only [List.length_append, List.length_cons] at this ⊢
    omega
  · show (alook (aset p.lm n l') q.2).isSome = true
    rw [alook_aset]
    split
    · rfl
    · exact hwl q hq
theorem PT.close_ {p : PT} {n : List UInt8} {l l' : PL} {a b : List (List UInt8 × PL)} (e : p.lm = a ++ (n, l) :: b) (ha : ∀ q ∈ a, q.1 ≠ n) (hb : ∀ q ∈ b, q.1 ≠ n) (es : Array MapEntry) (ck : Nat) (wm : List (Int × List UInt8)) :
    ([[(p.gt, p.tobj)], [(p.gL, .map p.Les p.Lck)], [(p.gW, .map es ck)], [(l'.gl, l'.obj)], [(l'.gh, l'.hobj)], l'.rc, restH a b] : List SH).flatten.Perm ([PT.heap { p with Wes := es, Wck := ck, wm := wm, lm := aset p.lm n l' }] : List SH).flatten := by
  have h := PT.open_ (p := { p with Wes := es, Wck := ck, wm := wm, lm := aset p.lm n l' }) (n := n) (l := l') (a := a) (b := b) (by show aset p.lm n l' = _; rw [e, aset_split ha hb])
  exact h.symm.trans (.of_eq (by simp))
theorem aset_length {κ α : Type} [DecidableEq κ] (m : List (κ × α)) (k : κ) (v : α) : (aset m k v).length ≤ m.length + 1 := by
  unfold aset
  split <;> simp
/-- a row goes on -/
def goesF : List (Int × Bool) → List (Int × Bool) → Bool → List (Int × List UInt8) → List Int → List (Int × Bool) × List (Int × Bool) × Bool × List (Int × List UInt8) × List Int
  | [], hm, sh, wm, out => (hm, [], sh, wm, out)
  | x :: r, hm, sh, wm, out => if hm.isEmpty || (sh && x.2) then goesF r (aset hm x.1 x.2) x.2 (mdel wm x.1) (out ++ [x.1]) else (hm, x :: r, sh, wm, out)
theorem rd_pre {b : Base} {S : List SH} {a : Addr} {xs ys : List Value} (h : Rd b S a (xs ++ ys)) : Rd b S a xs := fun w hw j u hu => h w hw j u (by rw [List.getElem?_append_left (List.getElem?_eq_some_iff.1 hu).1]; exact hu)
theorem goes_hit {x : Int × Bool} {r hm : List (Int × Bool)} {sh : Bool} {wm : List (Int × List UInt8)} {out : List Int} (h : (hm.isEmpty || (sh && x.2)) = true) : goesF (x :: r) hm sh wm out = goesF r (aset hm x.1 x.2) x.2 (mdel wm x.1) (out ++ [x.1]) := by
  rw [goesF, if_pos h]
theorem goes_miss {x : Int × Bool} {r hm : List (Int × Bool)} {sh : Bool} {wm : List (Int × List UInt8)} {out : List Int} (h : (hm.isEmpty || (sh && x.2)) = false) : goesF (x :: r) hm sh wm out = (hm, x :: r, sh, wm, out) := by
  rw [goesF, if_neg (by rw [h]; decide)]
theorem row_first {e : TypeId} {r : List (Int × Bool)} {v : Value} {c : SH} (h : OwnO e 2 (askers r) v c) : ∃ n A cap gr ro, v = .slice A n cap ∧ n = r.length ∧ n ≤ cap ∧ (r ≠ [] → A = some ⟨gr, ro, none⟩) := by
  obtain ⟨n, A, cap, rfl, hn, hc⟩ := ownO_form h
  rw [askers_length] at hn
  by_cases hr : r = []
  · exact ⟨n, A, cap, 0, 0, rfl, by omega, hc, fun h => absurd hr h⟩
  · obtain ⟨g, o, rfl⟩ := ownO_addr h (fun e => hr (by
      have := congrArg List.length e
      rw [askers_length] at this
      exact List.eq_nil_of_length_eq_zero (by simp only [List.length_nil] at this; omega)))
    exact ⟨n, _, cap, g, o, rfl, by omega, hc, fun _ => rfl⟩
theorem rowget1 (x : Int × Bool) (r : List (Int × Bool)) : (askers (x :: r))[1]? = some (.bool x.2) := rfl
/-- pantry.locks.New -/
theorem new_con (w : World) : Con Try.prog 23 [] w [] fun v S' => ∃ p : PT, v = .pointer (some ⟨p.gt, 0, none⟩) ∧ S' = [p.heap] ∧ p.Ok 0 ∧ p.lm = [] ∧ p.wm = [] := by
  refine con_of_tree mix Try.func23 T23_ok (by kernel_rfl) ?_
  unfold T23
  refine j_q (qs_ac) ?_
  refine j_mkmap (fun g1 hg1 => ?_)
  refine j_mkmap (fun g2 hg2 => ?_)
  refine j_q (qs_build (places := [(0, 1), (1, 1)]) (offs := [(0, [.map (some g1)]), (1, [.map (some g2)])]) Try.underlying98 zero98 (by kernel_rfl) rfl (by rintro (_ | _ | j) p q hp hq <;> first | (simp at hp hq; subst hp hq; exact ⟨rfl, rfl, by simp⟩) | (simp at hp))) ?_
  refine j_box (l := [.map (some g1), .map (some g2)]) rfl (fun g4 hg4 hs4 => ?_)
  refine j_perm (S' := [PT.heap ({ gt := g4, gL := g1, gW := g2, Les := #[], Lck := 0, Wes := #[], Wck := 0, lm := [], wm := [] } : PT)]) (by classical exact List.perm_iff_count.2 fun a => by simp only [PT.heap, PT.base, PL.heap, PT.tobj, PL.obj, PL.hobj, List.set_cons_succ, List.set_cons_zero, List.flatten_cons, List.flatten_nil, List.append_nil, List.nil_append, List.map_append, List.map_cons, List.map_nil, List.flatten_append, List.count_append, List.count_cons, List.count_nil]; omega) ?_
  refine j_ret_con (vs := [_]) (fun w' hw' => ⟨rfl, trivial⟩) ?_
  exact ⟨({ gt := g4, gL := g1, gW := g2, Les := #[], Lck := 0, Wes := #[], Wck := 0, lm := [], wm := [] } : PT), rfl, rfl, ⟨mapOk_nil, mapOk_nil, (fun q hq => by cases hq), Nat.le_refl _, (fun q hq => by cases hq)⟩, rfl, rfl⟩
/-- (*pantry.locks.Table).of -/
theorem of_con (B : Nat) (p : PT) (n : List UInt8) (w : World) (hok : p.Ok B) (hn : strOk n) : Con Try.prog 44 [.pointer (some ⟨p.gt, 0, none⟩), .string (bs n)] w p.heap fun u S' => ∃ (p' : PT) (l : PL), S' = [p'.heap] ∧ p'.gt = p.gt ∧ p'.Ok (B + 1) ∧ alook p'.lm n = some l ∧ u = ptrL l ∧ p'.wm = p.wm ∧ p'.lm = (if (alook p.lm n).isSome then p.lm else p.lm ++ [(n, l)]) ∧ (alook p.lm n = none → l.hm = [] ∧ l.row = [] ∧ l.sh = false) ∧ l.Ok B := by
  refine con_of_tree mix Try.func44 T44_ok (by kernel_rfl) ?_
  unfold T44
  refine j_perm (S' := [[(p.gt, p.tobj)], [(p.gL, .map p.Les p.Lck)], [(p.gW, .map p.Wes p.Wck)], (p.lm.map (·.2.heap)).flatten]) (by classical exact List.perm_iff_count.2 fun a => by simp only [PT.heap, PT.base, PL.heap, PT.tobj, PL.obj, PL.hobj, List.set_cons_succ, List.set_cons_zero, List.flatten_cons, List.flatten_nil, List.append_nil, List.nil_append, List.map_append, List.map_cons, List.map_nil, List.flatten_append, List.count_append, List.count_cons, List.count_nil]; omega) ?_
  refine j_q (qs_ac) ?_
  refine j_q (qs_nil rfl) ?_
  refine j_q (qs_field Try.underlying98 rfl sz95 (by decide) rfl) ?_
  first
    | refine j_q (qs_load 0 Try.underlying95 rfl rfl rfl rfl) ?_
    | refine j_q (qs_load 1 Try.underlying95 rfl rfl rfl rfl) ?_
    | refine j_q (qs_load 2 Try.underlying95 rfl rfl rfl rfl) ?_
    | refine j_q (qs_load 3 Try.underlying95 rfl rfl rfl rfl) ?_
  refine j_q (qs_mapnil Try.underlying95 (by kernel_rfl) rfl rfl) ?_
  refine j_cond rfl (fun hc0 => ?_) (fun hc0 => ?_)
  · skip
    simp at hc0
  · skip
    refine j_q (qs_nil rfl) ?_
    refine j_q (qs_field Try.underlying98 rfl sz95 (by decide) rfl) ?_
    first
      | refine j_q (qs_load 0 Try.underlying95 rfl rfl rfl rfl) ?_
      | refine j_q (qs_load 1 Try.underlying95 rfl rfl rfl rfl) ?_
      | refine j_q (qs_load 2 Try.underlying95 rfl rfl rfl rfl) ?_
      | refine j_q (qs_load 3 Try.underlying95 rfl rfl rfl rfl) ?_
    refine j_q (qs_lookup (key := n) strKey 1 Try.underlying95 zv99 rfl rfl rfl hok.L hn) ?_
    rw [mlook_map ptrL, getD_ptr]
    refine j_q (qs_pnil Try.underlying99 rfl) ?_
    refine j_cond rfl (fun hc2 => ?_) (fun hc2 => ?_)
    · skip
      have hno : alook p.lm n = none := by
        cases hl : alook p.lm n with
        | none => rfl
        | some l => simp [hl] at hc2
      refine j_mkmap (fun g30 hg30 => ?_)
      refine j_q (qs_build (places := [(0, 1), (1, 1), (2, 1)]) (offs := [(0, [.map (some g30)])]) Try.underlying106 zero106 (by kernel_rfl) rfl (by rintro (_ | j) p q hp hq <;> first | (simp at hp hq; subst hp hq; exact ⟨rfl, rfl, by simp⟩) | (simp at hp))) ?_
      refine j_box (l := [.map (some g30), .slice none 0 0, .bool false]) rfl (fun g32 hg32 hs32 => ?_)
      refine j_q (qs_nil rfl) ?_
      refine j_q (qs_field Try.underlying98 rfl sz95 (by decide) rfl) ?_
      refine j_q (qs_load 2 Try.underlying95 rfl rfl rfl rfl) ?_
      refine j_mapset (key := n) (val := ptrL ({ gl := g32, gh := g30, hes := #[], hck := 0, hm := [], row := [], rv := .slice none 0 0, rc := [], sh := false } : PL)) strKey 3 Try.underlying95 rfl rfl rfl rfl hok.L hn (fun es ck hm' => ?_)
      rw [mset_map ptrL] at hm'
      refine j_perm (S' := [PT.heap ({ p with Les := es, Lck := ck, lm := p.lm ++ [(n, ({ gl := g32, gh := g30, hes := #[], hck := 0, hm := [], row := [], rv := .slice none 0 0, rc := [], sh := false } : PL))] } : PT)]) (by classical exact List.perm_iff_count.2 fun a => by simp only [PT.heap, PT.base, PL.heap, PT.tobj, PL.obj, PL.hobj, List.set_cons_succ, List.set_cons_zero, List.flatten_cons, List.flatten_nil, List.append_nil, List.nil_append, List.map_append, List.map_cons, List.map_nil, List.flatten_append, List.count_append, List.count_cons, List.count_nil]; omega) ?_
      refine j_ret_con (vs := [_]) (fun w' hw' => ⟨rfl, trivial⟩) ?_
      have haset : aset p.lm n ({ gl := g32, gh := g30, hes := #[], hck := 0, hm := [], row := [], rv := .slice none 0 0, rc := [], sh := false } : PL) = p.lm ++ [(n, ({ gl := g32, gh := g30, hes := #[], hck := 0, hm := [], row := [], rv := .slice none 0 0, rc := [], sh := false } : PL))] := by unfold aset; rw [hno]; rfl
      rw [haset] at hm'
      have hlook : alook (p.lm ++ [(n, ({ gl := g32, gh := g30, hes := #[], hck := 0, hm := [], row := [], rv := .slice none 0 0, rc := [], sh := false } : PL))]) n = some ({ gl := g32, gh := g30, hes := #[], hck := 0, hm := [], row := [], rv := .slice none 0 0, rc := [], sh := false } : PL) := alook_append_hit (alook_none.1 hno)
      refine ⟨({ p with Les := es, Lck := ck, lm := p.lm ++ [(n, ({ gl := g32, gh := g30, hes := #[], hck := 0, hm := [], row := [], rv := .slice none 0 0, rc := [], sh := false } : PL))] } : PT), ({ gl := g32, gh := g30, hes := #[], hck := 0, hm := [], row := [], rv := .slice none 0 0, rc := [], sh := false } : PL), rfl, rfl, ⟨hm', hok.W, fun q hq => ?_, ?_, fun q hq => by show (alook (p.lm ++ [(n, ({ gl := g32, gh := g30, hes := #[], hck := 0, hm := [], row := [], rv := .slice none 0 0, rc := [], sh := false } : PL))]) q.2).isSome = true; rw [alook_app (hok.wl q hq)]; exact hok.wl q hq⟩, hlook, rfl, rfl, ?_, fun _ => ⟨rfl, rfl, rfl⟩, ⟨mapOk_nil, ownO_nil, (fun x hx => by cases hx), Nat.zero_le _⟩⟩
      · rcases List.mem_append.1 (show q ∈ p.lm ++ [(n, ({ gl := g32, gh := g30, hes := #[], hck := 0, hm := [], row := [], rv := .slice none 0 0, rc := [], sh := false } : PL))] from hq) with hq | hq
        · obtain ⟨h1, h2, h3, h4⟩ := hok.each q hq
          exact ⟨h1, h2, h3, by omega⟩
        · rw [List.mem_singleton] at hq
          rw [hq]
          exact ⟨mapOk_nil, ownO_nil, (fun x hx => by cases hx), Nat.zero_le _⟩
      · have := hok.lmB
        show (p.lm ++ [(n, ({ gl := g32, gh := g30, hes := #[], hck := 0, hm := [], row := [], rv := .slice none 0 0, rc := [], sh := false } : PL))]).length ≤ B + 1
        rw [List.length_append, List.length_singleton]
        omega
      · rw [hno]
        rfl
    · skip
      obtain ⟨l, hl⟩ : ∃ l, alook p.lm n = some l := by
        cases hl : alook p.lm n with
        | none => simp [hl] at hc2
        | some l => exact ⟨l, rfl⟩
      refine j_perm (S' := [p.heap]) (by classical exact List.perm_iff_count.2 fun a => by simp only [PT.heap, PT.base, PL.heap, PT.tobj, PL.obj, PL.hobj, List.set_cons_succ, List.set_cons_zero, List.flatten_cons, List.flatten_nil, List.append_nil, List.nil_append, List.map_append, List.map_cons, List.map_nil, List.flatten_append, List.count_append, List.count_cons, List.count_nil]; omega) ?_
      refine j_ret_con (vs := [_]) (fun w' hw' => ⟨rfl, trivial⟩) ?_
      refine ⟨p, l, rfl, rfl, ⟨hok.L, hok.W, fun q hq => ?_, Nat.le_succ_of_le hok.lmB, hok.wl⟩, hl, by rw [hl]; rfl, rfl, by rw [hl]; rfl, (fun h => by rw [hl] at h; cases h), hok.lock hl⟩
      obtain ⟨h1, h2, h3, h4⟩ := hok.each q hq
      exact ⟨h1, h2, h3, by omega⟩
/-- (*pantry.locks.Table).goes -/
theorem goes_con (B : Nat) (hB : B ≤ 1000000) (p : PT) (n : List UInt8) (l : PL) (w : World) (hok : p.Ok B) (hl : alook p.lm n = some l) : Con Try.prog 51 [.pointer (some ⟨p.gt, 0, none⟩), ptrL l] w p.heap fun u S' => ∃ (p' : PT) (l' : PL) (out : List Int) (oc : SH), S' = [p'.heap, oc] ∧ Sx.Own 3 1 (ks .i64 out) u oc ∧ p'.gt = p.gt ∧ p'.Ok B ∧ p'.lm = aset p.lm n l' ∧ l'.gl = l.gl ∧ goesF l.row l.hm l.sh p.wm [] = (l'.hm, l'.row, l'.sh, p'.wm, out) ∧ out.length ≤ B := by
  refine con_of_tree mix Try.func51 T51_ok (by kernel_rfl) ?_
  unfold T51
  obtain ⟨a, b, hab, hna, hnb⟩ := alook_split2 hok.nodup hl
  refine j_perm (S' := p.parts l a b) (by rw [List.flatten_cons, List.flatten_nil, List.append_nil]; exact PT.open_ hab) ?_
  have hlk := hok.lock hl
  have hlB := hlk.hrB
  unfold PT.parts
  refine j_perm (S' := [[(p.gt, p.tobj)], [(p.gL, .map p.Les p.Lck)], [(p.gW, .map p.Wes p.Wck)], [(l.gl, l.obj)], [(l.gh, l.hobj)], l.rc, restH a b, []]) (by simp) ?_
  unfold ptrL
  refine j_q (qs_ac) ?_
  refine j_q (qs_ac) ?_
  refine j_loop (fun m vs S' => ∃ (cur : PL) (wm : List (Int × List UInt8)) (wes : Array MapEntry) (wck : Nat) (out : List Int) (ov : Value) (oc : SH), vs = [ov] ∧ S' = [[(p.gt, p.tobj)], [(p.gL, .map p.Les p.Lck)], [(p.gW, .map wes wck)], [(cur.gl, cur.obj)], [(cur.gh, cur.hobj)], cur.rc, restH a b, oc] ∧ cur.gl = l.gl ∧ cur.Ok B ∧ MapOk intEnc intOk wes wck (wm.map fun q => (q.1, nameV q.2)) ∧ Sx.Own 3 1 (ks .i64 out) ov oc ∧ goesF cur.row cur.hm cur.sh wm out = goesF l.row l.hm l.sh p.wm [] ∧ out.length + cur.row.length ≤ B ∧ (∀ q ∈ wm, q ∈ p.wm) ∧ m = cur.row.length) ⟨_, l, p.wm, p.Wes, p.Wck, [], _, [], rfl, rfl, rfl, hlk, hok.W, own_nil, rfl, by simp; omega, fun q hq => hq, rfl⟩ ?_
  rintro m vs S' hlen ⟨cur, wm, wes, wck, out, ov, oc, rfl, rfl, hgl, hcok, hWm, ho, hgoes, hol, hsubw, hm0⟩
  obtain ⟨n1, A1, cap1, gr, ro, hrv, hn1, hcap1, hA⟩ := row_first hcok.row
  have hne_of : decide ((n1 : Int) > 0) = true → cur.row ≠ [] := fun hb e => by
    rw [e] at hn1
    simp [hn1] at hb
  have hrow : cur.row ≠ [] → OwnO 102 2 (askers cur.row) (.slice (some ⟨gr, ro, none⟩) n1 cap1) cur.rc := fun h => by
    rw [← hA h, ← hrv]
    exact hcok.row
  have hx1 : cur.row ≠ [] → (askers cur.row)[1]? = some (.bool (cur.row.getD 0 (0, false)).2) := fun h => by
    obtain ⟨x, r, e⟩ := List.exists_cons_of_ne_nil h
    rw [e]
    rfl
  rw [← hgl]
  refine j_q (qs_nil rfl) ?_
  refine j_q (qs_field Try.underlying106 rfl sz104 (by decide) rfl) ?_
  refine j_q (qs_load (l := [.map (some cur.gh), cur.rv, .bool cur.sh]) 3 Try.underlying104 rfl rfl rfl rfl) ?_
  refine j_q (qs_lenl Try.underlying104 hrv) ?_
  refine j_q (qs_gtr rfl rfl) ?_
  refine j_g rfl (fun hb => qs_mt rfl) ?_
  refine j_g rfl (fun hb => qs_mt rfl) ?_
  refine j_g rfl (fun hb => qs_nil (gd_eq hb)) ?_
  refine j_g rfl (fun hb => qs_field Try.underlying106 rfl sz104 (by decide) (gd_eq hb)) ?_
  refine j_g rfl (fun hb => qs_load (l := [.map (some cur.gh), cur.rv, .bool cur.sh]) 3 Try.underlying104 rfl (gd_eq hb) rfl rfl) ?_
  refine j_g rfl (fun hb => qs_ixl (a := ⟨gr, ro, none⟩) (n := n1) (c := cap1) Try.underlying104 sz102 ((gd_eq hb).trans (hrv.trans (by rw [hA (hne_of hb)]))) rfl (by omega) (by have := List.length_pos_iff.2 (hne_of hb); omega)) ?_
  refine j_g rfl (fun hb => qs_field (g := gr) (off := ro + (0 : Int).toNat * 2) Try.underlying102 rfl sz4 (by decide) ((gd_eq hb).trans (by rw [add_off]))) ?_
  refine j_g rfl (fun hb => qs_loadR (a := ⟨gr, ro, none⟩) (i := 1) (ownO_rd (hrow (hne_of hb)) 5 rfl) Try.underlying4 rfl ((gd_eq hb).trans (by rw [add_off]; rfl)) (hx1 (hne_of hb))) ?_
  refine j_g rfl (fun hb => qs_call ent45 rfl rfl (args2 (gd_eq hb) (gd_eq hb)) (fun w' hw' => free_con B cur _ w' (in_own hw' 3 rfl (cur.gl, cur.obj) (by simp)) (in_own hw' 4 rfl (cur.gh, cur.hobj) (by simp)) hcok)) ?_
  refine j_q (qs_and rfl rfl) ?_
  refine j_cond rfl (fun hc0 => ?_) (fun hc0 => ?_)
  · skip
    have hne : cur.row ≠ [] := hne_of (by simp only [Bool.and_eq_true] at hc0; exact hc0.1)
    obtain ⟨x, r, hxr⟩ := List.exists_cons_of_ne_nil hne
    have hgo : (cur.hm.isEmpty || (cur.sh && x.2)) = true := by
      have h0 : decide ((n1 : Int) > 0) = true := by simp only [Bool.and_eq_true] at hc0; exact hc0.1
      rw [h0, Bool.true_and] at hc0
      rw [hxr] at hc0
      exact hc0
    have hxok : intOk x.1 := hcok.rowOk x (by rw [hxr]; simp)
    have hcB := hcok.hrB
    have hasl := aset_length cur.hm x.1 x.2
    have hrl : cur.row.length = r.length + 1 := by rw [hxr]; rfl
    have hok1 : PL.Ok B { cur with rv := .slice (if cap1 = 1 then A1 else A1.map (fun a : Addr => a.add (1 * 2))) (n1 - 1) (cap1 - 1), row := r } := ⟨hcok.hm, by
        have h := hcok.row
        rw [hrv, hxr, askers_cons] at h
        exact ownO_tail h rfl (by decide), fun q hq => hcok.rowOk q (by rw [hxr]; exact List.mem_cons_of_mem _ hq), by show cur.hm.length + r.length ≤ B; omega⟩
    refine j_q (qs_nil rfl) ?_
    refine j_q (qs_field Try.underlying106 rfl sz104 (by decide) rfl) ?_
    refine j_q (qs_load (l := [.map (some cur.gh), cur.rv, .bool cur.sh]) 3 Try.underlying104 rfl rfl rfl rfl) ?_
    refine j_q (qs_ixl (a := ⟨gr, ro, none⟩) (n := n1) (c := cap1) Try.underlying104 sz102 (hrv.trans (by rw [hA hne])) rfl (by omega) (by have := List.length_pos_iff.2 hne; omega)) ?_
    rw [add_off, show ro + (0 : Int).toNat * 2 = ro from rfl]
    refine j_q (qs_loadwR (vs := [.int .i64 x.1, .bool x.2]) (rd_pre (ys := askers r) (by have := ownO_rd (b := ⟨w, dom p.heap⟩) (S := [[(p.gt, p.tobj)], [(p.gL, .map p.Les p.Lck)], [(p.gW, .map wes wck)], [(cur.gl, cur.obj)], [(cur.gh, cur.hobj)], cur.rc, restH a b, oc]) (hrow hne) 5 rfl; rw [hxr, askers_cons] at this; exact this)) Try.underlying102 rfl sz102 rfl rfl) ?_
    refine j_alloc zero102 (fun g22 hg22 hs22 => ?_)
    refine j_storew 0 sz102 rfl rfl rfl (by simp [oneV]) rfl rfl ?_
    refine j_q (qs_nil rfl) ?_
    refine j_q (qs_field Try.underlying106 rfl sz104 (by decide) rfl) ?_
    refine j_q (qs_load (l := [.map (some cur.gh), cur.rv, .bool cur.sh]) 4 Try.underlying104 rfl rfl rfl rfl) ?_
    refine j_q (qs_cutl (a := 1) (z := n1) Try.underlying104 sz102 hrv ⟨.i64, rfl⟩ rfl (by have := List.length_pos_iff.2 hne; omega) (by omega)) ?_
    refine j_q (qs_nil rfl) ?_
    refine j_q (qs_field Try.underlying106 rfl sz104 (by decide) rfl) ?_
    refine j_store 4 sz104 rfl rfl rfl rfl (by simp) (by simp) ?_
    refine j_draw ?_
    refine jq_q (qs_nil rfl) ?_
    refine jq_q (qs_field Try.underlying98 rfl sz96 (by decide) rfl) ?_
    first
      | refine jq_q (qs_load 0 Try.underlying96 rfl rfl rfl rfl) ?_
      | refine jq_q (qs_load 1 Try.underlying96 rfl rfl rfl rfl) ?_
      | refine jq_q (qs_load 2 Try.underlying96 rfl rfl rfl rfl) ?_
      | refine jq_q (qs_load 3 Try.underlying96 rfl rfl rfl rfl) ?_
      | refine jq_q (qs_load 4 Try.underlying96 rfl rfl rfl rfl) ?_
      | refine jq_q (qs_load 5 Try.underlying96 rfl rfl rfl rfl) ?_
      | refine jq_q (qs_load 6 Try.underlying96 rfl rfl rfl rfl) ?_
      | refine jq_q (qs_load 7 Try.underlying96 rfl rfl rfl rfl) ?_
      | refine jq_q (qs_load 8 Try.underlying96 rfl rfl rfl rfl) ?_
      | refine jq_q (qs_load 9 Try.underlying96 rfl rfl rfl rfl) ?_
    refine jq_q (qs_field Try.underlying102 rfl sz3 (by decide) rfl) ?_
    first
      | refine jq_q (qs_loadk 0 Try.underlying3 rfl rfl (by first | omega | (simp only [Bool.and_eq_true, Bool.or_eq_true, Bool.and_eq_false_iff, Bool.or_eq_false_iff, Bool.not_eq_true', Bool.not_eq_false', decide_eq_true_eq, decide_eq_false_iff_not, beq_iff_eq, beq_eq_false_iff_ne, bne_iff_ne, bne_eq_false_iff_eq, ne_eq, Int.toNat_natCast] at *; omega))) ?_
      | refine jq_q (qs_loadk 1 Try.underlying3 rfl rfl (by first | omega | (simp only [Bool.and_eq_true, Bool.or_eq_true, Bool.and_eq_false_iff, Bool.or_eq_false_iff, Bool.not_eq_true', Bool.not_eq_false', decide_eq_true_eq, decide_eq_false_iff_not, beq_iff_eq, beq_eq_false_iff_ne, bne_iff_ne, bne_eq_false_iff_eq, ne_eq, Int.toNat_natCast] at *; omega))) ?_
      | refine jq_q (qs_loadk 2 Try.underlying3 rfl rfl (by first | omega | (simp only [Bool.and_eq_true, Bool.or_eq_true, Bool.and_eq_false_iff, Bool.or_eq_false_iff, Bool.not_eq_true', Bool.not_eq_false', decide_eq_true_eq, decide_eq_false_iff_not, beq_iff_eq, beq_eq_false_iff_ne, bne_iff_ne, bne_eq_false_iff_eq, ne_eq, Int.toNat_natCast] at *; omega))) ?_
      | refine jq_q (qs_loadk 3 Try.underlying3 rfl rfl (by first | omega | (simp only [Bool.and_eq_true, Bool.or_eq_true, Bool.and_eq_false_iff, Bool.or_eq_false_iff, Bool.not_eq_true', Bool.not_eq_false', decide_eq_true_eq, decide_eq_false_iff_not, beq_iff_eq, beq_eq_false_iff_ne, bne_iff_ne, bne_eq_false_iff_eq, ne_eq, Int.toNat_natCast] at *; omega))) ?_
      | refine jq_q (qs_loadk 4 Try.underlying3 rfl rfl (by first | omega | (simp only [Bool.and_eq_true, Bool.or_eq_true, Bool.and_eq_false_iff, Bool.or_eq_false_iff, Bool.not_eq_true', Bool.not_eq_false', decide_eq_true_eq, decide_eq_false_iff_not, beq_iff_eq, beq_eq_false_iff_ne, bne_iff_ne, bne_eq_false_iff_eq, ne_eq, Int.toNat_natCast] at *; omega))) ?_
      | refine jq_q (qs_loadk 5 Try.underlying3 rfl rfl (by first | omega | (simp only [Bool.and_eq_true, Bool.or_eq_true, Bool.and_eq_false_iff, Bool.or_eq_false_iff, Bool.not_eq_true', Bool.not_eq_false', decide_eq_true_eq, decide_eq_false_iff_not, beq_iff_eq, beq_eq_false_iff_ne, bne_iff_ne, bne_eq_false_iff_eq, ne_eq, Int.toNat_natCast] at *; omega))) ?_
      | refine jq_q (qs_loadk 6 Try.underlying3 rfl rfl (by first | omega | (simp only [Bool.and_eq_true, Bool.or_eq_true, Bool.and_eq_false_iff, Bool.or_eq_false_iff, Bool.not_eq_true', Bool.not_eq_false', decide_eq_true_eq, decide_eq_false_iff_not, beq_iff_eq, beq_eq_false_iff_ne, bne_iff_ne, bne_eq_false_iff_eq, ne_eq, Int.toNat_natCast] at *; omega))) ?_
      | refine jq_q (qs_loadk 7 Try.underlying3 rfl rfl (by first | omega | (simp only [Bool.and_eq_true, Bool.or_eq_true, Bool.and_eq_false_iff, Bool.or_eq_false_iff, Bool.not_eq_true', Bool.not_eq_false', decide_eq_true_eq, decide_eq_false_iff_not, beq_iff_eq, beq_eq_false_iff_ne, bne_iff_ne, bne_eq_false_iff_eq, ne_eq, Int.toNat_natCast] at *; omega))) ?_
      | refine jq_q (qs_loadk 8 Try.underlying3 rfl rfl (by first | omega | (simp only [Bool.and_eq_true, Bool.or_eq_true, Bool.and_eq_false_iff, Bool.or_eq_false_iff, Bool.not_eq_true', Bool.not_eq_false', decide_eq_true_eq, decide_eq_false_iff_not, beq_iff_eq, beq_eq_false_iff_ne, bne_iff_ne, bne_eq_false_iff_eq, ne_eq, Int.toNat_natCast] at *; omega))) ?_
      | refine jq_q (qs_loadk 9 Try.underlying3 rfl rfl (by first | omega | (simp only [Bool.and_eq_true, Bool.or_eq_true, Bool.and_eq_false_iff, Bool.or_eq_false_iff, Bool.not_eq_true', Bool.not_eq_false', decide_eq_true_eq, decide_eq_false_iff_not, beq_iff_eq, beq_eq_false_iff_ne, bne_iff_ne, bne_eq_false_iff_eq, ne_eq, Int.toNat_natCast] at *; omega))) ?_
      | refine jq_q (qs_load 0 Try.underlying3 rfl rfl rfl rfl) ?_
      | refine jq_q (qs_load 1 Try.underlying3 rfl rfl rfl rfl) ?_
      | refine jq_q (qs_load 2 Try.underlying3 rfl rfl rfl rfl) ?_
      | refine jq_q (qs_load 3 Try.underlying3 rfl rfl rfl rfl) ?_
      | refine jq_q (qs_load 4 Try.underlying3 rfl rfl rfl rfl) ?_
      | refine jq_q (qs_load 5 Try.underlying3 rfl rfl rfl rfl) ?_
      | refine jq_q (qs_load 6 Try.underlying3 rfl rfl rfl rfl) ?_
      | refine jq_q (qs_load 7 Try.underlying3 rfl rfl rfl rfl) ?_
      | refine jq_q (qs_load 8 Try.underlying3 rfl rfl rfl rfl) ?_
      | refine jq_q (qs_load 9 Try.underlying3 rfl rfl rfl rfl) ?_
    refine jq_nil ?_
    refine j_mapdel (key := x.1) intKey 3 Try.underlying96 rfl rfl rfl hWm hxok (fun wes' hWm' => ?_)
    rw [mdel_map nameV] at hWm'
    refine j_perm (S' := [[(cur.gl, PL.obj { cur with rv := .slice (if cap1 = 1 then A1 else A1.map (fun a : Addr => a.add (1 * 2))) (n1 - 1) (cap1 - 1), row := r }), (cur.gh, cur.hobj)], [(g22, .cells [Value.int .i64 x.1, .bool x.2].toArray 102 (0, 0))], [(p.gt, p.tobj)], [(p.gL, .map p.Les p.Lck)], [(p.gW, .map wes' wck)], cur.rc, restH a b, oc]) (by
      show ([[(g22, .cells [Value.int .i64 x.1, .bool x.2].toArray 102 (0, 0))], [(p.gt, p.tobj)], [(p.gL, .map p.Les p.Lck)], [(p.gW, .map wes' wck)], [(cur.gl, PL.obj { cur with rv := .slice (if cap1 = 1 then A1 else A1.map (fun a : Addr => a.add (1 * 2))) (n1 - 1) (cap1 - 1), row := r })], [(cur.gh, cur.hobj)], cur.rc, restH a b, oc] : List SH).flatten.Perm _
      exact (by classical exact List.perm_iff_count.2 fun a => by simp only [PT.heap, PT.base, PL.heap, PT.tobj, PL.obj, PL.hobj, List.set_cons_succ, List.set_cons_zero, List.flatten_cons, List.flatten_nil, List.append_nil, List.nil_append, List.map_append, List.map_cons, List.map_nil, List.flatten_append, List.count_append, List.count_cons, List.count_nil]; omega)) ?_
    refine j_q (qs_loadw 1 Try.underlying102 rfl sz102 rfl rfl rfl) ?_
    refine j_call 0 ent46 rfl rfl rfl rfl (fun w' hw' => takes_con B { cur with rv := .slice (if cap1 = 1 then A1 else A1.map (fun a : Addr => a.add (1 * 2))) (n1 - 1) (cap1 - 1), row := r } x w' hxok hok1) (fun u S2 hu => ?_)
    obtain ⟨es', ck', rfl, rfl, hm'⟩ := hu
    refine j_subl (S' := [[(cur.gl, PL.obj { { cur with rv := .slice (if cap1 = 1 then A1 else A1.map (fun a : Addr => a.add (1 * 2))) (n1 - 1) (cap1 - 1), row := r } with sh := x.2 }), (cur.gh, .map es' ck')], [(g22, .cells [Value.int .i64 x.1, .bool x.2].toArray 102 (0, 0))], [(p.gt, p.tobj)], [(p.gL, .map p.Les p.Lck)], [(p.gW, .map wes' wck)], cur.rc, restH a b, oc]) (by repeat first | exact List.Sublist.refl _ | exact List.nil_sublist _ | apply List.Sublist.cons_cons | apply List.Sublist.cons) ?_
    refine j_q (qs_field Try.underlying102 rfl sz3 (by decide) rfl) ?_
    first
      | refine j_q (qs_loadk 0 Try.underlying3 rfl rfl (by first | omega | (simp only [Bool.and_eq_true, Bool.or_eq_true, Bool.and_eq_false_iff, Bool.or_eq_false_iff, Bool.not_eq_true', Bool.not_eq_false', decide_eq_true_eq, decide_eq_false_iff_not, beq_iff_eq, beq_eq_false_iff_ne, bne_iff_ne, bne_eq_false_iff_eq, ne_eq, Int.toNat_natCast] at *; omega))) ?_
      | refine j_q (qs_loadk 1 Try.underlying3 rfl rfl (by first | omega | (simp only [Bool.and_eq_true, Bool.or_eq_true, Bool.and_eq_false_iff, Bool.or_eq_false_iff, Bool.not_eq_true', Bool.not_eq_false', decide_eq_true_eq, decide_eq_false_iff_not, beq_iff_eq, beq_eq_false_iff_ne, bne_iff_ne, bne_eq_false_iff_eq, ne_eq, Int.toNat_natCast] at *; omega))) ?_
      | refine j_q (qs_loadk 2 Try.underlying3 rfl rfl (by first | omega | (simp only [Bool.and_eq_true, Bool.or_eq_true, Bool.and_eq_false_iff, Bool.or_eq_false_iff, Bool.not_eq_true', Bool.not_eq_false', decide_eq_true_eq, decide_eq_false_iff_not, beq_iff_eq, beq_eq_false_iff_ne, bne_iff_ne, bne_eq_false_iff_eq, ne_eq, Int.toNat_natCast] at *; omega))) ?_
      | refine j_q (qs_loadk 3 Try.underlying3 rfl rfl (by first | omega | (simp only [Bool.and_eq_true, Bool.or_eq_true, Bool.and_eq_false_iff, Bool.or_eq_false_iff, Bool.not_eq_true', Bool.not_eq_false', decide_eq_true_eq, decide_eq_false_iff_not, beq_iff_eq, beq_eq_false_iff_ne, bne_iff_ne, bne_eq_false_iff_eq, ne_eq, Int.toNat_natCast] at *; omega))) ?_
      | refine j_q (qs_loadk 4 Try.underlying3 rfl rfl (by first | omega | (simp only [Bool.and_eq_true, Bool.or_eq_true, Bool.and_eq_false_iff, Bool.or_eq_false_iff, Bool.not_eq_true', Bool.not_eq_false', decide_eq_true_eq, decide_eq_false_iff_not, beq_iff_eq, beq_eq_false_iff_ne, bne_iff_ne, bne_eq_false_iff_eq, ne_eq, Int.toNat_natCast] at *; omega))) ?_
      | refine j_q (qs_loadk 5 Try.underlying3 rfl rfl (by first | omega | (simp only [Bool.and_eq_true, Bool.or_eq_true, Bool.and_eq_false_iff, Bool.or_eq_false_iff, Bool.not_eq_true', Bool.not_eq_false', decide_eq_true_eq, decide_eq_false_iff_not, beq_iff_eq, beq_eq_false_iff_ne, bne_iff_ne, bne_eq_false_iff_eq, ne_eq, Int.toNat_natCast] at *; omega))) ?_
      | refine j_q (qs_loadk 6 Try.underlying3 rfl rfl (by first | omega | (simp only [Bool.and_eq_true, Bool.or_eq_true, Bool.and_eq_false_iff, Bool.or_eq_false_iff, Bool.not_eq_true', Bool.not_eq_false', decide_eq_true_eq, decide_eq_false_iff_not, beq_iff_eq, beq_eq_false_iff_ne, bne_iff_ne, bne_eq_false_iff_eq, ne_eq, Int.toNat_natCast] at *; omega))) ?_
      | refine j_q (qs_loadk 7 Try.underlying3 rfl rfl (by first | omega | (simp only [Bool.and_eq_true, Bool.or_eq_true, Bool.and_eq_false_iff, Bool.or_eq_false_iff, Bool.not_eq_true', Bool.not_eq_false', decide_eq_true_eq, decide_eq_false_iff_not, beq_iff_eq, beq_eq_false_iff_ne, bne_iff_ne, bne_eq_false_iff_eq, ne_eq, Int.toNat_natCast] at *; omega))) ?_
      | refine j_q (qs_loadk 8 Try.underlying3 rfl rfl (by first | omega | (simp only [Bool.and_eq_true, Bool.or_eq_true, Bool.and_eq_false_iff, Bool.or_eq_false_iff, Bool.not_eq_true', Bool.not_eq_false', decide_eq_true_eq, decide_eq_false_iff_not, beq_iff_eq, beq_eq_false_iff_ne, bne_iff_ne, bne_eq_false_iff_eq, ne_eq, Int.toNat_natCast] at *; omega))) ?_
      | refine j_q (qs_loadk 9 Try.underlying3 rfl rfl (by first | omega | (simp only [Bool.and_eq_true, Bool.or_eq_true, Bool.and_eq_false_iff, Bool.or_eq_false_iff, Bool.not_eq_true', Bool.not_eq_false', decide_eq_true_eq, decide_eq_false_iff_not, beq_iff_eq, beq_eq_false_iff_ne, bne_iff_ne, bne_eq_false_iff_eq, ne_eq, Int.toNat_natCast] at *; omega))) ?_
      | refine j_q (qs_load 0 Try.underlying3 rfl rfl rfl rfl) ?_
      | refine j_q (qs_load 1 Try.underlying3 rfl rfl rfl rfl) ?_
      | refine j_q (qs_load 2 Try.underlying3 rfl rfl rfl rfl) ?_
      | refine j_q (qs_load 3 Try.underlying3 rfl rfl rfl rfl) ?_
      | refine j_q (qs_load 4 Try.underlying3 rfl rfl rfl rfl) ?_
      | refine j_q (qs_load 5 Try.underlying3 rfl rfl rfl rfl) ?_
      | refine j_q (qs_load 6 Try.underlying3 rfl rfl rfl rfl) ?_
      | refine j_q (qs_load 7 Try.underlying3 rfl rfl rfl rfl) ?_
      | refine j_q (qs_load 8 Try.underlying3 rfl rfl rfl rfl) ?_
      | refine j_q (qs_load 9 Try.underlying3 rfl rfl rfl rfl) ?_
    refine j_lit (vs := [.int .i64 _]) Try.underlying36 sz3 zero3 rfl (by simp [oneV]) ⟨rfl, by decide⟩ (fun g41 v41 c41 hv41 hc41 ho41 => ?_)
    subst hv41 hc41
    refine j_append 8 Try.underlying36 Try.underlying36 (.inr ⟨_, rfl⟩) sb3 zero3 rfl ho rfl (.inl ⟨_, _, rfl, own_rd ho41 0 rfl, rfl⟩) (by intro u hu; rw [List.mem_singleton] at hu; rw [hu]; rfl) ⟨(by simp only [ks_length, List.length_singleton]; omega), (by decide)⟩ (fun v42 c42 ho42 => ?_)
    have ho42' : Sx.Own 3 1 (ks .i64 (out ++ [x.1])) v42 c42 := by
      have e : ks .i64 (out ++ [x.1]) = ks .i64 out ++ [Value.int .i64 x.1] := by simp [ks]
      rw [e]
      exact ho42
    refine j_perm (S' := [[(p.gt, p.tobj)], [(p.gL, .map p.Les p.Lck)], [(p.gW, .map wes' wck)], [(cur.gl, PL.obj { cur with rv := .slice (if cap1 = 1 then A1 else A1.map (fun a : Addr => a.add (1 * 2))) (n1 - 1) (cap1 - 1), row := r, sh := x.2, hes := es', hck := ck', hm := aset cur.hm x.1 x.2 })], [(cur.gh, PL.hobj { cur with rv := .slice (if cap1 = 1 then A1 else A1.map (fun a : Addr => a.add (1 * 2))) (n1 - 1) (cap1 - 1), row := r, sh := x.2, hes := es', hck := ck', hm := aset cur.hm x.1 x.2 })], cur.rc, restH a b, c42, [(g41, .cells [Value.int .i64 x.1].toArray 3 (0, 0))], [(g22, .cells [Value.int .i64 x.1, .bool x.2].toArray 102 (0, 0))]]) (by classical exact List.perm_iff_count.2 fun a => by simp only [PT.heap, PT.base, PL.heap, PT.tobj, PL.obj, PL.hobj, List.set_cons_succ, List.set_cons_zero, List.flatten_cons, List.flatten_nil, List.append_nil, List.nil_append, List.map_append, List.map_cons, List.map_nil, List.flatten_append, List.count_append, List.count_cons, List.count_nil]; omega) ?_
    refine j_subl (S' := [[(p.gt, p.tobj)], [(p.gL, .map p.Les p.Lck)], [(p.gW, .map wes' wck)], [(cur.gl, PL.obj { cur with rv := .slice (if cap1 = 1 then A1 else A1.map (fun a : Addr => a.add (1 * 2))) (n1 - 1) (cap1 - 1), row := r, sh := x.2, hes := es', hck := ck', hm := aset cur.hm x.1 x.2 })], [(cur.gh, PL.hobj { cur with rv := .slice (if cap1 = 1 then A1 else A1.map (fun a : Addr => a.add (1 * 2))) (n1 - 1) (cap1 - 1), row := r, sh := x.2, hes := es', hck := ck', hm := aset cur.hm x.1 x.2 })], cur.rc, restH a b, c42]) (by repeat first | exact List.Sublist.refl _ | exact List.nil_sublist _ | apply List.Sublist.cons_cons | apply List.Sublist.cons) ?_
    refine j_back rfl ?_
    exact ⟨r.length, by omega, { cur with rv := .slice (if cap1 = 1 then A1 else A1.map (fun a : Addr => a.add (1 * 2))) (n1 - 1) (cap1 - 1), row := r, sh := x.2, hes := es', hck := ck', hm := aset cur.hm x.1 x.2 }, mdel wm x.1, wes', wck, out ++ [x.1], _, c42, rfl, rfl, rfl, ⟨hm', hok1.row, hok1.rowOk, by show (aset cur.hm x.1 x.2).length + r.length ≤ B; omega⟩, hWm', ho42', by show goesF r (aset cur.hm x.1 x.2) x.2 (mdel wm x.1) (out ++ [x.1]) = _; rw [← hgoes, hxr, goes_hit hgo], by show (out ++ [x.1]).length + r.length ≤ B; rw [List.length_append, List.length_singleton]; omega, fun q hq => hsubw q ((List.mem_filter.1 hq).1), rfl⟩
  · skip
    have hend : goesF cur.row cur.hm cur.sh wm out = (cur.hm, cur.row, cur.sh, wm, out) := by
      by_cases hne : cur.row = []
      · rw [hne]; rfl
      · obtain ⟨x, r, hxr⟩ := List.exists_cons_of_ne_nil hne
        rw [hxr]
        refine goes_miss ?_
        have h0 : decide ((n1 : Int) > 0) = true := by
          have := List.length_pos_iff.2 hne
          rw [decide_eq_true_eq]
          omega
        rw [h0, Bool.true_and] at hc0
        rw [hxr] at hc0
        exact hc0
    refine j_perm (S' := [PT.heap { p with Wes := wes, Wck := wck, wm := wm, lm := aset p.lm n cur }, oc]) (by simpa [List.append_assoc] using (PT.close_ (l' := cur) hab hna hnb wes wck wm).append_right oc) ?_
    refine j_ret_con (vs := [_]) (fun w' hw' => ⟨rfl, trivial⟩) ?_
    refine ⟨_, cur, out, oc, rfl, ho, rfl, hok.put hl hgl hcok (Nat.le_refl _) hWm (fun q hq => hok.wl q (hsubw q hq)), rfl, rfl, ?_, by omega⟩
    rw [← hgoes, hend]
end Go.Proofs.Ytlgfpoelhjlifaa
