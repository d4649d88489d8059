/- Part 5. -/
import Derived.Test.YtfeabbeebkkhaaaGreatPC4
import Derived.Test.YtfeabbeebkkhaaaGreatPC2
import Derived.Test.YtfeabbeebkkhaaaGreatPC3
import Derived.RangeFuncBox
import Derived.RangeFuncLeaves
import Derived.Shelf.Abstract
import Derived.WalkKit
import Derived.OwnWalkIn
import Derived.TacticsInMore
import Derived.LoopNIn
import Derived.LoopIn
import Derived.Sort.EncStr
import Derived.Test.YtfeabbeebkkhaaaGreatProg
import Derived.Maps.AppendAt
import Derived.ProofKit
import Derived.Carry
import Derived.ChangeSlices
import Derived.SizedLaws
import Derived.SliceStrings
import Derived.Laws.LoneSync
import Derived.Lib.Bytealg
import Derived.LaidEql
/-! Sx15 -/
namespace Go.Sx
open Go Go.MapKept Go.WideMaps Go.Maps
set_option linter.unusedVariables false
set_option linter.unusedSimpArgs false
variable {P : Program} {R : Ending → World → Prop} {env : Env} {b : Base} {S : List SH} {B : JB} {T : Tree} {v : Value} {ty : TypeId}
theorem eqItems_ints {e : TypeId} (he : P.underlying e = some (.int .u8)) (hpl : P.plainKey e = true) {l m : List UInt8} (w : World) (d : Nat) : ∀ (is : List Nat), (∀ i ∈ is, i < l.length ∧ i < m.length) →
    (Op.eqItems (d + 1) e 1 (ints l).toArray (ints m).toArray is).run P w = .ok (is.all fun i => l.getD i 0 == m.getD i 0) w
  | [], _ => by simp [Op.eqItems]
  | i :: is, h => by
    have h0 := h i (by simp)
    have p1 := run_part_plain (w := w) hpl (xs := (ints l).toArray) (off := i) (v := .int .u8 ((l.getD i 0).toNat : Int)) (by simpa using ints_get_lt h0.1)
    have p2 := run_part_plain (w := w) hpl (xs := (ints m).toArray) (off := i) (v := .int .u8 ((m.getD i 0).toNat : Int)) (by simpa using ints_get_lt h0.2)
    have p3 : (Op.equalIn (d + 1) e (.int .u8 ((l.getD i 0).toNat : Int)) (.int .u8 ((m.getD i 0).toNat : Int))).run P w = .ok (((l.getD i 0).toNat : Int) == ((m.getD i 0).toNat : Int)) w := by
      simp only [Op.equalIn, Sem.run_bind, run_underlying_ok he, Result.andThen_ok, if_true, Sem.run_pure]
    have hcmp : (((l.getD i 0).toNat : Int) == ((m.getD i 0).toNat : Int)) = (l.getD i 0 == m.getD i 0) := by
      rw [Bool.eq_iff_iff, beq_iff_eq, beq_iff_eq]
      exact ⟨fun h => UInt8.toNat_inj.1 (by omega), fun h => by rw [h]⟩
    have ih := eqItems_ints he hpl (l := l) (m := m) w d is fun j hj => h j (by simp [hj])
    simp only [Op.eqItems, Nat.mul_one, Sem.run_bind, p1, p2, p3, Result.andThen_ok, hcmp, List.all_cons]
    cases hb : (l.getD i 0 == m.getD i 0)
    · simp
    · simpa using ih
theorem run_eqa {t e : TypeId} {n : Nat} (ht : P.underlying t = some (.array n e)) (he : P.underlying e = some (.int .u8)) (hpl : P.plainKey e = true) (hc : P.cellsOf e = 1) {l m : List UInt8} (hl : l.length = n) (hm : m.length = n) (w : World) (d : Nat) :
    (Op.equalIn (d + 2) t (.agg (ints l).toArray) (.agg (ints m).toArray)).run P w = .ok (l == m) w := by
  obtain ⟨i, hi⟩ := info_of_underlying he
  rw [run_equalIn_array w (d + 1) _ _ ht hi, hc, eqItems_ints he hpl w d _ (fun i hi => by rw [List.mem_range] at hi; omega)]
  congr 1
  rw [Bool.eq_iff_iff, List.all_eq_true, beq_iff_eq]
  constructor
  · intro h
    apply List.ext_getElem (by omega)
    intro i h1 h2
    have := h i (by rw [List.mem_range]; omega)
    rw [beq_iff_eq, List.getD_eq_getElem?_getD, List.getD_eq_getElem?_getD, List.getElem?_eq_getElem h1, List.getElem?_eq_getElem h2] at this
    simpa using this
  · rintro rfl i _
    simp
theorem run_eqa_op {op : BinOp} {t t' e : TypeId} {x y : Operand} {n : Nat} (hop : op = .eql ∨ op = .neq) (ht : P.underlying t = some (.array n e)) (he : P.underlying e = some (.int .u8)) (hpl : P.plainKey e = true) (hc : P.cellsOf e = 1) (hgd : P.eqGuardType P.depth t = false) {l m : List UInt8} (hx : ev env x = .agg (ints l).toArray) (hy : ev env y = .agg (ints m).toArray) (hl : l.length = n) (hm : m.length = n) (w : World) :
    (execOp (ev env) (O (.binOp op t x y t') ty)).run P w = .ok (.value (.bool (if op = .eql then l == m else !(l == m)))) w := by
  have hg : ∀ w, (eqGuard op t x y (.agg (ints l).toArray) (.agg (ints m).toArray)).run P w = .ok () w := fun w => by
    unfold eqGuard
    rcases hop with rfl | rfl <;> simp [Sem.run_bind, program, Sem.run, hgd]
  have he' : (Op.equal t (.agg (ints l).toArray) (.agg (ints m).toArray)).run P w = .ok (l == m) w := run_eqa ht he hpl hc hl hm w 9998
  have hb : binOp op t (.agg (ints l).toArray) (.agg (ints m).toArray) = (match op with | .eql => (do pure (.bool (← Op.equal t (.agg (ints l).toArray) (.agg (ints m).toArray)))) | _ => (do pure (.bool (!(← Op.equal t (.agg (ints l).toArray) (.agg (ints m).toArray)))))) := by
    rcases hop with rfl | rfl <;> rfl
  simp only [O, execOp, hx, hy, hg, Sem.run_bind, Sem.run_pure, Result.andThen_ok]
  rw [hb]
  rcases hop with rfl | rfl <;> simp [Sem.run_bind, he', Sem.run_pure, Result.andThen_ok]
theorem qs_ane {t t' e : TypeId} {x y : Operand} {n : Nat} (ht : P.underlying t = some (.array n e)) (he : P.underlying e = some (.int .u8)) (hpl : P.plainKey e = true) (hc : P.cellsOf e = 1) (hgd : P.eqGuardType P.depth t = false) {l m : List UInt8} (hx : ev env x = .agg (ints l).toArray) (hy : ev env y = .agg (ints m).toArray) (hl : l.length = n) (hm : m.length = n) :
    QS P (O (.binOp .neq t x y t') ty) env b S (.bool (!(l == m))) := qs_run fun w => run_eqa_op (.inr rfl) ht he hpl hc hgd hx hy hl hm w
theorem qs_loadwR {t : TypeId} {d : TypeDesc} {x : Operand} {g off n : Nat} {vs : List Value} (hr : Rd b S ⟨g, off, none⟩ vs) (hu : P.underlying t = some d) (hd : flat d = false) (hz : (P.info? t).map (·.size) = some n) (hx : ev env x = .pointer (some ⟨g, off, none⟩)) (hl : vs.length = n) : QS P (O (.load t x) ty) env b S (.agg vs.toArray) := qs_val fun w hw => by
  have h := run_loadVar_agg hu hd hz (g := g) (off := off) (w := w) hl (fun j hj => by
    obtain ⟨u, hu⟩ : ∃ u, vs[j]? = some u := ⟨vs[j]'(by omega), List.getElem?_eq_getElem (by omega)⟩
    have := hr w hw j u hu
    rw [add_off] at this
    rw [this, hu])
  simp only [O, execOp, hx, Instr.loadAt, Instr.sureAddr, Sem.run_bind, Sem.run_pure, Result.andThen_ok, h]
theorem run_firstsN {m n : Nat} {y : Value} {news : List Value} (h : Src b S 1 y m news) (hn : n ≤ m) {w : World} (hw : Sig b S w) : (Builtin.firstCells 1 n y).run P w = .ok (news.take n).toArray w := by
  rcases h with ⟨a, c, rfl, hr, hl⟩ | ⟨c, rfl, rfl, rfl⟩ | ⟨l, rfl, _, rfl, rfl⟩
  · refine run_firstCells_some w 1 n a m c (news.take n) (by rw [List.length_take, hl]; omega) (fun j u hu => ?_)
    rw [List.getElem?_take] at hu
    split at hu
    · exact hr w hw j u hu
    · cases hu
  · obtain rfl : n = 0 := by omega
    simp only [Builtin.firstCells, Sem.run_pure, List.take_nil]
  · simp only [Builtin.firstCells, Sem.run_pure, bs_extract]
    congr 1
    apply Array.ext'
    simp [ints, bs]
theorem j_copy {t t' e : TypeId} {x y : Operand} {g off dn dc m : Nat} {l news : List Value} {e' : TypeId} {fz : Nat × Nat} (k : Nat) (ht : P.underlying t = some (.slice e)) (hz : (P.info? e).map (·.size) = some 1) (hx : ev env x = .slice (some ⟨g, off, none⟩) dn dc) (hy : Src b S 1 (ev env y) m news) (hk : S[k]? = some [(g, .cells l.toArray e' fz)])
    (hone : ∀ u ∈ news, oneV u = true) (hi : off + dn ≤ l.length) (hf : ∀ j, off ≤ j → j < off + dn → ¬ (fz.1 ≤ j ∧ j < fz.2))
    (h : J P R T (.int .i64 (min m dn : Nat) :: env) (S.set k [(g, .cells (l.take off ++ news.take (min m dn) ++ l.drop (off + min m dn)).toArray e' fz)]) b B) :
    J P R (.op (O (.call ⟨.builtin .copy, #[x, y], #[t, t']⟩) ty) T) env S b B := fun w hw => by
  have hg := hw.at_ hk
  have hml := src_len hy
  rw [Nat.mul_one] at hml
  have hsize : ∀ w, (sizeOf e).run P w = .ok 1 w := run_sizeOf_ok hz
  have hlen : (news.take (min m dn)).length = min m dn := by rw [List.length_take]; omega
  obtain ⟨w', e1, e2, e3, e4, e5, e6, e7⟩ := run_storeCells_ok (P := P) (news.take (min m dn)) off 0 l w hg (by rw [hlen]; omega) (fun j h1 h2 => hf j (by omega) (by rw [hlen] at h2; omega)) (fun v hv => hone v (List.mem_of_mem_take hv))
  have hfc := run_firstsN (P := P) (n := min m dn) hy (by omega) hw
  have hmin : Nat.min m dn = min m dn := rfl
  have hrun : (execOp (ev env) (O (.call ⟨.builtin .copy, #[x, y], #[t, t']⟩) ty)).run P w = .ok (.value (.int .i64 (min m dn : Nat))) w' := by
    simp [O, execOp, resolve, invoke, builtin, Sem.run_bind, Sem.run_pure, Result.andThen_ok, hx, Builtin.copy_, run_underlying_ok ht, run_lenOf hy, hsize, hmin, hfc]
    simp only [e1, Result.andThen_ok]
    rfl
  show opW _ _ _ _ _ _
  unfold opW
  rw [hrun]
  refine h _ (hw.set hk e2 e3 e4 e5 ?_ e7)
  rw [e6, hlen]
  simp
def putAt (l : List Value) (off : Nat) (vs : List Value) : List Value := l.take off ++ vs ++ l.drop (off + vs.length)
theorem putAt_length {l vs : List Value} {off : Nat} (h : off + vs.length ≤ l.length) : (putAt l off vs).length = l.length := by
  simp only [putAt, List.length_append, List.length_take, List.length_drop]; omega
theorem fold_put : ∀ (vs : List Value) (i off : Nat) (l : List Value), off + i + vs.length ≤ l.length →
    (vs.zipIdx i).foldl (fun cs (p : Value × Nat) => Array.setIfInBounds cs (off + p.2) p.1) l.toArray = (putAt l (off + i) vs).toArray
  | [], i, off, l, _ => by simp [putAt]
  | v :: vs, i, off, l, h => by
    simp only [List.length_cons] at h
    rw [List.zipIdx_cons, List.foldl_cons]
    have e1 : Array.setIfInBounds l.toArray (off + i) v = (l.set (off + i) v).toArray := by apply Array.ext'; simp
    simp only [e1]
    rw [fold_put vs (i + 1) off (l.set (off + i) v) (by simp; omega)]
    congr 1
    unfold putAt
    rw [show off + (i + 1) = off + i + 1 by omega, take_set_succ (by omega), List.drop_set_of_lt (by omega)]
    simp only [List.length_cons, List.append_assoc, List.singleton_append]
    congr 3
    omega
theorem fill_put {place : Nat → Option (Nat × Nat)} : ∀ (parts : List (Nat × Value)) (offs : List (Nat × List Value)) (l : List Value), offs.length = parts.length → (∀ (j : Nat) (p : Nat × Value) (q : Nat × List Value), parts[j]? = some p → offs[j]? = some q → place p.1 = some (q.1, q.2.length) ∧ p.2.cells = q.2.toArray ∧ q.1 + q.2.length ≤ l.length) →
    Instr.fill place l.toArray parts = some (offs.foldl (fun l q => putAt l q.1 q.2) l).toArray
  | [], [], l, _, _ => by simp [Instr.fill]
  | p :: parts, q :: offs, l, hl, h => by
    obtain ⟨h1, h2, h3⟩ := h 0 p q rfl rfl
    obtain ⟨i, v⟩ := p
    simp only at h1 h2
    unfold Instr.fill
    simp only [h1, h2, List.size_toArray, ne_eq, not_true_eq_false, decide_false, Bool.false_or]
    rw [if_neg (by simp; omega)]
    have e1 : (q.2.toArray.zipIdx.foldl (fun cs x => match x with | (c, j) => Array.setIfInBounds cs (q.1 + j) c) l.toArray) = (putAt l q.1 q.2).toArray := by
      have := fold_put q.2 0 q.1 l (by simpa using h3)
      rw [Nat.add_zero] at this
      rw [← this, ← Array.foldl_toList, Array.toList_zipIdx]
    rw [e1]
    have hl2 := putAt_length h3
    refine fill_put parts offs (putAt l q.1 q.2) (by simpa using hl) fun j p' q' hp hq => ?_
    rw [hl2]
    exact h (j + 1) p' q' hp hq
  | [], _ :: _, _, hl, _ => by simp at hl
  | _ :: _, [], _, hl, _ => by simp at hl
theorem qs_build {t : TypeId} {fs : Array Field} {parts : Array (Nat × Operand)} {places : List (Nat × Nat)} {offs : List (Nat × List Value)} {z : List Value} (ht : P.underlying t = some (.struct fs)) (h0 : zeroL P t = some z) (hpl : fs.toList.mapM (fun f => (P.info? f.type).map fun i => (f.offset, i.size)) = some places)
    (hlen : offs.length = parts.toList.length) (h : ∀ (j : Nat) (p : Nat × Operand) (q : Nat × List Value), parts.toList[j]? = some p → offs[j]? = some q → places[p.1]? = some (q.1, q.2.length) ∧ (ev env p.2).cells = q.2.toArray ∧ q.1 + q.2.length ≤ z.length) :
    QS P (O (.build t parts) ty) env b S (.agg (offs.foldl (fun l q => putAt l q.1 q.2) z).toArray) := qs_run fun w => by
  obtain ⟨zv, hzv, hrunz⟩ := run_zero_ok h0
  have hm : ∀ (l : List Field) (pl : List (Nat × Nat)), l.mapM (fun f => (P.info? f.type).map fun i => (f.offset, i.size)) = some pl → (l.mapM (fun f => do pure (f.offset, ← sizeOf f.type) : Field → Sem (Nat × Nat))).run P w = .ok pl w := by
    intro l
    induction l with
    | nil => intro pl h; simp at h; subst h; rfl
    | cons f l ih =>
      intro pl h
      rw [List.mapM_cons] at h ⊢
      simp only [bind, Option.bind_eq_some_iff, pure, Option.some.injEq] at h
      obtain ⟨a, ha, l', hl', rfl⟩ := h
      obtain ⟨i, hi, rfl⟩ := Option.map_eq_some_iff.1 ha
      have hs : (sizeOf f.type).run P w = .ok i.size w := run_sizeOf_ok (by rw [hi]; rfl) w
      simp only [Sem.run_bind, hs, Result.andThen_ok, Sem.run_pure, ih l' hl']
  have hfill := fill_put (place := (places.toArray[·]?)) (parts.toList.map fun p => (p.1, ev env p.2)) offs z (by simpa using hlen) fun j p q hp hq => by
    rw [List.getElem?_map] at hp
    obtain ⟨p', hp', rfl⟩ := Option.map_eq_some_iff.1 hp
    obtain ⟨h1, h2, h3⟩ := h j p' q hp' hq
    exact ⟨by simpa using h1, h2, h3⟩
  have hmA : (fs.mapM (fun f => do pure (f.offset, ← sizeOf f.type) : Field → Sem (Nat × Nat))).run P w = .ok places.toArray w := by
    have e : fs.mapM (fun f => do pure (f.offset, ← sizeOf f.type) : Field → Sem (Nat × Nat)) = List.toArray <$> fs.toList.mapM (fun f => do pure (f.offset, ← sizeOf f.type) : Field → Sem (Nat × Nat)) := by rw [← List.mapM_toArray, Array.toArray_toList]
    rw [e, map_eq_pure_bind, Sem.run_bind, hm _ _ hpl]
    rfl
  have hparts : (parts.map fun x => match x with | (i, x) => (i, ev env x)).toList = parts.toList.map fun p => (p.1, ev env p.2) := by simp
  simp only [O, execOp, Instr.build, Sem.run_bind, hrunz, Result.andThen_ok, run_underlying_ok ht, hmA, hzv, hparts, hfill, Sem.run_pure]
theorem Con.mono {f : FuncId} {args : List Value} {w : World} {Fp : SH} {post post' : Value → List SH → Prop} (h : Con P f args w Fp post) (hp : ∀ v S', post v S' → post' v S') : Con P f args w Fp post' := fun h1 h2 => by
  refine (h h1 h2).mono ?_
  rintro e w' ⟨v, S', rfl, h3, hS⟩
  exact ⟨v, S', rfl, hp _ _ h3, hS⟩
theorem con_calls {f : FuncId} {args : List Value} {w : World} {post : Value → List SH → Prop} (h : Calls P f args.toArray w fun e w' => ∃ v S', e = .returned v ∧ post v S' ∧ Sig ⟨w, dom []⟩ S' w') : Con P f args w [] post := fun _ _ => h
end Go.Sx
/-! Srk -/
namespace Go.Proofs.YtfeabbeebkkhaaaGreat
open Go Go.Sx
set_option maxRecDepth 100000
set_option maxHeartbeats 4000000
set_option linter.unusedVariables false
set_option linter.unusedSimpArgs false
attribute [local irreducible] J JQ QS Con W opW
open Go.MapKept Go.WideMaps Go.Maps Go.RowKit Go.Shelf Go.Sort
abbrev strEnc : List UInt8 → Value := fun l => .string (bs l)
abbrev strOk : List UInt8 → Prop := fun l => l.length ≤ 9223372036854775807
theorem sortedKeys_at {H : Type} (Bs b nn : Nat) (D0 : DataW H) (R : Value → Option (DataW H × List MemPlace)) (W : World) (hBs : Bs < W.heap.size) (hc : W.cell? ⟨Bs, 0, none⟩ = some (.map (some b))) (hown : W.ownsMap Tryz.prog 49 R b nn D0) (hmax : Maps.size D0 ≤ maxLen) (hbytes : Maps.size D0 * 16 ≤ 140737488355328) :
    CallsIn Fence.wide 5 Tryz.prog 56 #[.func (.func 108) #[] #[.pointer (some ⟨Bs, 0, none⟩)]] W fun e w' => ∃ (v : Value) (ss : List (List UInt8)), e = .returned v ∧ ss.Perm (strKeys D0) ∧
      w'.ownsRow W.heap.size 49 1 v ss.length ((ss.mergeSort (fun x y => decide (x ≤ y))).map encStr) ∧ (v = .slice none 0 0 ↔ ss = []) ∧ Go.RowKit.Below W.heap.size W w' :=
  AnyZ.sorted_in Tryz.sorted56 Fence.wide 5 trivial trivial trivial trivial rfl (by omega) (Tryz.sorts56 _) (enters_of Tryz.func107 (by kernel_rfl) rfl) 108 #[.pointer (some ⟨Bs, 0, none⟩)] trivial (enters_of Tryz.func108 (by kernel_rfl) rfl) _ _ hmax hbytes _
    (AnyZ.keys_gives (ρ := Tryz.keys57_ren) { Tryz.keys57 with } Fence.wide _ trivial rfl (by omega) Bs b nn D0 W hBs hc hown)
theorem sortedKeys_con (Bs b : Nat) {es : Array MapEntry} {clock : Nat} {m : List (List UInt8 × Value)} (w : World) (hBs : Bs < w.heap.size) (hc : w.cell? ⟨Bs, 0, none⟩ = some (.map (some b))) (hb : w.heap[b]? = some (.map es clock)) (hm : MapOk strEnc strOk es clock m) (hsz : m.length ≤ 1000000000) :
    Con Tryz.prog 56 [.func (.func 108) #[] #[.pointer (some ⟨Bs, 0, none⟩)]] w [] fun v S' => ∃ c zs, S' = [c] ∧ Sx.Own 49 1 (strs zs) v c ∧ Strict zs ∧ ∀ x, x ∈ zs ↔ x ∈ m.map Prod.fst := by
  let R : Value → Option (DataW Unit × List MemPlace) := fun _ => some (.lit (.bool true), [])
  have hkey : ∀ l : List UInt8, l.length ≤ 9223372036854775807 → keyOf Tryz.prog 49 (.string (bs l)) = some (.string l) := fun l hl => by
    have : (bs l).size ≤ maxLen := hl
    simp [keyOf, Tryz.underlying49, mapKey, this, bs_data]
  have hrd : ∀ x ∈ es.toList, ∃ p ∈ m, x.key = strEnc p.1 := fun x hx => by
    have : (x.key, x.val) ∈ m.map (fun p => (strEnc p.1, p.2)) := by rw [← hm.ents]; exact List.mem_map_of_mem (f := fun e : MapEntry => (e.key, e.val)) hx
    obtain ⟨p, hp, e1⟩ := List.mem_map.1 this
    injection e1 with e1 e2
    exact ⟨p, hp, e1.symm⟩
  have hrg : es.toList.map (WideElems.rg Tryz.prog 49 R) = m.map fun p => (Lit.string p.1, DataW.lit (.bool true)) := by
    have e1 : es.toList.map (WideElems.rg Tryz.prog 49 R) = (es.toList.map (fun e => (e.key, e.val))).map fun q => ((keyOf Tryz.prog 49 q.1).map fun k => (k, (DataW.lit (.bool true) : DataW Unit))).getD (.bool false, .nil) := by
      rw [List.map_map]
      refine List.map_congr_left fun x _ => ?_
      simp only [Function.comp, WideElems.rg, WideElems.rd, R, Option.map_some]
      cases keyOf Tryz.prog 49 x.key <;> rfl
    rw [e1, hm.ents, List.map_map]
    refine List.map_congr_left fun p hp => ?_
    simp only [Function.comp, strEnc, hkey p.1 (hm.keys p hp), Option.map_some, Option.getD_some]
  have hfit : WideElems.Fit Tryz.prog 49 R es clock := ⟨by rw [hm.size]; simp only [maxLen]; omega, hm.stamped, fun x hx => by
    obtain ⟨p, hp, e1⟩ := hrd x hx
    exact ⟨(.string p.1, .lit (.bool true)), by simp only [WideElems.rd, e1, strEnc, hkey p.1 (hm.keys p hp), Option.bind_some, R, Option.map_some]⟩⟩
  have hown : w.ownsMap Tryz.prog 49 R b es.size (.map ((es.toList.map (WideElems.rg Tryz.prog 49 R)).foldr DataW.insert [])) := ⟨es, clock, hb, hfit, Nat.le_refl _, rfl⟩
  have hperm := Go.WideShapes.sorted_perm (H := Unit) (es.toList.map (WideElems.rg Tryz.prog 49 R))
  have hsk : (strKeys (DataW.map ((es.toList.map (WideElems.rg Tryz.prog 49 R)).foldr DataW.insert []))).Perm (m.map Prod.fst) := by
    refine (hperm.map _).trans ?_
    rw [hrg, List.map_map]
    exact .of_eq (List.map_congr_left fun p _ => rfl)
  have hsize : Maps.size (DataW.map ((es.toList.map (WideElems.rg Tryz.prog 49 R)).foldr DataW.insert [])) = m.length := by
    have h1 := hperm.length_eq
    have h2 : es.toList.length = m.length := by rw [Array.length_toList, hm.size]
    rw [List.length_map, h2] at h1
    exact h1
  have h := (callsIn_wide (n := 5)).1 (sortedKeys_at Bs b es.size _ R w hBs hc hown (by rw [hsize]; simp only [maxLen]; omega) (by rw [hsize]; omega))
  have hc2 : Con Tryz.prog 56 [.func (.func 108) #[] #[.pointer (some ⟨Bs, 0, none⟩)]] w [] fun v S' => ∃ c, S' = [c] ∧ Sx.Own 49 1 (strs (sortS (m.map Prod.fst))) v c := by
    refine con_of_own (n := (m.map Prod.fst).length) (h.mono ?_)
    rintro e w' ⟨v, ss, rfl, hp, hrow, _, hB⟩
    have hpp := hp.trans hsk
    refine ⟨v, rfl, ?_, hB⟩
    rw [hpp.length_eq, mergeSort_of_perm hpp] at hrow
    unfold sortS
    exact hrow
  refine hc2.mono ?_
  rintro v S' ⟨c, rfl, ho⟩
  refine ⟨c, _, rfl, ho, ?_, fun x => ?_⟩
  · have hs := sortS_sorted (m.map Prod.fst)
    have hnd : (sortS (m.map Prod.fst)).Nodup := by
      unfold sortS
      exact (List.mergeSort_perm _ _).nodup_iff.2 hm.nodup
    unfold Strict
    unfold List.Nodup at hnd
    exact (hs.and hnd).imp fun h => lt_of_le_ne h.1 h.2
  · unfold sortS
    exact List.mem_mergeSort
theorem keys_con (mb : Option Nat) (w : World) : Con Tryz.prog 57 [.map mb] w [] fun v S' => ∃ g, v = .func (.func 108) #[] #[.pointer (some ⟨g, 0, none⟩)] ∧ S' = [[(g, .cells [.map mb].toArray 106 (0, 0))]] := con_calls <| by
  refine ((callsIn_wide (n := 5)).1 (Tryz.maps_Keys_57 mb w)).mono ?_
  rintro e w' ⟨rfl, rfl⟩
  refine ⟨_, _, rfl, ⟨_, rfl, rfl⟩, ?_⟩
  have hs : Sig ⟨w, dom []⟩ [[]] w := ⟨rfl, rfl, rfl, Nat.le_refl _, by simp, by simp, by simp, fun _ _ _ => rfl⟩
  exact (hs.new (o := .cells [.map mb].toArray 106 (0, 0)) (w' := w.alloc (.cells #[.map mb] 106)) rfl rfl rfl rfl).1.sub (by simp)
end Go.Proofs.YtfeabbeebkkhaaaGreat
/-! Val -/
namespace Go.Proofs
open Go.RowKit Go.Shelf
attribute [local go_sem] Oper.semAt_some
def sv_upto {α : Type} (f : Nat → α) (k : Nat) : List α := (List.range k).map f
theorem sv_upto_succ {α : Type} (f : Nat → α) (k : Nat) : sv_upto f (k + 1) = sv_upto f k ++ [f k] := by simp [sv_upto, List.range_succ]
theorem sv_upto_length {α : Type} (f : Nat → α) (k : Nat) : (sv_upto f k).length = k := by simp [sv_upto]
theorem sv_upto_all (zs : List (List UInt8)) : sv_upto (fun j => zs[j]?.getD []) zs.length = zs := by
  apply List.ext_getElem
  · simp [sv_upto]
  · intro i h1 h2
    simp [sv_upto, h2]
set_option maxRecDepth 100000 in
set_option maxHeartbeats 2000000 in
theorem sv_values1_in (F : Fence) (n : Nat) (h7 : F.fn 163) (hro : F.round = none) (hn : 1 ≤ n) (l Bs n₀ b off len cap : Nat) (zs : List (List UInt8)) (hreach : len * 16 ≤ 140737488351232) (hb : b < n₀) (J Jx : List (List UInt8) → World → Prop)
    (hY : ∀ pre x W, J pre W → pre.length < len → YieldAt F (n - 1) Tryz.prog l #[encStr x] W fun e W' =>
      (e = .returned (.bool true) ∧ J (pre ++ [x]) W' ∧ Below n₀ W W') ∨ (e = .returned (.bool false) ∧ Jx (pre ++ [x]) W'))
    (W : World) (hBs : W.cell? ⟨Bs, 0, none⟩ = some (.slice (some ⟨b, off, none⟩) len cap)) (hc : ∀ j, j < len → W.cell? ⟨b, off + j, none⟩ = some (encStr (zs[j]?.getD []))) (h0 : J [] W) :
    CallsIn F n Tryz.prog 163 #[.func (.yield l) #[] #[], .pointer (some ⟨Bs, 0, none⟩)] W fun e W' => (∃ v, e = .returned v) ∧
      ((∃ ys, ys = sv_upto (fun j => zs[j]?.getD []) len ∧ J ys W') ∨ (∃ pre, (∃ k, k ≤ len ∧ pre = sv_upto (fun j => zs[j]?.getD []) k) ∧ Jx pre W')) := by
  refine callsIn_of_wp Tryz.func163 rfl h7 ?_ hro
  simp only [Tryz.ntmps163, List.size_toArray, List.length_cons, List.length_nil, Nat.reduceAdd, Nat.reduceSub, Array.replicate_succ, Array.replicate_zero, List.push_toArray, List.append_toArray, List.nil_append, List.cons_append]
  gi_wp2
  gi_loopw [7] (fun i wr => ∃ k : Nat, k ≤ len ∧ i = .int .i64 k ∧ J (sv_upto (fun j => zs[j]?.getD []) k) wr ∧ Below n₀ W wr)
    (fun i _ => len - (intOf i).toNat)
  case atStart => exact ⟨0, Nat.zero_le _, rfl, h0, Below.refl _ _⟩
  case round =>
    obtain ⟨k, hk, rfl, hJs, hnx⟩ := hrel
    have hcx : k < len → wr.cell? ⟨b, off + k, none⟩ = some (encStr (zs[k]?.getD [])) := fun h => (hnx.cell (p := ⟨b, off + k, none⟩) hb).trans (hc k h)
    by_cases hlt : k < len
    · obtain ⟨fn, tmps, assign, body, hy, hR⟩ := hY _ (zs[k]?.getD []) wr hJs (by rw [sv_upto_length]; exact hlt)
      have hcx' := hcx hlt
      gi_wp2
      refine hR.mono ?_
      rintro e W3 (⟨rfl, hJ3, hk3⟩ | ⟨rfl, hJx3⟩)
      · -- THE ROUND GOES ON
        gi_wp2
        go_roundw
        case rel => exact ⟨k + 1, by omega, by simp, by rw [sv_upto_succ]; exact hJ3, hnx.trans hk3⟩
        case measure => simp [intOf]; omega
      · gi_wp2
        refine bodyPost_ret (results_none rfl _ _ _) rfl ?_
        exact ⟨⟨_, rfl⟩, .inr ⟨_, ⟨k + 1, by omega, (sv_upto_succ _ _).symm⟩, hJx3⟩⟩
    · obtain rfl : k = len := by omega
      gi_wp2
      go_end0
      exact ⟨⟨_, rfl⟩, .inl ⟨_, rfl, hJs⟩⟩
theorem sv_upto_take (zs : List (List UInt8)) {k : Nat} (hk : k ≤ zs.length) : sv_upto (fun j => zs[j]?.getD []) k = zs.take k := by
  apply List.ext_getElem
  · simp [sv_upto, hk]
  · intro i h1 h2
    have : i < zs.length := by simp [sv_upto] at h1; omega
    simp [sv_upto, this]
def SVals (n₀ : Nat) (W : World) (sv : Value) (zs : List (List UInt8)) : Prop :=
  (sv = .slice none 0 0 ∧ zs = []) ∨ ∃ b off cap, sv = .slice (some ⟨b, off, none⟩) zs.length cap ∧ b < n₀ ∧ ∀ j, j < zs.length → W.cell? ⟨b, off + j, none⟩ = some (encStr (zs[j]?.getD []))
theorem SVals.below {n₀ : Nat} {A B : World} (h : Below n₀ A B) {sv : Value} {zs : List (List UInt8)} : SVals n₀ A sv zs → SVals n₀ B sv zs
  | .inl e => .inl e
  | .inr ⟨b, off, cap, e, hb, hc⟩ => .inr ⟨b, off, cap, e, hb, fun j hj => (h.cell (p := ⟨b, off + j, none⟩) hb).trans (hc j hj)⟩
set_option maxRecDepth 100000 in
set_option maxHeartbeats 1000000 in
theorem sv_values1_nil_in (F : Fence) (n : Nat) (h7 : F.fn 163) (hro : F.round = none) (l Bs : Nat) (J : List (List UInt8) → World → Prop) (W : World) (hBs : W.cell? ⟨Bs, 0, none⟩ = some (.slice none 0 0)) (h0 : J [] W) :
    CallsIn F n Tryz.prog 163 #[.func (.yield l) #[] #[], .pointer (some ⟨Bs, 0, none⟩)] W fun e W' => (∃ v, e = .returned v) ∧ J [] W' := by
  refine callsIn_of_wp Tryz.func163 rfl h7 ?_ hro
  simp only [Tryz.ntmps163, List.size_toArray, List.length_cons, List.length_nil, Nat.reduceAdd, Nat.reduceSub, Array.replicate_succ, Array.replicate_zero, List.push_toArray, List.append_toArray, List.nil_append, List.cons_append]
  gi_wp2
  gi_loopw [7] (fun i wr => i = .int .i64 0 ∧ J [] wr) (fun _ _ => 0)
  case atStart => exact ⟨rfl, h0⟩
  case round =>
    obtain ⟨rfl, hJs⟩ := hrel
    gi_wp2
    go_end0
    exact ⟨⟨_, rfl⟩, hJs⟩
theorem sv_values_stops (F : Fence) (n : Nat) (h7 : F.fn 163) (hro : F.round = none) (hn : 1 ≤ n) (Bs n₀ : Nat) (sv : Value) (zs : List (List UInt8)) (hreach : zs.length * 16 ≤ 140737488351232) (w : World) (hBs : Bs < w.heap.size) (hn₀ : n₀ ≤ w.heap.size)
    (hc : w.cell? ⟨Bs, 0, none⟩ = some sv) (hI : SVals n₀ w sv zs) :
    SeqStopsK F n Tryz.prog 163 #[.pointer (some ⟨Bs, 0, none⟩)] (fun x : List UInt8 => #[encStr x]) (Below n₀) (fun ys => ys = zs) (fun pre => pre <+: zs) zs.length w := fun l J Jx W hW _ _ hY h0 => by
  have hc' := (hW.cell (p := ⟨Bs, 0, none⟩) hBs).trans hc
  rcases hI.below (hW.mono hn₀) with ⟨rfl, rfl⟩ | ⟨b, off, cap, rfl, hb, hcs⟩
  · exact (sv_values1_nil_in F n h7 hro l Bs J W hc' h0).mono fun e W' ⟨he, hj⟩ => ⟨he, .inl ⟨_, rfl, hj⟩⟩
  · refine (sv_values1_in F n h7 hro hn l Bs n₀ b off zs.length cap zs hreach hb J Jx hY W hc' hcs h0).mono ?_
    rintro e W' ⟨he, ⟨ys, rfl, hj⟩ | ⟨pre, ⟨k, hk, rfl⟩, hj⟩⟩
    · exact ⟨he, .inl ⟨_, sv_upto_all zs, hj⟩⟩
    · exact ⟨he, .inr ⟨_, by rw [sv_upto_take zs hk]; exact List.take_prefix _ _, hj⟩⟩
end Go.Proofs
/-! Col -/
namespace Go.Proofs
open Go.RowKit Go.Shelf
attribute [local go_sem] Oper.semAt_some
theorem Tryz.info49s : (Tryz.prog.info? 49).map (fun i => (i.zero, i.size, i.bytes)) = some (some (.string ⟨#[]⟩), 1, 16) := by kernel_rfl
set_option maxRecDepth 100000 in
set_option maxHeartbeats 4000000 in
theorem appendSeq_in (F : Fence) (n : Nat) (h137 : F.fn 137) (h163 : F.fn 163) (hro : F.round = none) (hn : 2 ≤ n) (Bs : Nat) (sv : Value) (zs : List (List UInt8)) (hreach : zs.length * 16 ≤ 140737488351232) (w : World) (hBs : Bs < w.heap.size)
    (hcs : w.cell? ⟨Bs, 0, none⟩ = some sv) (hI : SVals w.heap.size w sv zs) :
    CallsIn F n Tryz.prog 137 #[.slice none 0 0, .func (.func 163) #[] #[.pointer (some ⟨Bs, 0, none⟩)]] w fun e W' => ∃ v, e = .returned v ∧ W'.ownsRow w.heap.size 49 1 v zs.length (zs.map encStr) ∧ Below w.heap.size w W' := by
  have h1 : 1 ≤ n := by omega
  obtain ⟨i0, hi, hz0, hz1, hz2⟩ := info_parts Tryz.info49s
  refine callsIn_of_wp_marks Tryz.func137 rfl h137 ?_ hro
  simp only [Tryz.ntmps137, List.size_toArray, List.length_cons, List.length_nil, Nat.reduceAdd, Nat.reduceSub, Array.replicate_succ, Array.replicate_zero, List.push_toArray, List.append_toArray, List.nil_append, List.cons_append]
  gi_wp2
  have bO := Boxed.new w 25 (.slice none 0 0)
  have hB0 : Below w.heap.size w (w.alloc (.cells #[.slice none 0 0] 25)) := (Below.refl _ w).alloc (Nat.le_refl _) _
  refine wpIn_rangeFunc_ownG hro h1 (gf := 163) (lb := #[.pointer (some ⟨Bs, 0, none⟩)]) rfl h163 (enters_of Tryz.func163 (by kernel_rfl) rfl)
    (sv_values_stops F (n - 1) h163 hro (by omega) Bs w.heap.size sv zs hreach _ (by simp; omega) (by simp) ((hB0.cell (p := ⟨Bs, 0, none⟩) hBs).trans hcs) (hI.below hB0)) belowK_t (belowK_b (by simp)) (Below.refl _ _) (fun _ => rfl)
    (fun pre W => (∃ v, Boxed W w.heap.size 25 v ∧ W.ownsRow w.heap.size 49 1 v pre.length (pre.map encStr) ∧ (v = .slice none 0 0 ↔ pre = [])) ∧ Below w.heap.size w W)
    (fun _ _ _ => False)
    (OwnFrom.and (Own.from (holdsRow_own w.heap.size w.heap.size 25 49 1 (fun pre => pre.length) (fun pre => pre.map encStr) (fun pre v => v = .slice none 0 0 ↔ pre = [])) _) (ownFrom_below (Nat.le_refl _) (by simp)))
    (fun _ _ _ _ _ hs _ _ => hs)
    ⟨⟨_, bO, World.ownsRow_nil _ _ _ _, by simp⟩, hB0⟩
    (fun x => { tmps := #[.slice none 0 0, .func (.func 163) #[] #[.pointer (some ⟨Bs, 0, none⟩)], .pointer (some ⟨w.heap.size, 0, none⟩), undef, .slice none 0 0, encStr x, .func (.func 163) #[] #[.pointer (some ⟨Bs, 0, none⟩)], encStr x, undef, undef, undef, undef, undef], defers := [] }) ?assign ?body ?done ?stop
  case assign =>
    intro l x W K hK
    gi_wp2
    exact hK
  case body =>
    rintro l pre x W ⟨⟨v, hv, hrow, hnil⟩, hB⟩ hlt
    have hc := hv.cell
    gi_wp2_with (gi_at_builtin; refine wpListIn_append_own _ rfl _ _ 25 rfl w.heap.size 49 i0 (.string ⟨#[]⟩) 1 16 Tryz.underlying25 hi hz0 hz1 hz2 rfl (by decide) _ _ _ rfl (hrow.alloc _) ⟨W.heap.size, 0, none⟩ 1 1 [encStr x] rfl rfl (cell_one_new _ _ _) (by simp [Value.oneCell']) (by simp only [maxLen]; omega) (by omega) (by have := hB.size; simp; omega) ?_; intro v' w1 hown' hgrow _; obtain ⟨g', cap', rfl⟩ := ownsRow_succ hown'; obtain ⟨hv1, hv2, hr2, hk2, hb2⟩ := hv.appended (by decide) hrow hB.size (Nat.le_refl _) hown' hgrow; have hc1 := hv1.cell; have hf1 := hv1.frozen)
    exact ⟨hk2.from _, hb2, ⟨_, hv2, by simpa using hr2, by simp⟩, hB.trans hb2⟩
  case done =>
    rintro D ys W hD rfl ⟨⟨v, hv, hrow, hnil⟩, hB⟩ hK
    have hc := hv.cell
    gi_wp2
    refine ⟨by simp, .inl ⟨_, _, rfl, run_takeDeferred hK, ?_⟩⟩
    exact ⟨_, results_tmp rfl _ _ _, v, rfl, ownsRow_putObj hrow _ hK rfl, hB.trans (belowK_b (w := w) (Nat.le_refl _) W D _ _ (by simp at hD; omega) hK rfl rfl)⟩
  case stop =>
    rintro D c pre W _ _ h _
    exact h.elim
end Go.Proofs
/-! SrtB -/
namespace Go.Proofs.YtfeabbeebkkhaaaGreat
open Go Go.Sx
set_option maxRecDepth 100000
set_option maxHeartbeats 4000000
set_option linter.unusedVariables false
set_option linter.unusedSimpArgs false
attribute [local irreducible] J JQ QS Con W opW
theorem svals_sig {w w' : World} {S : List SH} {sv : Value} {zs : List (List UInt8)} (hI : SVals w.heap.size w sv zs) (h : Sig ⟨w, dom []⟩ S w') : SVals w'.heap.size w' sv zs := by
  rcases hI with ⟨rfl, rfl⟩ | ⟨b, off, cap, rfl, hb, hc⟩
  · exact .inl ⟨rfl, rfl⟩
  · exact .inr ⟨b, off, cap, rfl, Nat.lt_of_lt_of_le hb h.size, fun j hj => h.ro (a := ⟨b, off + j, none⟩) (hc j hj) (by simp)⟩
theorem appendSeq_con (Bs : Nat) (sv : Value) (zs : List (List UInt8)) (w : World) (hreach : zs.length * 16 ≤ 140737488351232) (hBs : Bs < w.heap.size) (hcs : w.cell? ⟨Bs, 0, none⟩ = some sv) (hI : SVals w.heap.size w sv zs) : Con Tryz.prog 137 [.slice none 0 0, .func (.func 163) #[] #[.pointer (some ⟨Bs, 0, none⟩)]] w [] fun v S' => ∃ c, S' = [c] ∧ Sx.Own 49 1 (strs zs) v c :=
  con_of_own (n := zs.length) (xs := strs zs) ((callsIn_wide (n := 6)).1 (appendSeq_in Fence.wide 6 trivial trivial rfl (by omega) Bs sv zs hreach w hBs hcs hI))
theorem sort_con {e : TypeId} {ss : List (List UInt8)} {v : Value} {c : SH} (ho : Sx.Own e 1 (strs ss) v c) (hsz : ss.length < 4611686018427387904) (w : World) : Con Tryz.prog 107 [v] w c fun u S' => u = .tuple #[] ∧ ∃ c', S' = [c'] ∧ Sx.Own e 1 (strs (sortS ss)) v c' :=
  con_sort_own (fun blk off cap ss w hH hblk hsz => AnyM.slices_Sort_string Tryz.sort107 blk off cap ss w hH hblk hsz) (fun p cap w => AnyM.slices_Sort_string_none Tryz.sort107 p cap w) ho hsz w
theorem values_con (A : Option Addr) (n c : Nat) (w : World) : Con Tryz.prog 141 [.slice A n c] w [] fun v S' => ∃ g, v = .func (.func 163) #[] #[.pointer (some ⟨g, 0, none⟩)] ∧ S' = [[(g, .cells [.slice A n c].toArray 25 (0, 0))]] := by
  refine con_of_tree mix Tryz.func141 T141_ok (by kernel_rfl) ?_
  unfold T141
  refine j_box (l := [.slice A n c]) rfl (fun g0 hg0 hs0 => ?_)
  refine j_q (qs_ac) ?_
  refine j_q (qs_makefunc (fv := []) (cv := [.pointer (some ⟨g0, 0, none⟩)]) rfl rfl) ?_
  refine j_sub (S' := [[(g0, .cells [.slice A n c].toArray 25 (0, 0))]]) (by simp) ?_
  refine j_ret_con (vs := [_]) (fun w' hw' => ⟨rfl, trivial⟩) ?_
  exact ⟨_, rfl, rfl⟩
theorem collect_con (Bs : Nat) (sv : Value) (zs : List (List UInt8)) (w : World) (hreach : zs.length * 16 ≤ 140737488351232) (hBs : Bs < w.heap.size) (hcs : w.cell? ⟨Bs, 0, none⟩ = some sv) (hI : SVals w.heap.size w sv zs) : Con Tryz.prog 106 [.func (.func 163) #[] #[.pointer (some ⟨Bs, 0, none⟩)]] w [] fun v S' => ∃ c, S' = [c] ∧ Sx.Own 49 1 (strs zs) v c := by
  refine con_of_tree mix Tryz.func106 T106_ok (by kernel_rfl) ?_
  unfold T106
  refine j_q (qs_ac) ?_
  refine j_call0 ent137 rfl rfl rfl (fun w' hw' => appendSeq_con Bs sv zs w' hreach (Nat.lt_of_lt_of_le hBs hw'.size) (hw'.ro (a := ⟨Bs, 0, none⟩) hcs (by simp)) (svals_sig hI hw')) (fun u S2 hu => ?_)
  obtain ⟨c1, rfl, ho1⟩ := hu
  refine j_sub (S' := [c1]) (by simp) ?_
  refine j_ret_con (vs := [_]) (fun w' hw' => ⟨rfl, trivial⟩) ?_
  exact ⟨_, rfl, ho1⟩
theorem sorted_con (Bs : Nat) (sv : Value) (zs : List (List UInt8)) (w : World) (hreach : zs.length * 16 ≤ 140737488351232) (hBs : Bs < w.heap.size) (hcs : w.cell? ⟨Bs, 0, none⟩ = some sv) (hI : SVals w.heap.size w sv zs) : Con Tryz.prog 56 [.func (.func 163) #[] #[.pointer (some ⟨Bs, 0, none⟩)]] w [] fun v S' => ∃ c, S' = [c] ∧ Sx.Own 49 1 (strs (sortS zs)) v c := by
  refine con_of_tree mix Tryz.func56 T56_ok (by kernel_rfl) ?_
  unfold T56
  refine j_q (qs_ac) ?_
  refine j_call0 ent106 rfl rfl rfl (fun w' hw' => collect_con Bs sv zs w' hreach (Nat.lt_of_lt_of_le hBs hw'.size) (hw'.ro (a := ⟨Bs, 0, none⟩) hcs (by simp)) (svals_sig hI hw')) (fun u S2 hu => ?_)
  obtain ⟨c1, rfl, ho1⟩ := hu
  refine j_call 0 ent107 rfl rfl rfl rfl (fun w' hw' => sort_con ho1 (by omega) w') (fun u2 S2 hu => ?_)
  obtain ⟨rfl, c2, rfl, ho2⟩ := hu
  refine j_sub (S' := [c2]) (by simp) ?_
  refine j_ret_con (vs := [_]) (fun w' hw' => ⟨rfl, trivial⟩) ?_
  exact ⟨_, rfl, ho2⟩
end Go.Proofs.YtfeabbeebkkhaaaGreat
/-! Sha1 -/
namespace Go.Proofs.YtfeabbeebkkhaaaGreat
open Go Go.Sx
set_option maxRecDepth 100000
set_option maxHeartbeats 4000000
set_option linter.unusedVariables false
set_option linter.unusedSimpArgs false
attribute [local irreducible] J JQ QS Con W opW
theorem and31 (n : Int) (h0 : 0 < n) (h1 : n < 32) : bw .and .u64 (IntKind.u64.wrap (-n)) 31 = 32 - n := by
  have : ∀ k : Fin 32, 0 < k.val → bw .and .u64 (IntKind.u64.wrap (-(k.val : Int))) 31 = 32 - (k.val : Int) := by decide +kernel
  have := this ⟨n.toNat, by omega⟩ (by show 0 < n.toNat; omega)
  simp only [Int.toNat_of_nonneg (Int.le_of_lt h0)] at this
  exact this
theorem rot_con (a n : Int) (w : World) (h0 : 0 < n) (h1 : n < 32) : Con Tryz.prog 151 [.int .u32 a, .int .i64 (-n)] w [] fun v _ => v = .int .u32 (rotr a n) := by
  refine con_of_tree mix Tryz.func151 T151_ok (by kernel_rfl) ?_
  unfold T151
  refine j_q (qs_ac) ?_
  refine j_q (qs_conv Tryz.underlying3 Tryz.underlying152 rfl) ?_
  refine j_q (qs_and_ rfl rfl) ?_
  rw [and31 n h0 h1]
  refine j_q (qs_shl rfl rfl (by omega)) ?_
  refine j_q (qs_sub rfl rfl) ?_
  rw [IntWalk.u64_in _ (by omega)]
  have e32 : 32 - (32 - n) = n := by omega
  rw [e32]
  refine j_q (qs_shr rfl rfl (by omega)) ?_
  refine j_q (qs_or_ rfl rfl) ?_
  refine j_ret_con (vs := [_]) (fun w' hw' => ⟨rfl, trivial⟩) ?_
  rfl
theorem turn_con (a n : Int) (w : World) (h0 : 0 < n) (h1 : n < 32) : Con Tryz.prog 134 [.int .u32 a, .int .i64 n] w [] fun v _ => v = .int .u32 (rotr a n) := by
  refine con_of_tree mix Tryz.func134 T134_ok (by kernel_rfl) ?_
  unfold T134
  refine j_q (qs_ac) ?_
  refine j_q (qs_neg rfl) ?_
  rw [IntWalk.i64_in _ (by omega), Int.zero_sub]
  refine j_q (qs_call ent151 rfl rfl rfl (fun w' hw' => rot_con a n w' h0 h1)) ?_
  refine j_ret_con (vs := [_]) (fun w' hw' => ⟨rfl, trivial⟩) ?_
  rfl
theorem numbers_con (w : World) : Con Tryz.prog 133 [] w [] fun v _ => v = .agg (ks .u32 kk64).toArray := by
  refine con_of_tree mix Tryz.func133 T133_ok (by kernel_rfl) ?_
  unfold T133
  refine j_alloc zero162 (fun g0 hg0 hs0 => ?_)
  refine j_q (qs_run (v := .agg (ks .u32 kk64).toArray) (fun w => by kernel_rfl)) ?_
  refine j_storew 0 sz162 rfl rfl rfl ks_one rfl rfl ?_
  refine j_ret_con (vs := [_]) (fun w' hw' => ⟨rv_agg 0 Tryz.underlying162 rfl sz162 rfl rfl rfl hw', trivial⟩) ?_
  rfl
theorem begun_con (w : World) : Con Tryz.prog 100 [] w [] fun v _ => v = .agg (ks .u32 init8).toArray := by
  refine con_of_tree mix Tryz.func100 T100_ok (by kernel_rfl) ?_
  unfold T100
  refine j_alloc zero147 (fun g0 hg0 hs0 => ?_)
  refine j_q (qs_run (v := .agg (ks .u32 init8).toArray) (fun w => by kernel_rfl)) ?_
  refine j_storew 0 sz147 rfl rfl rfl ks_one rfl rfl ?_
  refine j_ret_con (vs := [_]) (fun w' hw' => ⟨rv_agg 0 Tryz.underlying147 rfl sz147 rfl rfl rfl hw', trivial⟩) ?_
  rfl
end Go.Proofs.YtfeabbeebkkhaaaGreat
/-! Sha2 -/
namespace Go.Proofs.YtfeabbeebkkhaaaGreat
open Go Go.Sx
set_option maxRecDepth 100000
set_option maxHeartbeats 4000000
set_option linter.unusedVariables false
set_option linter.unusedSimpArgs false
attribute [local irreducible] J JQ QS Con W opW
theorem add_block (a : Addr) (n : Nat) : (a.add n).block = a.block := by unfold Addr.add; split <;> rfl
theorem add_add (a : Addr) (n j : Nat) : (a.add n).add j = a.add (n + j) := by
  obtain ⟨g, o, sp⟩ := a
  unfold Addr.add
  by_cases h1 : n = 0
  · subst h1; simp
  · by_cases h2 : j = 0
    · subst h2; simp
    · have h3 : n + j ≠ 0 := by omega
      simp [h1, h2, h3, Nat.add_assoc]
theorem cells_drop {w : World} {a : Addr} {vs : List Value} (h : Cells w a vs) (n : Nat) : Cells w (a.add n) (vs.drop n) := fun j u hu => by
  rw [add_add]
  exact h _ _ (by rwa [List.getElem?_drop] at hu)
theorem ints_drop (l : List UInt8) (n : Nat) : (ints l).drop n = ints (l.drop n) := by simp [ints, List.map_drop]
theorem ints_take (l : List UInt8) (n : Nat) : (ints l).take n = ints (l.take n) := by simp [ints, List.map_take]
theorem back_le {n i : Nat} (h : i < n) : n - (i + 1) < n - i := by omega
theorem take_con (s : List Int) (p : List UInt8) (a : Addr) (c gs : Nat) (e : TypeId) (w : World) (hs : s.length = 8) (hpm : p.length ≤ 140737488355328) (hc : p.length ≤ c) (hpc : Cells w a (ints p)) (hne : p ≠ [] → a.block ≠ gs) : Con Tryz.prog 101 [.pointer (some ⟨gs, 0, none⟩), .slice (some a) p.length c] w [(gs, .cells (ks .u32 s).toArray e (0, 0))] fun v S' => v = .tuple #[] ∧ S' = [[(gs, .cells (ks .u32 (blocks (p.length / 64) p s)).toArray e (0, 0))]] := by
  refine con_of_tree mix Tryz.func101 T101_ok (by kernel_rfl) ?_
  unfold T101
  have hkl : kk64.length = 64 := rfl
  refine j_q (qs_call ent133 rfl rfl rfl (fun w' hw' => numbers_con w')) ?_
  refine j_alloc zero162 (fun g1 hg1 hs1 => ?_)
  refine j_storew 0 sz162 rfl rfl (by first | rfl | (simp only [ks_length]; first | omega | exact hstl | exact hvl) | simp [ks_length]) ks_one rfl (by first | rfl | (simp only [ks_length]; first | omega | exact hstl | exact hvl) | simp [ks_length]) ?_
  refine j_alloc zero162 (fun g3 hg3 hs3 => ?_)
  refine j_loop (fun m vs S' => ∃ (n : Nat) (q : List UInt8) (a' : Addr) (c' : Nat) (st ws : List Int), vs = [.slice (some a') q.length c'] ∧ S' = [[(g3, .cells (ks .u32 ws).toArray 162 (0, 0))], [(g1, .cells (ks .u32 kk64).toArray 162 (0, 0))], [(gs, .cells (ks .u32 st).toArray e (0, 0))]] ∧ 64 * n ≤ p.length ∧ q = p.drop (64 * n) ∧ q.length ≤ c' ∧ Cells w a' (ints q) ∧ a'.block = a.block ∧ st = blocks n p s ∧ ws.length = 64 ∧ m = p.length - 64 * n) ⟨_, 0, p, a, c, s, _, rfl, rfl, by omega, rfl, hc, hpc, rfl, rfl, by simp, rfl⟩ ?_
  rintro m vs S' hlen ⟨n, q, a', c', st, ws0, rfl, rfl, hn, hq, hqc, hqm, hab, hst, hwl0, rfl⟩
  have hql : q.length = p.length - 64 * n := by rw [hq, List.length_drop]
  have hstl : st.length = 8 := by rw [hst]; exact blocks_length hs
  clear hlen hs1 hs3 hg1 hg3
  refine j_q (qs_lenl Tryz.underlying46 rfl) ?_
  refine j_q (qs_geq rfl rfl) ?_
  refine j_cond rfl (fun hc0 => ?_) (fun hc0 => ?_)
  · skip
    have hq64 : 64 ≤ q.length := by
      simp only [bnA] at *
      omega
    have hpne : p ≠ [] := by
      intro h0
      have := congrArg List.length h0
      simp only [List.length_nil] at this
      omega
    refine j_q (qs_mc) ?_
    refine j_loop (fun m vs S' => ∃ (i : Nat) (ws : List Int), vs = [.int .i64 i] ∧ S' = [[(g3, .cells (ks .u32 ws).toArray 162 (0, 0))], [(g1, .cells (ks .u32 kk64).toArray 162 (0, 0))], [(gs, .cells (ks .u32 st).toArray e (0, 0))]] ∧ i ≤ 16 ∧ ws.length = 64 ∧ m = 16 - i ∧ ws.take i = sched q i) ⟨_, 0, _, rfl, rfl, by omega, hwl0, rfl, rfl⟩ ?_
    rintro m vs S' hlen ⟨i, ws, rfl, rfl, hi, hwl, rfl, hws⟩
    clear hlen
    refine j_q (qs_lss rfl rfl) ?_
    refine j_cond rfl (fun hc1 => ?_) (fun hc1 => ?_)
    · skip
      have hi1 : i < 16 := by
        simp only [bnA] at *
        omega
      refine j_draw ?_
      refine jq_q (qs_mul64 rfl rfl (by omega)) ?_
      refine jq_q (qs_ixl0 Tryz.underlying46 sz5 rfl rfl ⟨(by omega), (by omega)⟩) ?_
      refine jq_q (qs_loadr8 (rd_cells hqm (by rw [hab]; simpa using hne hpne)) Tryz.underlying5 rfl (by omega)) ?_
      refine jq_q (qs_conv Tryz.underlying5 Tryz.underlying145 rfl) ?_
      refine jq_q (qs_shl rfl rfl (by omega)) ?_
      refine jq_q (qs_mul64 rfl rfl (by omega)) ?_
      refine jq_q (qs_add64 rfl rfl (by omega)) ?_
      refine jq_q (qs_ixl0 Tryz.underlying46 sz5 rfl rfl ⟨(by omega), (by omega)⟩) ?_
      refine jq_q (qs_loadr8 (rd_cells hqm (by rw [hab]; simpa using hne hpne)) Tryz.underlying5 rfl (by omega)) ?_
      refine jq_q (qs_conv Tryz.underlying5 Tryz.underlying145 rfl) ?_
      refine jq_q (qs_shl rfl rfl (by omega)) ?_
      refine jq_q (qs_or_ rfl rfl) ?_
      refine jq_q (qs_mul64 rfl rfl (by omega)) ?_
      refine jq_q (qs_add64 rfl rfl (by omega)) ?_
      refine jq_q (qs_ixl0 Tryz.underlying46 sz5 rfl rfl ⟨(by omega), (by omega)⟩) ?_
      refine jq_q (qs_loadr8 (rd_cells hqm (by rw [hab]; simpa using hne hpne)) Tryz.underlying5 rfl (by omega)) ?_
      refine jq_q (qs_conv Tryz.underlying5 Tryz.underlying145 rfl) ?_
      refine jq_q (qs_shl rfl rfl (by omega)) ?_
      refine jq_q (qs_or_ rfl rfl) ?_
      refine jq_q (qs_mul64 rfl rfl (by omega)) ?_
      refine jq_q (qs_add64 rfl rfl (by omega)) ?_
      refine jq_q (qs_ixl0 Tryz.underlying46 sz5 rfl rfl ⟨(by omega), (by omega)⟩) ?_
      refine jq_q (qs_loadr8 (rd_cells hqm (by rw [hab]; simpa using hne hpne)) Tryz.underlying5 rfl (by omega)) ?_
      refine jq_q (qs_conv Tryz.underlying5 Tryz.underlying145 rfl) ?_
      refine jq_q (qs_or_ rfl rfl) ?_
      refine jq_q (qs_ix0 Tryz.underlying162 sz145 rfl rfl ⟨(by omega), (by omega)⟩) ?_
      refine jq_nil ?_
      refine j_storek 0 sz145 rfl rfl rfl (by omega) ?_
      refine j_q (qs_add64 rfl rfl (by omega)) ?_
      refine j_back rfl ?_
      exact ⟨_, back_le hi1, i + 1, _, rfl, rfl, by omega, by simpa using hwl, rfl, sched_word hws hi1 (by omega)⟩
    · skip
      have hi1 : i = 16 := by
        simp only [bnA] at *
        omega
      subst hi1
      refine j_q (qs_ac) ?_
      refine j_loop (fun m vs S' => ∃ (i : Nat) (ws : List Int), vs = [.int .i64 i] ∧ S' = [[(g3, .cells (ks .u32 ws).toArray 162 (0, 0))], [(g1, .cells (ks .u32 kk64).toArray 162 (0, 0))], [(gs, .cells (ks .u32 st).toArray e (0, 0))]] ∧ 16 ≤ i ∧ i ≤ 64 ∧ ws.length = 64 ∧ m = 64 - i ∧ ws.take i = sched q i) ⟨_, 16, _, rfl, rfl, by omega, by omega, hwl, rfl, hws⟩ ?_
      rintro m vs S' hlen ⟨i, ws, rfl, rfl, hi0, hi, hwl, rfl, hws⟩
      clear hlen
      refine j_q (qs_lss rfl rfl) ?_
      refine j_cond rfl (fun hc2 => ?_) (fun hc2 => ?_)
      · skip
        have hi1 : i < 64 := by
          simp only [bnA] at *
          omega
        refine j_draw ?_
        refine jq_q (qs_sub64 rfl rfl (by omega)) ?_
        refine jq_q (qs_ix0 Tryz.underlying162 sz145 rfl rfl ⟨(by omega), (by omega)⟩) ?_
        refine jq_q (qs_loadk 0 Tryz.underlying145 rfl rfl (by omega)) ?_
        refine jq_q (qs_sub64 rfl rfl (by omega)) ?_
        refine jq_q (qs_ix0 Tryz.underlying162 sz145 rfl rfl ⟨(by omega), (by omega)⟩) ?_
        refine jq_q (qs_loadk 0 Tryz.underlying145 rfl rfl (by omega)) ?_
        refine jq_nil ?_
        refine j_q (qs_call ent134 rfl rfl rfl (fun w' hw' => turn_con _ _ w' (by decide) (by decide))) ?_
        refine j_q (qs_call ent134 rfl rfl rfl (fun w' hw' => turn_con _ _ w' (by decide) (by decide))) ?_
        refine j_q (qs_xor_ rfl rfl) ?_
        refine j_q (qs_shr rfl rfl (by omega)) ?_
        refine j_q (qs_xor_ rfl rfl) ?_
        refine j_q (qs_call ent134 rfl rfl rfl (fun w' hw' => turn_con _ _ w' (by decide) (by decide))) ?_
        refine j_q (qs_call ent134 rfl rfl rfl (fun w' hw' => turn_con _ _ w' (by decide) (by decide))) ?_
        refine j_q (qs_xor_ rfl rfl) ?_
        refine j_q (qs_shr rfl rfl (by omega)) ?_
        refine j_q (qs_xor_ rfl rfl) ?_
        refine j_draw ?_
        refine jq_q (qs_sub64 rfl rfl (by omega)) ?_
        refine jq_q (qs_ix0 Tryz.underlying162 sz145 rfl rfl ⟨(by omega), (by omega)⟩) ?_
        refine jq_q (qs_loadk 0 Tryz.underlying145 rfl rfl (by omega)) ?_
        refine jq_q (qs_add rfl rfl) ?_
        refine jq_q (qs_sub64 rfl rfl (by omega)) ?_
        refine jq_q (qs_ix0 Tryz.underlying162 sz145 rfl rfl ⟨(by omega), (by omega)⟩) ?_
        refine jq_q (qs_loadk 0 Tryz.underlying145 rfl rfl (by omega)) ?_
        refine jq_q (qs_add rfl rfl) ?_
        refine jq_q (qs_add rfl rfl) ?_
        refine jq_q (qs_ix0 Tryz.underlying162 sz145 rfl rfl ⟨(by omega), (by omega)⟩) ?_
        refine jq_nil ?_
        refine j_storek 0 sz145 rfl rfl rfl (by omega) ?_
        refine j_q (qs_add64 rfl rfl (by omega)) ?_
        refine j_back rfl ?_
        have e15 : ((i : Int) - 15).toNat = i - 15 := by omega
        have e2 : ((i : Int) - 2).toNat = i - 2 := by omega
        have e16 : ((i : Int) - 16).toNat = i - 16 := by omega
        have e7 : ((i : Int) - 7).toNat = i - 7 := by omega
        rw [e15, e2, e16, e7]
        exact ⟨_, back_le hi1, i + 1, _, rfl, rfl, by omega, by omega, by simpa using hwl, rfl, sched_next hws hi0 (by omega)⟩
      · skip
        have hi1 : i = 64 := by
          simp only [bnA] at *
          omega
        subst hi1
        have hws64 : ws = sched q 64 := by rw [← hws, List.take_of_length_le (by omega)]
        refine j_q (qs_nil rfl) ?_
        refine j_q (qs_loadw 2 Tryz.underlying147 rfl sz147 rfl rfl (by first | rfl | (simp only [ks_length]; first | omega | exact hstl | exact hvl) | simp [ks_length])) ?_
        refine j_alloc zero147 (fun g68 hg68 hs68 => ?_)
        refine j_storew 0 sz147 rfl rfl (by first | rfl | (simp only [ks_length]; first | omega | exact hstl | exact hvl) | simp [ks_length]) ks_one rfl (by first | rfl | (simp only [ks_length]; first | omega | exact hstl | exact hvl) | simp [ks_length]) ?_
        refine j_q (qs_mc) ?_
        refine j_loop (fun m vs S' => ∃ (i : Nat) (v : List Int), vs = [.int .i64 i] ∧ S' = [[(g68, .cells (ks .u32 v).toArray 147 (0, 0))], [(g3, .cells (ks .u32 ws).toArray 162 (0, 0))], [(g1, .cells (ks .u32 kk64).toArray 162 (0, 0))], [(gs, .cells (ks .u32 st).toArray e (0, 0))]] ∧ i ≤ 64 ∧ m = 64 - i ∧ v = rounds kk64 (sched q 64) st i) ⟨_, 0, _, rfl, rfl, by omega, rfl, rfl⟩ ?_
        rintro m vs S' hlen ⟨i, v, rfl, rfl, hi, rfl, hv⟩
        have hvl : v.length = 8 := by rw [hv]; exact rounds_length hstl i
        clear hlen
        refine j_q (qs_lss rfl rfl) ?_
        refine j_cond rfl (fun hc3 => ?_) (fun hc3 => ?_)
        · skip
          have hi1 : i < 64 := by
            simp only [bnA] at *
            omega
          refine j_draw ?_
          refine jq_q (qs_ix0 Tryz.underlying147 sz145 rfl rfl ⟨(by omega), (by omega)⟩) ?_
          refine jq_q (qs_loadk 0 Tryz.underlying145 rfl rfl (by omega)) ?_
          refine jq_q (qs_ix0 Tryz.underlying147 sz145 rfl rfl ⟨(by omega), (by omega)⟩) ?_
          refine jq_q (qs_loadk 0 Tryz.underlying145 rfl rfl (by omega)) ?_
          refine jq_nil ?_
          refine j_draw ?_
          refine jq_q (qs_ix0 Tryz.underlying147 sz145 rfl rfl ⟨(by omega), (by omega)⟩) ?_
          refine jq_q (qs_loadk 0 Tryz.underlying145 rfl rfl (by omega)) ?_
          refine jq_q (qs_call ent134 rfl rfl rfl (fun w' hw' => turn_con _ _ w' (by decide) (by decide))) ?_
          refine jq_q (qs_call ent134 rfl rfl rfl (fun w' hw' => turn_con _ _ w' (by decide) (by decide))) ?_
          refine jq_q (qs_xor_ rfl rfl) ?_
          refine jq_q (qs_call ent134 rfl rfl rfl (fun w' hw' => turn_con _ _ w' (by decide) (by decide))) ?_
          refine jq_q (qs_xor_ rfl rfl) ?_
          refine jq_q (qs_add rfl rfl) ?_
          refine jq_q (qs_ix0 Tryz.underlying147 sz145 rfl rfl ⟨(by omega), (by omega)⟩) ?_
          refine jq_q (qs_loadk 0 Tryz.underlying145 rfl rfl (by omega)) ?_
          refine jq_q (qs_and_ rfl rfl) ?_
          refine jq_q (qs_inv rfl) ?_
          refine jq_q (qs_ix0 Tryz.underlying147 sz145 rfl rfl ⟨(by omega), (by omega)⟩) ?_
          refine jq_q (qs_loadk 0 Tryz.underlying145 rfl rfl (by omega)) ?_
          refine jq_q (qs_and_ rfl rfl) ?_
          refine jq_q (qs_xor_ rfl rfl) ?_
          refine jq_q (qs_add rfl rfl) ?_
          refine jq_q (qs_ix0 Tryz.underlying162 sz145 rfl rfl ⟨(by omega), (by omega)⟩) ?_
          refine jq_q (qs_loadk 2 Tryz.underlying145 rfl rfl (by omega)) ?_
          refine jq_q (qs_add rfl rfl) ?_
          refine jq_q (qs_ix0 Tryz.underlying162 sz145 rfl rfl ⟨(by omega), (by omega)⟩) ?_
          refine jq_q (qs_loadk 1 Tryz.underlying145 rfl rfl (by omega)) ?_
          refine jq_q (qs_add rfl rfl) ?_
          refine jq_nil ?_
          refine j_draw ?_
          refine jq_q (qs_call ent134 rfl rfl rfl (fun w' hw' => turn_con _ _ w' (by decide) (by decide))) ?_
          refine jq_q (qs_call ent134 rfl rfl rfl (fun w' hw' => turn_con _ _ w' (by decide) (by decide))) ?_
          refine jq_q (qs_xor_ rfl rfl) ?_
          refine jq_q (qs_call ent134 rfl rfl rfl (fun w' hw' => turn_con _ _ w' (by decide) (by decide))) ?_
          refine jq_q (qs_xor_ rfl rfl) ?_
          refine jq_q (qs_ix0 Tryz.underlying147 sz145 rfl rfl ⟨(by omega), (by omega)⟩) ?_
          refine jq_q (qs_loadk 0 Tryz.underlying145 rfl rfl (by omega)) ?_
          refine jq_q (qs_and_ rfl rfl) ?_
          refine jq_q (qs_ix0 Tryz.underlying147 sz145 rfl rfl ⟨(by omega), (by omega)⟩) ?_
          refine jq_q (qs_loadk 0 Tryz.underlying145 rfl rfl (by omega)) ?_
          refine jq_q (qs_and_ rfl rfl) ?_
          refine jq_q (qs_xor_ rfl rfl) ?_
          refine jq_q (qs_ix0 Tryz.underlying147 sz145 rfl rfl ⟨(by omega), (by omega)⟩) ?_
          refine jq_q (qs_loadk 0 Tryz.underlying145 rfl rfl (by omega)) ?_
          refine jq_q (qs_ix0 Tryz.underlying147 sz145 rfl rfl ⟨(by omega), (by omega)⟩) ?_
          refine jq_q (qs_loadk 0 Tryz.underlying145 rfl rfl (by omega)) ?_
          refine jq_q (qs_and_ rfl rfl) ?_
          refine jq_q (qs_xor_ rfl rfl) ?_
          refine jq_q (qs_add rfl rfl) ?_
          refine jq_nil ?_
          refine j_q (qs_add rfl rfl) ?_
          refine j_q (qs_ix0 Tryz.underlying147 sz145 rfl rfl ⟨(by omega), (by omega)⟩) ?_
          refine j_q (qs_loadk 0 Tryz.underlying145 rfl rfl (by omega)) ?_
          refine j_q (qs_ix0 Tryz.underlying147 sz145 rfl rfl ⟨(by omega), (by omega)⟩) ?_
          refine j_q (qs_loadk 0 Tryz.underlying145 rfl rfl (by omega)) ?_
          refine j_q (qs_ix0 Tryz.underlying147 sz145 rfl rfl ⟨(by omega), (by omega)⟩) ?_
          refine j_q (qs_loadk 0 Tryz.underlying145 rfl rfl (by omega)) ?_
          refine j_q (qs_ix0 Tryz.underlying147 sz145 rfl rfl ⟨(by omega), (by omega)⟩) ?_
          refine j_q (qs_loadk 0 Tryz.underlying145 rfl rfl (by omega)) ?_
          refine j_q (qs_add rfl rfl) ?_
          refine j_q (qs_ix0 Tryz.underlying147 sz145 rfl rfl ⟨(by omega), (by omega)⟩) ?_
          refine j_q (qs_loadk 0 Tryz.underlying145 rfl rfl (by omega)) ?_
          refine j_q (qs_ix0 Tryz.underlying147 sz145 rfl rfl ⟨(by omega), (by omega)⟩) ?_
          refine j_q (qs_loadk 0 Tryz.underlying145 rfl rfl (by omega)) ?_
          refine j_q (qs_ix0 Tryz.underlying147 sz145 rfl rfl ⟨(by omega), (by omega)⟩) ?_
          refine j_q (qs_loadk 0 Tryz.underlying145 rfl rfl (by omega)) ?_
          refine j_q (qs_run (v := .agg (ks .u32 (rnd (kk64.getD i 0) (ws.getD i 0) v)).toArray) (fun w => by kernel_rfl)) ?_
          refine j_storew 0 sz147 rfl rfl (by first | rfl | (simp only [ks_length]; first | omega | exact hstl | exact hvl) | simp [ks_length]) ks_one rfl (by first | rfl | (simp only [ks_length]; first | omega | exact hstl | exact hvl) | simp [ks_length]) ?_
          refine j_q (qs_add64 rfl rfl (by omega)) ?_
          refine j_back rfl ?_
          refine ⟨_, back_le hi1, i + 1, _, rfl, rfl, by omega, rfl, ?_⟩
          rw [rounds, ← hv, ← hws64]
        · skip
          have hi1 : i = 64 := by
            simp only [bnA] at *
            omega
          subst hi1
          have hv64 : v = rounds kk64 (sched q 64) st 64 := hv
          refine j_q (qs_mc) ?_
          refine j_loop (fun m vs S' => ∃ (i : Nat) (s' : List Int), vs = [.int .i64 i] ∧ S' = [[(g68, .cells (ks .u32 (rounds kk64 (sched q 64) st 64)).toArray 147 (0, 0))], [(g3, .cells (ks .u32 ws).toArray 162 (0, 0))], [(g1, .cells (ks .u32 kk64).toArray 162 (0, 0))], [(gs, .cells (ks .u32 s').toArray e (0, 0))]] ∧ i ≤ 8 ∧ m = 8 - i ∧ s' = adds st (rounds kk64 (sched q 64) st 64) i) ⟨_, 0, _, rfl, (by rw [← hv64]; rfl), by omega, rfl, rfl⟩ ?_
          rintro m vs S' hlen ⟨i, s', rfl, rfl, hi, rfl, hs'⟩
          have hsl : s'.length = 8 := by rw [hs', adds_length, hstl]
          have hrl : (rounds kk64 (sched q 64) st 64).length = 8 := rounds_length hstl 64
          clear hlen
          refine j_q (qs_lss rfl rfl) ?_
          refine j_cond rfl (fun hc4 => ?_) (fun hc4 => ?_)
          · skip
            have hi1 : i < 8 := by
              simp only [bnA] at *
              omega
            refine j_draw ?_
            refine jq_q (qs_nil rfl) ?_
            refine jq_q (qs_ix0 Tryz.underlying147 sz145 rfl rfl ⟨(by omega), (by omega)⟩) ?_
            refine jq_q (qs_loadk 3 Tryz.underlying145 rfl rfl (by omega)) ?_
            refine jq_q (qs_ix0 Tryz.underlying147 sz145 rfl rfl ⟨(by omega), (by omega)⟩) ?_
            refine jq_q (qs_loadk 0 Tryz.underlying145 rfl rfl (by omega)) ?_
            refine jq_q (qs_add rfl rfl) ?_
            refine jq_q (qs_nil rfl) ?_
            refine jq_q (qs_ix0 Tryz.underlying147 sz145 rfl rfl ⟨(by omega), (by omega)⟩) ?_
            refine jq_nil ?_
            refine j_storek 3 sz145 rfl rfl rfl (by omega) ?_
            refine j_q (qs_add64 rfl rfl (by omega)) ?_
            refine j_back rfl ?_
            refine ⟨_, back_le hi1, i + 1, _, rfl, rfl, by omega, rfl, ?_⟩
            rw [adds, ← hs']
            rfl
          · skip
            have hi1 : i = 8 := by
              simp only [bnA] at *
              omega
            subst hi1
            refine j_q (qs_cutl (a := 64) (z := q.length) Tryz.underlying46 sz5 rfl ⟨_, rfl⟩ rfl (by omega) (by omega)) ?_
            refine j_sub (S' := [[(g3, .cells (ks .u32 ws).toArray 162 (0, 0))], [(g1, .cells (ks .u32 kk64).toArray 162 (0, 0))], [(gs, .cells (ks .u32 s').toArray e (0, 0))]]) (by exact List.sublist_cons_self _ _) ?_
            refine j_back rfl ?_
            have hcell : Cells w (if c' = 64 then a' else a'.add 64) (ints (q.drop 64)) := by
              split
              · have : q.drop 64 = [] := List.drop_of_length_le (by omega)
                rw [this]
                intro j u hu
                simp [ints] at hu
              · have := cells_drop hqm 64
                rwa [ints_drop] at this
            refine ⟨p.length - 64 * (n + 1), (by omega), n + 1, q.drop 64, if c' = 64 then a' else a'.add 64, c' - 64, s', ws, ?_, rfl, by omega, by rw [hq, List.drop_drop]; congr 1, by rw [List.length_drop]; omega, hcell, ?_, ?_, hwl, rfl⟩
            · show [Value.slice (if c' = 64 then some a' else some (a'.add 64)) (q.length - 64) (c' - 64)] = _
              rw [List.length_drop]
              split <;> rfl
            · split
              · exact hab
              · rw [add_block]; exact hab
            · rw [blocks_succ, ← hq, ← hst, hs']
              rfl
  · skip
    have hq64 : q.length < 64 := by
      simp only [bnA] at *
      omega
    refine j_sub (S' := [[(gs, .cells (ks .u32 st).toArray e (0, 0))]]) (by exact (List.sublist_cons_self _ _).trans (List.sublist_cons_self _ _)) ?_
    refine j_ret_con (vs := []) (fun w' hw' => trivial) ?_
    refine ⟨rfl, ?_⟩
    rw [hst]
    have : p.length / 64 = n := by omega
    rw [this]
end Go.Proofs.YtfeabbeebkkhaaaGreat
/-! Sha3 -/
namespace Go.Proofs.YtfeabbeebkkhaaaGreat
open Go Go.Sx
set_option maxRecDepth 100000
set_option maxHeartbeats 4000000
set_option linter.unusedVariables false
set_option linter.unusedSimpArgs false
attribute [local irreducible] J JQ QS Con W opW
theorem ho_len8 {e : TypeId} {q : List UInt8} {x : Int} {v : Value} {c : SH} (h : Sx.Own e 1 (ints q) v c) : Sx.Own e 1 (ints (q ++ len8 x 0)) v c := by simpa [len8] using h
theorem ne_own {a : Addr} {p : List UInt8} {g : Nat} {w : World} (h : Cells w a (ints p)) (hg : w.heap.size ≤ g) (hp : p ≠ []) : a.block ≠ g := by
  intro e
  have := h 0 _ (ints_get_lt (List.length_pos_iff.2 hp))
  rw [add_zero_] at this
  unfold World.cell? at this
  split at this
  · rename_i h1
    have := lt_of_get h1
    omega
  · cases this
theorem own128 {e : TypeId} {p : List UInt8} {v : Value} {c : SH} {l : List UInt8} (h : Sx.Own e 1 (ints p ++ ints l) v c) : Sx.Own e 1 (ints (p ++ l)) v c := by rwa [ints_append]
theorem rep_succ (p : List UInt8) (j : Nat) : p ++ List.replicate j (0 : UInt8) ++ [0] = p ++ List.replicate (j + 1) 0 := by
  rw [List.append_assoc, ← List.replicate_succ']
theorem outs_step {s : List Int} {h : List UInt8} {i : Nat} (ht : h.take i = outs s i) (hi : i < h.length) : (h.set i (by8 ((s.getD (i / 4) 0).fdiv (2 ^ (24 - 8 * (i % 4)))))).take (i + 1) = outs s (i + 1) := by
  rw [take_set_succ hi, ht, outs]
theorem len8_succ (p : List UInt8) (x : Int) (i : Nat) : p ++ len8 x i ++ [by8 (x.fdiv (2 ^ (56 - 8 * i)))] = p ++ len8 x (i + 1) := by
  rw [len8, List.append_assoc]
theorem ended_eq (s : List Int) (p : List UInt8) (x : Int) : ended s p x = outs (blocks ((p.length + zc p.length + 9) / 64) (p ++ [128] ++ List.replicate (zc p.length) 0 ++ len8 x 8) s) 32 := by
  unfold ended pad
  simp only [List.append_assoc]
theorem shift24 (i : Nat) : min (24 - 8 * ((i : Int) % 4)).toNat IntKind.u32.bits = 24 - 8 * (i % 4) := by
  show min _ 32 = _
  omega
theorem shift56 (i : Nat) (h : i < 8) : min (56 - 8 * (i : Int)).toNat IntKind.u64.bits = 56 - 8 * i := by
  show min _ 64 = _
  omega
theorem div4 (i : Nat) : ((i : Int) / 4).toNat = i / 4 := by omega
theorem clone_con (p : List UInt8) (a : Addr) (c : Nat) (w : World) (hpm : p.length ≤ 35184372088832) (hpc : Cells w a (ints p)) : Con Tryz.prog 135 [.slice (some a) p.length c] w [] fun v S' => ∃ c', S' = [c'] ∧ Sx.Own 5 1 (ints p) v c' := by
  refine con_of_tree mix Tryz.func135 T135_ok (by kernel_rfl) ?_
  unfold T135
  refine j_q (qs_ac) ?_
  refine j_q (qs_slnil Tryz.underlying46 rfl) ?_
  refine j_cond rfl (fun hc0 => ?_) (fun hc0 => ?_)
  · skip
    cases hc0
  · skip
    refine j_lit (vs := []) Tryz.underlying46 sz5 zero5 rfl (by simp [oneV]) ⟨rfl, by decide⟩ (fun g3 v3 c3 hv3 hc3 ho3 => ?_)
    subst hv3 hc3
    refine j_append 0 Tryz.underlying46 Tryz.underlying46 (.inr ⟨_, rfl⟩) sb5 zero5 rfl ho3 rfl (src_sl (rd_cells hpc (by simp)) (by simp [ints_length])) ints_one ⟨(by simp [ints_length]; omega), (by decide)⟩ (fun v4 c4 ho4 => ?_)
    refine j_sub (S' := [c4]) (by simp) ?_
    refine j_ret_con (vs := [_]) (fun w' hw' => ⟨rfl, trivial⟩) ?_
    exact ⟨_, rfl, ho4⟩
theorem ended_con (s : List Int) (rest : List UInt8) (a : Addr) (c : Nat) (n0 x : Int) (w : World) (hs : s.length = 8) (hrm : rest.length ≤ 17592186044416) (hpc : Cells w a (ints rest)) (hx : x = IntKind.u64.wrap (n0 * 8)) : Con Tryz.prog 102 [.agg (ks .u32 s).toArray, .slice (some a) rest.length c, .int .u64 n0] w [] fun v _ => v = .agg (ints (ended s rest x)).toArray := by
  refine con_of_tree mix Tryz.func102 T102_ok (by kernel_rfl) ?_
  unfold T102
  have hz64 := zc_lt rest.length
  refine j_box rfl (fun g0 hg0 hs0 => ?_)
  refine j_alloc zero51 (fun g1 hg1 hs1 => ?_)
  refine j_call0 ent135 rfl rfl rfl (fun w' hw' => clone_con rest a c w' (by omega) (rd_w (rd_cells hpc (by simp)) hw')) (fun u S2 hu => ?_)
  obtain ⟨c2, rfl, ho2⟩ := hu
  refine j_lit (vs := [.int .u8 _]) Tryz.underlying46 sz5 zero5 rfl (by simp [oneV]) ⟨rfl, by decide⟩ (fun g3 v3 c3 hv3 hc3 ho3 => ?_)
  subst hv3 hc3
  refine j_append 1 Tryz.underlying46 Tryz.underlying46 (.inr ⟨_, rfl⟩) sb5 zero5 rfl ho2 rfl (src_sl (rd_own 0 rfl (n := 1) rfl) rfl) (by simp [oneV]) ⟨(by simp [ints_length]; omega), (by decide)⟩ (fun v4 c4 ho4 => ?_)
  have ho4' : Sx.Own 5 1 (ints (rest ++ [128] ++ List.replicate 0 0)) v4 c4 := by simpa using own128 (l := [128]) ho4
  refine j_loop (fun m vs S' => ∃ (j : Nat) (v : Value) (c : SH), vs = [v] ∧ S' = [[(g3, .cells [.int .u8 128].toArray 5 (0, 0))], c, [(g1, .cells (ints (List.replicate 32 0)).toArray 51 (0, 0))], [(g0, .cells (ks .u32 s).toArray 147 (0, 0))], []] ∧ Sx.Own 5 1 (ints (rest ++ [128] ++ List.replicate j 0)) v c ∧ j ≤ zc rest.length ∧ m = zc rest.length - j) ⟨_, 0, _, _, rfl, rfl, ho4', by omega, rfl⟩ ?_
  rintro m vs S' hlen ⟨j, v, c', rfl, rfl, ho, hj, rfl⟩
  obtain ⟨n, A, cap, rfl, hn⟩ := own_form ho (by decide)
  simp only [ints_length, List.length_append, List.length_replicate, List.length_cons, List.length_nil] at hn
  clear hlen
  refine j_q (qs_lenl Tryz.underlying46 rfl) ?_
  refine j_q (qs_rem64 rfl rfl (by omega) (by omega)) ?_
  refine j_q (qs_neq rfl rfl) ?_
  refine j_cond rfl (fun hc0 => ?_) (fun hc0 => ?_)
  · skip
    have hj1 : j < zc rest.length := by
      refine zc_back hj ?_
      simp only [bnA] at *
      omega
    refine j_lit (vs := [.int .u8 _]) Tryz.underlying46 sz5 zero5 rfl (by simp [oneV]) ⟨rfl, by decide⟩ (fun g8 v8 c8 hv8 hc8 ho8 => ?_)
    subst hv8 hc8
    refine j_append 2 Tryz.underlying46 Tryz.underlying46 (.inr ⟨_, rfl⟩) sb5 zero5 rfl ho rfl (src_sl (rd_own 0 rfl (n := 1) rfl) rfl) (by simp [oneV]) ⟨(by simp [ints_length]; omega), (by decide)⟩ (fun v9 c9 ho9 => ?_)
    have ho9' : Sx.Own 5 1 (ints (rest ++ [128] ++ List.replicate (j + 1) 0)) v9 c9 := by rw [← rep_succ]; exact own128 (l := [0]) ho9
    refine j_drop ?_
    refine j_back rfl ?_
    exact ⟨_, back_le hj1, j + 1, _, _, rfl, rfl, ho9', by omega, rfl⟩
  · skip
    have hje : j = zc rest.length := by
      refine zc_end hj ?_
      simp only [bnA] at *
      omega
    refine j_q (qs_mc) ?_
    refine j_loop (fun m vs S' => ∃ (i : Nat) (v : Value) (c : SH), vs = [v, .int .i64 i] ∧ S' = [[(g3, .cells [.int .u8 128].toArray 5 (0, 0))], c, [(g1, .cells (ints (List.replicate 32 0)).toArray 51 (0, 0))], [(g0, .cells (ks .u32 s).toArray 147 (0, 0))], []] ∧ Sx.Own 5 1 (ints (rest ++ [128] ++ List.replicate (zc rest.length) 0 ++ len8 x i)) v c ∧ i ≤ 8 ∧ m = 8 - i) ⟨_, 0, _, _, rfl, rfl, (ho_len8 (hje ▸ ho)), by omega, rfl⟩ ?_
    rintro m vs S' hlen ⟨i, v, c', rfl, rfl, ho, hi, rfl⟩
    clear hlen
    refine j_q (qs_lss rfl rfl) ?_
    refine j_cond rfl (fun hc1 => ?_) (fun hc1 => ?_)
    · skip
      have hi1 : i < 8 := by
        simp only [bnA] at *
        omega
      refine j_q (qs_shl rfl rfl (by omega)) ?_
      refine j_q (qs_mul64 rfl rfl (by omega)) ?_
      refine j_q (qs_sub64 rfl rfl (by omega)) ?_
      refine j_q (qs_shr rfl rfl (by omega)) ?_
      refine j_q (qs_conv8 Tryz.underlying151 Tryz.underlying5 rfl) ?_
      rw [show (n0 * 2 ^ min (Int.toNat 3) IntKind.u64.bits : Int) = n0 * 8 from rfl, ← hx, shift56 i hi1]
      refine j_lit (vs := [.int .u8 _]) Tryz.underlying46 sz5 zero5 rfl (by simp [oneV]) ⟨rfl, by decide⟩ (fun g17 v17 c17 hv17 hc17 ho17 => ?_)
      subst hv17 hc17
      refine j_append 2 Tryz.underlying46 Tryz.underlying46 (.inr ⟨_, rfl⟩) sb5 zero5 rfl ho rfl (src_sl (rd_own 0 rfl (n := 1) rfl) rfl) (by simp [oneV]) ⟨(by simp [ints_length, len8_length]; omega), (by decide)⟩ (fun v18 c18 ho18 => ?_)
      have ho18' : Sx.Own 5 1 (ints (rest ++ [128] ++ List.replicate (zc rest.length) 0 ++ len8 x (i + 1))) v18 c18 := by rw [← len8_succ]; exact own128 (l := [_]) ho18
      refine j_drop ?_
      refine j_q (qs_add64 rfl rfl (by omega)) ?_
      refine j_back rfl ?_
      exact ⟨_, back_le hi1, i + 1, _, _, rfl, rfl, ho18', by omega, rfl⟩
    · skip
      have hi1 : i = 8 := by
        simp only [bnA] at *
        omega
      subst hi1
      obtain ⟨g, n, cap, rfl⟩ := own_some ho (by simp [ints])
      obtain ⟨row, fz, hrow, hl1, hl2, hl3, hl4⟩ := own_row ho
      simp only [ints_length] at hl1
      have hmm : (rest ++ [128] ++ List.replicate (zc rest.length) 0 ++ len8 x 8).length = rest.length + zc rest.length + 9 := by simp [len8_length]; omega
      obtain rfl : n = (rest ++ [128] ++ List.replicate (zc rest.length) 0 ++ len8 x 8).length := by omega
      refine j_call 3 ent101 rfl rfl rfl rfl (fun w' hw' => take_con s (rest ++ [128] ++ List.replicate (zc rest.length) 0 ++ len8 x 8) ⟨g, 0, none⟩ cap g0 _ w' hs (by omega) hl3 (rd_w (own_rd ho 1 rfl) hw') (fun _ => by subst hrow; exact hw'.ne (i := 1) (j := 3) rfl rfl (by decide))) (fun u S2 hu => ?_)
      obtain ⟨rfl, rfl⟩ := hu
      rw [hmm]
      obtain ⟨s', hs'⟩ : ∃ s', s' = blocks ((rest.length + zc rest.length + 9) / 64) (rest ++ [128] ++ List.replicate (zc rest.length) 0 ++ len8 x 8) s := ⟨_, rfl⟩
      have hsl : s'.length = 8 := by rw [hs']; exact blocks_length hs
      rw [← hs']
      refine j_q (qs_mc) ?_
      refine j_loop (fun m vs S' => ∃ (i : Nat) (h : List UInt8), vs = [.int .i64 i] ∧ S' = [[(g0, .cells (ks .u32 s').toArray 147 (0, 0))], [(g3, .cells [.int .u8 128].toArray 5 (0, 0))], c', [(g1, .cells (ints h).toArray 51 (0, 0))], [], []] ∧ h.length = 32 ∧ h.take i = outs s' i ∧ i ≤ 32 ∧ m = 32 - i) ⟨_, 0, _, rfl, rfl, by simp, rfl, by omega, rfl⟩ ?_
      rintro m vs S' hlen ⟨i, h, rfl, rfl, hhl, ht, hi, rfl⟩
      clear hlen
      refine j_q (qs_lss rfl rfl) ?_
      refine j_cond rfl (fun hc2 => ?_) (fun hc2 => ?_)
      · skip
        have hi1 : i < 32 := by
          simp only [bnA] at *
          omega
        refine j_q (qs_quo64 rfl rfl (by omega) (by omega) (by omega)) ?_
        refine j_q (qs_ix0 Tryz.underlying147 sz145 rfl rfl ⟨(by omega), (by omega)⟩) ?_
        refine j_q (qs_loadk 0 Tryz.underlying145 rfl rfl (by omega)) ?_
        refine j_q (qs_rem64 rfl rfl (by omega) (by omega)) ?_
        refine j_q (qs_mul64 rfl rfl (by omega)) ?_
        refine j_q (qs_sub64 rfl rfl (by omega)) ?_
        refine j_q (qs_shr rfl rfl (by omega)) ?_
        refine j_q (qs_conv8 Tryz.underlying145 Tryz.underlying5 rfl) ?_
        rw [div4, shift24]
        refine j_q (qs_ix0 Tryz.underlying51 sz5 rfl rfl ⟨(by omega), (by omega)⟩) ?_
        refine j_storei 3 sz5 rfl rfl rfl (by omega) ?_
        refine j_q (qs_add64 rfl rfl (by omega)) ?_
        refine j_back rfl ?_
        exact ⟨_, back_le hi1, i + 1, _, rfl, rfl, by simpa using hhl, outs_step ht (by omega), by omega, rfl⟩
      · skip
        have hi1 : i = 32 := by
          simp only [bnA] at *
          omega
        subst hi1
        refine j_q (qs_loadw 3 Tryz.underlying51 rfl sz51 rfl rfl (by first | rfl | (rw [ints_length]; exact hhl))) ?_
        refine j_storew 3 sz51 rfl rfl (by first | rfl | (rw [ints_length]; exact hhl)) ints_one rfl (by first | rfl | (rw [ints_length]; exact hhl)) ?_
        refine j_ret_con (vs := [_]) (fun w' hw' => ⟨rv_agg 3 Tryz.underlying51 rfl sz51 rfl rfl (by first | rfl | (rw [ints_length]; exact hhl)) hw', trivial⟩) ?_
        show Value.agg _ = _
        rw [List.take_of_length_le (by omega)] at ht
        rw [ht, hs', ended_eq]
end Go.Proofs.YtfeabbeebkkhaaaGreat
/-! Sha4 -/
namespace Go.Proofs.YtfeabbeebkkhaaaGreat
open Go Go.Sx
set_option maxRecDepth 100000
set_option maxHeartbeats 4000000
set_option linter.unusedVariables false
set_option linter.unusedSimpArgs false
attribute [local irreducible] J JQ QS Con W opW
theorem sum_con (p : List UInt8) (a : Addr) (c : Nat) (w : World) (hpm : p.length ≤ 17592186044416) (hc : p.length ≤ c) (hpc : Cells w a (ints p)) : Con Tryz.prog 53 [.slice (some a) p.length c] w [] fun v _ => v = .agg (ints (sum p)).toArray := by
  refine con_of_tree mix Tryz.func53 T53_ok (by kernel_rfl) ?_
  unfold T53
  refine j_alloc zero51 (fun g0 hg0 hs0 => ?_)
  refine j_q (qs_call ent100 rfl rfl rfl (fun w' hw' => begun_con w')) ?_
  refine j_alloc zero147 (fun g2 hg2 hs2 => ?_)
  refine j_storew 0 sz147 rfl rfl (by first | (rw [ks_length]; exact blocks_length rfl) | (rw [ints_length]; exact outs_length _ _) | rfl) ks_one rfl (by first | (rw [ks_length]; exact blocks_length rfl) | (rw [ints_length]; exact outs_length _ _) | rfl) ?_
  refine j_call 0 ent101 rfl rfl rfl rfl (fun w' hw' => take_con init8 p a c g2 _ w' rfl (by omega) hc (rd_w (rd_cells hpc (by simp)) hw') (fun hp => ne_own hpc hg2 hp)) (fun u S2 hu => ?_)
  obtain ⟨rfl, rfl⟩ := hu
  refine j_draw ?_
  refine jq_q (qs_loadw 0 Tryz.underlying147 rfl sz147 rfl rfl (by first | (rw [ks_length]; exact blocks_length rfl) | (rw [ints_length]; exact outs_length _ _) | rfl)) ?_
  refine jq_q (qs_lenl Tryz.underlying46 rfl) ?_
  refine jq_q (qs_quo64 rfl rfl (by omega) (by omega) (by omega)) ?_
  refine jq_q (qs_mul64 rfl rfl (by omega)) ?_
  refine jq_q (qs_cutl (a := 64 * (p.length / 64)) (z := p.length) Tryz.underlying46 sz5 rfl ⟨.i64, by show Value.int _ _ = _; congr 1; omega⟩ rfl (by omega) (by omega)) ?_
  rw [show (if c = 64 * (p.length / 64) then some a else (some a).map (·.add (64 * (p.length / 64) * 1))) = some (if c = 64 * (p.length / 64) then a else a.add (64 * (p.length / 64))) by split <;> simp]
  have hcell : ∀ (S : List SH) w', Sig ⟨w, dom []⟩ S w' → Cells w' (if c = 64 * (p.length / 64) then a else a.add (64 * (p.length / 64))) ((ints p).drop (64 * (p.length / 64))) := by
    intro S w' hw'
    have h0 := rd_w (rd_cells hpc (by simp)) hw'
    split
    · rw [List.drop_of_length_le (by rw [ints_length]; omega)]
      intro j u hu
      simp at hu
    · exact cells_drop h0 _
  rw [show p.length - 64 * (p.length / 64) = (p.drop (64 * (p.length / 64))).length by rw [List.length_drop]]
  refine jq_q (qs_lenl Tryz.underlying46 rfl) ?_
  refine jq_q (qs_conv Tryz.underlying3 Tryz.underlying151 rfl) ?_
  refine jq_q (qs_call ent102 rfl rfl rfl (fun w' hw' => ended_con _ (p.drop (64 * (p.length / 64))) _ _ _ (bits8 p.length) w' (blocks_length rfl) (by rw [List.length_drop]; omega) (by rw [← ints_drop]; exact hcell _ w' hw') rfl)) ?_
  refine jq_nil ?_
  refine j_storew 2 sz51 rfl rfl (by first | (rw [ks_length]; exact blocks_length rfl) | (rw [ints_length]; exact outs_length _ _) | rfl) ints_one rfl (by first | (rw [ks_length]; exact blocks_length rfl) | (rw [ints_length]; exact outs_length _ _) | rfl) ?_
  refine j_ret_con (vs := [_]) (fun w' hw' => ⟨rv_agg 2 Tryz.underlying51 rfl sz51 rfl rfl (by first | (rw [ks_length]; exact blocks_length rfl) | (rw [ints_length]; exact outs_length _ _) | rfl) hw', trivial⟩) ?_
  show Value.agg _ = _
  rw [sum_split]
end Go.Proofs.YtfeabbeebkkhaaaGreat
/-! Sha5 -/
namespace Go.Proofs.YtfeabbeebkkhaaaGreat
open Go Go.Sx
set_option maxRecDepth 100000
set_option maxHeartbeats 4000000
set_option linter.unusedVariables false
set_option linter.unusedSimpArgs false
attribute [local irreducible] J JQ QS Con W opW
theorem fold_con (h : List UInt8) (w : World) (hh : h.length = 32) : Con Tryz.prog 131 [.agg (ints h).toArray] w [] fun v _ => v = .agg (ints (fold h)).toArray := by
  refine con_of_tree mix Tryz.func131 T131_ok (by kernel_rfl) ?_
  unfold T131
  refine j_box rfl (fun g0 hg0 hs0 => ?_)
  refine j_alloc zero155 (fun g1 hg1 hs1 => ?_)
  refine j_q (qs_loadw 1 Tryz.underlying51 rfl sz51 rfl rfl (by first | (rw [ints_length]; exact hh) | (rw [ints_length]; exact hfl) | exact hh | rfl)) ?_
  refine j_q (qs_mc) ?_
  refine j_loop (fun m vs S' => ∃ (i : Nat) (f : List UInt8), vs = [.int .i64 i] ∧ S' = [[(g1, .cells (ints f).toArray 155 (0, 0))], [(g0, .cells (ints h).toArray 51 (0, 0))], []] ∧ f = foldN h i ∧ i ≤ 32 ∧ m = 32 - i) ⟨_, 0, _, rfl, rfl, rfl, by omega, rfl⟩ ?_
  rintro m vs S' hlen ⟨i, f, rfl, rfl, hf, hi, rfl⟩
  have hfl : f.length = 20 := by rw [hf]; exact foldN_length h i
  clear hlen
  refine j_q (qs_lss rfl rfl) ?_
  refine j_cond rfl (fun hc0 => ?_) (fun hc0 => ?_)
  · skip
    have hi1 : i < 32 := by
      simp only [bnA] at *
      omega
    have hi2 : ((i : Int) % 20).toNat = i % 20 := by omega
    have hi3 : i % 20 < 20 := by omega
    refine j_q (qs_ixvi Tryz.underlying51 Tryz.underlying5 sz5 rfl rfl ⟨(by omega), (by omega)⟩ (by first | (rw [ints_length]; exact hh) | (rw [ints_length]; exact hfl) | exact hh | rfl)) ?_
    refine j_q (qs_rem64 rfl rfl (by omega) (by omega)) ?_
    refine j_q (qs_ix0 Tryz.underlying155 sz5 rfl rfl ⟨(by omega), (by omega)⟩) ?_
    refine j_q (qs_loadi 0 Tryz.underlying5 rfl rfl (by omega)) ?_
    refine j_q (qs_xor_ rfl rfl) ?_
    rw [hi2, bw_by8]
    refine j_q (qs_ix0 Tryz.underlying155 sz5 rfl rfl ⟨(by omega), (by omega)⟩) ?_
    refine j_storei 0 sz5 rfl rfl rfl (by omega) ?_
    refine j_q (qs_add64 rfl rfl (by omega)) ?_
    refine j_back rfl ?_
    refine ⟨_, back_le hi1, i + 1, _, rfl, rfl, ?_, by omega, rfl⟩
    rw [foldN, ← hf, hi2]
    rfl
  · skip
    have hi1 : i = 32 := by
      simp only [bnA] at *
      omega
    subst hi1
    refine j_q (qs_loadw 0 Tryz.underlying155 rfl sz155 rfl rfl (by first | (rw [ints_length]; exact hh) | (rw [ints_length]; exact hfl) | exact hh | rfl)) ?_
    refine j_storew 0 sz155 rfl rfl (by first | (rw [ints_length]; exact hh) | (rw [ints_length]; exact hfl) | exact hh | rfl) ints_one rfl (by first | (rw [ints_length]; exact hh) | (rw [ints_length]; exact hfl) | exact hh | rfl) ?_
    refine j_ret_con (vs := [_]) (fun w' hw' => ⟨rv_agg 0 Tryz.underlying155 rfl sz155 rfl rfl (by first | (rw [ints_length]; exact hh) | (rw [ints_length]; exact hfl) | exact hh | rfl) hw', trivial⟩) ?_
    show Value.agg _ = _
    rw [hf]
    rfl
end Go.Proofs.YtfeabbeebkkhaaaGreat
/-! Path2 -/
namespace Go.Proofs.YtfeabbeebkkhaaaGreat
open Go Go.Sx
set_option maxRecDepth 100000
set_option maxHeartbeats 4000000
set_option linter.unusedVariables false
set_option linter.unusedSimpArgs false
attribute [local irreducible] J JQ QS Con W opW
def pathOf (kind h name : List UInt8) : List UInt8 := text32 (fold (sum (kind ++ [58] ++ hex h ++ [58] ++ name))) ++ [45] ++ name
theorem fold_length (h : List UInt8) : (fold h).length = 20 := foldN_length h 32
theorem hex_length (h : List UInt8) : (hex h).length = 64 := hexN_length h 32
theorem text_fold (h : List UInt8) : (text32 (fold h)).length = 32 := by rw [text32_length, fold_length]; rfl
theorem pathOf_length (kind h name : List UInt8) : (pathOf kind h name).length = 33 + name.length := by
  unfold pathOf
  simp only [List.length_append, text_fold, List.length_cons, List.length_nil]
def mk (kind h name : List UInt8) : Value := if isName name then .tuple #[.string (bs (pathOf kind h name)), .int .i64 0] else .tuple #[.string (bs []), .int .i64 9]
attribute [local irreducible] fold sum hex text32 pathOf
theorem make_con (kind h name : List UInt8) (w : World) (hh : h.length = 32) (hk : kind.length + name.length ≤ 1099511627776) : Con Tryz.prog 99 [.string (bs kind), .agg (ints h).toArray, .string (bs name)] w [] fun v _ => v = mk kind h name := by
  refine con_of_tree mix Tryz.func99 T99_ok (by kernel_rfl) ?_
  unfold T99
  refine j_box rfl (fun g0 hg0 hs0 => ?_)
  refine j_q (qs_ac) ?_
  refine j_q (qs_ac) ?_
  refine j_q (qs_call ent38 rfl rfl rfl (fun w' hw' => isName_con name w' (by omega))) ?_
  refine j_q (qs_not rfl) ?_
  refine j_cond rfl (fun hc0 => ?_) (fun hc0 => ?_)
  · skip
    have hnm : isName name = false := by
      simp only [bnA] at *
      exact hc0
    refine j_q (qs_ac) ?_
    refine j_q (qs_ac) ?_
    refine j_ret_con (vs := [_, _]) (fun w' hw' => ⟨rfl, rfl, trivial⟩) ?_
    show Value.tuple #[_, _] = _
    rw [mk, if_neg (by rw [hnm]; decide)]
    rfl
  · skip
    have hnm : isName name = true := by
      simp only [bnA] at *
      exact hc0
    refine j_q (qs_sadd rfl rfl (by simp; omega)) ?_
    refine j_q (qs_loadw 0 Tryz.underlying51 rfl sz51 rfl rfl (by first | (rw [ints_length]; exact fold_length _) | (rw [ints_length]; exact hh) | rfl)) ?_
    refine j_q (qs_call ent54 rfl rfl rfl (fun w' hw' => hex_con h w' hh)) ?_
    refine j_q (qs_sadd rfl rfl (by simp [hex_length]; omega)) ?_
    refine j_q (qs_sadd rfl rfl (by simp [hex_length]; omega)) ?_
    refine j_q (qs_sadd rfl rfl (by simp [hex_length]; omega)) ?_
    refine j_bytes Tryz.underlying9 Tryz.underlying46 Tryz.underlying5 rfl (fun v13 c13 ho13 hv13 => ?_)
    obtain ⟨g13, cap13, rfl⟩ := hv13
    obtain ⟨row, fz, hrow, hl1, hl2, hl3, hl4⟩ := own_row ho13
    refine j_q (qs_call ent53 rfl rfl rfl (fun w' hw' => sum_con (kind ++ [58] ++ hex h ++ [58] ++ name) _ _ w' (by simp [hex_length]; omega) hl3 (rd_w (own_rd ho13 0 rfl) hw'))) ?_
    refine j_q (qs_call ent131 rfl rfl rfl (fun w' hw' => fold_con _ w' (sum_length _))) ?_
    refine j_alloc zero155 (fun g16 hg16 hs16 => ?_)
    refine j_storew 0 sz155 rfl rfl (by first | (rw [ints_length]; exact fold_length _) | (rw [ints_length]; exact hh) | rfl) ints_one rfl (by first | (rw [ints_length]; exact fold_length _) | (rw [ints_length]; exact hh) | rfl) ?_
    refine j_q (qs_cuta  Tryz.underlying155 sz5 rfl rfl rfl (by omega) (by omega)) ?_
    show J _ _ _ (Value.slice (some ⟨g16, 0, none⟩) 20 20 :: _) _ _ _
    have e20 : Value.slice (some ⟨g16, 0, none⟩) 20 20 = Value.slice (some ⟨g16, 0, none⟩) (fold (sum (kind ++ [58] ++ hex h ++ [58] ++ name))).length 20 := by rw [fold_length]
    rw [e20]
    refine j_q (qs_call ent132 rfl rfl rfl (fun w' hw' => text_con _ _ _ w' (by rw [fold_length]; decide) (rd_w (rd_own 0 rfl (n := 20) (by rw [List.drop_zero, List.take_of_length_le (by rw [ints_length, fold_length]; exact Nat.le_refl _)])) hw'))) ?_
    refine j_q (qs_sadd rfl rfl (by simp [text_fold])) ?_
    refine j_q (qs_sadd rfl rfl (by simp [text_fold]; omega)) ?_
    refine j_q (qs_ac) ?_
    refine j_ret_con (vs := [_, _]) (fun w' hw' => ⟨rfl, rfl, trivial⟩) ?_
    show Value.tuple #[_, _] = _
    rw [mk, if_pos hnm, pathOf]
    rfl
end Go.Proofs.YtfeabbeebkkhaaaGreat
/-! Path5 -/
namespace Go.Proofs.YtfeabbeebkkhaaaGreat
open Go Go.Sx
set_option maxRecDepth 100000
set_option maxHeartbeats 4000000
set_option linter.unusedVariables false
set_option linter.unusedSimpArgs false
attribute [local irreducible] J JQ QS Con W opW
theorem allDig_digs (n i : Nat) : allDig (digs n i) = true := by
  induction i with
  | zero => rfl
  | succ i ih =>
    unfold allDig at ih ⊢
    simp only [digs, List.all_cons, ih, Bool.and_true, decide_eq_true_eq]
    rw [dpos_at _ (dg_lt n i)]
    omega
theorem path_drop (kind h name : List UInt8) : (pathOf kind h name).drop 33 = name := by
  unfold pathOf
  rw [List.drop_append_of_le_length (by simp [text_fold]), List.drop_of_length_le (by simp [text_fold])]
  rfl
theorem path_take (kind h name : List UInt8) : (pathOf kind h name).take 32 = text32 (fold (sum (kind ++ [58] ++ hex h ++ [58] ++ name))) := by
  unfold pathOf
  rw [List.append_assoc, List.take_append_of_le_length (by rw [text_fold]; exact Nat.le_refl _), List.take_of_length_le (by rw [text_fold]; exact Nat.le_refl _)]
theorem path_is {kind h name : List UInt8} (hn : isName name = true) : isPath (pathOf kind h name) = true := by
  have h1 := isName_len hn
  have h2 : (pathOf kind h name).getD 32 0 = 45 := by
    unfold pathOf
    rw [List.append_assoc, List.getD_eq_getElem?_getD, List.getElem?_append_right (by rw [text_fold]; exact Nat.le_refl _), text_fold]
    rfl
  unfold isPath
  rw [path_drop, path_take, hn, h2, pathOf_length]
  have h3 : allDig (text32 (fold (sum (kind ++ [58] ++ hex h ++ [58] ++ name)))) = true := allDig_digs _ _
  rw [h3]
  simp only [Bool.and_true, decide_eq_true_eq]
  exact ⟨by omega, rfl⟩
attribute [local irreducible] fold sum hex text32 pathOf allDig isName spA spB
end Go.Proofs.YtfeabbeebkkhaaaGreat
/-! Path6 -/
namespace Go.Proofs.YtfeabbeebkkhaaaGreat
open Go Go.Sx
set_option maxRecDepth 100000
set_option maxHeartbeats 4000000
set_option linter.unusedVariables false
set_option linter.unusedSimpArgs false
attribute [local irreducible] J JQ QS Con W opW
attribute [local irreducible] fold sum hex text32 pathOf allDig isName isPath spA spB spE cp sortS rise
def refsOf (l : List (List UInt8)) : List UInt8 := l.flatMap fun p => 58 :: p
def withP (kind h : List UInt8) (rs : List (List UInt8)) (name : List UInt8) : List UInt8 := if isName name && (rs.all isPath && decide (rs.length ≤ 1024)) then pathOf (kind ++ refsOf (rise rs)) h name else []
def withE (rs : List (List UInt8)) (name : List UInt8) : Int := if isName name then if rs.all isPath then if rs.length ≤ 1024 then 0 else 5 else 3 else 9
def withV (kind h : List UInt8) (rs : List (List UInt8)) (name : List UInt8) : Value := .tuple #[.string (bs (withP kind h rs name)), .int .i64 (withE rs name)]
theorem refs_snoc (l : List (List UInt8)) (p : List UInt8) : refsOf (l ++ [p]) = refsOf l ++ ([58] ++ p) := by simp [refsOf]
theorem refs_len {l : List (List UInt8)} (h : ∀ p ∈ l, p.length ≤ 113) : (refsOf l).length ≤ 114 * l.length := by
  induction l with
  | nil => simp [refsOf]
  | cons a l ih =>
    have h1 := h a (by simp)
    have h2 := ih fun p hp => h p (by simp [hp])
    have : refsOf (a :: l) = 58 :: a ++ refsOf l := by simp [refsOf]
    rw [this]
    simp only [List.length_append, List.length_cons]
    omega
theorem path_len {l : List UInt8} (h : isPath l = true) : l.length ≤ 113 := by
  unfold isPath at h
  simp only [Bool.and_eq_true] at h
  have := isName_len h.1.2
  rw [List.length_drop] at this
  omega
theorem all_get {rs : List (List UInt8)} (h : rs.all isPath = true) {x : List UInt8} (hx : x ∈ rs) : isPath x = true := List.all_eq_true.1 h x hx
theorem all_snoc {rs : List (List UInt8)} {i : Nat} (hi : i < rs.length) (h : (rs.take i).all isPath = true) (h2 : isPath (rs.getD i []) = true) : (rs.take (i + 1)).all isPath = true := by
  rw [take_snoc hi, List.all_append, h]
  simpa using h2
theorem all_not {rs : List (List UInt8)} {i : Nat} (hi : i < rs.length) (h2 : isPath (rs.getD i []) = false) : rs.all isPath = false := by
  cases h : rs.all isPath
  · rfl
  · rw [all_get h (x := rs.getD i []) (by rw [List.getD_eq_getElem?_getD, List.getElem?_eq_getElem hi]; exact List.getElem_mem hi)] at h2
    cases h2
theorem kind_len {rs : List (List UInt8)} (h : rs.all isPath = true) (hn : rs.length ≤ 1024) (i : Nat) : (refsOf ((rise rs).take i)).length ≤ 116736 := by
  have h1 : (refsOf ((rise rs).take i)).length ≤ 114 * ((rise rs).take i).length := refs_len fun p hp => path_len (all_get h ((rise_mem rs p).1 (List.mem_of_mem_take hp)))
  have h2 := rise_len rs
  rw [List.length_take] at h1
  omega
theorem rise_get_len {rs : List (List UInt8)} (h : rs.all isPath = true) {i : Nat} (hi : i < (rise rs).length) : ((rise rs).getD i []).length ≤ 113 := by
  refine path_len (all_get h ((rise_mem rs _).1 ?_))
  rw [List.getD_eq_getElem?_getD, List.getElem?_eq_getElem hi]
  exact List.getElem_mem hi
theorem get_len {rs : List (List UInt8)} {M : Nat} (h : ∀ r ∈ rs, r.length ≤ M) {i : Nat} (hi : i < rs.length) : (rs.getD i []).length ≤ M := by
  refine h _ ?_
  rw [List.getD_eq_getElem?_getD, List.getElem?_eq_getElem hi]
  exact List.getElem_mem hi
theorem spE_yes {l : List UInt8} (h : isPath l = true) : spE l = 0 := by unfold spE; rw [if_pos h]
theorem spE_no {l : List UInt8} (h : isPath l = false) : spE l = 3 := by unfold spE; rw [if_neg (by rw [h]; decide)]
theorem withV_no {kind h : List UInt8} {rs : List (List UInt8)} {name : List UInt8} (hn : isName name = false) : withV kind h rs name = .tuple #[.string (bs []), .int .i64 9] := by simp [withV, withP, withE, hn]
theorem withV_form {kind h : List UInt8} {rs : List (List UInt8)} {name : List UInt8} (hn : isName name = true) (ha : rs.all isPath = false) : withV kind h rs name = .tuple #[.string (bs []), .int .i64 3] := by simp only [withV, withP, withE, hn, ha]; rfl
theorem withV_long {kind h : List UInt8} {rs : List (List UInt8)} {name : List UInt8} (hn : isName name = true) (ha : rs.all isPath = true) (hl : ¬ rs.length ≤ 1024) : withV kind h rs name = .tuple #[.string (bs []), .int .i64 5] := by simp only [withV, withP, withE, hn, ha, hl]; rfl
theorem withV_ok {kind h : List UInt8} {rs : List (List UInt8)} {name : List UInt8} (hn : isName name = true) (ha : rs.all isPath = true) (hl : rs.length ≤ 1024) : withV kind h rs name = .tuple #[.string (bs (pathOf (kind ++ refsOf (rise rs)) h name)), .int .i64 0] := by simp only [withV, withP, withE, hn, ha, hl]; rfl
theorem svals_of {w : World} {v : Value} {rs : List (List UInt8)} (h : StrSl w v rs) : SVals w.heap.size w v rs := by
  rcases h with ⟨rfl, rfl⟩ | ⟨g, off, cap, rfl, h1, h2, h3⟩
  · exact .inl ⟨rfl, rfl⟩
  · refine .inr ⟨g, off, cap, rfl, h1, fun j hj => ?_⟩
    have := h3 j _ (strs_get hj)
    rw [add_off] at this
    rw [this]
    simp only [encStr]
    rfl
attribute [local irreducible] refsOf
theorem rising_con (rs : List (List UInt8)) (v : Value) (w : World) (hv : StrSl w v rs) (hn : rs.length ≤ 90000) : Con Tryz.prog 31 [v] w [] fun u S' => ∃ c', S' = [c'] ∧ Sx.Own 49 1 (strs (rise rs)) u c' := by
  refine con_of_tree mix Tryz.func31 T31_ok (by kernel_rfl) ?_
  unfold T31
  obtain ⟨A, cap, rfl, hcap⟩ := strsl_form hv
  refine j_q (qs_ac) ?_
  refine j_q (qs_ac) ?_
  refine j_q (qs_ac) ?_
  refine j_loop (fun m vs S' => ∃ (i : Nat) (zs : List (List UInt8)) (ov : Value) (c : SH), vs = [ov, .int .i64 (i : Int)] ∧ S' = [c] ∧ Sx.Own 49 1 (strs zs) ov c ∧ Strict zs ∧ (∀ x, x ∈ zs ↔ x ∈ rs.take i) ∧ zs.length ≤ i ∧ i ≤ rs.length ∧ m = rs.length - i) ⟨_, 0, [], _, [], rfl, rfl, own_nil, List.Pairwise.nil, by simp, Nat.zero_le _, Nat.zero_le _, rfl⟩ ?_
  rintro m vs S' hlen ⟨i, zs, ov, c, rfl, rfl, ho, hst, hmem, hzl, hin, rfl⟩
  refine j_q (qs_lenl Tryz.underlying25 rfl) ?_
  refine j_q (qs_lss rfl rfl) ?_
  refine j_cond rfl (fun hc0 => ?_) (fun hc0 => ?_)
  · skip
    have hi : i < rs.length := by
      simp only [bnA] at *
      omega
    obtain ⟨ga, off, rfl, hga, hcells⟩ := strsl_addr hv (by omega)
    refine j_q (qs_ixl0 Tryz.underlying25 sz49 rfl rfl ⟨(by omega), (by omega)⟩) ?_
    refine j_q (qs_loadrs (rd_cells hcells (by simp)) Tryz.underlying49 rfl (by simp only [Int.toNat_natCast]; omega)) ?_
    simp only [Int.toNat_natCast]
    refine j_call 0 ent25 rfl rfl rfl rfl (fun w' hw' => lay_con zs _ ov c ho hst (by omega) w') (fun u S2 hu => ?_)
    obtain ⟨zs2, c2, rfl, ho2, hst2, hmem2, hl2⟩ := hu
    refine j_subl (S' := [c2]) (by repeat first | exact slR _ | exact slN _ | apply slC | apply slD) ?_
    refine j_q (qs_add64 rfl rfl (by omega)) ?_
    refine j_back rfl ?_
    exact ⟨rs.length - (i + 1), by omega, i + 1, zs2, _, c2, rfl, rfl, ho2, hst2, fun x => by rw [hmem2, take_snoc hi, List.mem_append, List.mem_singleton, hmem], by omega, by omega, rfl⟩
  · skip
    obtain rfl : i = rs.length := by
      simp only [bnA] at *
      omega
    refine j_ret_con (vs := [_]) (fun w' hw' => ⟨rfl, trivial⟩) ?_
    refine ⟨c, rfl, ?_⟩
    rw [← rise_eq hst (fun x => by rw [hmem, List.take_of_length_le (Nat.le_refl _)])]
    exact ho
theorem with_con (kind h : List UInt8) (rs : List (List UInt8)) (name : List UInt8) (v : Value) (w : World) (hv : StrSl w v rs) (hk0 : kind ≠ []) (hk : kind.length ≤ 1000) (hh : h.length = 32) (hn : rs.length ≤ 90000) (hl : ∀ r ∈ rs, r.length ≤ 9223372036854775807) (hnm : name.length ≤ 1099511000000) : Con Tryz.prog 109 [.string (bs kind), .agg (ints h).toArray, v, .string (bs name)] w [] fun u _ => u = withV kind h rs name := by
  refine con_of_tree mix Tryz.func109 T109_ok (by kernel_rfl) ?_
  unfold T109
  obtain ⟨A, cap, rfl, hcap⟩ := strsl_form hv
  refine j_box rfl (fun g0 hg0 hs0 => ?_)
  refine j_q (qs_ac) ?_
  refine j_q (qs_ac) ?_
  refine j_q (qs_call ent38 rfl rfl rfl (fun w' hw' => isName_con name w' (by omega))) ?_
  refine j_q (qs_not rfl) ?_
  refine j_cond rfl (fun hc0 => ?_) (fun hc0 => ?_)
  · skip
    have hno : isName name = false := by
      simp only [bnA] at *
      exact hc0
    refine j_q (qs_ac) ?_
    refine j_q (qs_ac) ?_
    refine j_ret_con (vs := [_, _]) (fun w' hw' => ⟨rfl, rfl, trivial⟩) ?_
    show Value.tuple #[_, _] = _
    rw [withV_no hno]
    rfl
  · skip
    have hyes : isName name = true := by
      simp only [bnA] at *
      exact hc0
    refine j_q (qs_lenl Tryz.underlying25 rfl) ?_
    refine j_q (qs_mc) ?_
    refine j_loop (fun m vs S' => ∃ i : Nat, vs = [.int .i64 (i : Int)] ∧ S' = [[(g0, .cells (ints h).toArray 51 (0, 0))], []] ∧ i ≤ rs.length ∧ (rs.take i).all isPath = true ∧ m = rs.length - i) ⟨_, 0, rfl, rfl, Nat.zero_le _, by simp, rfl⟩ ?_
    rintro m vs S' hlen ⟨i, rfl, rfl, hin, hall, rfl⟩
    refine j_q (qs_lss rfl rfl) ?_
    refine j_cond rfl (fun hc1 => ?_) (fun hc1 => ?_)
    · skip
      have hi : i < rs.length := by
        simp only [bnA] at *
        omega
      obtain ⟨ga, off, rfl, hga, hcells⟩ := strsl_addr hv (by omega)
      refine j_q (qs_ixl0 Tryz.underlying25 sz49 rfl rfl ⟨(by omega), (by omega)⟩) ?_
      refine j_q (qs_loadrs (rd_cells hcells (by simp)) Tryz.underlying49 rfl (by simp only [Int.toNat_natCast]; omega)) ?_
      simp only [Int.toNat_natCast]
      refine j_q (qs_call ent79 rfl rfl rfl (fun w' hw' => split_con (rs.getD i []) w' (get_len hl hi))) ?_
      unfold spl
      refine j_q (qs_ext (vs := [.string (bs (spA (rs.getD i []))), .string (bs (spB (rs.getD i []))), .int .i64 (spE (rs.getD i []))]) rfl rfl) ?_
      refine j_q (qs_ext (vs := [.string (bs (spA (rs.getD i []))), .string (bs (spB (rs.getD i []))), .int .i64 (spE (rs.getD i []))]) rfl rfl) ?_
      refine j_q (qs_ext (vs := [.string (bs (spA (rs.getD i []))), .string (bs (spB (rs.getD i []))), .int .i64 (spE (rs.getD i []))]) rfl rfl) ?_
      refine j_q (qs_neq rfl rfl) ?_
      refine j_cond rfl (fun hc2 => ?_) (fun hc2 => ?_)
      · skip
        have hbad : isPath (rs.getD i []) = false := by
          cases hx : isPath (rs.getD i [])
          · rfl
          · rw [spE_yes hx] at hc2; exact absurd hc2 (by decide)
        refine j_q (qs_ac) ?_
        refine j_ret_con (vs := [_, _]) (fun w' hw' => ⟨rfl, rfl, trivial⟩) ?_
        show Value.tuple #[_, _] = _
        rw [withV_form hyes (all_not hi hbad), spE_no hbad]
        rfl
      · skip
        have hok : isPath (rs.getD i []) = true := by
          cases hx : isPath (rs.getD i [])
          · rw [spE_no hx] at hc2; exact absurd hc2 (by decide)
          · rfl
        refine j_q (qs_add64 rfl rfl (by omega)) ?_
        refine j_back rfl ?_
        exact ⟨rs.length - (i + 1), by omega, i + 1, rfl, rfl, by omega, all_snoc hi hall hok, rfl⟩
    · skip
      obtain rfl : i = rs.length := by
        simp only [bnA] at *
        omega
      rw [List.take_of_length_le (Nat.le_refl _)] at hall
      refine j_subl (S' := [[(g0, .cells (ints h).toArray 51 (0, 0))]]) (by repeat first | exact slR _ | exact slN _ | apply slC | apply slD) ?_
      refine j_q (qs_lenl Tryz.underlying25 rfl) ?_
      refine j_q (qs_gtr rfl rfl) ?_
      refine j_cond rfl (fun hc3 => ?_) (fun hc3 => ?_)
      · skip
        have hn1 : ¬ rs.length ≤ 1024 := by
          simp only [bnA] at *
          omega
        refine j_q (qs_ac) ?_
        refine j_q (qs_ac) ?_
        refine j_ret_con (vs := [_, _]) (fun w' hw' => ⟨rfl, rfl, trivial⟩) ?_
        show Value.tuple #[_, _] = _
        rw [withV_long hyes hall hn1]
        rfl
      · skip
        have hn1 : rs.length ≤ 1024 := by
          simp only [bnA] at *
          omega
        refine j_alloc zero169 (fun g23 hg23 hs23 => ?_)
        refine j_call 0 ent115 rfl rfl rfl rfl (fun w' hw' => writeString_con g23 none (.inl rfl) (.slice none 0 0) [] [] kind own_nil (by simp; omega) w') (fun u S2 hu => ?_)
        obtain ⟨rfl, bv, cb, rfl, hob⟩ := hu
        rw [List.nil_append] at hob
        refine j_call0 ent141 rfl rfl rfl (fun w' hw' => values_con _ _ _ w') (fun u S2 hu => ?_)
        obtain ⟨gs, rfl, rfl⟩ := hu
        refine j_call0 ent56 rfl rfl rfl (fun w' hw' => sorted_con gs (.slice A rs.length cap) rs w' (by omega) (lt_of_get (hw'.at_ (k := 0) rfl)) (by rw [cell_of (hw'.at_ (k := 0) rfl)]; rfl) (svals_of (strsl_keep hv hw'))) (fun u S2 hu => ?_)
        obtain ⟨c1, rfl, ho1⟩ := hu
        refine j_call 0 ent140 rfl rfl rfl rfl (fun w' hw' => compact_con (sortS rs) _ c1 ho1 (by rw [sortS_length]; omega) w') (fun u S2 hu => ?_)
        obtain ⟨c2, rfl, ho2⟩ := hu
        rw [← rise] at ho2
        obtain ⟨nr, A2, cap2, rfl, hnr⟩ := own_form ho2 (by decide)
        rw [strs_length, Nat.mul_one] at hnr
        subst hnr
        refine j_subl (S' := [c2, (g23, .cells [.pointer (some ⟨g23, 0, none⟩), bv].toArray 169 (0, 0)) :: cb, [(g0, .cells (ints h).toArray 51 (0, 0))]]) (by repeat first | exact slR _ | exact slN _ | apply slC | apply slD) ?_
        refine j_swap ?_
        refine j_q (qs_lenl Tryz.underlying25 rfl) ?_
        refine j_q (qs_mc) ?_
        refine j_loop (fun m vs S' => ∃ (i : Nat) (bv : Value) (cb : SH), vs = [.int .i64 (i : Int)] ∧ S' = [(g23, .cells [.pointer (some ⟨g23, 0, none⟩), bv].toArray 169 (0, 0)) :: cb, c2, [(g0, .cells (ints h).toArray 51 (0, 0))]] ∧ Sx.Own 5 1 (ints (kind ++ refsOf ((rise rs).take i))) bv cb ∧ i ≤ (rise rs).length ∧ m = (rise rs).length - i) ⟨_, 0, bv, cb, rfl, rfl, by rw [show refsOf ((rise rs).take 0) = [] by rw [refsOf]; rfl, List.append_nil]; exact hob, Nat.zero_le _, rfl⟩ ?_
        rintro m vs S' hlen ⟨i, bv, cb, rfl, rfl, hob, hin, rfl⟩
        refine j_q (qs_lss rfl rfl) ?_
        refine j_cond rfl (fun hc4 => ?_) (fun hc4 => ?_)
        · skip
          have hi : i < (rise rs).length := by
            simp only [bnA] at *
            omega
          obtain ⟨ga, rfl⟩ := own_addr ho2 (by rw [strs_length]; omega)
          have hgl := rise_get_len hall hi
          have hrl := rise_len rs
          have hkl := kind_len hall hn1 i
          refine j_q (qs_ixl0 Tryz.underlying25 sz49 rfl rfl ⟨(by omega), (by omega)⟩) ?_
          refine j_q (qs_loadrs (own_rd ho2 1 rfl) Tryz.underlying49 rfl (by simp only [Int.toNat_natCast]; omega)) ?_
          simp only [Int.toNat_natCast]
          refine j_q (qs_sadd (l := [58]) rfl rfl (by simp only [List.length_append, List.length_cons, List.length_nil]; omega)) ?_
          refine j_call 0 ent115 rfl rfl rfl rfl (fun w' hw' => writeString_con g23 (some ⟨g23, 0, none⟩) (.inr rfl) bv cb _ _ hob (by simp only [List.length_append, List.length_singleton]; omega) w') (fun u S2 hu => ?_)
          obtain ⟨rfl, bv2, cb2, rfl, hob2⟩ := hu
          rw [List.append_assoc, ← refs_snoc, ← take_snoc hi] at hob2
          refine j_subl (S' := [(g23, .cells [.pointer (some ⟨g23, 0, none⟩), bv2].toArray 169 (0, 0)) :: cb2, c2, [(g0, .cells (ints h).toArray 51 (0, 0))]]) (by repeat first | exact slR _ | exact slN _ | apply slC | apply slD) ?_
          refine j_q (qs_add64 rfl rfl (by omega)) ?_
          refine j_back rfl ?_
          exact ⟨(rise rs).length - (i + 1), by omega, i + 1, bv2, cb2, rfl, rfl, hob2, by omega, rfl⟩
        · skip
          obtain rfl : i = (rise rs).length := by
            simp only [bnA] at *
            omega
          have hkl := kind_len hall hn1 (rise rs).length
          rw [List.take_of_length_le (Nat.le_refl _)] at hob hkl
          refine j_mix [[(g0, .cells (ints h).toArray 51 (0, 0))]] (Le.of_sub (by repeat first | exact slR _ | exact slN _ | apply slC | apply slD)) ?_
          refine j_mq (qs_loadw 0 Tryz.underlying51 rfl sz51 rfl rfl (by first | (rw [ints_length]; exact hh) | rfl)) ?_
          refine j_call 0 ent117 rfl rfl rfl rfl (fun w' hw' => string_con g23 _ bv cb (kind ++ refsOf (rise rs)) (by simp [hk0]) (by simp only [List.length_append]; omega) hob w') (fun u S2 hu => ?_)
          obtain ⟨rfl, rfl⟩ := hu
          refine j_mD0 (Le.of_sub (by repeat first | exact slR _ | exact slN _ | apply slC | apply slD)) ?_
          refine j_q (qs_call ent99 rfl rfl rfl (fun w' hw' => make_con (kind ++ refsOf (rise rs)) h name w' hh (by have := kind_len hall hn1 (rise rs).length; rw [List.take_of_length_le (Nat.le_refl _)] at this; simp only [List.length_append]; omega))) ?_
          rw [mk, if_pos hyes]
          refine j_mR _ (.refl _) ?_
          refine j_mq (qs_ext (vs := [.string (bs (pathOf (kind ++ refsOf (rise rs)) h name)), .int .i64 0]) rfl rfl) ?_
          refine j_mq (qs_ext (vs := [.string (bs (pathOf (kind ++ refsOf (rise rs)) h name)), .int .i64 0]) rfl rfl) ?_
          refine j_mend ?_
          refine j_ret_con (vs := [_, _]) (fun w' hw' => ⟨rfl, rfl, trivial⟩) ?_
          show Value.tuple #[_, _] = _
          rw [withV_ok hyes hall hn1]
          rfl
end Go.Proofs.YtfeabbeebkkhaaaGreat
/-! Path7 -/
namespace Go.Proofs.YtfeabbeebkkhaaaGreat
open Go Go.Sx
set_option maxRecDepth 100000
set_option maxHeartbeats 4000000
set_option linter.unusedVariables false
set_option linter.unusedSimpArgs false
attribute [local irreducible] J JQ QS Con W opW
attribute [local irreducible] fold sum hex text32 pathOf allDig isName isPath spA spB spE cp sortS rise refsOf withP withE
def kText : List UInt8 := [116, 101, 120, 116]
theorem ptext_con (h : List UInt8) (rs : List (List UInt8)) (name : List UInt8) (v : Value) (w : World) (hv : StrSl w v rs) (hh : h.length = 32) (hn : rs.length ≤ 90000) (hl : ∀ r ∈ rs, r.length ≤ 9223372036854775807) (hnm : name.length ≤ 1099511000000) : Con Tryz.prog 58 [.agg (ints h).toArray, v, .string (bs name)] w [] fun u _ => u = withV kText h rs name := by
  refine con_of_tree mix Tryz.func58 T58_ok (by kernel_rfl) ?_
  unfold T58
  refine j_box rfl (fun g0 hg0 hs0 => ?_)
  refine j_q (qs_ac) ?_
  refine j_q (qs_ac) ?_
  refine j_q (qs_loadw 0 Tryz.underlying51 rfl sz51 rfl rfl (by first | (rw [ints_length]; exact hh) | rfl)) ?_
  refine j_q (qs_call ent109 rfl rfl rfl (fun w' hw' => with_con kText h rs name v w' (strsl_keep hv hw') (by decide) (by decide) hh hn hl hnm)) ?_
  unfold withV
  refine j_q (qs_ext (vs := [.string (bs (withP kText h rs name)), .int .i64 (withE rs name)]) rfl rfl) ?_
  refine j_q (qs_ext (vs := [.string (bs (withP kText h rs name)), .int .i64 (withE rs name)]) rfl rfl) ?_
  refine j_ret_con (vs := [_, _]) (fun w' hw' => ⟨rfl, rfl, trivial⟩) ?_
  show Value.tuple #[_, _] = _
  rfl
end Go.Proofs.YtfeabbeebkkhaaaGreat
/-! SxR -/
namespace Go.Sx
open Go Go.ChangeShapes Go.WideShapes Go.ChangeAt Go.RowKit
set_option linter.unusedVariables false
theorem trodAll_stays {H : Type} {enc : TypeId × Value → H} {P : Program} (hl : laidOutB P = true) {W W' : World} (hb : Below W.heap.size W W') : ∀ {ts : List TypeId} {vs : List Value} {ds : List (DataW H)} {ps : List MemPlace},
    (∀ t ∈ ts, P.readableRec t = true ∧ t < P.types.size) → DataW.TrodAll enc P W 0 (fun _ => true) true ts vs ds ps → (∀ x ∈ ps, x.block < W.heap.size) → DataW.TrodAll enc P W' 0 (fun b => decide (b < W.heap.size)) true ts vs ds ps
  | [], vs, ds, ps, _, h, _ => by
    obtain ⟨rfl, rfl, rfl⟩ := trodAll_nil h
    rfl
  | t :: ts, vs, ds, ps, ht, h, hlt => by
    obtain ⟨v, vs1, d, ds1, a, b, rfl, rfl, rfl, h1, h2⟩ := trodAll_cons h
    have h0 := ht t (by simp)
    exact ⟨a, b, Below.trod hl h0.1 h0.2 h1 hb (fun x hx => hlt x (List.mem_append_left _ hx)), trodAll_stays hl hb (fun t h => ht t (by simp [h])) h2 (fun x hx => hlt x (List.mem_append_right _ hx)), rfl⟩
theorem post_law {H : Type} {enc : TypeId × Value → H} {P : Program} {f : Func} {s : ChangeSpec} {apart fresh handsOn : Bool} {W W' : World} {args : Array Value} {ds : List (DataW H)} {before : List MemPlace} {tb : TypeId}
    (hW : DataW.Whole enc P f.params.toList s.vars apart W args.toList ds [] before) (hv : s.vars = []) (hs : s.fn H (ds ++ []) = { results := [.lit (.bool true)], args := ds }) (hl : laidOutB P = true)
    (hp : ∀ t ∈ f.params.toList, P.readableRec t = true ∧ t < P.types.size) (hr : f.resultTypes = #[tb]) (hb : P.underlying tb = some .bool) (hB : Below W.heap.size W W') : s.post enc P f apart fresh handsOn false W args (.bool true) W' := by
  have hlt := hW.lt
  obtain ⟨p, q, hA, hV, rfl, hfz, hnd⟩ := id hW
  have hq : q = [] := by
    rw [hv] at hV
    exact (trodVars_none hV).2
  subst hq
  have hres : ∀ (b : Nat) (sp : Nat → Bool) (hd : Bool), DataW.TrodAll enc P W' b sp hd f.resultTypes.toList ((Value.bool true).resultList f.resultTypes.size) (s.fn H (ds ++ [])).results [] := fun b sp hd => by
    rw [hs, hr]
    exact trodAll_mk1 (shut_bool hb true)
  have hargs : DataW.TrodAll enc P W' 0 (fun b => decide (b < W.heap.size)) true f.params.toList args.toList (s.fn H (ds ++ [])).args p := by
    rw [hs]
    exact trodAll_stays hl hB hp hA (fun x hx => hlt x (List.mem_append_left _ hx))
  refine ⟨ds, [], p ++ [], [], p, [], hW, hres _ _ _, hargs, ?_, World.keptBut_mono (fun x hx => ⟨hx, ?_⟩) (hB.frame (· ∈ p ++ [])), fun h => absurd h (by decide)⟩
  · rw [hs, hv]
    rfl
  · rw [List.mem_append] at hx
    exact Or.inr hx
theorem below_of_sig {w w' : World} {S : List SH} (h : Sig ⟨w, dom []⟩ S w') : Below w.heap.size w w' := ⟨h.os, h.tape, h.output, h.size, fun k hk => h.frame k hk (by simp)⟩
end Go.Sx
/-! Sx16 -/
namespace Go.Sx
open Go Go.ChangeShapes Go.WideShapes Go.ChangeAt Go.RowKit
set_option linter.unusedVariables false
variable {P : Program} {R : Ending → World → Prop} {env : Env} {b : Base} {S : List SH} {B : JB} {T : Tree} {v : Value} {ty : TypeId}
theorem cells_stay {w w' : World} {a : Addr} {vs : List Value} {D : List Nat} (h : Cells w a vs) (hs : Sig ⟨w, D⟩ S w') (hD : a.block ∉ D) : Cells w' a vs := rd_w (rd_cells (b := ⟨w, D⟩) h hD) hs
theorem ints_take (l : List UInt8) (n : Nat) : (ints l).take n = ints (l.take n) := by simp [ints]
theorem ints_drop (l : List UInt8) (n : Nat) : (ints l).drop n = ints (l.drop n) := by simp [ints]
end Go.Sx
/-! Sx17 -/
namespace Go.Sx
open Go Go.MapKept Go.WideMaps Go.Maps
set_option linter.unusedVariables false
set_option linter.unusedSimpArgs false
set_option linter.unusedSectionVars false
variable {P : Program} {R : Ending → World → Prop} {env : Env} {b : Base} {S : List SH} {B : JB} {T : Tree} {v : Value} {ty : TypeId}
def RdO (b : Base) (S : List SH) (g : Nat) (o : Obj) : Prop := ∀ w, Sig b S w → w.heap[g]? = some o
theorem rdo_base {g : Nat} {o : Obj} (h : b.w0.heap[g]? = some o) (hD : g ∉ b.D) : RdO b S g o := fun w hw => (hw.frame g (lt_of_get h) hD).trans h
theorem rd_rdo {g off n : Nat} {l vs : List Value} {e : TypeId} {fz : Nat × Nat} (hr : RdO b S g (.cells l.toArray e fz)) (h : (l.drop off).take n = vs) : Rd b S ⟨g, off, none⟩ vs := fun w hw j u hu => by
  subst h
  rw [add_off, cell_of (hr w hw)]
  rw [List.getElem?_take] at hu
  split at hu
  · rwa [List.getElem?_drop] at hu
  · cases hu
theorem qs_loadO {t : TypeId} {d : TypeDesc} {x : Operand} {g i : Nat} {l : List Value} {e : TypeId} {fz : Nat × Nat} {u : Value} (hr : RdO b S g (.cells l.toArray e fz)) (hu : P.underlying t = some d) (hd : flat d = true) (hx : ev env x = .pointer (some ⟨g, i, none⟩)) (hi : l[i]? = some u) :
    QS P (O (.load t x) ty) env b S u := by
  refine qs_loadR (vs := l) (a := ⟨g, 0, none⟩) (i := i) (rd_rdo (n := l.length) hr (by simp)) hu hd (by rw [add_off, Nat.zero_add]; exact hx) hi
section
variable {κ : Type} [DecidableEq κ] {enc : κ → Value} {ok : κ → Prop} {es : Array MapEntry} {clock : Nat} {m : List (κ × Value)} {kt : TypeId}
end
theorem j_litw {t e : TypeId} {x : Operand} {vs z : List Value} {sz : Nat} (ht : P.underlying t = some (.slice e)) (hz : (P.info? e).map (·.size) = some sz) (h0 : zeroL P e = some z) (hzl : z.length = sz) (hx : ev env x = .agg vs.toArray) (hl : vs.length = sz ∧ 0 < sz ∧ sz ≤ 1000)
    (h : ∀ g, b.w0.heap.size ≤ g → Own e sz vs (.slice (some ⟨g, 0, none⟩) 1 1) [(g, .cells vs.toArray e (0, 0))] → J P R T (.slice (some ⟨g, 0, none⟩) 1 1 :: env) ([(g, .cells vs.toArray e (0, 0))] :: S) b B) : J P R (.op (O (.buildSlice t 1 #[(0, x)]) ty) T) env S b B := fun w hw => by
  obtain ⟨zv, hzv, hrunz⟩ := run_zero_ok h0
  obtain ⟨hl, hs0, hs1⟩ := hl
  have hrun : (execOp (ev env) (O (.buildSlice t 1 #[(0, x)]) ty)).run P w = .ok (.value (.slice (some ⟨w.heap.size, 0, none⟩) 1 1)) (w.alloc (.cells vs.toArray e)) := by
    have hgt : ¬ (1 * sz > 2 ^ 24) := by omega
    have hne : ¬ (1 * sz = 0) := by omega
    have hf : ∀ zs : Array Value, zs.size = 1 * sz → Instr.fill (fun i => some (i * sz, sz)) zs [(0, Value.agg vs.toArray)] = some vs.toArray := by
      intro zs hzs
      have := fill_put (place := fun i => some (i * sz, sz)) [(0, Value.agg vs.toArray)] [(0, vs)] zs.toList rfl fun j p q hp hq => by
        cases j with
        | zero =>
          simp only [List.getElem?_cons_zero, Option.some.injEq] at hp hq
          subst hp hq
          refine ⟨by rw [hl, Nat.zero_mul], rfl, by show 0 + vs.length ≤ zs.size; rw [hzs, hl]; omega⟩
        | succ j => simp at hp
      simp only [Array.toArray_toList] at this
      rw [this]
      congr 2
      simp only [List.foldl_cons, List.foldl_nil]
      unfold putAt
      rw [List.take_zero, List.nil_append, Nat.zero_add, List.drop_of_length_le (by rw [Array.length_toList, hzs, hl]; omega), List.append_nil]
    have hp : (#[(0, x)].map fun p : Nat × Operand => (p.1, ev env p.2)).toList = [(0, Value.agg vs.toArray)] := by simp [hx]
    simp only [O, execOp, Instr.buildSlice, Sem.run_bind, run_underlying_ok ht, Result.andThen_ok, run_sizeOf_ok hz, if_neg hgt, if_neg hne, hrunz, Sem.run_pure]
    rw [hp, hf _ (by simp)]
    rfl
  show opW _ _ _ _ _ _
  unfold opW
  rw [hrun]
  obtain ⟨h1, h2, h3⟩ := hw.new (o := .cells vs.toArray e) (w' := w.alloc (.cells vs.toArray e)) rfl rfl rfl rfl
  exact h w.heap.size h3 (.inr ⟨w.heap.size, 1, 1, [], (0, 0), rfl, by simp, by omega, by simp; omega, Nat.le_refl _, fun _ _ h => by omega⟩) _ h1
theorem qs_mkfunc {f : FuncId} {xs ys : Array Operand} : QS P (O (.makeFunc (.func f) xs ys) ty) env b S (.func (.func f) (xs.map (ev env)) (ys.map (ev env))) := qs_run fun w => by
  simp only [O, execOp, Instr.makeFunc, Sem.run_bind, Sem.run_pure, Result.andThen_ok]
theorem qs_callf {o : Oper} {v : Value} {f : FuncId} {xs : Array Operand} {tys : Array TypeId} {g : Operand} {args : List Value} {first cap : Array Value} (h : Enters P f) (ho : o.op = .call ⟨.value g, xs, tys⟩) (hg : ev env g = .func (.func f) first cap) (ha : first.toList ++ xs.toList.map (ev env) ++ cap.toList = args)
    (hc : ∀ w, Sig b S w → Con P f args w [] fun u _ => u = v) : QS P o env b S v := fun w hw => by
  unfold qAt
  rw [run_call h g ho hg w]
  have e : (first ++ xs.map (ev env) ++ cap : Array Value) = args.toArray := by
    rw [← ha]; apply Array.ext'; simp
  rw [e]
  refine ⟨rfl, (hc w hw (by simp) (by simp)).mono ?_⟩
  rintro e w' ⟨u, S', rfl, rfl, hS⟩
  refine ⟨rfl, ?_⟩
  have := Sig.call (Fp := []) (Fr := S.flatten) (S2 := S'.flatten :: S) hw (by simp) hS (by simp)
  exact this.sub (by simp)
end Go.Sx
/-! Sx18 -/
namespace Go.Sx
open Go Go.ChangeShapes Go.WideShapes Go.ChangeAt Go.RowKit
set_option linter.unusedVariables false
def RSlN (n : Nat) (w : World) (v : Value) (vs : List Value) (len : Nat) : Prop :=
  vs.length = len * n ∧ ((v = .slice none 0 0 ∧ len = 0) ∨ ∃ g off cap, v = .slice (some ⟨g, off, none⟩) len cap ∧ g < w.heap.size ∧ len ≤ cap ∧ Cells w ⟨g, off, none⟩ vs)
theorem rsln_form {n : Nat} {w : World} {v : Value} {vs : List Value} {len : Nat} (h : RSlN n w v vs len) : ∃ A cap g off, v = .slice A len cap ∧ len ≤ cap ∧ (0 < len → A = some ⟨g, off, none⟩ ∧ g < w.heap.size ∧ Cells w ⟨g, off, none⟩ vs) := by
  rcases h with ⟨_, ⟨rfl, rfl⟩ | ⟨g, off, cap, rfl, h1, h2, h3⟩⟩
  · exact ⟨none, 0, 0, 0, rfl, Nat.le_refl _, fun h => by omega⟩
  · exact ⟨_, cap, g, off, rfl, h2, fun _ => ⟨rfl, h1, h3⟩⟩
theorem rsln_keep {n : Nat} {w w' : World} {v : Value} {vs : List Value} {len : Nat} (h : RSlN n w v vs len) {S : List SH} (hs : Sig ⟨w, dom []⟩ S w') : RSlN n w' v vs len := by
  obtain ⟨h0, h | ⟨g, off, cap, rfl, h1, h2, h3⟩⟩ := h
  · exact ⟨h0, .inl h⟩
  · exact ⟨h0, .inr ⟨g, off, cap, rfl, Nat.lt_of_lt_of_le h1 hs.size, h2, cells_stay h3 hs (by simp)⟩⟩
section
variable {α : Type}
theorem flat_len {encA : α → List Value} {n : Nat} (hl : ∀ a, (encA a).length = n) (rs : List α) : (rs.map encA).flatten.length = rs.length * n := by
  induction rs with
  | nil => simp
  | cons a rs ih => simp only [List.map_cons, List.flatten_cons, List.length_append, hl, ih, List.length_cons, Nat.add_mul, Nat.one_mul]; omega
theorem flat_get {encA : α → List Value} {n : Nat} (hl : ∀ a, (encA a).length = n) : ∀ (rs : List α) (i k : Nat), k < n → (rs.map encA).flatten[i * n + k]? = (rs[i]?).bind fun a => (encA a)[k]?
  | [], i, k, hk => by simp
  | a :: rs, 0, k, hk => by
    rw [List.map_cons, List.flatten_cons, Nat.zero_mul, Nat.zero_add, List.getElem?_append_left (by rw [hl]; exact hk)]
    rfl
  | a :: rs, i + 1, k, hk => by
    have ih := flat_get hl rs i k hk
    rw [List.map_cons, List.flatten_cons, List.getElem?_append_right (by rw [hl, Nat.add_mul, Nat.one_mul]; omega), hl, show (i + 1) * n + k - n = i * n + k by rw [Nat.add_mul, Nat.one_mul]; omega, ih]
    rfl
theorem list_of {Q : Nat → α → Prop} : ∀ (len : Nat), (∀ i, i < len → ∃ a, Q i a) → ∃ rs : List α, rs.length = len ∧ ∀ i a, rs[i]? = some a → Q i a
  | 0, _ => ⟨[], rfl, fun i a h => by simp at h⟩
  | len + 1, h => by
    obtain ⟨rs, h1, h2⟩ := list_of len fun i hi => h i (by omega)
    obtain ⟨a, ha⟩ := h len (by omega)
    refine ⟨rs ++ [a], by simp [h1], fun i b hb => ?_⟩
    rcases Nat.lt_or_ge i rs.length with hi | hi
    · rw [List.getElem?_append_left hi] at hb
      exact h2 i b hb
    · rw [List.getElem?_append_right hi] at hb
      have : i - rs.length = 0 := by
        have := (List.getElem?_eq_some_iff.1 hb).1
        simp at this
        omega
      rw [this] at hb
      simp at hb
      subst hb
      obtain rfl : i = len := by omega
      exact ha
theorem open_sln {H : Type} {enc : TypeId × Value → H} {P : Program} {w : World} {r : Reach} {base b0 : Nat} {sp : Nat → Bool} {held : Bool} {t e : TypeId} {v : Value} {x : DataW H × List MemPlace} {n : Nat} (encA : α → List Value) (ok : α → Prop) (hl : ∀ a, (encA a).length = n) (hn : 0 < n) (ht : P.underlying t = some (.slice e)) (hc : P.cellsOf e = n) (hv : Value.okWide P w r base t v)
    (hE : ∀ fuel cs y, DataW.trod enc P w b0 sp held fuel e cs = some y → (y.1.weights P e).all (· ≤ reachBytes) = true → ∃ a, ok a ∧ cs = encA a) (h : ∃ fuel, DataW.trod enc P w b0 sp held fuel t v.cells.toList = some x) (hw : (x.1.weights P t).all (· ≤ reachBytes) = true) :
    ∃ rs : List α, RSlN n w v (rs.map encA).flatten rs.length ∧ (∀ a ∈ rs, ok a) ∧ rs.length * P.bytesOf e ≤ reachBytes := by
  obtain ⟨a0, len, cap, rfl⟩ := okWide_slice ht hv
  obtain ⟨fuel, hf⟩ := h
  have hcells : (Value.slice a0 len cap).cells.toList = [Value.slice a0 len cap] := rfl
  rcases DataW.trod_slice ht hf with ⟨hcs, _⟩ | ⟨a, len', cap', elems, rest, m, rfl, hcs, hx, hb, hlc, hm, hel, hall, _, _⟩
  · rw [hcells] at hcs
    injection hcs with hcs
    rw [hcs]
    exact ⟨[], ⟨by simp, .inl ⟨rfl, rfl⟩⟩, (fun a ha => by cases ha), by simp⟩
  · rw [hcells] at hcs
    injection hcs with hcs
    injection hcs with h1 h2 h3
    subst h1 h2 h3
    simp only [Value.okWide, ht, Cell.okWide, Cell.ok] at hv
    obtain ⟨_, _, _, hspot, row, cells, hshape, _⟩ := hv
    obtain ⟨g, off, spot⟩ := a
    simp only at hspot hshape
    subst hspot
    have hg : g < w.heap.size := by
      unfold World.shape? at hshape
      split at hshape
      · rename_i hh; exact (Array.getElem?_eq_some_iff.1 hh).1
      · cases hshape
    rw [hx] at hw
    unfold DataW.weights at hw
    simp only [ht, List.all_cons, Bool.and_eq_true, decide_eq_true_eq, List.all_append] at hw
    obtain ⟨hw1, hw2, _⟩ := hw
    have hwe : ∀ (l : List (DataW H)), (DataW.weightsAll P e l).all (· ≤ reachBytes) = true → ∀ d ∈ l, (d.weights P e).all (· ≤ reachBytes) = true := by
      intro l
      induction l with
      | nil => intro _ d hd; cases hd
      | cons d l ih =>
        intro hh d' hd'
        unfold DataW.weightsAll at hh
        rw [List.all_append, Bool.and_eq_true] at hh
        rcases List.mem_cons.1 hd' with rfl | hd'
        · exact hh.1
        · exact ih hh.2 d' hd'
    obtain ⟨rs, hr1, hr2⟩ := list_of (Q := fun i (a : α) => ok a ∧ w.cells? b0 ((⟨g, off, none⟩ : Addr).add (i * n)) n = some (encA a)) len fun i hi => by
      have h4 := hall i hi
      obtain ⟨y, hy⟩ : ∃ y, elems[i]? = some y := ⟨_, List.getElem?_eq_getElem (by omega)⟩
      rw [hy, hc] at h4
      obtain ⟨cs, h5, h6⟩ := Option.bind_eq_some_iff.1 h4
      obtain ⟨a, ha1, ha2⟩ := hE _ _ _ h6 (hwe _ hw2 y.1 (List.mem_map.2 ⟨y, List.mem_of_getElem? hy, rfl⟩))
      exact ⟨a, ha1, by rw [h5, ha2]⟩
    refine ⟨rs, ⟨flat_len hl rs, .inr ⟨g, off, cap, by rw [hr1], hg, by rw [hr1]; exact hlc, fun j u hu => ?_⟩⟩, fun a ha => ?_, ?_⟩
    · have hj : j = j / n * n + j % n := by have := Nat.div_add_mod j n; rw [Nat.mul_comm]; omega
      have hk : j % n < n := Nat.mod_lt _ hn
      rw [hj, flat_get hl rs _ _ hk] at hu
      obtain ⟨a, ha, hu⟩ := Option.bind_eq_some_iff.1 hu
      obtain ⟨_, hcs⟩ := hr2 _ _ ha
      obtain ⟨_, _, h7⟩ := World.cells?_some hcs
      have h8 := h7 (j % n) hk
      rw [hu] at h8
      rw [hj]
      rw [add_off] at h8 ⊢
      rw [add_off] at h8
      rw [← h8]
      congr 2
      omega
    · obtain ⟨i, hi⟩ := List.mem_iff_getElem?.1 ha
      exact (hr2 i a hi).1
    · rw [hr1]
      refine Nat.le_trans (Nat.mul_le_mul_right _ ?_) hw1
      simp only [List.length_map]
      omega
end
end Go.Sx
/-! Sx19 -/
namespace Go.Sx
open Go Go.MapKept Go.WideMaps Go.Maps
set_option linter.unusedVariables false
set_option linter.unusedSimpArgs false
set_option linter.unusedSectionVars false
variable {P : Program} {R : Ending → World → Prop} {env : Env} {b : Base} {S : List SH} {B : JB} {T : Tree} {v : Value} {ty : TypeId}
theorem qs_ixn {t e : TypeId} {x y : Operand} {n c sz g off i : Nat} {k : IntKind} (ht : P.underlying t = some (.slice e)) (hz : (P.info? e).map (·.size) = some sz) (hx : ev env x = .slice (some ⟨g, off, none⟩) n c) (hy : ev env y = .int k (i : Int)) (h : i < n) :
    QS P (O (.indexAddr t x y) ty) env b S (.pointer (some ⟨g, off + i * sz, none⟩)) := by
  have := qs_ixl (P := P) (env := env) (b := b) (S := S) (ty := ty) (x := x) (y := y) ht hz hx hy (by omega) (by omega)
  rw [add_off, Int.toNat_natCast] at this
  exact this
theorem qs_loadrec {α : Type} {encA : α → List Value} {n : Nat} {rs : List α} {d : α} {t : TypeId} {dd : TypeDesc} {x : Operand} {g off i fo : Nat} (hl : ∀ a, (encA a).length = n) (hr : Rd b S ⟨g, off, none⟩ (rs.map encA).flatten) (hi : i < rs.length) (hu : P.underlying t = some dd) (hd : flat dd = true)
    (hx : ev env x = .pointer (some ⟨g, off + i * n + fo, none⟩)) (hv : (encA (rs.getD i d))[fo]? = some v) : QS P (O (.load t x) ty) env b S v := by
  refine qs_loadR (a := ⟨g, off, none⟩) (i := i * n + fo) hr hu hd (by rw [add_off, ← Nat.add_assoc]; exact hx) ?_
  have hk : fo < n := by
    have := (List.getElem?_eq_some_iff.1 hv).1
    rwa [hl] at this
  rw [flat_get hl rs i fo hk, List.getElem?_eq_getElem hi]
  rw [List.getD_eq_getElem?_getD, List.getElem?_eq_getElem hi] at hv
  exact hv
theorem qs_loadrecw {α : Type} {encA : α → List Value} {n : Nat} {rs : List α} {d : α} {t : TypeId} {dd : TypeDesc} {x : Operand} {g off i : Nat} (hl : ∀ a, (encA a).length = n) (hr : Rd b S ⟨g, off, none⟩ (rs.map encA).flatten) (hi : i < rs.length) (hu : P.underlying t = some dd) (hd : flat dd = false) (hz : (P.info? t).map (·.size) = some n)
    (hx : ev env x = .pointer (some ⟨g, off + i * n, none⟩)) : QS P (O (.load t x) ty) env b S (.agg (encA (rs.getD i d)).toArray) := by
  refine qs_loadwR (g := g) (off := off + i * n) (n := n) (vs := encA (rs.getD i d)) (fun w hw j u hj => ?_) hu hd hz hx (hl _)
  have hk : j < n := by
    have := (List.getElem?_eq_some_iff.1 hj).1
    rwa [hl] at this
  have h := hr w hw (i * n + j) u (by
    rw [flat_get hl rs i j hk, List.getElem?_eq_getElem hi]
    rw [List.getD_eq_getElem?_getD, List.getElem?_eq_getElem hi] at hj
    exact hj)
  rw [add_off] at h ⊢
  rw [Nat.add_assoc]
  exact h
theorem qs_extw {f : FuncId} {fn : Func} {e : Array Value → Sem Value} {xs : Array Operand} {tys : Array TypeId} {g : Operand} {args : List Value} {o : Oper} (ho : o.op = .call ⟨.value g, xs, tys⟩) (hg : ev env g = .func (.func f) #[] #[]) (ha : xs.toList.map (ev env) = args) (hr : ∀ w, Sig b S w → (callFunc f args.toArray).run P w = .ok (.value v) w) : QS P o env b S v := qs_val fun w hw => by
  have e1 : (#[] ++ xs.map (ev env) ++ #[] : Array Value) = args.toArray := by
    rw [← ha]; apply Array.ext'; simp
  simp only [execOp, ho, resolve, hg, Deferred.ofValue, invoke, Sem.run_bind, Sem.run_pure, Result.andThen_ok, e1, hr w hw]
theorem setCell_same {w : World} {g i : Nat} {l : List Value} {e : TypeId} {fz : Nat × Nat} {u : Value} (h : w.heap[g]? = some (.cells l.toArray e fz)) : (w.setCell ⟨g, i, none⟩ u).heap[g]? = some (.cells (l.set i u).toArray e fz) := by
  unfold World.setCell
  simp [Array.getElem?_modify, h]
theorem setCell_other {w : World} {g i j : Nat} {u : Value} (h : j ≠ g) : (w.setCell ⟨g, i, none⟩ u).heap[j]? = w.heap[j]? := by
  unfold World.setCell
  simp only [Array.getElem?_modify, if_neg (fun e => h (Eq.symm e))]
theorem qs_mkiface {t : TypeId} {x : Operand} {u : Value} {d : TypeDesc} (ht : P.underlying t = some d) (hd : ∀ ms, d ≠ .interface ms) (hx : ev env x = u) : QS P (O (.makeInterface t x) ty) env b S (.iface t u) := qs_run fun w => by
  simp only [O, execOp, hx, Instr.makeInterface, Sem.run_bind, run_underlying_ok ht, Result.andThen_ok]
  cases d <;> first | rfl | exact absurd rfl (hd _)
end Go.Sx
/-! Dv0 -/
namespace Go.Proofs.YtfeabbeebkkhaaaGreat
open Go Go.Sx
set_option linter.unusedVariables false
set_option linter.unusedSimpArgs false
abbrev Bs := List UInt8
theorem hexL (h : List UInt8) : (hex h).length = 64 := hexN_length h 32
def esc (c : UInt8) : Bs := if c = 34 then [92, 34] else if c = 92 then [92, 92] else if c = 10 then [92, 110] else if c = 13 then [92, 114] else if c = 9 then [92, 116] else [c]
def es (s : Bs) : Bs := (s.map esc).flatten
def qt (s : Bs) : Bs := [34] ++ es s ++ [34]
def cms (l : List Bs) : Bs := (l.map fun x => 44 :: x).flatten.drop 1
def lst (o : Bs) (l : List Bs) (c : Bs) : Bs := o ++ cms l ++ c
theorem es_snoc (s : Bs) (c : UInt8) : es (s ++ [c]) = es s ++ esc c := by simp [es]
theorem esc_len (c : UInt8) : 1 ≤ (esc c).length ∧ (esc c).length ≤ 2 := by
  unfold esc
  repeat' split
  all_goals simp
theorem es_len (s : Bs) : s.length ≤ (es s).length ∧ (es s).length ≤ 2 * s.length := by
  induction s with
  | nil => simp [es]
  | cons c s ih =>
    have h := esc_len c
    have e : es (c :: s) = esc c ++ es s := by simp [es]
    rw [e, List.length_append, List.length_cons]
    omega
theorem qt_len (s : Bs) : (qt s).length = (es s).length + 2 := by simp [qt]
theorem cms_snoc (l : List Bs) (x : Bs) : cms (l ++ [x]) = if l = [] then x else cms l ++ (44 :: x) := by
  unfold cms
  rw [List.map_append, List.flatten_append]
  cases l with
  | nil => simp
  | cons y l =>
    rw [if_neg (by simp), List.map_cons, List.flatten_cons, List.cons_append, List.cons_append, List.drop_succ_cons, List.drop_succ_cons, List.drop_zero, List.drop_zero]
    simp
theorem cms_len (l : List Bs) : (cms l).length ≤ (l.map List.length).sum + l.length := by
  unfold cms
  rw [List.length_drop, List.length_flatten, List.map_map]
  have : (l.map (List.length ∘ fun x => 44 :: x)).sum = (l.map List.length).sum + l.length := by
    induction l with
    | nil => rfl
    | cons a l ih => simp only [List.map_cons, List.sum_cons, Function.comp, List.length_cons] at ih ⊢; omega
  omega
abbrev Hsh := { l : Bs // l.length = 32 }
structure PO where
  name : Bs
  path : Bs
  fixed : Bool
  hash : Hsh
structure PI where
  drv : Bs
  outs : List Bs
structure PV where
  name : Bs
  val : Bs
structure PD where
  name : Bs
  sys : Bs
  bld : Bs
  args : List Bs
  env : List PV
  ins : List PI
  srcs : List Bs
  outs : List PO
abbrev sSha : Bs := [115, 104, 97, 50, 53, 54]
abbrev sDrv : Bs := [46, 100, 114, 118]
abbrev sOut : Bs := [111, 117, 116]
abbrev sDerive : Bs := [68, 101, 114, 105, 118, 101]
def tup (l : List Bs) : Bs := lst [40] l [41]
def tO (o : PO) : Bs := tup [qt o.name, qt o.path, qt (if o.fixed then sSha else []), qt (if o.fixed then hex o.hash.1 else [])]
def tTs (l : List Bs) : Bs := lst [91] (l.map qt) [93]
def tI (x : PI) : Bs := tup [qt x.drv, tTs x.outs]
def tV (v : PV) : Bs := tup [qt v.name, qt v.val]
def dtext (d : PD) : Bs := sDerive ++ tup [qt d.name, lst [91] (d.outs.map tO) [93], lst [91] (d.ins.map tI) [93], tTs d.srcs, qt d.sys, qt d.bld, tTs d.args, lst [91] (d.env.map tV) [93]]
def firstE (f : Nat → Int) : Nat → Int
  | 0 => 0
  | n + 1 => if firstE f n ≠ 0 then firstE f n else f n
theorem firstE_zero {f : Nat → Int} {n : Nat} (h : ∀ j < n, f j = 0) : firstE f n = 0 := by
  induction n with
  | zero => rfl
  | succ n ih =>
    have := ih fun j hj => h j (by omega)
    rw [firstE, if_neg (by omega)]
    exact h n (by omega)
theorem firstE_at {f : Nat → Int} {n i : Nat} (h : ∀ j < i, f j = 0) (hi : i < n) (he : f i ≠ 0) : firstE f n = f i := by
  induction n with
  | zero => omega
  | succ n ih =>
    rw [firstE]
    by_cases hin : i = n
    · subst hin
      rw [if_neg (by rw [firstE_zero h]; decide)]
    · have := ih (by omega)
      rw [if_pos (by rw [this]; exact he)]
      exact this
theorem firstE_all {f : Nat → Int} {n : Nat} (h : firstE f n = 0) : ∀ j < n, f j = 0 := by
  intro j hj
  induction n with
  | zero => omega
  | succ n ih =>
    rw [firstE] at h
    by_cases h0 : firstE f n = 0
    · rw [if_neg (by omega)] at h
      by_cases hjn : j = n
      · rw [hjn]; exact h
      · exact ih h0 (by omega)
    · rw [if_pos h0] at h
      exact absurd h h0
theorem zero_snoc {f : Nat → Int} {i : Nat} (h : ∀ j < i, f j = 0) (hi : f i = 0) : ∀ j < i + 1, f j = 0 := fun j hj => by
  by_cases hji : j = i
  · rw [hji]; exact hi
  · exact h j (by omega)
def leB (a b : Bs) : Bool := Op.bytesLess a b || a == b
abbrev zHash : Hsh := ⟨List.replicate 32 0, rfl⟩
abbrev o0 : PO := ⟨[], [], false, zHash⟩
abbrev i0 : PI := ⟨[], []⟩
abbrev v0 : PV := ⟨[], []⟩
def isDrvP (p : Bs) : Bool := isPath p && decide (4 < (p.drop 33).length) && ((p.drop 33).drop ((p.drop 33).length - 4) == sDrv)
def badO (l : List PO) (i : Nat) : Bool := (decide (0 < i) && leB (l.getD i o0).name (l.getD (i - 1) o0).name) || ((!((l.getD i o0).path == [])) && !isPath (l.getD i o0).path) || ((l.getD i o0).fixed && (decide (1 < l.length) || !((l.getD i o0).name == sOut))) || (!(l.getD i o0).fixed && !((l.getD i o0).hash.1 == List.replicate 32 0))
def chkO (l : List PO) (i : Nat) : Int := if isName (l.getD i o0).name then (if badO l i then 3 else 0) else 9
def chkOuts (l : List PO) : Int := if l.length < 1 ∨ 16 < l.length then 1 else firstE (chkO l) l.length
def chkN (l : List Bs) (i : Nat) : Int := if isName (l.getD i []) then (if decide (0 < i) && leB (l.getD i []) (l.getD (i - 1) []) then 3 else 0) else 9
def chkI (l : List PI) (i : Nat) : Int := if !isDrvP (l.getD i i0).drv || (decide (0 < i) && leB (l.getD i i0).drv (l.getD (i - 1) i0).drv) || (l.getD i i0).outs.length == 0 then 3 else firstE (chkN (l.getD i i0).outs) (l.getD i i0).outs.length
def chkIns (l : List PI) : Int := firstE (chkI l) l.length
def chkS (l : List Bs) (i : Nat) : Int := if !isPath (l.getD i []) || (decide (0 < i) && leB (l.getD i []) (l.getD (i - 1) [])) then 3 else 0
def chkV (l : List PV) (i : Nat) : Int := if (l.getD i v0).name == [] || (decide (0 < i) && leB (l.getD i v0).name (l.getD (i - 1) v0).name) then 3 else 0
def orE (a b : Int) : Int := if a = 0 then b else a
def chk0 (d : PD) : Int := if isName d.name && isName (d.name ++ sDrv) then orE (chkOuts d.outs) (orE (chkIns d.ins) (orE (firstE (chkS d.srcs) d.srcs.length) (firstE (chkV d.env) d.env.length))) else 9
def chk (d : PD) : Int := orE (chk0 d) (if 262144 < (dtext d).length then 5 else 0)
theorem orE_zero {a b : Int} : orE a b = 0 ↔ a = 0 ∧ b = 0 := by
  unfold orE
  split <;> simp_all
def sl (l : List Bs) : Nat := (l.map List.length).sum
def big1 (d : PD) : Nat := d.name.length + d.sys.length + d.bld.length + 10 * (d.outs.length + d.ins.length + d.srcs.length + d.env.length + d.args.length)
def big2 (d : PD) : Nat := big1 d + (d.env.map fun v => v.name.length + v.val.length).sum + sl d.args + (d.ins.map fun x => x.drv.length + 10 * x.outs.length).sum + (d.outs.map fun o => o.name.length + o.path.length).sum + sl d.srcs
def heavyP (d : PD) : Bool := decide (4000 < big1 d) || decide (16000 < big2 d)
theorem sl_map_le {α : Type} (f g : α → Nat) (k : Nat) (l : List α) (h : ∀ x ∈ l, f x ≤ 2 * g x + k) : (l.map f).sum ≤ 2 * (l.map g).sum + k * l.length := by
  induction l with
  | nil => simp
  | cons a l ih =>
    have h1 := h a (by simp)
    have h2 := ih fun x hx => h x (by simp [hx])
    simp only [List.map_cons, List.sum_cons, List.length_cons, Nat.mul_add, Nat.mul_one]
    omega
theorem qt_le (s : Bs) : (qt s).length ≤ 2 * s.length + 2 := by
  have := es_len s
  rw [qt_len]
  omega
theorem tTs_le (l : List Bs) : (tTs l).length ≤ 2 * sl l + 3 * l.length + 2 := by
  have h := cms_len (l.map qt)
  have h2 : ((l.map qt).map List.length).sum ≤ 2 * sl l + 2 * l.length := by
    rw [List.map_map]
    exact sl_map_le _ _ 2 l fun x _ => qt_le x
  rw [List.length_map] at h
  simp only [tTs, lst, List.length_append, List.length_cons, List.length_nil]
  omega
theorem lst_le {α : Type} (f : α → Bs) (g : α → Nat) (k : Nat) (l : List α) (h : ∀ x ∈ l, (f x).length ≤ 2 * g x + k) (o c : UInt8) : (lst [o] (l.map f) [c]).length ≤ 2 * (l.map g).sum + (k + 1) * l.length + 2 := by
  have h1 := cms_len (l.map f)
  have h2 : ((l.map f).map List.length).sum ≤ 2 * (l.map g).sum + k * l.length := by
    rw [List.map_map]
    exact sl_map_le _ _ k l h
  rw [List.length_map] at h1
  simp only [lst, List.length_append, List.length_cons, List.length_nil, Nat.add_mul, Nat.one_mul]
  omega
theorem tup_le (l : List Bs) : (tup l).length ≤ sl l + l.length + 2 := by
  have h1 := cms_len l
  simp only [tup, lst, List.length_append, List.length_cons, List.length_nil, sl]
  omega
theorem tO_le (o : PO) : (tO o).length ≤ 2 * (o.name.length + o.path.length) + 170 := by
  have h := tup_le [qt o.name, qt o.path, qt (if o.fixed then sSha else []), qt (if o.fixed then hex o.hash.1 else [])]
  have h1 := qt_le o.name
  have h2 := qt_le o.path
  have h3 := qt_le (if o.fixed then sSha else [])
  have h4 := qt_le (if o.fixed then hex o.hash.1 else [])
  have hh : (hex o.hash.1).length ≤ 64 := by rw [hexL]; exact Nat.le_refl _
  have h5 : (if o.fixed then sSha else []).length ≤ 6 := by split <;> simp
  have h6 : (if o.fixed then hex o.hash.1 else []).length ≤ 64 := by split <;> simp [hh]
  simp only [sl, List.map_cons, List.map_nil, List.sum_cons, List.sum_nil, List.length_cons, List.length_nil] at h
  unfold tO
  omega
theorem tV_le (v : PV) : (tV v).length ≤ 2 * (v.name.length + v.val.length) + 10 := by
  have h := tup_le [qt v.name, qt v.val]
  have h1 := qt_le v.name
  have h2 := qt_le v.val
  simp only [sl, List.map_cons, List.map_nil, List.sum_cons, List.sum_nil, List.length_cons, List.length_nil] at h
  unfold tV
  omega
theorem sl_le80 {l : List Bs} (h : ∀ x ∈ l, x.length ≤ 80) : sl l ≤ 80 * l.length := by
  induction l with
  | nil => simp [sl]
  | cons a l ih =>
    have h1 := h a (by simp)
    have h2 := ih fun x hx => h x (by simp [hx])
    simp only [sl, List.map_cons, List.sum_cons, List.length_cons, Nat.mul_add, Nat.mul_one] at h2 ⊢
    omega
theorem tI_le (x : PI) (h : ∀ o ∈ x.outs, o.length ≤ 80) : (tI x).length ≤ 2 * (100 * (x.drv.length + 10 * x.outs.length)) + 10 := by
  have h0 := tup_le [qt x.drv, tTs x.outs]
  have h1 := qt_le x.drv
  have h2 := tTs_le x.outs
  have h3 := sl_le80 h
  simp only [sl, List.map_cons, List.map_nil, List.sum_cons, List.sum_nil, List.length_cons, List.length_nil] at h0
  unfold tI
  unfold sl at h2 h3
  omega
theorem chkN_len {l : List Bs} (h : firstE (chkN l) l.length = 0) : ∀ o ∈ l, o.length ≤ 80 := fun o ho => by
  obtain ⟨i, hi, rfl⟩ := List.getElem_of_mem ho
  have := firstE_all h i hi
  unfold chkN at this
  have hg : l.getD i [] = l[i] := by rw [List.getD_eq_getElem?_getD, List.getElem?_eq_getElem hi]; rfl
  split at this
  · rename_i hn
    rw [hg] at hn
    exact (isName_len hn).2
  · cases this
theorem chkI_outs {l : List PI} (h : chkIns l = 0) : ∀ x ∈ l, ∀ o ∈ x.outs, o.length ≤ 80 := fun x hx => by
  obtain ⟨i, hi, rfl⟩ := List.getElem_of_mem hx
  have := firstE_all h i hi
  unfold chkI at this
  have hg : l.getD i i0 = l[i] := by rw [List.getD_eq_getElem?_getD, List.getElem?_eq_getElem hi]; rfl
  rw [hg] at this
  split at this
  · cases this
  · exact chkN_len this
theorem chk0_parts {d : PD} (h : chk0 d = 0) : isName d.name = true ∧ isName (d.name ++ sDrv) = true ∧ chkOuts d.outs = 0 ∧ chkIns d.ins = 0 ∧ firstE (chkS d.srcs) d.srcs.length = 0 ∧ firstE (chkV d.env) d.env.length = 0 := by
  unfold chk0 at h
  split at h
  · rename_i hn
    rw [Bool.and_eq_true] at hn
    rw [orE_zero, orE_zero, orE_zero] at h
    exact ⟨hn.1, hn.2, h.1, h.2.1, h.2.2.1, h.2.2.2⟩
  · cases h
theorem sum_mul {α : Type} (g : α → Nat) (k : Nat) (l : List α) : (l.map fun x => k * g x).sum = k * (l.map g).sum := by
  induction l with
  | nil => simp
  | cons a l ih => simp only [List.map_cons, List.sum_cons, ih, Nat.mul_add]
structure TB (d : PD) : Prop where
  o : (lst [91] (d.outs.map tO) [93]).length ≤ 100000000
  i : (lst [91] (d.ins.map tI) [93]).length ≤ 1000000000
  e : (lst [91] (d.env.map tV) [93]).length ≤ 100000000
  s : (tTs d.srcs).length ≤ 100000000
  a : (tTs d.args).length ≤ 100000000
  sm : big2 d ≤ 200000
  out : ∀ x ∈ d.ins, ∀ o ∈ x.outs, o.length ≤ 80
theorem tb_of {d : PD} (h : chkIns d.ins = 0) (hb : big2 d ≤ 200000) : TB d := by
  have h1 := lst_le tO (fun o : PO => o.name.length + o.path.length) 170 d.outs (fun x hx => tO_le x) 91 93
  have h2 := lst_le tI (fun x : PI => 100 * (x.drv.length + 10 * x.outs.length)) 10 d.ins (fun x hx => tI_le x (chkI_outs h x hx)) 91 93
  rw [sum_mul] at h2
  have h3 := lst_le tV (fun v : PV => v.name.length + v.val.length) 10 d.env (fun x _ => tV_le x) 91 93
  have h4 := tTs_le d.srcs
  have h5 := tTs_le d.args
  have hb' := hb
  unfold big2 big1 at hb
  generalize (d.env.map fun v => v.name.length + v.val.length).sum = n1 at *
  generalize (d.ins.map fun x => x.drv.length + 10 * x.outs.length).sum = n2 at *
  generalize (d.outs.map fun o => o.name.length + o.path.length).sum = n3 at *
  exact ⟨by omega, by omega, by omega, by omega, by omega, hb', chkI_outs h⟩
theorem dtext_le {d : PD} (h : TB d) : (dtext d).length ≤ 2000000000 := by
  have h0 := tup_le [qt d.name, lst [91] (d.outs.map tO) [93], lst [91] (d.ins.map tI) [93], tTs d.srcs, qt d.sys, qt d.bld, tTs d.args, lst [91] (d.env.map tV) [93]]
  have h1 := qt_le d.name
  have h2 := qt_le d.sys
  have h3 := qt_le d.bld
  obtain ⟨a1, a2, a3, a4, a5, a6, _⟩ := h
  unfold big2 big1 at a6
  simp only [sl, List.map_cons, List.map_nil, List.sum_cons, List.sum_nil, List.length_cons, List.length_nil] at h0
  unfold dtext
  rw [List.length_append]
  simp only [List.length_cons, List.length_nil]
  omega
end Go.Proofs.YtfeabbeebkkhaaaGreat
/-! Sx21 -/
namespace Go.Sx
open Go
set_option linter.unusedVariables false
variable {P : Program} {R : Ending → World → Prop} {env : Env} {b : Base} {S : List SH} {B : JB} {T : Tree} {v : Value} {ty : TypeId}
theorem run_meth {f : FuncId} {name : String} {x : Operand} {xs : Array Operand} {tys : Array TypeId} {o : Oper} {args args2 : List Value} (ho : o.op = .call ⟨.invoke x name, xs, tys⟩) (ha : ev env x :: xs.toList.map (ev env) = args)
    (hi : ∀ w, (invoke (.fn (.method name) #[]) args.toArray).run P w = .ok (.enter f args2.toArray) w) (w : World) : (execOp (ev env) o).run P w = .ok (.enter f args2.toArray) w := by
  simp only [execOp, ho, resolve, Sem.run_bind, Sem.run_pure, Result.andThen_ok]
  have e : (#[ev env x] ++ xs.map (ev env) : Array Value) = args.toArray := by
    rw [← ha]; apply Array.ext'; simp
  rw [e]
  exact hi w
theorem qs_meth {o : Oper} {f : FuncId} {name : String} {x : Operand} {xs : Array Operand} {tys : Array TypeId} {args args2 : List Value} (ho : o.op = .call ⟨.invoke x name, xs, tys⟩) (ha : ev env x :: xs.toList.map (ev env) = args)
    (hi : ∀ w, (invoke (.fn (.method name) #[]) args.toArray).run P w = .ok (.enter f args2.toArray) w)
    (hc : ∀ w, Sig b S w → Con P f args2 w [] fun u _ => u = v) : QS P o env b S v := fun w hw => by
  unfold qAt
  rw [run_meth ho ha hi w]
  refine ⟨rfl, (hc w hw (by simp) (by simp)).mono ?_⟩
  rintro e w' ⟨u, S', rfl, rfl, hS⟩
  refine ⟨rfl, ?_⟩
  have := Sig.call (Fp := []) (Fr := S.flatten) (S2 := S'.flatten :: S) hw (by simp) hS (by simp)
  exact this.sub (by simp)
theorem qs_mkfuncF {f : FuncId} {x : Operand} {v : Value} (hx : ev env x = v) : QS P (O (.makeFunc (.func f) #[x] #[]) ty) env b S (.func (.func f) #[v] #[]) := by
  have := qs_mkfunc (P := P) (env := env) (b := b) (S := S) (ty := ty) (f := f) (xs := #[x]) (ys := #[])
  simpa [hx] using this
end Go.Sx
/-! Sx20 -/
namespace Go.Sx
open Go Go.MapKept Go.WideMaps Go.Maps
set_option linter.unusedVariables false
set_option linter.unusedSimpArgs false
set_option linter.unusedSectionVars false
variable {P : Program} {R : Ending → World → Prop} {env : Env} {b : Base} {S : List SH} {B : JB} {T : Tree} {v : Value} {ty : TypeId}
end Go.Sx
