/- Part 7. -/
import Derived.Test.YtfeabbeebkkhaaaGreatPN4
import Derived.ProofKit
import Derived.Carry
import Derived.Test.YtfeabbeebkkhaaaGreatPN5
import Derived.ChangeSlices
import Derived.SizedLaws
import Derived.SliceStrings
import Derived.Laws.LoneSync
import Derived.Lib.Bytealg
import Derived.LaidEql
import Derived.Test.YtfeabbeebkkhaaaGreatPN3
import Derived.Tactics
import Derived.Tactics2
import Derived.Defers
import Derived.Recover
import Derived.Laws.Pointers
import Derived.RegionTactic
import Derived.RegionCalls
import Derived.ChangeAlike
import Derived.Test.YtfeabbeebkkhaaaGreatPN6
/-! SxR -/
namespace Go.Sx
open Go Go.ChangeShapes Go.WideShapes Go.ChangeAt Go.RowKit
set_option linter.unusedVariables false
theorem trodAll_stays {H : Type} {enc : TypeId × Value → H} {P : Program} (hl : laidOutB P = true) {W W' : World} (hb : Below W.heap.size W W') : ∀ {ts : List TypeId} {vs : List Value} {ds : List (DataW H)} {ps : List MemPlace},
  (∀ t ∈ ts, P.readableRec t = true ∧ t < P.types.size) → DataW.TrodAll enc P W 0 (fun _ => true) true ts vs ds ps → (∀ x ∈ ps, x.block < W.heap.size) → DataW.TrodAll enc P W' 0 (fun b => decide (b < W.heap.size)) true ts vs ds ps
 | [], vs, ds, ps, _, h, _ => by
  obtain ⟨rfl, rfl, rfl⟩ := trodAll_nil h
  rfl
 | t :: ts, vs, ds, ps, ht, h, hlt => by
  obtain ⟨v, vs1, d, ds1, a, b, rfl, rfl, rfl, h1, h2⟩ := trodAll_cons h
  have h0 := ht t (by simp)
  exact ⟨a, b, Below.trod hl h0.1 h0.2 h1 hb (fun x hx => hlt x (List.mem_append_left _ hx)), trodAll_stays hl hb (fun t h => ht t (by simp [h])) h2 (fun x hx => hlt x (List.mem_append_right _ hx)), rfl⟩
theorem post_law {H : Type} {enc : TypeId × Value → H} {P : Program} {f : Func} {s : ChangeSpec} {apart fresh handsOn : Bool} {W W' : World} {args : Array Value} {ds : List (DataW H)} {before : List MemPlace} {tb : TypeId}
  (hW : DataW.Whole enc P f.params.toList s.vars apart W args.toList ds [] before) (hv : s.vars = []) (hs : s.fn H (ds ++ []) = { results := [.lit (.bool true)], args := ds }) (hl : laidOutB P = true)
  (hp : ∀ t ∈ f.params.toList, P.readableRec t = true ∧ t < P.types.size) (hr : f.resultTypes = #[tb]) (hb : P.underlying tb = some .bool) (hB : Below W.heap.size W W') : s.post enc P f apart fresh handsOn false W args (.bool true) W' := by
 have hlt := hW.lt
 obtain ⟨p, q, hA, hV, rfl, hfz, hnd⟩ := id hW
 have hq : q = [] := by
  rw [hv] at hV
  exact (trodVars_none hV).2
 subst hq
 have hres : ∀ (b : Nat) (sp : Nat → Bool) (hd : Bool), DataW.TrodAll enc P W' b sp hd f.resultTypes.toList ((Value.bool true).resultList f.resultTypes.size) (s.fn H (ds ++ [])).results [] := fun b sp hd => by
  rw [hs, hr]
  exact trodAll_mk1 (shut_bool hb true)
 have hargs : DataW.TrodAll enc P W' 0 (fun b => decide (b < W.heap.size)) true f.params.toList args.toList (s.fn H (ds ++ [])).args p := by
  rw [hs]
  exact trodAll_stays hl hB hp hA (fun x hx => hlt x (List.mem_append_left _ hx))
 refine ⟨ds, [], p ++ [], [], p, [], hW, hres _ _ _, hargs, ?_, World.keptBut_mono (fun x hx => ⟨hx, ?_⟩) (hB.frame (· ∈ p ++ [])), fun h => absurd h (by decide)⟩
 ·rw [hs, hv]
  rfl
 ·rw [List.mem_append] at hx
  exact Or.inr hx
theorem below_of_sig {w w' : World} {S : List SH} (h : Sig ⟨w, dom []⟩ S w') : Below w.heap.size w w' := ⟨h.os, h.tape, h.output, h.size, fun k hk => h.frame k hk (by simp)⟩
end Go.Sx
/-! Sx16 -/
namespace Go.Sx
open Go Go.ChangeShapes Go.WideShapes Go.ChangeAt Go.RowKit
set_option linter.unusedVariables false
variable {P : Program} {R : Ending → World → Prop} {env : Env} {b : Base} {S : List SH} {B : JB} {T : Tree} {v : Value} {ty : TypeId}
theorem cells_stay {w w' : World} {a : Addr} {vs : List Value} {D : List Nat} (h : Cells w a vs) (hs : Sig ⟨w, D⟩ S w') (hD : a.block ∉ D) : Cells w' a vs := rd_w (rd_cells (b := ⟨w, D⟩) h hD) hs
theorem ints_take (l : List UInt8) (n : Nat) : (ints l).take n = ints (l.take n) := by simp [ints]
theorem ints_drop (l : List UInt8) (n : Nat) : (ints l).drop n = ints (l.drop n) := by simp [ints]
end Go.Sx
/-! Sx17 -/
namespace Go.Sx
open Go Go.MapKept Go.WideMaps Go.Maps
set_option linter.unusedVariables false
set_option linter.unusedSimpArgs false
set_option linter.unusedSectionVars false
variable {P : Program} {R : Ending → World → Prop} {env : Env} {b : Base} {S : List SH} {B : JB} {T : Tree} {v : Value} {ty : TypeId}
def RdO (b : Base) (S : List SH) (g : Nat) (o : Obj) : Prop := ∀ w, Sig b S w → w.heap[g]? = some o
theorem rdo_base {g : Nat} {o : Obj} (h : b.w0.heap[g]? = some o) (hD : g ∉ b.D) : RdO b S g o := fun w hw => (hw.frame g (lt_of_get h) hD).trans h
theorem rd_rdo {g off n : Nat} {l vs : List Value} {e : TypeId} {fz : Nat × Nat} (hr : RdO b S g (.cells l.toArray e fz)) (h : (l.drop off).take n = vs) : Rd b S ⟨g, off, none⟩ vs := fun w hw j u hu => by
 subst h
 rw [add_off, cell_of (hr w hw)]
 rw [List.getElem?_take] at hu
 split at hu
 ·rwa [List.getElem?_drop] at hu
 ·cases hu
theorem qs_loadO {t : TypeId} {d : TypeDesc} {x : Operand} {g i : Nat} {l : List Value} {e : TypeId} {fz : Nat × Nat} {u : Value} (hr : RdO b S g (.cells l.toArray e fz)) (hu : P.underlying t = some d) (hd : flat d = true) (hx : ev env x = .pointer (some ⟨g, i, none⟩)) (hi : l[i]? = some u) :
  QS P (O (.load t x) ty) env b S u := by
 refine qs_loadR (vs := l) (a := ⟨g, 0, none⟩) (i := i) (rd_rdo (n := l.length) hr (by simp)) hu hd (by rw [add_off, Nat.zero_add]; exact hx) hi
section
variable {κ : Type} [DecidableEq κ] {enc : κ → Value} {ok : κ → Prop} {es : Array MapEntry} {clock : Nat} {m : List (κ × Value)} {kt : TypeId}
theorem qs_lookup2R (KE : KeyE P kt enc ok) {t vt : TypeId} {x y : Operand} {g : Nat} {key : κ} {z : Value} (hr : RdO b S g (.map es clock)) (ht : P.underlying t = some (.map kt vt)) (hz : (P.info? vt).bind (·.zero) = some z) (hx : ev env x = .map (some g)) (hy : ev env y = enc key) (hm : MapOk enc ok es clock m) (hok : ok key) :
  QS P (O (.lookup t x y true) ty) env b S (.tuple #[(mlook m key).getD z, .bool (mlook m key).isSome]) := qs_val fun w hw => by
 simp only [O, execOp, hx, hy, Sem.run_bind, run_lookup_ok KE ht hz hm hok (hr w hw) true, Result.andThen_ok, Sem.run_pure]
 rfl
theorem qs_maplen {t kt vt : TypeId} {x : Operand} {g : Nat} (hr : RdO b S g (.map es clock)) (ht : P.underlying t = some (.map kt vt)) (hx : ev env x = .map (some g)) (hm : MapOk enc ok es clock m) : QS P (O (.call ⟨.builtin .len, #[x], #[t]⟩) ty) env b S (.int .i64 (m.length : Nat)) := qs_val fun w hw => by
 have hs := hm.size
 simp [O, execOp, resolve, invoke, builtin, Builtin.len_, Sem.run_bind, Sem.run_pure, Result.andThen_ok, hx, run_underlying_ok ht, getObj_map (hr w hw), goInt, hs]
end
theorem j_litw {t e : TypeId} {x : Operand} {vs z : List Value} {sz : Nat} (ht : P.underlying t = some (.slice e)) (hz : (P.info? e).map (·.size) = some sz) (h0 : zeroL P e = some z) (hzl : z.length = sz) (hx : ev env x = .agg vs.toArray) (hl : vs.length = sz ∧ 0 < sz ∧ sz ≤ 1000)
  (h : ∀ g, b.w0.heap.size ≤ g → Own e sz vs (.slice (some ⟨g, 0, none⟩) 1 1) [(g, .cells vs.toArray e (0, 0))] → J P R T (.slice (some ⟨g, 0, none⟩) 1 1 :: env) ([(g, .cells vs.toArray e (0, 0))] :: S) b B) : J P R (.op (O (.buildSlice t 1 #[(0, x)]) ty) T) env S b B := fun w hw => by
 obtain ⟨zv, hzv, hrunz⟩ := run_zero_ok h0
 obtain ⟨hl, hs0, hs1⟩ := hl
 have hrun : (execOp (ev env) (O (.buildSlice t 1 #[(0, x)]) ty)).run P w = .ok (.value (.slice (some ⟨w.heap.size, 0, none⟩) 1 1)) (w.alloc (.cells vs.toArray e)) := by
  have hgt : ¬ (1 * sz > 2 ^ 24) := by omega
  have hne : ¬ (1 * sz = 0) := by omega
  have hf : ∀ zs : Array Value, zs.size = 1 * sz → Instr.fill (fun i => some (i * sz, sz)) zs [(0, Value.agg vs.toArray)] = some vs.toArray := by
   intro zs hzs
   have := fill_put (place := fun i => some (i * sz, sz)) [(0, Value.agg vs.toArray)] [(0, vs)] zs.toList rfl fun j p q hp hq => by
    cases j with
    | zero =>
     simp only [List.getElem?_cons_zero, Option.some.injEq] at hp hq
     subst hp hq
     refine ⟨by rw [hl, Nat.zero_mul], rfl, by show 0 + vs.length ≤ zs.size; rw [hzs, hl]; omega⟩
    | succ j => simp at hp
   simp only [Array.toArray_toList] at this
   rw [this]
   congr 2
   simp only [List.foldl_cons, List.foldl_nil]
   unfold putAt
   rw [List.take_zero, List.nil_append, Nat.zero_add, List.drop_of_length_le (by rw [Array.length_toList, hzs, hl]; omega), List.append_nil]
  have hp : (#[(0, x)].map fun p : Nat × Operand => (p.1, ev env p.2)).toList = [(0, Value.agg vs.toArray)] := by simp [hx]
  simp only [O, execOp, Instr.buildSlice, Sem.run_bind, run_underlying_ok ht, Result.andThen_ok, run_sizeOf_ok hz, if_neg hgt, if_neg hne, hrunz, Sem.run_pure]
  rw [hp, hf _ (by simp)]
  rfl
 show opW _ _ _ _ _ _
 unfold opW
 rw [hrun]
 obtain ⟨h1, h2, h3⟩ := hw.new (o := .cells vs.toArray e) (w' := w.alloc (.cells vs.toArray e)) rfl rfl rfl rfl
 exact h w.heap.size h3 (.inr ⟨w.heap.size, 1, 1, [], (0, 0), rfl, by simp, by omega, by simp; omega, Nat.le_refl _, fun _ _ h => by omega⟩) _ h1
theorem qs_mkfunc {f : FuncId} {xs ys : Array Operand} : QS P (O (.makeFunc (.func f) xs ys) ty) env b S (.func (.func f) (xs.map (ev env)) (ys.map (ev env))) := qs_run fun w => by
 simp only [O, execOp, Instr.makeFunc, Sem.run_bind, Sem.run_pure, Result.andThen_ok]
theorem qs_callf {o : Oper} {v : Value} {f : FuncId} {xs : Array Operand} {tys : Array TypeId} {g : Operand} {args : List Value} {first cap : Array Value} (h : Enters P f) (ho : o.op = .call ⟨.value g, xs, tys⟩) (hg : ev env g = .func (.func f) first cap) (ha : first.toList ++ xs.toList.map (ev env) ++ cap.toList = args)
  (hc : ∀ w, Sig b S w → Con P f args w [] fun u _ => u = v) : QS P o env b S v := fun w hw => by
 unfold qAt
 rw [run_call h g ho hg w]
 have e : (first ++ xs.map (ev env) ++ cap : Array Value) = args.toArray := by
  rw [← ha]; apply Array.ext'; simp
 rw [e]
 refine ⟨rfl, (hc w hw (by simp) (by simp)).mono ?_⟩
 rintro e w' ⟨u, S', rfl, rfl, hS⟩
 refine ⟨rfl, ?_⟩
 have := Sig.call (Fp := []) (Fr := S.flatten) (S2 := S'.flatten :: S) hw (by simp) hS (by simp)
 exact this.sub (by simp)
end Go.Sx
/-! Sx18 -/
namespace Go.Sx
open Go Go.ChangeShapes Go.WideShapes Go.ChangeAt Go.RowKit
set_option linter.unusedVariables false
def RSlN (n : Nat) (w : World) (v : Value) (vs : List Value) (len : Nat) : Prop :=
 vs.length = len * n ∧ ((v = .slice none 0 0 ∧ len = 0) ∨ ∃ g off cap, v = .slice (some ⟨g, off, none⟩) len cap ∧ g < w.heap.size ∧ len ≤ cap ∧ Cells w ⟨g, off, none⟩ vs)
theorem rsln_form {n : Nat} {w : World} {v : Value} {vs : List Value} {len : Nat} (h : RSlN n w v vs len) : ∃ A cap g off, v = .slice A len cap ∧ len ≤ cap ∧ (0 < len → A = some ⟨g, off, none⟩ ∧ g < w.heap.size ∧ Cells w ⟨g, off, none⟩ vs) := by
 rcases h with ⟨_, ⟨rfl, rfl⟩ | ⟨g, off, cap, rfl, h1, h2, h3⟩⟩
 ·exact ⟨none, 0, 0, 0, rfl, Nat.le_refl _, fun h => by omega⟩
 ·exact ⟨_, cap, g, off, rfl, h2, fun _ => ⟨rfl, h1, h3⟩⟩
theorem rsln_keep {n : Nat} {w w' : World} {v : Value} {vs : List Value} {len : Nat} (h : RSlN n w v vs len) {S : List SH} (hs : Sig ⟨w, dom []⟩ S w') : RSlN n w' v vs len := by
 obtain ⟨h0, h | ⟨g, off, cap, rfl, h1, h2, h3⟩⟩ := h
 ·exact ⟨h0, .inl h⟩
 ·exact ⟨h0, .inr ⟨g, off, cap, rfl, Nat.lt_of_lt_of_le h1 hs.size, h2, cells_stay h3 hs (by simp)⟩⟩
section
variable {α : Type}
theorem flat_len {encA : α → List Value} {n : Nat} (hl : ∀ a, (encA a).length = n) (rs : List α) : (rs.map encA).flatten.length = rs.length * n := by
 induction rs with
 | nil => simp
 | cons a rs ih => simp only [List.map_cons, List.flatten_cons, List.length_append, hl, ih, List.length_cons, Nat.add_mul, Nat.one_mul]; omega
theorem flat_get {encA : α → List Value} {n : Nat} (hl : ∀ a, (encA a).length = n) : ∀ (rs : List α) (i k : Nat), k < n → (rs.map encA).flatten[i * n + k]? = (rs[i]?).bind fun a => (encA a)[k]?
 | [], i, k, hk => by simp
 | a :: rs, 0, k, hk => by
  rw [List.map_cons, List.flatten_cons, Nat.zero_mul, Nat.zero_add, List.getElem?_append_left (by rw [hl]; exact hk)]
  rfl
 | a :: rs, i + 1, k, hk => by
  have ih := flat_get hl rs i k hk
  rw [List.map_cons, List.flatten_cons, List.getElem?_append_right (by rw [hl, Nat.add_mul, Nat.one_mul]; omega), hl, show (i + 1) * n + k - n = i * n + k by rw [Nat.add_mul, Nat.one_mul]; omega, ih]
  rfl
theorem list_of {Q : Nat → α → Prop} : ∀ (len : Nat), (∀ i, i < len → ∃ a, Q i a) → ∃ rs : List α, rs.length = len ∧ ∀ i a, rs[i]? = some a → Q i a
 | 0, _ => ⟨[], rfl, fun i a h => by simp at h⟩
 | len + 1, h => by
  obtain ⟨rs, h1, h2⟩ := list_of len fun i hi => h i (by omega)
  obtain ⟨a, ha⟩ := h len (by omega)
  refine ⟨rs ++ [a], by simp [h1], fun i b hb => ?_⟩
  rcases Nat.lt_or_ge i rs.length with hi | hi
  ·rw [List.getElem?_append_left hi] at hb
   exact h2 i b hb
  ·rw [List.getElem?_append_right hi] at hb
   have : i - rs.length = 0 := by
    have := (List.getElem?_eq_some_iff.1 hb).1
    simp at this
    omega
   rw [this] at hb
   simp at hb
   subst hb
   obtain rfl : i = len := by omega
   exact ha
theorem open_sln {H : Type} {enc : TypeId × Value → H} {P : Program} {w : World} {r : Reach} {base b0 : Nat} {sp : Nat → Bool} {held : Bool} {t e : TypeId} {v : Value} {x : DataW H × List MemPlace} {n : Nat} (encA : α → List Value) (ok : α → Prop) (hl : ∀ a, (encA a).length = n) (hn : 0 < n) (ht : P.underlying t = some (.slice e)) (hc : P.cellsOf e = n) (hv : Value.okWide P w r base t v)
  (hE : ∀ fuel cs y, DataW.trod enc P w b0 sp held fuel e cs = some y → (y.1.weights P e).all (· ≤ reachBytes) = true → ∃ a, ok a ∧ cs = encA a) (h : ∃ fuel, DataW.trod enc P w b0 sp held fuel t v.cells.toList = some x) (hw : (x.1.weights P t).all (· ≤ reachBytes) = true) :
  ∃ rs : List α, RSlN n w v (rs.map encA).flatten rs.length ∧ (∀ a ∈ rs, ok a) ∧ rs.length * P.bytesOf e ≤ reachBytes := by
 obtain ⟨a0, len, cap, rfl⟩ := okWide_slice ht hv
 obtain ⟨fuel, hf⟩ := h
 have hcells : (Value.slice a0 len cap).cells.toList = [Value.slice a0 len cap] := rfl
 rcases DataW.trod_slice ht hf with ⟨hcs, _⟩ | ⟨a, len', cap', elems, rest, m, rfl, hcs, hx, hb, hlc, hm, hel, hall, _, _⟩
 ·rw [hcells] at hcs
  injection hcs with hcs
  rw [hcs]
  exact ⟨[], ⟨by simp, .inl ⟨rfl, rfl⟩⟩, (fun a ha => by cases ha), by simp⟩
 ·rw [hcells] at hcs
  injection hcs with hcs
  injection hcs with h1 h2 h3
  subst h1 h2 h3
  simp only [Value.okWide, ht, Cell.okWide, Cell.ok] at hv
  obtain ⟨_, _, _, hspot, row, cells, hshape, _⟩ := hv
  obtain ⟨g, off, spot⟩ := a
  simp only at hspot hshape
  subst hspot
  have hg : g < w.heap.size := by
   unfold World.shape? at hshape
   split at hshape
   ·rename_i hh; exact (Array.getElem?_eq_some_iff.1 hh).1
   ·cases hshape
  rw [hx] at hw
  unfold DataW.weights at hw
  simp only [ht, List.all_cons, Bool.and_eq_true, decide_eq_true_eq, List.all_append] at hw
  obtain ⟨hw1, hw2, _⟩ := hw
  have hwe : ∀ (l : List (DataW H)), (DataW.weightsAll P e l).all (· ≤ reachBytes) = true → ∀ d ∈ l, (d.weights P e).all (· ≤ reachBytes) = true := by
   intro l
   induction l with
   | nil => intro _ d hd; cases hd
   | cons d l ih =>
    intro hh d' hd'
    unfold DataW.weightsAll at hh
    rw [List.all_append, Bool.and_eq_true] at hh
    rcases List.mem_cons.1 hd' with rfl | hd'
    ·exact hh.1
    ·exact ih hh.2 d' hd'
  obtain ⟨rs, hr1, hr2⟩ := list_of (Q := fun i (a : α) => ok a ∧ w.cells? b0 ((⟨g, off, none⟩ : Addr).add (i * n)) n = some (encA a)) len fun i hi => by
   have h4 := hall i hi
   obtain ⟨y, hy⟩ : ∃ y, elems[i]? = some y := ⟨_, List.getElem?_eq_getElem (by omega)⟩
   rw [hy, hc] at h4
   obtain ⟨cs, h5, h6⟩ := Option.bind_eq_some_iff.1 h4
   obtain ⟨a, ha1, ha2⟩ := hE _ _ _ h6 (hwe _ hw2 y.1 (List.mem_map.2 ⟨y, List.mem_of_getElem? hy, rfl⟩))
   exact ⟨a, ha1, by rw [h5, ha2]⟩
  refine ⟨rs, ⟨flat_len hl rs, .inr ⟨g, off, cap, by rw [hr1], hg, by rw [hr1]; exact hlc, fun j u hu => ?_⟩⟩, fun a ha => ?_, ?_⟩
  ·have hj : j = j / n * n + j % n := by have := Nat.div_add_mod j n; rw [Nat.mul_comm]; omega
   have hk : j % n < n := Nat.mod_lt _ hn
   rw [hj, flat_get hl rs _ _ hk] at hu
   obtain ⟨a, ha, hu⟩ := Option.bind_eq_some_iff.1 hu
   obtain ⟨_, hcs⟩ := hr2 _ _ ha
   obtain ⟨_, _, h7⟩ := World.cells?_some hcs
   have h8 := h7 (j % n) hk
   rw [hu] at h8
   rw [hj]
   rw [add_off] at h8 ⊢
   rw [add_off] at h8
   rw [← h8]
   congr 2
   omega
  ·obtain ⟨i, hi⟩ := List.mem_iff_getElem?.1 ha
   exact (hr2 i a hi).1
  ·rw [hr1]
   refine Nat.le_trans (Nat.mul_le_mul_right _ ?_) hw1
   simp only [List.length_map]
   omega
end
end Go.Sx
/-! Sx19 -/
namespace Go.Sx
open Go Go.MapKept Go.WideMaps Go.Maps
set_option linter.unusedVariables false
set_option linter.unusedSimpArgs false
set_option linter.unusedSectionVars false
variable {P : Program} {R : Ending → World → Prop} {env : Env} {b : Base} {S : List SH} {B : JB} {T : Tree} {v : Value} {ty : TypeId}
theorem qs_ixn {t e : TypeId} {x y : Operand} {n c sz g off i : Nat} {k : IntKind} (ht : P.underlying t = some (.slice e)) (hz : (P.info? e).map (·.size) = some sz) (hx : ev env x = .slice (some ⟨g, off, none⟩) n c) (hy : ev env y = .int k (i : Int)) (h : i < n) :
  QS P (O (.indexAddr t x y) ty) env b S (.pointer (some ⟨g, off + i * sz, none⟩)) := by
 have := qs_ixl (P := P) (env := env) (b := b) (S := S) (ty := ty) (x := x) (y := y) ht hz hx hy (by omega) (by omega)
 rw [add_off, Int.toNat_natCast] at this
 exact this
theorem qs_loadrec {α : Type} {encA : α → List Value} {n : Nat} {rs : List α} {d : α} {t : TypeId} {dd : TypeDesc} {x : Operand} {g off i fo : Nat} (hl : ∀ a, (encA a).length = n) (hr : Rd b S ⟨g, off, none⟩ (rs.map encA).flatten) (hi : i < rs.length) (hu : P.underlying t = some dd) (hd : flat dd = true)
  (hx : ev env x = .pointer (some ⟨g, off + i * n + fo, none⟩)) (hv : (encA (rs.getD i d))[fo]? = some v) : QS P (O (.load t x) ty) env b S v := by
 refine qs_loadR (a := ⟨g, off, none⟩) (i := i * n + fo) hr hu hd (by rw [add_off, ← Nat.add_assoc]; exact hx) ?_
 have hk : fo < n := by
  have := (List.getElem?_eq_some_iff.1 hv).1
  rwa [hl] at this
 rw [flat_get hl rs i fo hk, List.getElem?_eq_getElem hi]
 rw [List.getD_eq_getElem?_getD, List.getElem?_eq_getElem hi] at hv
 exact hv
theorem qs_loadrecw {α : Type} {encA : α → List Value} {n : Nat} {rs : List α} {d : α} {t : TypeId} {dd : TypeDesc} {x : Operand} {g off i : Nat} (hl : ∀ a, (encA a).length = n) (hr : Rd b S ⟨g, off, none⟩ (rs.map encA).flatten) (hi : i < rs.length) (hu : P.underlying t = some dd) (hd : flat dd = false) (hz : (P.info? t).map (·.size) = some n)
  (hx : ev env x = .pointer (some ⟨g, off + i * n, none⟩)) : QS P (O (.load t x) ty) env b S (.agg (encA (rs.getD i d)).toArray) := by
 refine qs_loadwR (g := g) (off := off + i * n) (n := n) (vs := encA (rs.getD i d)) (fun w hw j u hj => ?_) hu hd hz hx (hl _)
 have hk : j < n := by
  have := (List.getElem?_eq_some_iff.1 hj).1
  rwa [hl] at this
 have h := hr w hw (i * n + j) u (by
  rw [flat_get hl rs i j hk, List.getElem?_eq_getElem hi]
  rw [List.getD_eq_getElem?_getD, List.getElem?_eq_getElem hi] at hj
  exact hj)
 rw [add_off] at h ⊢
 rw [Nat.add_assoc]
 exact h
theorem qs_extw {f : FuncId} {fn : Func} {e : Array Value → Sem Value} {xs : Array Operand} {tys : Array TypeId} {g : Operand} {args : List Value} {o : Oper} (ho : o.op = .call ⟨.value g, xs, tys⟩) (hg : ev env g = .func (.func f) #[] #[]) (ha : xs.toList.map (ev env) = args) (hr : ∀ w, Sig b S w → (callFunc f args.toArray).run P w = .ok (.value v) w) : QS P o env b S v := qs_val fun w hw => by
 have e1 : (#[] ++ xs.map (ev env) ++ #[] : Array Value) = args.toArray := by
  rw [← ha]; apply Array.ext'; simp
 simp only [execOp, ho, resolve, hg, Deferred.ofValue, invoke, Sem.run_bind, Sem.run_pure, Result.andThen_ok, e1, hr w hw]
theorem setCell_same {w : World} {g i : Nat} {l : List Value} {e : TypeId} {fz : Nat × Nat} {u : Value} (h : w.heap[g]? = some (.cells l.toArray e fz)) : (w.setCell ⟨g, i, none⟩ u).heap[g]? = some (.cells (l.set i u).toArray e fz) := by
 unfold World.setCell
 simp [Array.getElem?_modify, h]
theorem setCell_other {w : World} {g i j : Nat} {u : Value} (h : j ≠ g) : (w.setCell ⟨g, i, none⟩ u).heap[j]? = w.heap[j]? := by
 unfold World.setCell
 simp only [Array.getElem?_modify, if_neg (fun e => h (Eq.symm e))]
theorem qs_mkiface {t : TypeId} {x : Operand} {u : Value} {d : TypeDesc} (ht : P.underlying t = some d) (hd : ∀ ms, d ≠ .interface ms) (hx : ev env x = u) : QS P (O (.makeInterface t x) ty) env b S (.iface t u) := qs_run fun w => by
 simp only [O, execOp, hx, Instr.makeInterface, Sem.run_bind, run_underlying_ok ht, Result.andThen_ok]
 cases d <;> first | rfl | exact absurd rfl (hd _)
end Go.Sx
/-! Dv0 -/
namespace Go.Proofs.YtfeabbeebkkhaaaGreat
open Go Go.Sx
set_option linter.unusedVariables false
set_option linter.unusedSimpArgs false
abbrev Bs := List UInt8
theorem hexL (h : List UInt8) : (hex h).length = 64 := hexN_length h 32
def esc (c : UInt8) : Bs := if c = 34 then [92, 34] else if c = 92 then [92, 92] else if c = 10 then [92, 110] else if c = 13 then [92, 114] else if c = 9 then [92, 116] else [c]
def es (s : Bs) : Bs := (s.map esc).flatten
def qt (s : Bs) : Bs := [34] ++ es s ++ [34]
def cms (l : List Bs) : Bs := (l.map fun x => 44 :: x).flatten.drop 1
def lst (o : Bs) (l : List Bs) (c : Bs) : Bs := o ++ cms l ++ c
theorem es_snoc (s : Bs) (c : UInt8) : es (s ++ [c]) = es s ++ esc c := by simp [es]
theorem esc_len (c : UInt8) : 1 ≤ (esc c).length ∧ (esc c).length ≤ 2 := by
 unfold esc
 repeat' split
 all_goals simp
theorem es_len (s : Bs) : s.length ≤ (es s).length ∧ (es s).length ≤ 2 * s.length := by
 induction s with
 | nil => simp [es]
 | cons c s ih =>
  have h := esc_len c
  have e : es (c :: s) = esc c ++ es s := by simp [es]
  rw [e, List.length_append, List.length_cons]
  omega
theorem qt_len (s : Bs) : (qt s).length = (es s).length + 2 := by simp [qt]
theorem cms_snoc (l : List Bs) (x : Bs) : cms (l ++ [x]) = if l = [] then x else cms l ++ (44 :: x) := by
 unfold cms
 rw [List.map_append, List.flatten_append]
 cases l with
 | nil => simp
 | cons y l =>
  rw [if_neg (by simp), List.map_cons, List.flatten_cons, List.cons_append, List.cons_append, List.drop_succ_cons, List.drop_succ_cons, List.drop_zero, List.drop_zero]
  simp
theorem cms_len (l : List Bs) : (cms l).length ≤ (l.map List.length).sum + l.length := by
 unfold cms
 rw [List.length_drop, List.length_flatten, List.map_map]
 have : (l.map (List.length ∘ fun x => 44 :: x)).sum = (l.map List.length).sum + l.length := by
  induction l with
  | nil => rfl
  | cons a l ih => simp only [List.map_cons, List.sum_cons, Function.comp, List.length_cons] at ih ⊢; omega
 omega
abbrev Hsh := { l : Bs // l.length = 32 }
structure PO where
 name : Bs
 path : Bs
 fixed : Bool
 hash : Hsh
structure PI where
 drv : Bs
 outs : List Bs
structure PV where
 name : Bs
 val : Bs
structure PD where
 name : Bs
 sys : Bs
 bld : Bs
 args : List Bs
 env : List PV
 ins : List PI
 srcs : List Bs
 outs : List PO
abbrev sSha : Bs := [115, 104, 97, 50, 53, 54]
abbrev sDrv : Bs := [46, 100, 114, 118]
abbrev sOut : Bs := [111, 117, 116]
abbrev sDerive : Bs := [68, 101, 114, 105, 118, 101]
def tup (l : List Bs) : Bs := lst [40] l [41]
def tO (o : PO) : Bs := tup [qt o.name, qt o.path, qt (if o.fixed then sSha else []), qt (if o.fixed then hex o.hash.1 else [])]
def tTs (l : List Bs) : Bs := lst [91] (l.map qt) [93]
def tI (x : PI) : Bs := tup [qt x.drv, tTs x.outs]
def tV (v : PV) : Bs := tup [qt v.name, qt v.val]
def dtext (d : PD) : Bs := sDerive ++ tup [qt d.name, lst [91] (d.outs.map tO) [93], lst [91] (d.ins.map tI) [93], tTs d.srcs, qt d.sys, qt d.bld, tTs d.args, lst [91] (d.env.map tV) [93]]
def firstE (f : Nat → Int) : Nat → Int
 | 0 => 0
 | n + 1 => if firstE f n ≠ 0 then firstE f n else f n
theorem firstE_zero {f : Nat → Int} {n : Nat} (h : ∀ j < n, f j = 0) : firstE f n = 0 := by
 induction n with
 | zero => rfl
 | succ n ih =>
  have := ih fun j hj => h j (by omega)
  rw [firstE, if_neg (by omega)]
  exact h n (by omega)
theorem firstE_at {f : Nat → Int} {n i : Nat} (h : ∀ j < i, f j = 0) (hi : i < n) (he : f i ≠ 0) : firstE f n = f i := by
 induction n with
 | zero => omega
 | succ n ih =>
  rw [firstE]
  by_cases hin : i = n
  ·subst hin
   rw [if_neg (by rw [firstE_zero h]; decide)]
  ·have := ih (by omega)
   rw [if_pos (by rw [this]; exact he)]
   exact this
theorem firstE_all {f : Nat → Int} {n : Nat} (h : firstE f n = 0) : ∀ j < n, f j = 0 := by
 intro j hj
 induction n with
 | zero => omega
 | succ n ih =>
  rw [firstE] at h
  by_cases h0 : firstE f n = 0
  ·rw [if_neg (by omega)] at h
   by_cases hjn : j = n
   ·rw [hjn]; exact h
   ·exact ih h0 (by omega)
  ·rw [if_pos h0] at h
   exact absurd h h0
theorem zero_snoc {f : Nat → Int} {i : Nat} (h : ∀ j < i, f j = 0) (hi : f i = 0) : ∀ j < i + 1, f j = 0 := fun j hj => by
 by_cases hji : j = i
 ·rw [hji]; exact hi
 ·exact h j (by omega)
def leB (a b : Bs) : Bool := Op.bytesLess a b || a == b
abbrev zHash : Hsh := ⟨List.replicate 32 0, rfl⟩
abbrev o0 : PO := ⟨[], [], false, zHash⟩
abbrev i0 : PI := ⟨[], []⟩
abbrev v0 : PV := ⟨[], []⟩
def isDrvP (p : Bs) : Bool := isPath p && decide (4 < (p.drop 33).length) && ((p.drop 33).drop ((p.drop 33).length - 4) == sDrv)
def badO (l : List PO) (i : Nat) : Bool := (decide (0 < i) && leB (l.getD i o0).name (l.getD (i - 1) o0).name) || ((!((l.getD i o0).path == [])) && !isPath (l.getD i o0).path) || ((l.getD i o0).fixed && (decide (1 < l.length) || !((l.getD i o0).name == sOut))) || (!(l.getD i o0).fixed && !((l.getD i o0).hash.1 == List.replicate 32 0))
def chkO (l : List PO) (i : Nat) : Int := if isName (l.getD i o0).name then (if badO l i then 3 else 0) else 9
def chkOuts (l : List PO) : Int := if l.length < 1 ∨ 16 < l.length then 1 else firstE (chkO l) l.length
def chkN (l : List Bs) (i : Nat) : Int := if isName (l.getD i []) then (if decide (0 < i) && leB (l.getD i []) (l.getD (i - 1) []) then 3 else 0) else 9
def chkI (l : List PI) (i : Nat) : Int := if !isDrvP (l.getD i i0).drv || (decide (0 < i) && leB (l.getD i i0).drv (l.getD (i - 1) i0).drv) || (l.getD i i0).outs.length == 0 then 3 else firstE (chkN (l.getD i i0).outs) (l.getD i i0).outs.length
def chkIns (l : List PI) : Int := firstE (chkI l) l.length
def chkS (l : List Bs) (i : Nat) : Int := if !isPath (l.getD i []) || (decide (0 < i) && leB (l.getD i []) (l.getD (i - 1) [])) then 3 else 0
def chkV (l : List PV) (i : Nat) : Int := if (l.getD i v0).name == [] || (decide (0 < i) && leB (l.getD i v0).name (l.getD (i - 1) v0).name) then 3 else 0
def orE (a b : Int) : Int := if a = 0 then b else a
def chk0 (d : PD) : Int := if isName d.name && isName (d.name ++ sDrv) then orE (chkOuts d.outs) (orE (chkIns d.ins) (orE (firstE (chkS d.srcs) d.srcs.length) (firstE (chkV d.env) d.env.length))) else 9
def chk (d : PD) : Int := orE (chk0 d) (if 262144 < (dtext d).length then 5 else 0)
theorem orE_zero {a b : Int} : orE a b = 0 ↔ a = 0 ∧ b = 0 := by
 unfold orE
 split <;> simp_all
def sl (l : List Bs) : Nat := (l.map List.length).sum
def big1 (d : PD) : Nat := d.name.length + d.sys.length + d.bld.length + 10 * (d.outs.length + d.ins.length + d.srcs.length + d.env.length + d.args.length)
def big2 (d : PD) : Nat := big1 d + (d.env.map fun v => v.name.length + v.val.length).sum + sl d.args + (d.ins.map fun x => x.drv.length + 10 * x.outs.length).sum + (d.outs.map fun o => o.name.length + o.path.length).sum + sl d.srcs
def heavyP (d : PD) : Bool := decide (4000 < big1 d) || decide (16000 < big2 d)
theorem sl_map_le {α : Type} (f g : α → Nat) (k : Nat) (l : List α) (h : ∀ x ∈ l, f x ≤ 2 * g x + k) : (l.map f).sum ≤ 2 * (l.map g).sum + k * l.length := by
 induction l with
 | nil => simp
 | cons a l ih =>
  have h1 := h a (by simp)
  have h2 := ih fun x hx => h x (by simp [hx])
  simp only [List.map_cons, List.sum_cons, List.length_cons, Nat.mul_add, Nat.mul_one]
  omega
theorem qt_le (s : Bs) : (qt s).length ≤ 2 * s.length + 2 := by
 have := es_len s
 rw [qt_len]
 omega
theorem tTs_le (l : List Bs) : (tTs l).length ≤ 2 * sl l + 3 * l.length + 2 := by
 have h := cms_len (l.map qt)
 have h2 : ((l.map qt).map List.length).sum ≤ 2 * sl l + 2 * l.length := by
  rw [List.map_map]
  exact sl_map_le _ _ 2 l fun x _ => qt_le x
 rw [List.length_map] at h
 simp only [tTs, lst, List.length_append, List.length_cons, List.length_nil]
 omega
theorem lst_le {α : Type} (f : α → Bs) (g : α → Nat) (k : Nat) (l : List α) (h : ∀ x ∈ l, (f x).length ≤ 2 * g x + k) (o c : UInt8) : (lst [o] (l.map f) [c]).length ≤ 2 * (l.map g).sum + (k + 1) * l.length + 2 := by
 have h1 := cms_len (l.map f)
 have h2 : ((l.map f).map List.length).sum ≤ 2 * (l.map g).sum + k * l.length := by
  rw [List.map_map]
  exact sl_map_le _ _ k l h
 rw [List.length_map] at h1
 simp only [lst, List.length_append, List.length_cons, List.length_nil, Nat.add_mul, Nat.one_mul]
 omega
theorem tup_le (l : List Bs) : (tup l).length ≤ sl l + l.length + 2 := by
 have h1 := cms_len l
 simp only [tup, lst, List.length_append, List.length_cons, List.length_nil, sl]
 omega
theorem tO_le (o : PO) : (tO o).length ≤ 2 * (o.name.length + o.path.length) + 170 := by
 have h := tup_le [qt o.name, qt o.path, qt (if o.fixed then sSha else []), qt (if o.fixed then hex o.hash.1 else [])]
 have h1 := qt_le o.name
 have h2 := qt_le o.path
 have h3 := qt_le (if o.fixed then sSha else [])
 have h4 := qt_le (if o.fixed then hex o.hash.1 else [])
 have hh : (hex o.hash.1).length ≤ 64 := by rw [hexL]; exact Nat.le_refl _
 have h5 : (if o.fixed then sSha else []).length ≤ 6 := by split <;> simp
 have h6 : (if o.fixed then hex o.hash.1 else []).length ≤ 64 := by split <;> simp [hh]
 simp only [sl, List.map_cons, List.map_nil, List.sum_cons, List.sum_nil, List.length_cons, List.length_nil] at h
 unfold tO
 omega
theorem tV_le (v : PV) : (tV v).length ≤ 2 * (v.name.length + v.val.length) + 10 := by
 have h := tup_le [qt v.name, qt v.val]
 have h1 := qt_le v.name
 have h2 := qt_le v.val
 simp only [sl, List.map_cons, List.map_nil, List.sum_cons, List.sum_nil, List.length_cons, List.length_nil] at h
 unfold tV
 omega
theorem sl_le80 {l : List Bs} (h : ∀ x ∈ l, x.length ≤ 80) : sl l ≤ 80 * l.length := by
 induction l with
 | nil => simp [sl]
 | cons a l ih =>
  have h1 := h a (by simp)
  have h2 := ih fun x hx => h x (by simp [hx])
  simp only [sl, List.map_cons, List.sum_cons, List.length_cons, Nat.mul_add, Nat.mul_one] at h2 ⊢
  omega
theorem tI_le (x : PI) (h : ∀ o ∈ x.outs, o.length ≤ 80) : (tI x).length ≤ 2 * (100 * (x.drv.length + 10 * x.outs.length)) + 10 := by
 have h0 := tup_le [qt x.drv, tTs x.outs]
 have h1 := qt_le x.drv
 have h2 := tTs_le x.outs
 have h3 := sl_le80 h
 simp only [sl, List.map_cons, List.map_nil, List.sum_cons, List.sum_nil, List.length_cons, List.length_nil] at h0
 unfold tI
 unfold sl at h2 h3
 omega
theorem chkN_len {l : List Bs} (h : firstE (chkN l) l.length = 0) : ∀ o ∈ l, o.length ≤ 80 := fun o ho => by
 obtain ⟨i, hi, rfl⟩ := List.getElem_of_mem ho
 have := firstE_all h i hi
 unfold chkN at this
 have hg : l.getD i [] = l[i] := by rw [List.getD_eq_getElem?_getD, List.getElem?_eq_getElem hi]; rfl
 split at this
 ·rename_i hn
  rw [hg] at hn
  exact (isName_len hn).2
 ·cases this
theorem chkI_outs {l : List PI} (h : chkIns l = 0) : ∀ x ∈ l, ∀ o ∈ x.outs, o.length ≤ 80 := fun x hx => by
 obtain ⟨i, hi, rfl⟩ := List.getElem_of_mem hx
 have := firstE_all h i hi
 unfold chkI at this
 have hg : l.getD i i0 = l[i] := by rw [List.getD_eq_getElem?_getD, List.getElem?_eq_getElem hi]; rfl
 rw [hg] at this
 split at this
 ·cases this
 ·exact chkN_len this
theorem chk0_parts {d : PD} (h : chk0 d = 0) : isName d.name = true ∧ isName (d.name ++ sDrv) = true ∧ chkOuts d.outs = 0 ∧ chkIns d.ins = 0 ∧ firstE (chkS d.srcs) d.srcs.length = 0 ∧ firstE (chkV d.env) d.env.length = 0 := by
 unfold chk0 at h
 split at h
 ·rename_i hn
  rw [Bool.and_eq_true] at hn
  rw [orE_zero, orE_zero, orE_zero] at h
  exact ⟨hn.1, hn.2, h.1, h.2.1, h.2.2.1, h.2.2.2⟩
 ·cases h
theorem sum_mul {α : Type} (g : α → Nat) (k : Nat) (l : List α) : (l.map fun x => k * g x).sum = k * (l.map g).sum := by
 induction l with
 | nil => simp
 | cons a l ih => simp only [List.map_cons, List.sum_cons, ih, Nat.mul_add]
structure TB (d : PD) : Prop where
 o : (lst [91] (d.outs.map tO) [93]).length ≤ 100000000
 i : (lst [91] (d.ins.map tI) [93]).length ≤ 1000000000
 e : (lst [91] (d.env.map tV) [93]).length ≤ 100000000
 s : (tTs d.srcs).length ≤ 100000000
 a : (tTs d.args).length ≤ 100000000
 sm : big2 d ≤ 200000
 out : ∀ x ∈ d.ins, ∀ o ∈ x.outs, o.length ≤ 80
theorem tb_of {d : PD} (h : chkIns d.ins = 0) (hb : big2 d ≤ 200000) : TB d := by
 have h1 := lst_le tO (fun o : PO => o.name.length + o.path.length) 170 d.outs (fun x hx => tO_le x) 91 93
 have h2 := lst_le tI (fun x : PI => 100 * (x.drv.length + 10 * x.outs.length)) 10 d.ins (fun x hx => tI_le x (chkI_outs h x hx)) 91 93
 rw [sum_mul] at h2
 have h3 := lst_le tV (fun v : PV => v.name.length + v.val.length) 10 d.env (fun x _ => tV_le x) 91 93
 have h4 := tTs_le d.srcs
 have h5 := tTs_le d.args
 have hb' := hb
 unfold big2 big1 at hb
 generalize (d.env.map fun v => v.name.length + v.val.length).sum = n1 at *
 generalize (d.ins.map fun x => x.drv.length + 10 * x.outs.length).sum = n2 at *
 generalize (d.outs.map fun o => o.name.length + o.path.length).sum = n3 at *
 exact ⟨by omega, by omega, by omega, by omega, by omega, hb', chkI_outs h⟩
theorem dtext_le {d : PD} (h : TB d) : (dtext d).length ≤ 2000000000 := by
 have h0 := tup_le [qt d.name, lst [91] (d.outs.map tO) [93], lst [91] (d.ins.map tI) [93], tTs d.srcs, qt d.sys, qt d.bld, tTs d.args, lst [91] (d.env.map tV) [93]]
 have h1 := qt_le d.name
 have h2 := qt_le d.sys
 have h3 := qt_le d.bld
 obtain ⟨a1, a2, a3, a4, a5, a6, _⟩ := h
 unfold big2 big1 at a6
 simp only [sl, List.map_cons, List.map_nil, List.sum_cons, List.sum_nil, List.length_cons, List.length_nil] at h0
 unfold dtext
 rw [List.length_append]
 simp only [List.length_cons, List.length_nil]
 omega
end Go.Proofs.YtfeabbeebkkhaaaGreat
/-! Sx21 -/
namespace Go.Sx
open Go
set_option linter.unusedVariables false
variable {P : Program} {R : Ending → World → Prop} {env : Env} {b : Base} {S : List SH} {B : JB} {T : Tree} {v : Value} {ty : TypeId}
theorem run_meth {f : FuncId} {name : String} {x : Operand} {xs : Array Operand} {tys : Array TypeId} {o : Oper} {args args2 : List Value} (ho : o.op = .call ⟨.invoke x name, xs, tys⟩) (ha : ev env x :: xs.toList.map (ev env) = args)
  (hi : ∀ w, (invoke (.fn (.method name) #[]) args.toArray).run P w = .ok (.enter f args2.toArray) w) (w : World) : (execOp (ev env) o).run P w = .ok (.enter f args2.toArray) w := by
 simp only [execOp, ho, resolve, Sem.run_bind, Sem.run_pure, Result.andThen_ok]
 have e : (#[ev env x] ++ xs.map (ev env) : Array Value) = args.toArray := by
  rw [← ha]; apply Array.ext'; simp
 rw [e]
 exact hi w
theorem qs_meth {o : Oper} {f : FuncId} {name : String} {x : Operand} {xs : Array Operand} {tys : Array TypeId} {args args2 : List Value} (ho : o.op = .call ⟨.invoke x name, xs, tys⟩) (ha : ev env x :: xs.toList.map (ev env) = args)
  (hi : ∀ w, (invoke (.fn (.method name) #[]) args.toArray).run P w = .ok (.enter f args2.toArray) w)
  (hc : ∀ w, Sig b S w → Con P f args2 w [] fun u _ => u = v) : QS P o env b S v := fun w hw => by
 unfold qAt
 rw [run_meth ho ha hi w]
 refine ⟨rfl, (hc w hw (by simp) (by simp)).mono ?_⟩
 rintro e w' ⟨u, S', rfl, rfl, hS⟩
 refine ⟨rfl, ?_⟩
 have := Sig.call (Fp := []) (Fr := S.flatten) (S2 := S'.flatten :: S) hw (by simp) hS (by simp)
 exact this.sub (by simp)
theorem qs_mkfuncF {f : FuncId} {x : Operand} {v : Value} (hx : ev env x = v) : QS P (O (.makeFunc (.func f) #[x] #[]) ty) env b S (.func (.func f) #[v] #[]) := by
 have := qs_mkfunc (P := P) (env := env) (b := b) (S := S) (ty := ty) (f := f) (xs := #[x]) (ys := #[])
 simpa [hx] using this
end Go.Sx
/-! Sx20 -/
namespace Go.Sx
open Go Go.MapKept Go.WideMaps Go.Maps
set_option linter.unusedVariables false
set_option linter.unusedSimpArgs false
set_option linter.unusedSectionVars false
variable {P : Program} {R : Ending → World → Prop} {env : Env} {b : Base} {S : List SH} {B : JB} {T : Tree} {v : Value} {ty : TypeId}
theorem j_convsl {t e : TypeId} {x : Operand} {g n c : Nat} {l : List Value} {e0 : TypeId} (k : Nat) (ht : P.underlying t = some (.slice e)) (he : P.underlying e = some (.int .u8)) (hk : S[k]? = some [(g, .cells l.toArray e0 (0, 0))]) (hx : ev env x = .slice (some ⟨g, 0, none⟩) n c)
  (h : J P R T (.slice (some ⟨g, 0, none⟩) n c :: env) (S.set k [(g, .cells l.toArray e0 (l.length, l.length + 1))]) b B) : J P R (.op (O (.convert t t x) ty) T) env S b B := fun w hw => by
 have hg := hw.at_ hk
 show opW _ _ _ _ _ _
 unfold opW
 have hsh : (shape g).run P w = .ok (some (e0, l.length)) w := by
  simp [shape, Sem.run, World.shape?, hg]
 have hrun : (execOp (ev env) (O (.convert t t x) ty)).run P w = .ok (.value (.slice (some ⟨g, 0, none⟩) n c)) (w.freeze ⟨g, l.length, none⟩ 1) := by
  simp only [O, execOp, hx, convert, Sem.run_bind, run_underlying_ok ht, run_underlying_ok he, Result.andThen_ok, beq_self_eq_true, markStringish, hsh]
  rfl
 rw [hrun]
 refine h _ (hw.set hk (o' := .cells l.toArray e0 (l.length, l.length + 1)) ?_ ?_ ?_ ?_ ?_ (fun j hj => ?_))
 ·simp [World.freeze]
 ·simp [World.freeze]
 ·simp [World.freeze]
 ·simp [World.freeze]
 ·simp [World.freeze, Array.getElem?_modify, hg]
 ·simp [World.freeze, Array.getElem?_modify, Ne.symm hj]
end Go.Sx
/-! Dv1 -/
namespace Go.Proofs.YtfeabbeebkkhaaaGreat
open Go Go.Sx
set_option maxRecDepth 100000
set_option maxHeartbeats 4000000
set_option linter.unusedVariables false
set_option linter.unusedSimpArgs false
attribute [local irreducible] J JQ QS Con W opW
abbrev TRb : List UInt8 := [9, 13, 10, 92, 34]
abbrev TR : List Bs := [[9], [13], [10], [92], [34]]
theorem esc_in (c : UInt8) : (c ∈ TRb → (esc c).length = 2) ∧ (c ∉ TRb → esc c = [c]) := by
 unfold esc
 constructor
 ·intro h
  simp only [List.mem_cons, List.not_mem_nil, or_false] at h
  rcases h with rfl | rfl | rfl | rfl | rfl <;> rfl
 ·intro h
  simp only [List.mem_cons, List.not_mem_nil, or_false, not_or] at h
  rw [if_neg h.2.2.2.2, if_neg h.2.2.2.1, if_neg h.2.2.1, if_neg h.2.1, if_neg h.1]
def cntN (s : Bs) (i : Nat) : Nat := ((TRb.take i).map fun c => s.count c).sum
theorem cntN_succ (s : Bs) {i : Nat} (h : i < 5) : cntN s (i + 1) = cntN s i + s.count (TRb.getD i 0) := by
 unfold cntN
 rw [List.take_succ_eq_append_getElem (by simpa using h), List.map_append, List.sum_append]
 have : TRb.getD i 0 = TRb[i]'(by simpa using h) := by rw [List.getD_eq_getElem?_getD, List.getElem?_eq_getElem (by simpa using h)]; rfl
 rw [this]
 simp
theorem cnt_all (s : Bs) : (es s).length = s.length + cntN s 5 := by
 induction s with
 | nil => rfl
 | cons c s ih =>
  have e : es (c :: s) = esc c ++ es s := by simp [es]
  have h5 : ∀ s : Bs, cntN s 5 = s.count 9 + (s.count 13 + (s.count 10 + (s.count 92 + (s.count 34 + 0)))) := fun s => rfl
  rw [e, List.length_append, ih, h5, h5, List.length_cons]
  by_cases h : c ∈ TRb
  ·rw [(esc_in c).1 h]
   simp only [List.mem_cons, List.not_mem_nil, or_false] at h
   rcases h with rfl | rfl | rfl | rfl | rfl <;> simp only [List.count_cons] <;> simp <;> omega
  ·rw [(esc_in c).2 h]
   simp only [List.mem_cons, List.not_mem_nil, or_false, not_or] at h
   obtain ⟨h1, h2, h3, h4, h5⟩ := h
   simp only [List.count_cons, beq_iff_eq, h1, h2, h3, h4, h5, if_false, List.length_singleton]
   omega
theorem es_same {s : Bs} (h : (es s).length ≤ s.length) : es s = s := by
 induction s with
 | nil => rfl
 | cons c s ih =>
  have e : es (c :: s) = esc c ++ es s := by simp [es]
  rw [e, List.length_append, List.length_cons] at h
  have h1 := esc_len c
  have h2 := es_len s
  by_cases hc : c ∈ TRb
  ·rw [(esc_in c).1 hc] at h
   omega
  ·rw [e, (esc_in c).2 hc, ih (by rw [(esc_in c).2 hc] at h; simp at h; omega)]
   rfl
theorem es_take {s : Bs} {i : Nat} (h : i < s.length) : es (s.take (i + 1)) = es (s.take i) ++ esc (s.getD i 0) := by
 rw [List.take_succ_eq_append_getElem h, es_snoc]
 congr 2
 rw [List.getD_eq_getElem?_getD, List.getElem?_eq_getElem h]
 rfl
theorem es_app (a b : Bs) : es (a ++ b) = es a ++ es b := by simp [es]
theorem es_pre (s : Bs) (i : Nat) : (es (s.take i)).length ≤ (es s).length := by
 have := es_app (s.take i) (s.drop i)
 rw [List.take_append_drop] at this
 rw [this, List.length_append]
 omega
theorem cntN_le (s : Bs) {i : Nat} (h : i ≤ 5) : cntN s i ≤ s.length := by
 have h5 : cntN s i ≤ cntN s 5 := by
  have : i = 0 ∨ i = 1 ∨ i = 2 ∨ i = 3 ∨ i = 4 ∨ i = 5 := by omega
  rcases this with rfl | rfl | rfl | rfl | rfl | rfl <;> simp only [cntN, List.take_zero, List.take_succ_cons, List.take_nil, List.map_cons, List.map_nil, List.sum_cons, List.sum_nil] <;> omega
 have h1 := cnt_all s
 have h2 := es_len s
 omega
def Tbl (w : World) (gb : Nat) : Prop := ∃ (l : List Value) (tv : Value) (fz : Nat × Nat), w.heap[gb]? = some (.cells (l ++ [tv]).toArray 246 fz) ∧ l.length = 256 ∧ StrSl w tv TR ∧
 ∀ c : UInt8, ∃ A n cap, l[c.toNat]? = some (.slice A n cap) ∧ ((c ∉ TRb ∧ A = none) ∨ (c ∈ TRb ∧ n = 2 ∧ ∃ g, A = some ⟨g, 0, none⟩ ∧ 2 ≤ cap ∧ Cells w ⟨g, 0, none⟩ (ints (esc c))))
theorem tr_get {i : Nat} (h : i < 5) : TR.getD i [] = [TRb.getD i 0] := by
 have : i = 0 ∨ i = 1 ∨ i = 2 ∨ i = 3 ∨ i = 4 := by omega
 rcases this with rfl | rfl | rfl | rfl | rfl <;> rfl
theorem trb_mem {i : Nat} (h : i < 5) : TRb.getD i 0 ∈ TRb := by
 have : i = 0 ∨ i = 1 ∨ i = 2 ∨ i = 3 ∨ i = 4 := by omega
 rcases this with rfl | rfl | rfl | rfl | rfl <;> simp
theorem buf_step {A Z news : Bs} {k : Nat} (hk : news.length = k) (hz : k ≤ Z.length) : (ints (A ++ Z)).take A.length ++ (ints news).take (min k Z.length) ++ (ints (A ++ Z)).drop (A.length + min k Z.length) = ints (A ++ news ++ Z.drop k) := by
 rw [Nat.min_eq_left hz, ints_take, ints_take, ints_drop, List.take_left, List.drop_append, List.drop_eq_nil_of_le (by omega), List.nil_append, ← hk, List.take_length, Nat.add_sub_cancel_left]
 simp only [ints_append]
theorem buf_set {A Z : Bs} {c : UInt8} (hz : 1 ≤ Z.length) : (A ++ Z).set A.length c = A ++ [c] ++ Z.drop 1 := by
 obtain ⟨z, Z', rfl⟩ : ∃ z Z', Z = z :: Z' := by
  cases Z with
  | nil => simp at hz
  | cons z Z' => exact ⟨z, Z', rfl⟩
 rw [List.set_append_right _ _ (Nat.le_refl _)]
 simp
theorem zeros_ints (n : Nat) : zeros [.int .u8 0] n = ints (List.replicate n 0) := by
 rw [zeros_one]
 simp [ints]
theorem vs3 {a a' c c' : Int} {b b' : Bool} (h1 : a = a') (h2 : b = b') (h3 : c = c') : [Value.int .i64 a, .bool b, .int .i64 c] = [.int .i64 a', .bool b', .int .i64 c'] := by rw [h1, h2, h3]
theorem vs2 {a a' c c' : Int} (h1 : a = a') (h3 : c = c') : [Value.int .i64 a, .int .i64 c] = [.int .i64 a', .int .i64 c'] := by rw [h1, h3]
attribute [local irreducible] es Tbl
theorem run_count {P : Program} (s : Bs) (c : UInt8) (w : World) : (Extern.BytealgCount.count #[.string (bs s), .int .u8 (c.toNat : Int)]).run P w = .ok (.int .i64 (s.count c : Nat)) w := by
 rw [Lib.run_countString]
 have h : ((c.toNat : Int).toNat.toUInt8) = c := by
  rw [Int.toNat_natCast]
  simp
 rw [h]
 rfl
theorem count_con (s : Bs) (c : UInt8) (w : World) (hs : s.length ≤ 9223372036854775807) : Con Tryz.prog 235 [.string (bs s), .string (bs [c])] w [] fun v _ => v = .int .i64 (s.count c : Nat) := by
 refine con_of_tree mix Tryz.func235 T235_ok (by kernel_rfl) ?_
 unfold T235
 refine j_q (qs_ac) ?_
 refine j_q (qs_lens U9 rfl) ?_
 refine j_q (qs_eql rfl rfl) ?_
 refine j_cond rfl (fun hc0 => ?_) (fun hc0 => ?_)
 ·skip
  cases hc0
 ·skip
  refine j_q (qs_lens U9 rfl) ?_
  refine j_q (qs_eql rfl rfl) ?_
  refine j_cond rfl (fun hc1 => ?_) (fun hc1 => ?_)
  ·skip
   refine j_q (qs_idx U9 rfl rfl (by simp)) ?_
   refine j_q (qs_extern Tryz.func237 (by kernel_rfl) (by kernel_rfl) (by kernel_rfl) (e := Extern.BytealgCount.count) (by kernel_rfl) rfl rfl rfl (v := .int .i64 (s.count c : Nat)) (fun w => run_count s c w)) ?_
   refine j_ret_con (vs := [_]) (fun w' hw' => ⟨rfl, trivial⟩) ?_
   rfl
  ·skip
   cases hc1
theorem brep_con (gb : Nat) (s : Bs) (w : World) (hT : Tbl w gb) (hs : s.length ≤ 1099511627776) : Con Tryz.prog 233 [.pointer (some ⟨gb, 0, none⟩), .string (bs s)] w [] fun v _ => v = .string (bs (es s)) := by
 refine con_of_tree mix Tryz.func233 T233_ok (by kernel_rfl) ?_
 unfold T233
 unfold Tbl at hT
 obtain ⟨l, tv, fz, hgb, hl, hstr, htab⟩ := hT
 obtain ⟨At, capt, rfl, hcapt⟩ := strsl_form hstr
 obtain ⟨ga, off, rfl, hga, hcells⟩ := strsl_addr hstr (by decide)
 have hes0 : es [] = [] := by unfold es; rfl
 have heslen := es_len s
 have hTR : TR.length = 5 := rfl
 refine j_q (qs_ac) ?_
 refine j_q (qs_lens U9 rfl) ?_
 refine j_q (qs_ac) ?_
 refine j_q (qs_nil rfl) ?_
 refine j_q (qs_field U246 rfl sz22 (by decide) rfl) ?_
 refine j_q (qs_loadO (u := .slice (some ⟨ga, off, none⟩) TR.length capt) (rdo_base (o := .cells (l ++ [Value.slice (some ⟨ga, off, none⟩) TR.length capt]).toArray 246 fz) hgb (by simp)) U22 rfl rfl (by show (l ++ [_])[256]? = _; rw [List.getElem?_append_right (by omega), hl]; rfl)) ?_
 refine j_q (qs_lenl U22 rfl) ?_
 refine j_q (qs_mul64 rfl rfl (by omega)) ?_
 refine j_q (qs_lens U9 rfl) ?_
 refine j_q (qs_leq rfl rfl) ?_
 refine j_cond rfl (fun hc0 => ?_) (fun hc0 => ?_)
 ·skip
  refine j_q (qs_nil rfl) ?_
  refine j_q (qs_field U246 rfl sz22 (by decide) rfl) ?_
  refine j_q (qs_loadO (u := .slice (some ⟨ga, off, none⟩) TR.length capt) (rdo_base (o := .cells (l ++ [Value.slice (some ⟨ga, off, none⟩) TR.length capt]).toArray 246 fz) hgb (by simp)) U22 rfl rfl (by show (l ++ [_])[256]? = _; rw [List.getElem?_append_right (by omega), hl]; rfl)) ?_
  refine j_q (qs_lenl U22 rfl) ?_
  refine j_q (qs_mc) ?_
  refine j_loop (fun m vs S' => ∃ i : Nat, vs = [.int .i64 ((s.length + cntN s i : Nat) : Int), .bool (decide (0 < cntN s i)), .int .i64 (i : Int)] ∧ S' = [[]] ∧ i ≤ 5 ∧ m = 5 - i) ⟨_, 0, rfl, rfl, by omega, rfl⟩ ?_
  rintro m vs S' hlen ⟨i, rfl, rfl, hi5, rfl⟩
  refine j_q (qs_lss rfl rfl) ?_
  refine j_cond rfl (fun hc1 => ?_) (fun hc1 => ?_)
  ·skip
   have hi : i < 5 := by
    simp only [bnA] at *
    omega
   have hcs := cntN_succ s hi
   obtain ⟨A, n0, cap, hA, hcase⟩ := htab (TRb.getD i 0)
   have hcle := List.count_le_length (a := TRb.getD i 0) (l := s)
   have hcnl := cntN_le s (i := i) (by omega)
   have hcnl2 := cntN_le s (i := i + 1) (by omega)
   refine j_q (qs_ixl0 U22 sz9 rfl rfl ⟨(by omega), (by omega)⟩) ?_
   refine j_q (qs_loadrs (rd_cells hcells (by simp)) U9 rfl (by simp only [Int.toNat_natCast]; omega)) ?_
   simp only [Int.toNat_natCast]
   rw [tr_get hi]
   refine j_q (qs_call ent235 rfl rfl rfl (fun w' hw' => count_con s (TRb.getD i 0) w' (by omega))) ?_
   refine j_q (qs_neq rfl rfl) ?_
   refine j_cond rfl (fun hc2 => ?_) (fun hc2 => ?_)
   ·skip
    have hc2' : s.count (TRb.getD i 0) ≠ 0 := by
     simp only [bne_iff_ne, ne_eq] at hc2
     omega
    have hin : TRb.getD i 0 ∈ TRb ∧ n0 = 2 ∧ ∃ g, A = some ⟨g, 0, none⟩ ∧ 2 ≤ cap ∧ Cells w ⟨g, 0, none⟩ (ints (esc (TRb.getD i 0))) := by
     rcases hcase with ⟨h, _⟩ | h
     ·exact absurd (trb_mem hi) h
     ·exact h
    obtain ⟨hin, rfl, gc, rfl, hcap, hcc⟩ := hin
    refine j_draw ?_
    refine jq_q (qs_idx U9 rfl rfl (by simp)) ?_
    rw [show ([TRb.getD i 0] : Bs).getD (Int.toNat 0) 0 = TRb.getD i 0 from rfl]
    have hb256 := (TRb.getD i 0).toNat_lt
    refine jq_q (qs_nil rfl) ?_
    refine jq_q (qs_field U246 rfl sz244 (by decide) rfl) ?_
    refine jq_q (qs_ix0 U244 sz46 rfl rfl ⟨(by omega), (by omega)⟩) ?_
    refine jq_q (qs_loadO (u := .slice (some ⟨gc, 0, none⟩) 2 cap) (rdo_base (o := .cells (l ++ [Value.slice (some ⟨ga, off, none⟩) TR.length capt]).toArray 246 fz) hgb (by simp)) U46 rfl (by simp only [Int.toNat_natCast, Nat.zero_add]; rfl) (by rw [List.getElem?_append_left (by rw [hl]; exact UInt8.toNat_lt _)]; exact hA)) ?_
    refine jq_q (qs_lenl U46 rfl) ?_
    refine jq_q (qs_sub64 rfl rfl (by omega)) ?_
    refine jq_q (qs_mul64 rfl rfl (by omega)) ?_
    refine jq_q (qs_add64 rfl rfl (by omega)) ?_
    refine jq_nil ?_
    refine j_q (qs_ac) ?_
    refine j_q (qs_add64 rfl rfl (by omega)) ?_
    refine j_back rfl ?_
    exact ⟨5 - (i + 1), by omega, i + 1, vs3 (by omega) (decide_eq_true (by omega)).symm (by omega), rfl, by omega, rfl⟩
   ·skip
    have hc2' : s.count (TRb.getD i 0) = 0 := by
     simp only [bne_eq_false_iff_eq] at hc2
     omega
    refine j_q (qs_add64 rfl rfl (by omega)) ?_
    refine j_back rfl ?_
    exact ⟨5 - (i + 1), by omega, i + 1, vs3 (by omega) (by rw [hcs, hc2', Nat.add_zero]) (by omega), rfl, by omega, rfl⟩
  ·skip
   obtain rfl : i = 5 := by
    simp only [bnA] at *
    omega
   have hall := cnt_all s
   refine j_q (qs_not rfl) ?_
   refine j_cond rfl (fun hc3 => ?_) (fun hc3 => ?_)
   ·skip
    have hno : cntN s 5 = 0 := by simp at hc3; omega
    have hsame := es_same (s := s) (by omega)
    refine j_ret_con (vs := [_]) (fun w' hw' => ⟨rfl, trivial⟩) ?_
    show Value.string _ = _
    rw [hsame]
   ·skip
    rw [← hall]
    refine j_make U46 sb5 zero5 rfl (by decide) rfl rfl (by omega) (by omega) (fun g33 v33 c33 hv33 hc33 ho33 => ?_)
    subst hv33 hc33
    refine j_q (qs_ac) ?_
    refine j_q (qs_ac) ?_
    refine j_loop (fun m vs S' => ∃ i : Nat, vs = [.int .i64 ((es (s.take i)).length : Nat), .int .i64 (i : Int)] ∧ S' = [[(g33, .cells (ints (es (s.take i) ++ List.replicate ((es s).length - (es (s.take i)).length) 0)).toArray 5 (0, 0))], []] ∧ i ≤ s.length ∧ m = s.length - i) ⟨_, 0, (by simp [hes0]; try exact ⟨rfl, rfl⟩), by simp only [List.take_zero, hes0, List.nil_append, List.length_nil, Nat.sub_zero, zeros_ints], Nat.zero_le _, rfl⟩ ?_
    rintro m vs S' hlen ⟨i, rfl, rfl, hin0, rfl⟩
    refine j_q (qs_lens U9 rfl) ?_
    refine j_q (qs_lss rfl rfl) ?_
    refine j_cond rfl (fun hc4 => ?_) (fun hc4 => ?_)
    ·skip
     have hi : i < s.length := by
      simp only [bnA] at *
      omega
     obtain ⟨A, n0, cap, hA, hcase⟩ := htab (s.getD i 0)
     have hb256 := (s.getD i 0).toNat_lt
     have hst := es_take hi
     have hge := (es_len (s.take i)).1
     rw [List.length_take, Nat.min_eq_left (by omega)] at hge
     have hpre := es_pre s (i + 1)
     have hpre0 := es_pre s i
     have hlen1 : (es (s.take (i + 1))).length = (es (s.take i)).length + (esc (s.getD i 0)).length := by rw [hst, List.length_append]
     refine j_q (qs_idx U9 rfl rfl ⟨(by omega), (by omega)⟩) ?_
     simp only [Int.toNat_natCast]
     refine j_q (qs_nil rfl) ?_
     refine j_q (qs_field U246 rfl sz244 (by decide) rfl) ?_
     refine j_q (qs_ix0 U244 sz46 rfl rfl ⟨(by omega), (by omega)⟩) ?_
     refine j_q (qs_loadO (u := .slice A n0 cap) (rdo_base (o := .cells (l ++ [Value.slice (some ⟨ga, off, none⟩) TR.length capt]).toArray 246 fz) hgb (by simp)) U46 rfl (by simp only [Int.toNat_natCast, Nat.zero_add]; rfl) (by rw [List.getElem?_append_left (by rw [hl]; exact UInt8.toNat_lt _)]; exact hA)) ?_
     refine j_q (qs_slnnil U46 rfl) ?_
     refine j_cond rfl (fun hc5 => ?_) (fun hc5 => ?_)
     ·skip
      have hin : s.getD i 0 ∈ TRb ∧ n0 = 2 ∧ ∃ g, A = some ⟨g, 0, none⟩ ∧ 2 ≤ cap ∧ Cells w ⟨g, 0, none⟩ (ints (esc (s.getD i 0))) := by
       rcases hcase with ⟨_, h⟩ | h
       ·rw [h] at hc5; cases hc5
       ·exact h
      obtain ⟨hin, rfl, gc, rfl, hcap, hcc⟩ := hin
      have he2 := (esc_in (s.getD i 0)).1 hin
      refine j_mix [[]] (Le.of_sub (by repeat first | exact slR _ | exact slN _ | apply slC | apply slD)) ?_
      refine j_mq (qs_cutl (a := (es (s.take i)).length) (z := (es s).length) U46 sz5 rfl ⟨_, rfl⟩ rfl (by omega) (by omega)) ?_
      rw [if_neg (show ¬ (es s).length = (es (s.take i)).length by omega)]
      simp only [Option.map_some, add_off, Nat.zero_add, Nat.mul_one]
      refine j_mq (qs_nil rfl) ?_
      refine j_mq (qs_field U246 rfl sz244 (by decide) rfl) ?_
      refine j_mq (qs_ix0 U244 sz46 rfl rfl ⟨(by omega), (by omega)⟩) ?_
      refine j_mq (qs_loadO (u := .slice (some ⟨gc, 0, none⟩) 2 cap) (rdo_base (o := .cells (l ++ [Value.slice (some ⟨ga, off, none⟩) TR.length capt]).toArray 246 fz) hgb (by simp)) U46 rfl (by simp only [Int.toNat_natCast, Nat.zero_add]; rfl) (by rw [List.getElem?_append_left (by rw [hl]; exact UInt8.toNat_lt _)]; exact hA)) ?_
      refine j_copy (off := (es (s.take i)).length) (dn := (es s).length - (es (s.take i)).length) (l := ints (es (s.take i) ++ List.replicate ((es s).length - (es (s.take i)).length) 0)) (news := ints (esc (s.getD i 0))) (m := 2) 0 U46 sz5 rfl (.inl ⟨_, _, rfl, rd_cells hcc (by simp), by rw [ints_length, he2]⟩) rfl ints_one (by rw [ints_length]; simp only [List.length_append, List.length_replicate]; omega) (fun j h1 h2 => by simp) ?_
      have hbs := buf_step (A := es (s.take i)) (Z := List.replicate ((es s).length - (es (s.take i)).length) 0) he2 (by simp only [List.length_replicate]; omega)
      rw [List.length_replicate] at hbs
      rw [hbs, ← hst, List.drop_replicate, show (es s).length - (es (s.take i)).length - 2 = (es s).length - (es (s.take (i + 1))).length by omega]
      clear hbs
      refine j_mD0 (Le.of_sub (by repeat first | exact slR _ | exact slN _ | apply slC | apply slD)) ?_
      refine j_mq (qs_add64 rfl rfl (by omega)) ?_
      refine j_mend ?_
      refine j_q (qs_add64 rfl rfl (by omega)) ?_
      refine j_back rfl ?_
      exact ⟨s.length - (i + 1), by omega, i + 1, vs2 (by omega) (by omega), rfl, by omega, rfl⟩
     ·skip
      have hin : s.getD i 0 ∉ TRb := by
       rcases hcase with ⟨h, _⟩ | ⟨_, _, g, h, _⟩
       ·exact h
       ·rw [h] at hc5; cases hc5
      have he1 := (esc_in (s.getD i 0)).2 hin
      have he1l : (esc (s.getD i 0)).length = 1 := by rw [he1]; rfl
      refine j_q (qs_ixl0 U46 sz5 rfl rfl ⟨(by omega), (by omega)⟩) ?_
      rw [add_off, Nat.zero_add, Int.toNat_natCast]
      refine j_storei (g := g33) (i := (es (s.take i)).length) (l := es (s.take i) ++ List.replicate ((es s).length - (es (s.take i)).length) 0) 0 sz5 rfl rfl rfl (by simp only [List.length_append, List.length_replicate]; omega) ?_
      rw [buf_set (by rw [List.length_replicate]; omega), ← he1, ← hst, List.drop_replicate, show (es s).length - (es (s.take i)).length - 1 = (es s).length - (es (s.take (i + 1))).length by omega]
      refine j_q (qs_add64 rfl rfl (by omega)) ?_
      refine j_q (qs_add64 rfl rfl (by omega)) ?_
      refine j_back rfl ?_
      exact ⟨s.length - (i + 1), by omega, i + 1, vs2 (by omega) (by omega), rfl, by omega, rfl⟩
    ·skip
     obtain rfl : i = s.length := by
      simp only [bnA] at *
      omega
     rw [List.take_length, Nat.sub_self, List.replicate_zero, List.append_nil]
     have HO56 : Sx.Own 5 1 (ints (es s)) (.slice (some ⟨g33, 0, none⟩) (es s).length (es s).length) [(g33, .cells (ints (es s)).toArray 5 (0, 0))] := .inr ⟨g33, _, _, [], (0, 0), rfl, by rw [List.append_nil], by rw [ints_length, Nat.mul_one], by rw [List.append_nil, ints_length, Nat.mul_one], Nat.le_refl _, fun j hj h => by simp at h⟩
     refine j_q (qs_stro 0 U46 U5 U9 HO56 rfl) ?_
     refine j_ret_con (vs := [_]) (fun w' hw' => ⟨rfl, trivial⟩) ?_
     rfl
 ·skip
  refine j_q (qs_ac) ?_
  refine j_loop (fun m vs S' => ∃ i : Nat, vs = [.int .i64 ((s.length + ((es (s.take i)).length - i) : Nat) : Int), .bool (decide (i < (es (s.take i)).length)), .int .i64 (i : Int)] ∧ S' = [[]] ∧ i ≤ s.length ∧ m = s.length - i) ⟨_, 0, (by simp [hes0]; try exact ⟨rfl, rfl, rfl⟩), rfl, Nat.zero_le _, rfl⟩ ?_
  rintro m vs S' hlen ⟨i, rfl, rfl, hin0, rfl⟩
  refine j_q (qs_lens U9 rfl) ?_
  refine j_q (qs_lss rfl rfl) ?_
  refine j_cond rfl (fun hc6 => ?_) (fun hc6 => ?_)
  ·skip
   have hi : i < s.length := by
    simp only [bnA] at *
    omega
   obtain ⟨A, n0, cap, hA, hcase⟩ := htab (s.getD i 0)
   have hb256 := (s.getD i 0).toNat_lt
   have hst := es_take hi
   have hge := (es_len (s.take i)).1
   rw [List.length_take, Nat.min_eq_left (by omega)] at hge
   have hpre := es_pre s (i + 1)
   have hpre0 := es_pre s i
   have hlen1 : (es (s.take (i + 1))).length = (es (s.take i)).length + (esc (s.getD i 0)).length := by rw [hst, List.length_append]
   refine j_q (qs_idx U9 rfl rfl ⟨(by omega), (by omega)⟩) ?_
   simp only [Int.toNat_natCast]
   refine j_q (qs_nil rfl) ?_
   refine j_q (qs_field U246 rfl sz244 (by decide) rfl) ?_
   refine j_q (qs_ix0 U244 sz46 rfl rfl ⟨(by omega), (by omega)⟩) ?_
   refine j_q (qs_loadO (u := .slice A n0 cap) (rdo_base (o := .cells (l ++ [Value.slice (some ⟨ga, off, none⟩) TR.length capt]).toArray 246 fz) hgb (by simp)) U46 rfl (by simp only [Int.toNat_natCast, Nat.zero_add]; rfl) (by rw [List.getElem?_append_left (by rw [hl]; exact UInt8.toNat_lt _)]; exact hA)) ?_
   refine j_q (qs_slnnil U46 rfl) ?_
   refine j_cond rfl (fun hc7 => ?_) (fun hc7 => ?_)
   ·skip
    have hin : s.getD i 0 ∈ TRb ∧ n0 = 2 ∧ ∃ g, A = some ⟨g, 0, none⟩ ∧ 2 ≤ cap ∧ Cells w ⟨g, 0, none⟩ (ints (esc (s.getD i 0))) := by
     rcases hcase with ⟨_, h⟩ | h
     ·rw [h] at hc7; cases hc7
     ·exact h
    obtain ⟨hin, rfl, gc, rfl, hcap, hcc⟩ := hin
    have he2 := (esc_in (s.getD i 0)).1 hin
    refine j_q (qs_nil rfl) ?_
    refine j_q (qs_field U246 rfl sz244 (by decide) rfl) ?_
    refine j_q (qs_ix0 U244 sz46 rfl rfl ⟨(by omega), (by omega)⟩) ?_
    refine j_q (qs_loadO (u := .slice (some ⟨gc, 0, none⟩) 2 cap) (rdo_base (o := .cells (l ++ [Value.slice (some ⟨ga, off, none⟩) TR.length capt]).toArray 246 fz) hgb (by simp)) U46 rfl (by simp only [Int.toNat_natCast, Nat.zero_add]; rfl) (by rw [List.getElem?_append_left (by rw [hl]; exact UInt8.toNat_lt _)]; exact hA)) ?_
    refine j_q (qs_lenl U46 rfl) ?_
    refine j_q (qs_sub64 rfl rfl (by omega)) ?_
    refine j_q (qs_add64 rfl rfl (by omega)) ?_
    refine j_q (qs_ac) ?_
    refine j_q (qs_add64 rfl rfl (by omega)) ?_
    refine j_back rfl ?_
    exact ⟨s.length - (i + 1), by omega, i + 1, vs3 (by omega) (decide_eq_true (by omega)).symm (by omega), rfl, by omega, rfl⟩
   ·skip
    have hin : s.getD i 0 ∉ TRb := by
     rcases hcase with ⟨h, _⟩ | ⟨_, _, g, h, _⟩
     ·exact h
     ·rw [h] at hc7; cases hc7
    have he1 := (esc_in (s.getD i 0)).2 hin
    have he1l : (esc (s.getD i 0)).length = 1 := by rw [he1]; rfl
    refine j_q (qs_add64 rfl rfl (by omega)) ?_
    refine j_back rfl ?_
    exact ⟨s.length - (i + 1), by omega, i + 1, vs3 (by omega) (by rw [hlen1, he1l]; simp only [Nat.add_lt_add_iff_right]) (by omega), rfl, by omega, rfl⟩
  ·skip
   obtain rfl : i = s.length := by
    simp only [bnA] at *
    omega
   rw [List.take_length]
   have hsl : s.length + ((es s).length - s.length) = (es s).length := by omega
   rw [hsl]
   refine j_q (qs_not rfl) ?_
   refine j_cond rfl (fun hc8 => ?_) (fun hc8 => ?_)
   ·skip
    have hsame := es_same (s := s) (by simp at hc8; omega)
    refine j_ret_con (vs := [_]) (fun w' hw' => ⟨rfl, trivial⟩) ?_
    show Value.string _ = _
    rw [hsame]
   ·skip
    refine j_make U46 sb5 zero5 rfl (by decide) rfl rfl (by omega) (by omega) (fun g77 v77 c77 hv77 hc77 ho77 => ?_)
    subst hv77 hc77
    refine j_q (qs_ac) ?_
    refine j_q (qs_ac) ?_
    refine j_loop (fun m vs S' => ∃ i : Nat, vs = [.int .i64 ((es (s.take i)).length : Nat), .int .i64 (i : Int)] ∧ S' = [[(g77, .cells (ints (es (s.take i) ++ List.replicate ((es s).length - (es (s.take i)).length) 0)).toArray 5 (0, 0))], []] ∧ i ≤ s.length ∧ m = s.length - i) ⟨_, 0, (by simp [hes0]; try exact ⟨rfl, rfl⟩), by simp only [List.take_zero, hes0, List.nil_append, List.length_nil, Nat.sub_zero, zeros_ints], Nat.zero_le _, rfl⟩ ?_
    rintro m vs S' hlen ⟨i, rfl, rfl, hin0, rfl⟩
    refine j_q (qs_lens U9 rfl) ?_
    refine j_q (qs_lss rfl rfl) ?_
    refine j_cond rfl (fun hc9 => ?_) (fun hc9 => ?_)
    ·skip
     have hi : i < s.length := by
      simp only [bnA] at *
      omega
     obtain ⟨A, n0, cap, hA, hcase⟩ := htab (s.getD i 0)
     have hb256 := (s.getD i 0).toNat_lt
     have hst := es_take hi
     have hge := (es_len (s.take i)).1
     rw [List.length_take, Nat.min_eq_left (by omega)] at hge
     have hpre := es_pre s (i + 1)
     have hpre0 := es_pre s i
     have hlen1 : (es (s.take (i + 1))).length = (es (s.take i)).length + (esc (s.getD i 0)).length := by rw [hst, List.length_append]
     refine j_q (qs_idx U9 rfl rfl ⟨(by omega), (by omega)⟩) ?_
     simp only [Int.toNat_natCast]
     refine j_q (qs_nil rfl) ?_
     refine j_q (qs_field U246 rfl sz244 (by decide) rfl) ?_
     refine j_q (qs_ix0 U244 sz46 rfl rfl ⟨(by omega), (by omega)⟩) ?_
     refine j_q (qs_loadO (u := .slice A n0 cap) (rdo_base (o := .cells (l ++ [Value.slice (some ⟨ga, off, none⟩) TR.length capt]).toArray 246 fz) hgb (by simp)) U46 rfl (by simp only [Int.toNat_natCast, Nat.zero_add]; rfl) (by rw [List.getElem?_append_left (by rw [hl]; exact UInt8.toNat_lt _)]; exact hA)) ?_
     refine j_q (qs_slnnil U46 rfl) ?_
     refine j_cond rfl (fun hc10 => ?_) (fun hc10 => ?_)
     ·skip
      have hin : s.getD i 0 ∈ TRb ∧ n0 = 2 ∧ ∃ g, A = some ⟨g, 0, none⟩ ∧ 2 ≤ cap ∧ Cells w ⟨g, 0, none⟩ (ints (esc (s.getD i 0))) := by
       rcases hcase with ⟨_, h⟩ | h
       ·rw [h] at hc10; cases hc10
       ·exact h
      obtain ⟨hin, rfl, gc, rfl, hcap, hcc⟩ := hin
      have he2 := (esc_in (s.getD i 0)).1 hin
      refine j_mix [[]] (Le.of_sub (by repeat first | exact slR _ | exact slN _ | apply slC | apply slD)) ?_
      refine j_mq (qs_cutl (a := (es (s.take i)).length) (z := (es s).length) U46 sz5 rfl ⟨_, rfl⟩ rfl (by omega) (by omega)) ?_
      rw [if_neg (show ¬ (es s).length = (es (s.take i)).length by omega)]
      simp only [Option.map_some, add_off, Nat.zero_add, Nat.mul_one]
      refine j_mq (qs_nil rfl) ?_
      refine j_mq (qs_field U246 rfl sz244 (by decide) rfl) ?_
      refine j_mq (qs_ix0 U244 sz46 rfl rfl ⟨(by omega), (by omega)⟩) ?_
      refine j_mq (qs_loadO (u := .slice (some ⟨gc, 0, none⟩) 2 cap) (rdo_base (o := .cells (l ++ [Value.slice (some ⟨ga, off, none⟩) TR.length capt]).toArray 246 fz) hgb (by simp)) U46 rfl (by simp only [Int.toNat_natCast, Nat.zero_add]; rfl) (by rw [List.getElem?_append_left (by rw [hl]; exact UInt8.toNat_lt _)]; exact hA)) ?_
      refine j_copy (off := (es (s.take i)).length) (dn := (es s).length - (es (s.take i)).length) (l := ints (es (s.take i) ++ List.replicate ((es s).length - (es (s.take i)).length) 0)) (news := ints (esc (s.getD i 0))) (m := 2) 0 U46 sz5 rfl (.inl ⟨_, _, rfl, rd_cells hcc (by simp), by rw [ints_length, he2]⟩) rfl ints_one (by rw [ints_length]; simp only [List.length_append, List.length_replicate]; omega) (fun j h1 h2 => by simp) ?_
      have hbs := buf_step (A := es (s.take i)) (Z := List.replicate ((es s).length - (es (s.take i)).length) 0) he2 (by simp only [List.length_replicate]; omega)
      rw [List.length_replicate] at hbs
      rw [hbs, ← hst, List.drop_replicate, show (es s).length - (es (s.take i)).length - 2 = (es s).length - (es (s.take (i + 1))).length by omega]
      clear hbs
      refine j_mD0 (Le.of_sub (by repeat first | exact slR _ | exact slN _ | apply slC | apply slD)) ?_
      refine j_mq (qs_add64 rfl rfl (by omega)) ?_
      refine j_mend ?_
      refine j_q (qs_add64 rfl rfl (by omega)) ?_
      refine j_back rfl ?_
      exact ⟨s.length - (i + 1), by omega, i + 1, vs2 (by omega) (by omega), rfl, by omega, rfl⟩
     ·skip
      have hin : s.getD i 0 ∉ TRb := by
       rcases hcase with ⟨h, _⟩ | ⟨_, _, g, h, _⟩
       ·exact h
       ·rw [h] at hc10; cases hc10
      have he1 := (esc_in (s.getD i 0)).2 hin
      have he1l : (esc (s.getD i 0)).length = 1 := by rw [he1]; rfl
      refine j_q (qs_ixl0 U46 sz5 rfl rfl ⟨(by omega), (by omega)⟩) ?_
      rw [add_off, Nat.zero_add, Int.toNat_natCast]
      refine j_storei (g := g77) (i := (es (s.take i)).length) (l := es (s.take i) ++ List.replicate ((es s).length - (es (s.take i)).length) 0) 0 sz5 rfl rfl rfl (by simp only [List.length_append, List.length_replicate]; omega) ?_
      rw [buf_set (by rw [List.length_replicate]; omega), ← he1, ← hst, List.drop_replicate, show (es s).length - (es (s.take i)).length - 1 = (es s).length - (es (s.take (i + 1))).length by omega]
      refine j_q (qs_add64 rfl rfl (by omega)) ?_
      refine j_q (qs_add64 rfl rfl (by omega)) ?_
      refine j_back rfl ?_
      exact ⟨s.length - (i + 1), by omega, i + 1, vs2 (by omega) (by omega), rfl, by omega, rfl⟩
    ·skip
     obtain rfl : i = s.length := by
      simp only [bnA] at *
      omega
     rw [List.take_length, Nat.sub_self, List.replicate_zero, List.append_nil]
     have HO100 : Sx.Own 5 1 (ints (es s)) (.slice (some ⟨g77, 0, none⟩) (es s).length (es s).length) [(g77, .cells (ints (es s)).toArray 5 (0, 0))] := .inr ⟨g77, _, _, [], (0, 0), rfl, by rw [List.append_nil], by rw [ints_length, Nat.mul_one], by rw [List.append_nil, ints_length, Nat.mul_one], Nat.le_refl _, fun j hj h => by simp at h⟩
     refine j_q (qs_stro 0 U46 U5 U9 HO100 rfl) ?_
     refine j_ret_con (vs := [_]) (fun w' hw' => ⟨rfl, trivial⟩) ?_
     rfl
end Go.Proofs.YtfeabbeebkkhaaaGreat
/-! Dv2 -/
namespace Go.Proofs.YtfeabbeebkkhaaaGreat
open Go Go.Sx
set_option maxRecDepth 100000
set_option maxHeartbeats 4000000
set_option linter.unusedVariables false
set_option linter.unusedSimpArgs false
attribute [local irreducible] J JQ QS Con W opW
abbrev ON : List Bs := [[34], [92, 34], [92], [92, 92], [10], [92, 110], [13], [92, 114], [9], [92, 116]]
theorem on_even {k : Nat} (h : k < 5) : ON.getD (2 * k) [] = [TRb.getD (4 - k) 0] := by
 have : k = 0 ∨ k = 1 ∨ k = 2 ∨ k = 3 ∨ k = 4 := by omega
 rcases this with rfl | rfl | rfl | rfl | rfl <;> rfl
theorem on_odd {k : Nat} (h : k < 5) : ON.getD (2 * k + 1) [] = esc (TRb.getD (4 - k) 0) := by
 have : k = 0 ∨ k = 1 ∨ k = 2 ∨ k = 3 ∨ k = 4 := by omega
 rcases this with rfl | rfl | rfl | rfl | rfl <;> rfl
theorem tr_step {k : Nat} (h : k < 5) : TRb.take (5 - k) = TRb.take (4 - k) ++ [TRb.getD (4 - k) 0] ∧ TR.take (5 - k) = TR.take (4 - k) ++ [[TRb.getD (4 - k) 0]] ∧ TRb.getD (4 - k) 0 ∉ TRb.take (4 - k) ∧ TRb.getD (4 - k) 0 ∈ TRb := by
 have : k = 0 ∨ k = 1 ∨ k = 2 ∨ k = 3 ∨ k = 4 := by omega
 rcases this with rfl | rfl | rfl | rfl | rfl <;> exact ⟨rfl, rfl, by decide, by decide⟩
theorem zero246b : zeroL Tryz.prog 246 = some (List.replicate 257 (.slice none 0 0)) := by kernel_rfl
theorem strsl_ownw {w : World} {e : TypeId} {xs : List Bs} {v : Value} {c : SH} (ho : Sx.Own e 1 (strs xs) v c) (h : ∀ p ∈ c, w.heap[p.1]? = some p.2) : StrSl w v xs := by
 rcases ho with ⟨rfl, h1, rfl⟩ | ⟨g, n, cap, rest, fz, rfl, rfl, h1, h2, h3, h4⟩
 ·exact .inl ⟨rfl, strs_nil h1⟩
 ·rw [strs_length, Nat.mul_one] at h1
  subst h1
  have hg := h (g, _) (List.mem_singleton.2 rfl)
  exact .inr ⟨g, 0, cap, rfl, lt_of_get hg, h3, fun j u hu => by
   rw [add_off, Nat.zero_add, cell_of hg, List.getElem?_append_left (List.getElem?_eq_some_iff.1 hu).1]
   exact hu⟩
theorem cells_ownw {w : World} {e : TypeId} {xs : List Value} {g n cap : Nat} {c : SH} (ho : Sx.Own e 1 xs (.slice (some ⟨g, 0, none⟩) n cap) c) (h : ∀ p ∈ c, w.heap[p.1]? = some p.2) : Cells w ⟨g, 0, none⟩ xs := by
 rcases ho with ⟨h1, _⟩ | ⟨g, n, cap, rest, fz, h1, rfl, h2, h3, h4, h5⟩
 ·cases h1
 ·cases h1
  have hg := h (_, _) (List.mem_singleton.2 rfl)
  exact fun j u hu => by
   rw [add_off, Nat.zero_add, cell_of hg, List.getElem?_append_left (List.getElem?_eq_some_iff.1 hu).1]
   exact hu
def Half (l : List Value) (ds : Bs) (F : SH) : Prop := l.length = 256 ∧ ∀ c : UInt8, (c ∉ ds ∧ l[c.toNat]? = some (.slice none 0 0)) ∨ (c ∈ ds ∧ ∃ g cap cc, l[c.toNat]? = some (.slice (some ⟨g, 0, none⟩) 2 cap) ∧ Sx.Own 5 1 (ints (esc c)) (.slice (some ⟨g, 0, none⟩) 2 cap) cc ∧ ∀ p ∈ cc, p ∈ F)
theorem half_nil : Half (List.replicate 256 (.slice none 0 0)) [] [] := ⟨by simp, fun c => .inl ⟨by simp, by
 have := c.toNat_lt
 rw [List.getElem?_replicate, if_pos (by omega)]⟩⟩
theorem half_step {l : List Value} {ds : Bs} {F cc : SH} {o : UInt8} {g cap : Nat} (h : Half l ds F) (ho : Sx.Own 5 1 (ints (esc o)) (.slice (some ⟨g, 0, none⟩) 2 cap) cc) : Half (l.set o.toNat (.slice (some ⟨g, 0, none⟩) 2 cap)) (ds ++ [o]) (cc ++ F) := by
 obtain ⟨hl, ht⟩ := h
 refine ⟨by rw [List.length_set]; exact hl, fun c => ?_⟩
 by_cases hc : c = o
 ·subst hc
  refine .inr ⟨by simp, g, cap, cc, ?_, ho, fun p hp => List.mem_append_left _ hp⟩
  rw [List.getElem?_set_self]
  have := c.toNat_lt
  omega
 ·have hne : o.toNat ≠ c.toNat := fun e => hc (UInt8.toNat_inj.1 e.symm)
  rw [List.getElem?_set_ne hne]
  rcases ht c with ⟨h1, h2⟩ | ⟨h1, g2, cap2, cc2, h2, h3, h4⟩
  ·exact .inl ⟨by simp [h1, hc], h2⟩
  ·exact .inr ⟨by simp [h1], g2, cap2, cc2, h2, h3, fun p hp => List.mem_append_right _ (h4 p hp)⟩
theorem half_tbl {l : List Value} {tv : Value} {ct F : SH} {gb : Nat} {w : World} (h : Half l TRb F) (ho : Sx.Own 9 1 (strs TR) tv ct) (hw : ∀ p ∈ (gb, Obj.cells (l ++ [tv]).toArray 246 (0, 0)) :: (ct ++ F), w.heap[p.1]? = some p.2) : Tbl w gb := by
 unfold Tbl
 refine ⟨l, tv, (0, 0), hw (gb, _) (by simp), h.1, strsl_ownw ho (fun p hp => hw p (by simp [hp])), fun c => ?_⟩
 rcases h.2 c with ⟨h1, h2⟩ | ⟨h1, g2, cap2, cc2, h2, h3, h4⟩
 ·exact ⟨none, 0, 0, h2, .inl ⟨h1, rfl⟩⟩
 ·exact ⟨_, 2, cap2, h2, .inr ⟨h1, rfl, g2, rfl, own_cap h3, cells_ownw h3 (fun p hp => hw p (by simp [h4 p hp]))⟩⟩
theorem vsb {a a' : Int} {b b' : Bool} (h2 : b = b') (h1 : a = a') : [Value.bool b, .int .i64 a] = [.bool b', .int .i64 a'] := by rw [h1, h2]
attribute [local irreducible] es Tbl Half
theorem build_con (gr : Nat) (a b c iv ov : Value) (w : World) (hgr : w.heap[gr]? = some (.cells [a, b, c, iv, ov].toArray 210 (0, 0))) (ho : StrSl w ov ON) : Con Tryz.prog 167 [.pointer (some ⟨gr, 0, none⟩)] w [] fun v S' => ∃ gb F, v = .iface 247 (.pointer (some ⟨gb, 0, none⟩)) ∧ S' = [F] ∧ ∀ w' : World, (∀ p ∈ F, w'.heap[p.1]? = some p.2) → Tbl w' gb := by
 refine con_of_tree mix Tryz.func167 T167_ok (by kernel_rfl) ?_
 unfold T167
 obtain ⟨A, cap, rfl, hcap⟩ := strsl_form ho
 obtain ⟨ga, off, rfl, hga, hcells⟩ := strsl_addr ho (by decide)
 have hON : ON.length = 10 := rfl
 refine j_q (qs_ac) ?_
 refine j_q (qs_nil rfl) ?_
 refine j_q (qs_field U210 rfl sz22 (by decide) rfl) ?_
 refine j_q (qs_loadO (u := .slice (some ⟨ga, off, none⟩) ON.length cap) (rdo_base (o := .cells [a, b, c, iv, .slice (some ⟨ga, off, none⟩) ON.length cap].toArray 210 (0, 0)) hgr (by simp)) U22 rfl rfl rfl) ?_
 refine j_q (qs_lenl U22 rfl) ?_
 refine j_q (qs_eql rfl rfl) ?_
 refine j_gf rfl (by decide) ?_
 refine j_gf rfl (by decide) ?_
 refine j_gf rfl (by decide) ?_
 refine j_gf rfl (by decide) ?_
 refine j_gf rfl (by decide) ?_
 refine j_q (qs_and (b0 := false) (b1 := false) rfl rfl) ?_
 refine j_cond rfl (fun hc0 => ?_) (fun hc0 => ?_)
 ·skip
  cases hc0
 ·skip
  refine j_q (qs_ac) ?_
  refine j_q (qs_ac) ?_
  refine j_loop (fun m vs S' => ∃ k : Nat, vs = [.bool (decide (k = 0)), .int .i64 ((2 * k : Nat) : Int)] ∧ S' = [[]] ∧ k ≤ 5 ∧ m = 5 - k) ⟨_, 0, rfl, rfl, by omega, rfl⟩ ?_
  rintro m vs S' hlen ⟨k, rfl, rfl, hk5, rfl⟩
  refine j_q (qs_lenl U22 rfl) ?_
  refine j_q (qs_lss rfl rfl) ?_
  refine j_cond rfl (fun hc1 => ?_) (fun hc1 => ?_)
  ·skip
   have hk : k < 5 := by
    simp only [bnA] at *
    omega
   refine j_q (qs_ixl0 U22 sz9 rfl rfl ⟨(by omega), (by omega)⟩) ?_
   refine j_q (qs_loadrs (rd_cells hcells (by simp)) U9 rfl (by first | omega | (simp only [Int.toNat_natCast]; omega))) ?_
   rw [show (((2 * k : Nat) : Int)).toNat = 2 * k by omega, on_even hk]
   refine j_q (qs_lens U9 rfl) ?_
   refine j_q (qs_neq rfl rfl) ?_
   refine j_cond rfl (fun hc2 => ?_) (fun hc2 => ?_)
   ·skip
    simp at hc2
   ·skip
    refine j_q (qs_add64 rfl rfl (by omega)) ?_
    refine j_q (qs_ixl0 U22 sz9 rfl rfl ⟨(by omega), (by omega)⟩) ?_
    refine j_q (qs_loadrs (rd_cells hcells (by simp)) U9 rfl (by first | omega | (simp only [Int.toNat_natCast]; omega))) ?_
    rw [show (((2 * k : Nat) : Int) + 1).toNat = 2 * k + 1 by omega, on_odd hk]
    refine j_q (qs_lens U9 rfl) ?_
    refine j_q (qs_neq rfl rfl) ?_
    refine j_cond rfl (fun hc3 => ?_) (fun hc3 => ?_)
    ·skip
     refine j_q (qs_ac) ?_
     refine j_q (qs_add64 rfl rfl (by omega)) ?_
     refine j_back rfl ?_
     exact ⟨5 - (k + 1), by omega, k + 1, vsb (by simp) (by omega), rfl, by omega, rfl⟩
    ·skip
     rw [(esc_in _).1 (trb_mem (by omega))] at hc3; exact absurd hc3 (by decide)
  ·skip
   obtain rfl : k = 5 := by
    simp only [bnA] at *
    omega
   refine j_cond rfl (fun hc4 => ?_) (fun hc4 => ?_)
   ·skip
    exact absurd hc4 (by decide)
   ·skip
    refine j_q (qs_lenl U22 rfl) ?_
    refine j_q (qs_quo64 rfl rfl (by omega) (by omega) (by omega)) ?_
    refine j_make U22 sb9 zero9 rfl (by decide) rfl rfl (by simp only [bnA] at *; omega) (by simp only [bnA] at *; omega) (fun g61 v61 c61 hv61 hc61 ho61 => ?_)
    subst hv61 hc61
    rw [show zeros [Value.string (bs [])] 0 = ([] : List Value) from rfl] at ho61
    refine j_q (qs_build (places := [(0, 256), (256, 1)]) (offs := [(256, [.slice (some ⟨g61, 0, none⟩) 0 5])]) U246 zero246b (by kernel_rfl) rfl (by rintro (_ | j) p q hp hq <;> first | (simp at hp hq; subst hp hq; exact ⟨rfl, rfl, by simp⟩) | (simp at hp))) ?_
    rw [show ([(256, [Value.slice (some ⟨g61, 0, none⟩) 0 5])] : List (Nat × List Value)).foldl (fun l q => putAt l q.1 q.2) (List.replicate 257 (.slice none 0 0)) = List.replicate 256 (.slice none 0 0) ++ [.slice (some ⟨g61, 0, none⟩) 0 5] by simp [putAt, List.take_replicate, List.drop_replicate]]
    refine j_alloc zero246b (fun g63 hg63 hs63 => ?_)
    refine j_storew 0 sz246 rfl rfl (by simp) (fun u hu => by simp at hu; rcases hu with rfl | rfl <;> rfl) rfl (by simp) ?_
    refine j_q (qs_lenl U22 rfl) ?_
    refine j_q (qs_sub64 rfl rfl (by omega)) ?_
    refine j_loop (fun m vs S' => ∃ (k : Nat) (l : List Value) (tv : Value) (ct F : SH), vs = [.int .i64 (((2 * k : Nat) : Int) - 2)] ∧ S' = [[(g63, .cells (l ++ [tv]).toArray 246 (0, 0))], ct, F] ∧ Half l (TRb.take (5 - k)) F ∧ Sx.Own 9 1 (strs (TR.take (5 - k))) tv ct ∧ k ≤ 5 ∧ m = k) ⟨_, 5, List.replicate 256 (.slice none 0 0), .slice (some ⟨g61, 0, none⟩) 0 5, _, [], rfl, rfl, (by rw [show TRb.take (5 - 5) = [] from rfl]; exact half_nil), (by rw [show strs (TR.take (5 - 5)) = [] from rfl]; exact ho61), Nat.le_refl _, rfl⟩ ?_
    rintro m vs S' hlen ⟨k0, l, tv, ct, F, rfl, rfl, hhalf, hot, hk5, hmk⟩
    refine j_q (qs_geq rfl rfl) ?_
    refine j_cond rfl (fun hc7 => ?_) (fun hc7 => ?_)
    ·skip
     obtain ⟨k, rfl⟩ : ∃ j, k0 = j + 1 := ⟨k0 - 1, by simp only [bnA] at *; omega⟩
     have hk : k < 5 := by omega
     rw [show (((2 * (k + 1) : Nat) : Int) - 2) = ((2 * k : Nat) : Int) by omega]
     rw [show 5 - (k + 1) = 4 - k by omega] at hhalf hot
     obtain ⟨hst1, hst2, hst3, hst4⟩ := tr_step hk
     have hl256 : l.length = 256 := by unfold Half at hhalf; exact hhalf.1
     have hnil : l[(TRb.getD (4 - k) 0).toNat]? = some (.slice none 0 0) := by
      unfold Half at hhalf
      rcases hhalf.2 (TRb.getD (4 - k) 0) with h | h
      ·exact h.2
      ·exact absurd h.1 hst3
     have he2 : (esc (TRb.getD (4 - k) 0)).length = 2 := (esc_in _).1 hst4
     refine j_q (qs_ixl0 U22 sz9 rfl rfl ⟨(by omega), (by omega)⟩) ?_
     refine j_q (qs_loadrs (rd_cells hcells (by simp)) U9 rfl (by first | omega | (simp only [Int.toNat_natCast]; omega))) ?_
     rw [show (((2 * k : Nat) : Int)).toNat = 2 * k by omega, on_even hk]
     obtain ⟨o, hoo⟩ : ∃ o, o = TRb.getD (4 - k) 0 := ⟨_, rfl⟩
     rw [← hoo] at hst1 hst2 hst3 hst4 hnil he2 ⊢
     have hb256 := o.toNat_lt
     refine j_q (qs_idx U9 rfl rfl (by simp)) ?_
     rw [show ([o] : Bs).getD (Int.toNat 0) 0 = o from rfl]
     refine j_q (qs_add64 rfl rfl (by omega)) ?_
     refine j_q (qs_ixl0 U22 sz9 rfl rfl ⟨(by omega), (by omega)⟩) ?_
     refine j_q (qs_loadrs (rd_cells hcells (by simp)) U9 rfl (by first | omega | (simp only [Int.toNat_natCast]; omega))) ?_
     rw [show (((2 * k : Nat) : Int) + 1).toNat = 2 * k + 1 by omega, on_odd hk, ← hoo]
     refine j_q (qs_field U246 rfl sz244 (by decide) rfl) ?_
     refine j_q (qs_ix0 U244 sz46 rfl rfl ⟨(by omega), (by omega)⟩) ?_
     refine j_q (qs_load (l := l ++ [tv]) (i := o.toNat) (v := .slice none 0 0) 0 U46 rfl (by simp only [ev]; first | rfl | (congr 3; simp) | (simp only [Int.toNat_natCast, Nat.zero_add])) rfl (by rw [List.getElem?_append_left (by omega)]; exact hnil)) ?_
     refine j_q (qs_slnil U46 rfl) ?_
     refine j_cond rfl (fun hc8 => ?_) (fun hc8 => ?_)
     ·skip
      refine j_q (qs_field U246 rfl sz22 (by decide) rfl) ?_
      refine j_q (qs_load (l := l ++ [tv]) (i := 256) (v := tv) 0 U22 rfl rfl rfl (by rw [List.getElem?_append_right (by omega), hl256]; rfl)) ?_
      refine j_lit (vs := [.int .u8 _]) U46 sz5 zero5 rfl (by simp [oneV]) ⟨rfl, by decide⟩ (fun g80 v80 c80 hv80 hc80 ho80 => ?_)
      subst hv80 hc80
      refine j_q (qs_stro (l := [o]) 0 U46 U5 U9 (by exact ho80) rfl) ?_
      refine j_lit (vs := [.string (bs _)]) U22 sz9 zero9 rfl (by simp [oneV]) ⟨rfl, by decide⟩ (fun g82 v82 c82 hv82 hc82 ho82 => ?_)
      subst hv82 hc82
      refine j_append 3 U22 U22 (.inr ⟨_, rfl⟩) sb9 zero9 rfl hot rfl (.inl ⟨_, _, rfl, rd_own (off := 0) (n := 1) 0 rfl rfl, rfl⟩) (by simp [oneV]) ⟨(by rw [strs_length, List.length_take]; simp; omega), (by decide)⟩ (fun v83 c83 ho83 => ?_)
      have ho83 : Sx.Own 9 1 (strs (TR.take (5 - k))) v83 c83 := by
       rw [hst2, strs_append]
       exact ho83
      have hone1 : oneV v83 = true := by
       obtain ⟨n83, A83, cap83, rfl, _⟩ := own_form ho83 (by decide)
       rfl
      refine j_q (qs_field U246 rfl sz22 (by decide) rfl) ?_
      refine j_store (g := g63) (i := 256) (l := l ++ [tv]) 2 sz22 rfl rfl hone1 rfl (by simp [hl256]) (by simp) ?_
      rw [List.set_append_right _ _ (by omega), hl256]
      refine j_bytes U9 U46 U5 rfl (fun v86 c86 ho86 hv86 => ?_)
      obtain ⟨g86, cap86, rfl⟩ := hv86
      rw [he2] at ho86 ⊢
      refine j_q (qs_field U246 rfl sz244 (by decide) rfl) ?_
      refine j_q (qs_ix0 U244 sz46 rfl rfl ⟨(by omega), (by omega)⟩) ?_
      refine j_store (g := g63) (i := o.toNat) (l := l ++ [v83]) 3 sz46 (by simp only [ev]; first | rfl | (congr 3; simp) | (simp only [Int.toNat_natCast, Nat.zero_add])) rfl rfl rfl (by simp [hl256]; omega) (by simp) ?_
      rw [List.set_append_left _ _ (by omega)]
      refine j_q (qs_sub64 rfl rfl (by omega)) ?_
      refine j_subl (S' := [c86, [(g63, .cells (l.set o.toNat (.slice (some ⟨g86, 0, none⟩) 2 cap86) ++ [v83]).toArray 246 (0, 0))], c83, F]) (by repeat first | exact slR _ | exact slN _ | apply slC | apply slD) ?_
      refine j_perm (S' := [[(g63, .cells (l.set o.toNat (.slice (some ⟨g86, 0, none⟩) 2 cap86) ++ [v83]).toArray 246 (0, 0))], c83, c86 ++ F]) (by classical exact List.perm_iff_count.2 fun a => by simp only [List.flatten_cons, List.flatten_nil, List.append_nil, List.count_append]; omega) ?_
      refine j_back rfl ?_
      exact ⟨k, by omega, k, _, v83, c83, c86 ++ F, by rw [show (((2 * k : Nat) : Int) - 2) = ((2 * k : Nat) : Int) - 2 from rfl]; rfl, rfl, (by rw [hst1]; exact half_step hhalf ho86), ho83, by omega, rfl⟩
     ·skip
      cases hc8
    ·skip
     obtain rfl : k0 = 0 := by
      simp only [bnA] at *
      omega
     refine j_q (qs_mkiface U247 (fun _ h => by cases h) rfl) ?_
     refine j_perm (S' := [[(g63, .cells (l ++ [tv]).toArray 246 (0, 0))] ++ (ct ++ F)]) (by simp) ?_
     refine j_ret_con (vs := [_]) (fun w' hw' => ⟨rfl, trivial⟩) ?_
     exact ⟨g63, _, rfl, rfl, fun w' hw => half_tbl hhalf hot hw⟩
end Go.Proofs.YtfeabbeebkkhaaaGreat
/-! Do2 -/
namespace Go.Proofs.YtfeabbeebkkhaaaGreat
open Go Go.Sx
set_option linter.unusedVariables false
set_option maxRecDepth 100000
theorem disable (w : World) : (callFunc 188 #[]).run Tryz.prog w = .ok (.value (.tuple #[])) w := run_call_mark0 Tryz.func188 (by kernel_rfl) (by kernel_rfl) (by kernel_rfl) .disable (by kernel_rfl) w
theorem enable (w : World) : (callFunc 190 #[]).run Tryz.prog w = .ok (.value (.tuple #[])) w := run_call_mark0 Tryz.func190 (by kernel_rfl) (by kernel_rfl) (by kernel_rfl) .enable (by kernel_rfl) w
theorem acquire (a : Addr) (w : World) : (callFunc 191 #[.pointer (some a)]).run Tryz.prog w = .ok (.value (.tuple #[])) w := run_call_marked Tryz.func191 (by kernel_rfl) (by kernel_rfl) (by kernel_rfl) .acquire (by kernel_rfl) a w
theorem releaseMerge (a : Addr) (w : World) : (callFunc 193 #[.pointer (some a)]).run Tryz.prog w = .ok (.value (.tuple #[])) w := run_call_marked Tryz.func193 (by kernel_rfl) (by kernel_rfl) (by kernel_rfl) .releaseMerge (by kernel_rfl) a w
theorem store_deferred (a : Addr) (x : Value) (u : FrameMode) (w : World) (hc : w.cell? a = some x) (hz : w.frozen? a = false) :
  CallsD Tryz.prog 178 #[.pointer (some a), .bool true] u w fun e u' w' => u' = u ∧ (e = .returned (.tuple #[]) ∧ w' = w.drew.setCell a (.int .u32 1)) := by
 have hc' : w.drew.cell? a = some x := by go_simp
 have hz' : w.drew.frozen? a = false := by go_simp
 have hst := run_call_store (P := Tryz.prog) Tryz.func184 (by kernel_rfl) (by kernel_rfl) (by kernel_rfl) (by kernel_rfl) (k := .u32) (y := 1) hc' hz'
 go_enter_d Tryz.func178, Tryz.ntmps178
 go_wp2
 go_region_calls
 all_goals (go_end0; exact ⟨rfl, rfl⟩)
theorem unlock_deferred (a : Addr) (u : FrameMode) (w : World) (hc : w.cell? a = some (.int .i32 1)) (hz : w.frozen? a = false) :
  CallsD Tryz.prog 177 #[.pointer (some a)] u w fun e u' w' => u' = u ∧ (e = .returned (.tuple #[]) ∧ w' = w.setCell a (.int .i32 0)) := by
 have hd := disable
 have he := enable
 have hr := releaseMerge
 have hadd := run_call_add (P := Tryz.prog) Tryz.func194 (by kernel_rfl) (by kernel_rfl) (by kernel_rfl) .i32 (by kernel_rfl) (y := -1) (s := 0) hc hz (by simp [go_sem]; rfl)
 have hcv := run_convert_to_unsafe (P := Tryz.prog) (src := 265) (dst := 223) U265 U223 (by kernel_rfl) hc
 go_enter_d Tryz.func177, Tryz.ntmps177
 go_wp2
 go_end0
 go_wp2
 go_end0
 exact ⟨rfl, rfl⟩
theorem lock_free (a : Addr) (w : World) (hc : w.cell? a = some (.int .i32 0)) (hz : w.frozen? a = false) :
  Calls Tryz.prog 176 #[.pointer (some a)] w fun e w' => e = .returned (.tuple #[]) ∧ w' = w.setCell a (.int .i32 1) := by
 have hd := disable
 have he := enable
 have ha := acquire
 have hcas := run_call_cas_hit (P := Tryz.prog) Tryz.func189 (by kernel_rfl) (by kernel_rfl) (by kernel_rfl) .i32 (by kernel_rfl) (y := 1) hc hz
 have hc' : (w.setCell a (.int .i32 1)).cell? a = some (.int .i32 1) := World.cell?_setCell_same w a _ hc
 have hcv := run_convert_to_unsafe (P := Tryz.prog) (src := 265) (dst := 223) U265 U223 (by kernel_rfl) hc'
 go_enter Tryz.func176, Tryz.ntmps176
 go_wp2
 first | go_end0 | (simp only [Exit.inBlock, Exit.then]; refine bodyPost_ret (results_none rfl _ _ _) rfl ?_) | refine bodyPost_ret (results_none rfl _ _ _) rfl ?_
 go_wp2
 go_end0
 exact ⟨rfl, rfl⟩
set_option maxRecDepth 100000 in
set_option maxHeartbeats 1600000 in
theorem slow_gen (b off : Nat) (f : FuncId) (cap : Array Value) (w : World) (K : World → Prop) (hen : Sx.Enters Tryz.prog f)
  (h0 : w.cell? ⟨b, off, none⟩ = some (.int .u32 0)) (h1 : w.cell? ⟨b, off + 1, none⟩ = some (.int .i32 0)) (f1 : w.frozen? ⟨b, off + 1, none⟩ = false)
  (hc : Calls Tryz.prog f cap (w.setCell ⟨b, off + 1, none⟩ (.int .i32 1)) fun e w' => e = .returned (.tuple #[]) ∧ K w' ∧ w'.cell? ⟨b, off, none⟩ = some (.int .u32 0) ∧ w'.frozen? ⟨b, off, none⟩ = false ∧ w'.cell? ⟨b, off + 1, none⟩ = some (.int .i32 1) ∧ w'.frozen? ⟨b, off + 1, none⟩ = false) :
  Calls Tryz.prog 166 #[.pointer (some ⟨b, off, none⟩), .func (.func f) cap #[]] w fun e w' => e = .returned (.tuple #[]) ∧ ∃ w1, K w1 ∧ w' = (w1.drew.setCell ⟨b, off, none⟩ (.int .u32 1)).setCell ⟨b, off + 1, none⟩ (.int .i32 0) := by
 have hcall : ∀ w, (callFunc f cap).run Tryz.prog w = .ok (.enter f cap) w := fun w => run_callFunc hen cap w
 have hl := run_call_load (P := Tryz.prog) Tryz.func175 (by kernel_rfl) (by kernel_rfl) (by kernel_rfl) .u32 (by kernel_rfl) (w := w.setCell ⟨b, off + 1, none⟩ (.int .i32 1)) (a := ⟨b, off, none⟩) (x := 0) ((World.cell?_setCell_other _ ⟨b, off + 1, none⟩ ⟨b, off, none⟩ _ (by simp)).trans h0)
 have hnot : ∀ (x : Bool) (w : World), (Op.unary .not (.bool x)).run Tryz.prog w = .ok (.bool (!x)) w := fun _ _ => rfl
 go_enter_defers Tryz.func166, Tryz.ntmps166
 go_wp2_with (go_at_call 176; refine (lock_free ⟨b, off + 1, none⟩ _ (by go_simp) (by go_simp)).mono ?_; rintro e w' ⟨rfl, rfl⟩)
 go_wp2
 refine hc.mono ?_
 rintro e w1 ⟨rfl, hK, c0, z0, c1, z1⟩
 simp only
 go_wp2
 refine leaves_cons (f := 178) (args := #[.pointer (some ⟨b, off, none⟩), .bool true]) (by simp) (by simp [go_sem]) ?_
 refine (store_deferred ⟨b, off, none⟩ (.int .u32 0) .returning _ c0 z0).mono ?_
 rintro e u' w'' ⟨rfl, rfl, rfl⟩
 refine leaves_cons (f := 177) (args := #[.pointer (some ⟨b, off + 1, none⟩)]) (by simp [settle]) (by simp [go_sem]) ?_
 refine (unlock_deferred ⟨b, off + 1, none⟩ _ _ ?_ (by simp [z1])).mono ?_
 ·refine (World.cell?_setCell_other _ ⟨b, off, none⟩ ⟨b, off + 1, none⟩ _ (by simp)).trans ?_
  rw [World.cell?_drew]
  exact c1
 rintro e u' w'' ⟨rfl, rfl, rfl⟩
 simp [Leaves, settle, results, Tryz.results166]
 exact ⟨w1, hK, rfl⟩
end Go.Proofs.YtfeabbeebkkhaaaGreat
/-! Dv3 -/
namespace Go.Proofs.YtfeabbeebkkhaaaGreat
open Go Go.Sx
set_option maxRecDepth 100000
set_option maxHeartbeats 4000000
set_option linter.unusedVariables false
set_option linter.unusedSimpArgs false
attribute [local irreducible] J JQ QS Con W opW
theorem notFrozen {w : World} {g i : Nat} {l : List Value} {e : TypeId} (h : w.heap[g]? = some (.cells l.toArray e (0, 0))) : w.frozen? ⟨g, i, none⟩ = false := by
 unfold World.frozen?
 simp [h]
theorem sig_refl (w : World) (F : SH) (h : ∀ p ∈ F, w.heap[p.1]? = some p.2) (hn : (dom F).Nodup) : Sig ⟨w, dom F⟩ [F] w :=
 ⟨rfl, rfl, rfl, Nat.le_refl _, by simpa using h, by simpa using hn, fun k hk => .inl (by simpa using hk), fun _ _ _ => rfl⟩
abbrev rc (d m : Int) (it ov : Value) : List Value := [.int .u32 d, .int .i32 m, .int .u32 0, it, ov]
abbrev rob (d m : Int) (it ov : Value) : Obj := .cells (rc d m it ov).toArray 210 (0, 0)
abbrev itv (gb : Nat) : Value := .iface 247 (.pointer (some ⟨gb, 0, none⟩))
abbrev nilS : Value := .slice none 0 0
attribute [local irreducible] es Tbl Half
theorem invReplace (gb : Nat) (s : Value) (w : World) : (invoke (.fn (.method "Replace") #[]) #[itv gb, s]).run Tryz.prog w = .ok (.enter 233 #[.pointer (some ⟨gb, 0, none⟩), s]) w := by kernel_rfl
theorem ent145b : Sx.Enters Tryz.prog 145 := ⟨_, Tryz.func145, by kernel_rfl, by kernel_rfl⟩
theorem buildOnce_con (gr : Nat) (d m : Int) (ov : Value) (co : SH) (ho : Sx.Own 9 1 (strs ON) ov co) (w : World) : Con Tryz.prog 145 [.pointer (some ⟨gr, 0, none⟩)] w ((gr, rob d m .nilIface ov) :: co) fun v S' => v = .tuple #[] ∧ ∃ gb F, S' = [[(gr, rob d m (itv gb) nilS)], F] ∧ ∀ w' : World, (∀ p ∈ F, w'.heap[p.1]? = some p.2) → Tbl w' gb := by
 refine con_of_tree mix Tryz.func145 T145_ok (by kernel_rfl) ?_
 unfold T145
 refine j_perm (S' := [[(gr, rob d m .nilIface ov)], co]) (by simp) ?_
 refine j_call0 ent167 rfl rfl rfl (fun w' hw' => build_con gr _ _ _ _ _ w' (hw'.at_ (k := 0) rfl) (strsl_own ho 1 rfl hw')) (fun u S2 hu => ?_)
 obtain ⟨gb, F, rfl, rfl, hF⟩ := hu
 refine j_q (qs_nil rfl) ?_
 refine j_q (qs_field U210 rfl sz208 (by decide) rfl) ?_
 refine j_store (l := rc d m .nilIface ov) (v := itv gb) 1 sz208 rfl rfl rfl rfl (by simp) (by simp) ?_
 refine j_q (qs_nil rfl) ?_
 refine j_q (qs_field U210 rfl sz22 (by decide) rfl) ?_
 refine j_store (l := rc d m (itv gb) ov) (v := nilS) 1 sz22 rfl rfl rfl rfl (by simp) (by simp) ?_
 refine j_subl (S' := [F, [(gr, rob d m (itv gb) nilS)]]) (by repeat first | exact slR _ | exact slN _ | apply slC | apply slD) ?_
 refine j_swap ?_
 refine j_ret_con (vs := []) (fun w' hw' => trivial) ?_
 exact ⟨rfl, gb, F, rfl, hF⟩
theorem slow_con (gr : Nat) (ov : Value) (co : SH) (ho : Sx.Own 9 1 (strs ON) ov co) (w : World) : Con Tryz.prog 166 [.pointer (some ⟨gr, 0, none⟩), .func (.func 145) #[.pointer (some ⟨gr, 0, none⟩)] #[]] w ((gr, rob 0 0 .nilIface ov) :: co)
  fun v S' => v = .tuple #[] ∧ ∃ gb F, S' = [[(gr, rob 1 0 (itv gb) nilS)], F] ∧ ∀ w' : World, (∀ p ∈ F, w'.heap[p.1]? = some p.2) → Tbl w' gb := by
 unfold Con
 intro hown hnd
 have hgt := hown (gr, _) (List.mem_cons_self)
 simp only at hgt
 have hs0 : Sig ⟨w, dom ((gr, rob 0 0 .nilIface ov) :: co)⟩ [[(gr, rob 0 0 .nilIface ov)], co] w := (sig_refl w _ hown hnd).perm (by simp)
 have hl1 : (w.setCell ⟨gr, 1, none⟩ (.int .i32 1)).heap[gr]? = some (rob 0 1 .nilIface ov) := setCell_same hgt
 have hs1 := hs0.set (k := 0) (g := gr) (w' := w.setCell ⟨gr, 1, none⟩ (.int .i32 1)) rfl rfl rfl rfl (by unfold World.setCell; simp) hl1 (fun j hj => setCell_other hj)
 have hs1' : Sig ⟨w, dom ((gr, rob 0 0 .nilIface ov) :: co)⟩ [[(gr, rob 0 1 .nilIface ov)], co] (w.setCell ⟨gr, 1, none⟩ (.int .i32 1)) := hs1
 have hc0 := buildOnce_con gr 0 1 ov co ho (w.setCell ⟨gr, 1, none⟩ (.int .i32 1))
 unfold Con at hc0
 have hc1 := hc0 (fun p hp => hs1'.own p (by simpa using hp)) (by simpa [dom] using hs1'.nodup)
 refine (slow_gen gr 0 145 #[.pointer (some ⟨gr, 0, none⟩)] w (fun w1 => ∃ gb F, Sig ⟨w, dom ((gr, rob 0 0 .nilIface ov) :: co)⟩ [[(gr, rob 0 1 (itv gb) nilS)], F] w1 ∧ ∀ w' : World, (∀ p ∈ F, w'.heap[p.1]? = some p.2) → Tbl w' gb) ent145b (by rw [cell_of hgt]; rfl) (by rw [cell_of hgt]; rfl) (notFrozen hgt) (hc1.mono ?_)).mono ?_
 ·rintro e w2 ⟨v, S', rfl, ⟨rfl, gb, F, rfl, hF⟩, hS⟩
  have hS1 : Sig ⟨w, dom ((gr, rob 0 0 .nilIface ov) :: co)⟩ [[(gr, rob 0 1 (itv gb) nilS)], F] w2 :=
   Sig.call (Fr := []) hs1' (by simp) hS (by simp)
  have hg1 := hS1.at_ (k := 0) rfl
  exact ⟨rfl, ⟨gb, F, hS1, hF⟩, by rw [cell_of hg1]; rfl, notFrozen hg1, by rw [cell_of hg1]; rfl, notFrozen hg1⟩
 ·rintro e w' ⟨rfl, w1, ⟨gb, F, hS, hF⟩, rfl⟩
  refine ⟨_, _, rfl, ⟨rfl, gb, F, rfl, hF⟩, ?_⟩
  have hd := hS.drew
  have hg1 := hd.at_ (k := 0) rfl
  have h2 := hd.set (k := 0) (g := gr) (w' := w1.drew.setCell ⟨gr, 0, none⟩ (.int .u32 1)) rfl rfl rfl rfl (by unfold World.setCell; simp only [Array.size_modify]; rfl) (setCell_same hg1) (fun j hj => setCell_other hj)
  have hg2 := h2.at_ (k := 0) rfl
  exact h2.set (k := 0) (g := gr) (w' := (w1.drew.setCell ⟨gr, 0, none⟩ (.int .u32 1)).setCell ⟨gr, 1, none⟩ (.int .i32 0)) rfl rfl rfl rfl (by unfold World.setCell; simp) (setCell_same hg2) (fun j hj => setCell_other hj)
theorem bload_con (g i : Nat) (l : List Value) (e : TypeId) (fz : Nat × Nat) (n : Int) (w : World) (hc : w.heap[g]? = some (.cells l.toArray e fz)) (hi : l[i]? = some (.int .u32 n)) : Con Tryz.prog 165 [.pointer (some ⟨g, i, none⟩)] w [] fun v _ => v = .bool (n != 0) := by
 refine con_of_tree mix Tryz.func165 T165_ok (by kernel_rfl) ?_
 unfold T165
 refine j_q (qs_ac) ?_
 refine j_q (qs_nil rfl) ?_
 refine j_q (qs_field U200 rfl sz145 (by decide) rfl) ?_
 refine j_q (qs_extw (f := 175) (fn := Tryz.f175) (e := fun _ => pure .nilIface) rfl rfl rfl (fun w' hw' => run_call_load Tryz.func175 (by kernel_rfl) (by kernel_rfl) (by kernel_rfl) .u32 (by kernel_rfl) (by rw [cell_of ((hw'.frame g (lt_of_get hc) (by simp)).trans hc)]; exact hi))) ?_
 refine j_q (qs_neq rfl rfl) ?_
 refine j_ret_con (vs := [_]) (fun w' hw' => ⟨rfl, trivial⟩) ?_
 rfl
theorem once_con (gr : Nat) (ov : Value) (co : SH) (ho : Sx.Own 9 1 (strs ON) ov co) (w : World) : Con Tryz.prog 144 [.pointer (some ⟨gr, 0, none⟩), .func (.func 145) #[.pointer (some ⟨gr, 0, none⟩)] #[]] w ((gr, rob 0 0 .nilIface ov) :: co) fun v S' => v = .tuple #[] ∧ ∃ gb F, S' = [[(gr, rob 1 0 (itv gb) nilS)], F] ∧ ∀ w' : World, (∀ p ∈ F, w'.heap[p.1]? = some p.2) → Tbl w' gb := by
 refine con_of_tree mix Tryz.func144 T144_ok (by kernel_rfl) ?_
 unfold T144
 refine j_q (qs_nil rfl) ?_
 refine j_q (qs_field U206 rfl sz200 (by decide) rfl) ?_
 refine j_q (qs_call ent165 rfl rfl rfl (fun w' hw' => bload_con gr 0 (rc 0 0 .nilIface ov) 210 (0, 0) 0 w' (hw'.own (gr, _) (by simp)) rfl)) ?_
 refine j_q (qs_not rfl) ?_
 refine j_cond rfl (fun hc0 => ?_) (fun hc0 => ?_)
 ·skip
  refine j_call 0 ent166 rfl rfl rfl rfl (fun w' hw' => slow_con gr ov co ho w') (fun u S2 hu => ?_)
  obtain ⟨rfl, gb, F, rfl, hF⟩ := hu
  refine j_subl (S' := [[(gr, rob 1 0 (itv gb) nilS)], F]) (by repeat first | exact slR _ | exact slN _ | apply slC | apply slD) ?_
  refine j_ret_con (vs := []) (fun w' hw' => trivial) ?_
  exact ⟨rfl, gb, F, rfl, hF⟩
 ·skip
  cases hc0
theorem replace_con (gr : Nat) (ov : Value) (co : SH) (ho : Sx.Own 9 1 (strs ON) ov co) (s : Bs) (w : World) (hs : s.length ≤ 1099511627776) : Con Tryz.prog 121 [.pointer (some ⟨gr, 0, none⟩), .string (bs s)] w ((gr, rob 0 0 .nilIface ov) :: co) fun v _ => v = .string (bs (es s)) := by
 refine con_of_tree mix Tryz.func121 T121_ok (by kernel_rfl) ?_
 unfold T121
 refine j_q (qs_ac) ?_
 refine j_q (qs_nil rfl) ?_
 refine j_q (qs_field U210 rfl sz206 (by decide) rfl) ?_
 refine j_q (qs_mkfuncF rfl) ?_
 refine j_call 0 ent144 rfl rfl rfl rfl (fun w' hw' => once_con gr ov co ho w') (fun u S2 hu => ?_)
 obtain ⟨rfl, gb, F, rfl, hF⟩ := hu
 refine j_q (qs_nil rfl) ?_
 refine j_q (qs_field U210 rfl sz208 (by decide) rfl) ?_
 refine j_q (qs_load (l := rc 1 0 (itv gb) nilS) (v := itv gb) 0 U208 rfl rfl rfl rfl) ?_
 refine j_q (qs_meth (v := .string (bs (es s))) (args := [itv gb, .string (bs s)]) (args2 := [.pointer (some ⟨gb, 0, none⟩), .string (bs s)]) rfl rfl (fun w => invReplace gb (.string (bs s)) w) (fun w' hw' => brep_con gb s w' (hF w' (fun p hp => hw'.own p (by simp [hp]))) hs)) ?_
 refine j_ret_con (vs := [_]) (fun w' hw' => ⟨rfl, trivial⟩) ?_
 rfl
theorem newRep_con (v : Value) (w : World) (hv : StrSl w v ON) : Con Tryz.prog 120 [v] w [] fun u S' => ∃ gr ov co, u = .pointer (some ⟨gr, 0, none⟩) ∧ S' = [(gr, rob 0 0 .nilIface ov) :: co] ∧ Sx.Own 9 1 (strs ON) ov co := by
 refine con_of_tree mix Tryz.func120 T120_ok (by kernel_rfl) ?_
 unfold T120
 obtain ⟨A, cap, rfl, hcap⟩ := strsl_form hv
 refine j_q (qs_ac) ?_
 refine j_q (qs_lenl U22 rfl) ?_
 refine j_q (qs_rem64 rfl rfl (by omega) (by omega)) ?_
 refine j_q (qs_eql rfl rfl) ?_
 refine j_cond rfl (fun hc0 => ?_) (fun hc0 => ?_)
 ·skip
  exact absurd hc0 (by decide)
 ·skip
  refine j_append 0 U22 U22 (.inr ⟨_, rfl⟩) sb9 zero9 rfl own_nil rfl (src_strsl hv) (by simp [strs, oneV]) ⟨(by decide), (by decide)⟩ (fun v9 c9 ho9 => ?_)
  rw [List.nil_append] at ho9
  obtain ⟨n9, A9, cap9, rfl, hn9⟩ := own_form ho9 (by decide)
  refine j_q (qs_build (places := [(0, 3), (3, 1), (4, 1)]) (offs := [(4, [.slice A9 n9 cap9])]) U210 zero210 (by kernel_rfl) rfl (by rintro (_ | j) p q hp hq <;> first | (simp at hp hq; subst hp hq; exact ⟨rfl, rfl, by simp⟩) | (simp at hp))) ?_
  refine j_box (l := rc 0 0 .nilIface (.slice A9 n9 cap9)) rfl (fun g11 hg11 hs11 => ?_)
  refine j_perm (S' := [(g11, rob 0 0 .nilIface (.slice A9 n9 cap9)) :: c9]) (by simp) ?_
  refine j_ret_con (vs := [_]) (fun w' hw' => ⟨rfl, trivial⟩) ?_
  exact ⟨g11, _, c9, rfl, rfl, ho9⟩
theorem quote_con (s : Bs) (w : World) (hs : s.length ≤ 1099511627776) : Con Tryz.prog 69 [.string (bs s)] w [] fun v _ => v = .string (bs (qt s)) := by
 refine con_of_tree mix Tryz.func69 T69_ok (by kernel_rfl) ?_
 unfold T69
 have hel := es_len s
 refine j_q (qs_ac) ?_
 refine j_lit (vs := [.string (bs _), .string (bs _), .string (bs _), .string (bs _), .string (bs _), .string (bs _), .string (bs _), .string (bs _), .string (bs _), .string (bs _)]) U22 sz9 zero9 rfl (by simp [oneV]) ⟨rfl, by decide⟩ (fun g1 v1 c1 hv1 hc1 ho1 => ?_)
 subst hv1 hc1
 refine j_call0 ent120 rfl rfl rfl (fun w' hw' => newRep_con _ w' (strsl_own (xs := ON) (by exact ho1) 0 rfl hw')) (fun u S2 hu => ?_)
 obtain ⟨gr, ov, co, rfl, rfl, ho⟩ := hu
 refine j_call 0 ent121 rfl rfl rfl rfl (fun w' hw' => replace_con gr ov co ho s w' hs) (fun u S2 hu => ?_)
 subst hu
 refine j_q (qs_sadd (l := [34]) rfl rfl (by simp only [List.length_cons, List.length_nil]; omega)) ?_
 refine j_q (qs_sadd (l' := [34]) rfl rfl (by simp only [List.length_append, List.length_cons, List.length_nil]; omega)) ?_
 refine j_ret_con (vs := [_]) (fun w' hw' => ⟨rfl, trivial⟩) ?_
 rfl
end Go.Proofs.YtfeabbeebkkhaaaGreat
/-! Dv4 -/
namespace Go.Proofs.YtfeabbeebkkhaaaGreat
open Go Go.Sx
set_option maxRecDepth 100000
set_option maxHeartbeats 4000000
set_option linter.unusedVariables false
set_option linter.unusedSimpArgs false
attribute [local irreducible] J JQ QS Con W opW
def StrZ (w : World) (v : Value) (rs : List Bs) : Prop := ∃ A cap, v = .slice A rs.length cap ∧ rs.length ≤ cap ∧ (0 < rs.length → ∃ g off, A = some ⟨g, off, none⟩ ∧ g < w.heap.size ∧ Cells w ⟨g, off, none⟩ (strs rs)) ∧ (A = none → cap = 0)
theorem strz_of {w : World} {v : Value} {rs : List Bs} (h : StrSl w v rs) : StrZ w v rs := by
 rcases h with ⟨rfl, rfl⟩ | ⟨g, off, cap, rfl, h1, h2, h3⟩
 ·exact ⟨none, 0, rfl, Nat.le_refl _, fun h => absurd h (Nat.lt_irrefl _), fun _ => rfl⟩
 ·exact ⟨_, cap, rfl, h2, fun _ => ⟨g, off, rfl, h1, h3⟩, fun e => by cases e⟩
theorem strz_nil {w : World} : StrZ w (.slice none 0 0) [] := strz_of (.inl ⟨rfl, rfl⟩)
theorem strz_form {w : World} {v : Value} {rs : List Bs} (h : StrZ w v rs) : ∃ A cap, v = .slice A rs.length cap ∧ rs.length ≤ cap := by
 obtain ⟨A, cap, h1, h2, _⟩ := h
 exact ⟨A, cap, h1, h2⟩
theorem strz_addr {w : World} {A : Option Addr} {n cap : Nat} {rs : List Bs} (h : StrZ w (.slice A n cap) rs) (h0 : 0 < rs.length) : ∃ g off, A = some ⟨g, off, none⟩ ∧ g < w.heap.size ∧ Cells w ⟨g, off, none⟩ (strs rs) := by
 obtain ⟨A', cap', e, h2, h3, _⟩ := h
 injection e with e1
 subst e1
 exact h3 h0
theorem strz_keep {w w' : World} {v : Value} {rs : List Bs} (h : StrZ w v rs) {S : List SH} (hs : Sig ⟨w, dom []⟩ S w') : StrZ w' v rs := by
 obtain ⟨A, cap, h1, h2, h3, h4⟩ := h
 exact ⟨A, cap, h1, h2, fun h0 => by
  obtain ⟨g, off, rfl, h5, h6⟩ := h3 h0
  exact ⟨g, off, rfl, Nat.lt_of_lt_of_le h5 hs.size, cells_keep h6 hs⟩, h4⟩
theorem src_strz {w : World} {S : List SH} {A : Option Addr} {n cap : Nat} {rs : List Bs} (h : StrZ w (.slice A n cap) rs) : Src ⟨w, dom []⟩ S 1 (.slice A n cap) n (strs rs) := by
 obtain ⟨A', cap', e, h2, h3, h4⟩ := h
 injection e with e1 e2 e3
 subst e1 e2 e3
 rcases Nat.eq_zero_or_pos rs.length with h0 | h0
 ·have hr : rs = [] := List.eq_nil_of_length_eq_zero h0
  subst hr
  cases A with
  | none => exact .inr (.inl ⟨cap, rfl, rfl, rfl⟩)
  | some a => exact .inl ⟨a, cap, rfl, fun w' hw' j u hu => by simp [strs] at hu, rfl⟩
 ·obtain ⟨g, off, rfl, h5, h6⟩ := h3 h0
  exact .inl ⟨_, _, rfl, rd_cells (b := ⟨w, dom []⟩) h6 (by simp), by rw [strs_length, Nat.mul_one]⟩
theorem strz_own {b : Base} {S : List SH} {w : World} {e : TypeId} {xs : List Bs} {v : Value} {c : SH} (ho : Sx.Own e 1 (strs xs) v c) (k : Nat) (hk : S[k]? = some c) (hw : Sig b S w) : StrZ w v xs := strz_of (strsl_own ho k hk hw)
theorem strz_ownw {w : World} {e : TypeId} {xs : List Bs} {v : Value} {c : SH} (ho : Sx.Own e 1 (strs xs) v c) (h : ∀ p ∈ c, w.heap[p.1]? = some p.2) : StrZ w v xs := strz_of (strsl_ownw ho h)
def encO (o : PO) : List Value := .string (bs o.name) :: .string (bs o.path) :: .bool o.fixed :: ints o.hash.1
def encV (v : PV) : List Value := [.string (bs v.name), .string (bs v.val)]
structure MI where
 drv : Bs
 outs : List Bs
 v : Value
def MI.pi (m : MI) : PI := ⟨m.drv, m.outs⟩
def encI (m : MI) : List Value := [.string (bs m.drv), m.v]
abbrev m0 : MI := ⟨[], [], .slice none 0 0⟩
theorem encO_len (o : PO) : (encO o).length = 35 := by
 unfold encO
 simp only [List.length_cons, ints_length, o.hash.2]
theorem encV_len (o : PV) : (encV o).length = 2 := rfl
theorem encI_len (o : MI) : (encI o).length = 2 := rfl
theorem encO_one (o : PO) : ∀ u ∈ encO o, oneV u = true := fun u hu => by
 simp only [encO, List.mem_cons] at hu
 rcases hu with rfl | rfl | rfl | hu
 ·rfl
 ·rfl
 ·rfl
 ·exact ints_one u hu
theorem encV_one (o : PV) : ∀ u ∈ encV o, oneV u = true := fun u hu => by
 simp only [encV, List.mem_cons, List.not_mem_nil, or_false] at hu
 rcases hu with rfl | rfl <;> rfl
structure DV where
 va : Value
 ve : Value
 vi : Value
 vs : Value
 vo : Value
 mi : List MI
def dcells (d : PD) (x : DV) : List Value := [.string (bs d.name), .string (bs d.sys), .string (bs d.bld), x.va, x.ve, x.vi, x.vs, x.vo]
abbrev dval (d : PD) (x : DV) : Value := .agg (dcells d x).toArray
structure DR (w : World) (d : PD) (x : DV) : Prop where
 a : StrZ w x.va d.args
 e : RSlN 2 w x.ve (d.env.map encV).flatten d.env.length
 i : RSlN 2 w x.vi (x.mi.map encI).flatten x.mi.length
 io : ∀ m ∈ x.mi, StrZ w m.v m.outs
 im : d.ins = x.mi.map MI.pi
 s : StrZ w x.vs d.srcs
 o : RSlN 35 w x.vo (d.outs.map encO).flatten d.outs.length
theorem DR.keep {w w' : World} {d : PD} {x : DV} (h : DR w d x) {S : List SH} (hs : Sig ⟨w, dom []⟩ S w') : DR w' d x :=
 ⟨strz_keep h.a hs, rsln_keep h.e hs, rsln_keep h.i hs, fun m hm => strz_keep (h.io m hm) hs, h.im, strz_keep h.s hs, rsln_keep h.o hs⟩
theorem MI.one {w : World} {m : MI} (h : StrZ w m.v m.outs) : ∀ u ∈ encI m, oneV u = true := fun u hu => by
 obtain ⟨A, cap, e, _⟩ := strz_form h
 simp only [encI, List.mem_cons, List.not_mem_nil, or_false] at hu
 rcases hu with rfl | rfl
 ·rfl
 ·rw [e]; rfl
theorem take_map_snoc {α : Type} (g : α → Bs) {l : List α} {i : Nat} {d : α} (h : i < l.length) : (l.take (i + 1)).map g = (l.take i).map g ++ [g (l.getD i d)] := by
 rw [List.take_succ_eq_append_getElem h, List.map_append]
 congr 2
 rw [List.getD_eq_getElem?_getD, List.getElem?_eq_getElem h]
 rfl
theorem cms_take_le {α : Type} (g : α → Bs) (l : List α) (i : Nat) : (cms ((l.take i).map g)).length ≤ (cms (l.map g)).length := by
 unfold cms
 rw [List.length_drop, List.length_drop]
 have : ((l.map g).map fun x => (44 : UInt8) :: x).flatten = (((l.take i).map g).map fun x => (44 : UInt8) :: x).flatten ++ (((l.drop i).map g).map fun x => (44 : UInt8) :: x).flatten := by
  conv => lhs; rw [← List.take_append_drop i l]
  rw [List.map_append, List.map_append, List.flatten_append]
 rw [this, List.length_append]
 omega
theorem cms_step {α : Type} (g : α → Bs) {l : List α} {i : Nat} {d : α} (h : i < l.length) : cms ((l.take (i + 1)).map g) = if i = 0 then g (l.getD i d) else cms ((l.take i).map g) ++ (44 :: g (l.getD i d)) := by
 rw [take_map_snoc g h, cms_snoc]
 have : (l.take i).map g = [] ↔ i = 0 := by
  rw [List.map_eq_nil_iff, List.take_eq_nil_iff]
  constructor
  ·rintro (h | h)
   ·exact h
   ·subst h; simp at h
  ·exact fun h => .inl h
 by_cases h0 : i = 0
 ·rw [if_pos (this.2 h0), if_pos h0]
 ·rw [if_neg (fun e => h0 (this.1 e)), if_neg h0]
attribute [local irreducible] es qt cms hex Tbl Half
theorem listO_con (l : List PO) (v : Value) (o c : Bs) (f : Nat) (g : PO → Bs) (w : World) (hv : RSlN 35 w v (l.map encO).flatten l.length) (hen : Sx.Enters Tryz.prog f) (hf : ∀ i, i < l.length → ∀ S w', Sig ⟨w, dom []⟩ S w' → Con Tryz.prog f [.agg (encO (l.getD i o0)).toArray] w' [] fun u _ => u = .string (bs (g (l.getD i o0)))) (ho0 : o ≠ []) (hn : l.length ≤ 1099511627776) (hlen : (lst o (l.map g) c).length ≤ 1099511627776) : Con Tryz.prog 66 [.string (bs o), v, .func (.func f) #[] #[], .string (bs c)] w [] fun u _ => u = .string (bs (lst o (l.map g) c)) := by
 refine con_of_tree mix Tryz.func66 T66_ok (by kernel_rfl) ?_
 unfold T66
 obtain ⟨A, cap, ga, off, rfl, hcap, hA⟩ := rsln_form hv
 have hcl := cms_take_le g l
 have hlen2 := hlen
 simp only [lst, List.length_append] at hlen2
 refine j_q (qs_ac) ?_
 refine j_alloc zero169 (fun g1 hg1 hs1 => ?_)
 refine j_call 0 ent115 rfl rfl rfl rfl (fun w' hw' => writeString_con g1 none (.inl rfl) (.slice none 0 0) [] [] o own_nil (by simp; omega) w') (fun u S2 hu => ?_)
 obtain ⟨rfl, bv, cb, rfl, hob⟩ := hu
 rw [List.nil_append] at hob
 refine j_subl (S' := [((g1, .cells [.pointer (some ⟨g1, 0, none⟩), bv].toArray 169 (0, 0)) :: cb)]) (by repeat first | exact slR _ | exact slN _ | apply slC | apply slD) ?_
 refine j_q (qs_lenl U26 rfl) ?_
 refine j_q (qs_mc) ?_
 refine j_loop (fun m vs S' => ∃ (i : Nat) (bv : Value) (cb : SH), vs = [.int .i64 (i : Int)] ∧ S' = [((g1, .cells [.pointer (some ⟨g1, 0, none⟩), bv].toArray 169 (0, 0)) :: cb)] ∧ Sx.Own 5 1 (ints (o ++ cms ((l.take i).map g))) bv cb ∧ i ≤ l.length ∧ m = l.length - i) ⟨_, 0, bv, cb, rfl, rfl, by rw [List.take_zero, show cms (([] : List _).map g) = [] by unfold cms; rfl, List.append_nil]; exact hob, Nat.zero_le _, rfl⟩ ?_
 rintro m vs S' hlen ⟨i, bv, cb, rfl, rfl, hob, hin, rfl⟩
 refine j_q (qs_lss rfl rfl) ?_
 refine j_cond rfl (fun hc0 => ?_) (fun hc0 => ?_)
 ·skip
  have hi : i < l.length := by
   simp only [bnA] at *
   omega
  obtain ⟨rfl, hga, hcells⟩ := hA (by omega)
  have hci := hcl i
  have hci1 := hcl (i + 1)
  refine j_q (qs_ixn (g := ga) (off := off) (i := i) U26 sz53 rfl rfl (by omega)) ?_
  refine j_q (qs_loadrecw (encA := encO) (rs := l) (d := o0) (i := i) encO_len (rd_cells hcells (by simp)) hi U53 rfl sz53 rfl) ?_
  refine j_alloc zero53 (fun g8 hg8 hs8 => ?_)
  refine j_storew (vs := encO (l.getD i o0)) 0 sz53 rfl rfl (encO_len _) (encO_one _) rfl rfl ?_
  refine j_q (qs_gtr rfl rfl) ?_
  refine j_cond rfl (fun hc1 => ?_) (fun hc1 => ?_)
  ·skip
   have h0 : ¬ i = 0 := by
    simp only [bnA] at *
    omega
   have hstep := cms_step g (d := o0) hi
   rw [if_neg h0] at hstep
   rw [hstep] at hci1
   simp only [List.length_append, List.length_cons] at hci1
   refine j_call 1 ent116 rfl rfl rfl rfl (fun w' hw' => writeByte_con g1 (some ⟨g1, 0, none⟩) (.inr rfl) bv cb _ 44 (by decide) hob (by simp only [List.length_append, List.length_cons, List.length_nil]; omega) w') (fun u S2 hu => ?_)
   obtain ⟨rfl, bv2, cb2, rfl, hob2⟩ := hu
   refine j_q (qs_loadw (l := encO (l.getD i o0)) 1 U53 rfl sz53 rfl rfl (encO_len _)) ?_
   refine j_q (qs_callf (v := .string (bs (g (l.getD i o0)))) hen rfl rfl rfl (fun w' hw' => hf i hi _ w' hw')) ?_
   refine j_call 0 ent115 rfl rfl rfl rfl (fun w' hw' => writeString_con g1 (some ⟨g1, 0, none⟩) (.inr rfl) bv2 cb2 _ (g (l.getD i o0)) hob2 (by simp only [List.length_append, List.length_cons, List.length_nil]; omega) w') (fun u S2 hu => ?_)
   obtain ⟨rfl, bv3, cb3, rfl, hob3⟩ := hu
   have hob4 : Sx.Own 5 1 (ints (o ++ cms ((l.take (i + 1)).map g))) bv3 cb3 := by
    rw [hstep]
    have e : o ++ cms ((l.take i).map g) ++ [by8 44] ++ (g (l.getD i o0)) = o ++ (cms ((l.take i).map g) ++ (44 :: (g (l.getD i o0)))) := by rw [show by8 44 = (44 : UInt8) from rfl]; simp
    rw [← e]
    exact hob3
   refine j_subl (S' := [((g1, .cells [.pointer (some ⟨g1, 0, none⟩), bv3].toArray 169 (0, 0)) :: cb3)]) (by repeat first | exact slR _ | exact slN _ | apply slC | apply slD) ?_
   refine j_q (qs_add64 rfl rfl (by omega)) ?_
   refine j_back rfl ?_
   exact ⟨l.length - (i + 1), by omega, i + 1, bv3, cb3, rfl, rfl, hob4, by omega, rfl⟩
  ·skip
   have h0 : i = 0 := by
    simp only [bnA] at *
    omega
   have hstep := cms_step g (d := o0) hi
   rw [if_pos h0] at hstep
   rw [hstep] at hci1
   have hcm0 : cms ((l.take i).map g) = [] := by
    rw [h0, List.take_zero]
    unfold cms
    rfl
   refine j_q (qs_loadw (l := encO (l.getD i o0)) 0 U53 rfl sz53 rfl rfl (encO_len _)) ?_
   refine j_q (qs_callf (v := .string (bs (g (l.getD i o0)))) hen rfl rfl rfl (fun w' hw' => hf i hi _ w' hw')) ?_
   refine j_call 1 ent115 rfl rfl rfl rfl (fun w' hw' => writeString_con g1 (some ⟨g1, 0, none⟩) (.inr rfl) bv cb _ (g (l.getD i o0)) hob (by simp only [List.length_append, List.length_cons, List.length_nil]; omega) w') (fun u S2 hu => ?_)
   obtain ⟨rfl, bv3, cb3, rfl, hob3⟩ := hu
   have hob4 : Sx.Own 5 1 (ints (o ++ cms ((l.take (i + 1)).map g))) bv3 cb3 := by
    rw [hstep]
    rw [hcm0, List.append_nil] at hob3
    exact hob3
   refine j_subl (S' := [((g1, .cells [.pointer (some ⟨g1, 0, none⟩), bv3].toArray 169 (0, 0)) :: cb3)]) (by repeat first | exact slR _ | exact slN _ | apply slC | apply slD) ?_
   refine j_q (qs_add64 rfl rfl (by omega)) ?_
   refine j_back rfl ?_
   exact ⟨l.length - (i + 1), by omega, i + 1, bv3, cb3, rfl, rfl, hob4, by omega, rfl⟩
 ·skip
  obtain rfl : i = l.length := by
   simp only [bnA] at *
   omega
  rw [List.take_length] at hob
  refine j_call 0 ent115 rfl rfl rfl rfl (fun w' hw' => writeString_con g1 (some ⟨g1, 0, none⟩) (.inr rfl) bv cb _ c hob (by simp only [List.length_append, List.length_cons, List.length_nil]; omega) w') (fun u S2 hu => ?_)
  obtain ⟨rfl, bv2, cb2, rfl, hob2⟩ := hu
  refine j_call 0 ent117 rfl rfl rfl rfl (fun w' hw' => string_con g1 _ bv2 cb2 _ (by simp [ho0]) (by simp only [List.length_append, List.length_cons, List.length_nil]; omega) hob2 w') (fun u S2 hu => ?_)
  obtain ⟨rfl, rfl⟩ := hu
  refine j_ret_con (vs := [_]) (fun w' hw' => ⟨rfl, trivial⟩) ?_
  rfl
theorem listI_con (l : List MI) (v : Value) (o c : Bs) (f : Nat) (g : MI → Bs) (w : World) (hv : RSlN 2 w v (l.map encI).flatten l.length) (hone : ∀ i, i < l.length → ∀ u ∈ encI (l.getD i m0), oneV u = true) (hen : Sx.Enters Tryz.prog f) (hf : ∀ i, i < l.length → ∀ S w', Sig ⟨w, dom []⟩ S w' → Con Tryz.prog f [.agg (encI (l.getD i m0)).toArray] w' [] fun u _ => u = .string (bs (g (l.getD i m0)))) (ho0 : o ≠ []) (hn : l.length ≤ 1099511627776) (hlen : (lst o (l.map g) c).length ≤ 1099511627776) : Con Tryz.prog 70 [.string (bs o), v, .func (.func f) #[] #[], .string (bs c)] w [] fun u _ => u = .string (bs (lst o (l.map g) c)) := by
 refine con_of_tree mix Tryz.func70 T70_ok (by kernel_rfl) ?_
 unfold T70
 obtain ⟨A, cap, ga, off, rfl, hcap, hA⟩ := rsln_form hv
 have hcl := cms_take_le g l
 have hlen2 := hlen
 simp only [lst, List.length_append] at hlen2
 refine j_q (qs_ac) ?_
 refine j_alloc zero169 (fun g1 hg1 hs1 => ?_)
 refine j_call 0 ent115 rfl rfl rfl rfl (fun w' hw' => writeString_con g1 none (.inl rfl) (.slice none 0 0) [] [] o own_nil (by simp; omega) w') (fun u S2 hu => ?_)
 obtain ⟨rfl, bv, cb, rfl, hob⟩ := hu
 rw [List.nil_append] at hob
 refine j_subl (S' := [((g1, .cells [.pointer (some ⟨g1, 0, none⟩), bv].toArray 169 (0, 0)) :: cb)]) (by repeat first | exact slR _ | exact slN _ | apply slC | apply slD) ?_
 refine j_q (qs_lenl U24 rfl) ?_
 refine j_q (qs_mc) ?_
 refine j_loop (fun m vs S' => ∃ (i : Nat) (bv : Value) (cb : SH), vs = [.int .i64 (i : Int)] ∧ S' = [((g1, .cells [.pointer (some ⟨g1, 0, none⟩), bv].toArray 169 (0, 0)) :: cb)] ∧ Sx.Own 5 1 (ints (o ++ cms ((l.take i).map g))) bv cb ∧ i ≤ l.length ∧ m = l.length - i) ⟨_, 0, bv, cb, rfl, rfl, by rw [List.take_zero, show cms (([] : List _).map g) = [] by unfold cms; rfl, List.append_nil]; exact hob, Nat.zero_le _, rfl⟩ ?_
 rintro m vs S' hlen ⟨i, bv, cb, rfl, rfl, hob, hin, rfl⟩
 refine j_q (qs_lss rfl rfl) ?_
 refine j_cond rfl (fun hc0 => ?_) (fun hc0 => ?_)
 ·skip
  have hi : i < l.length := by
   simp only [bnA] at *
   omega
  obtain ⟨rfl, hga, hcells⟩ := hA (by omega)
  have hci := hcl i
  have hci1 := hcl (i + 1)
  refine j_q (qs_ixn (g := ga) (off := off) (i := i) U24 sz68 rfl rfl (by omega)) ?_
  refine j_q (qs_loadrecw (encA := encI) (rs := l) (d := m0) (i := i) encI_len (rd_cells hcells (by simp)) hi U68 rfl sz68 rfl) ?_
  refine j_alloc zero68 (fun g8 hg8 hs8 => ?_)
  refine j_storew (vs := encI (l.getD i m0)) 0 sz68 rfl rfl (encI_len _) (hone i hi) rfl rfl ?_
  refine j_q (qs_gtr rfl rfl) ?_
  refine j_cond rfl (fun hc1 => ?_) (fun hc1 => ?_)
  ·skip
   have h0 : ¬ i = 0 := by
    simp only [bnA] at *
    omega
   have hstep := cms_step g (d := m0) hi
   rw [if_neg h0] at hstep
   rw [hstep] at hci1
   simp only [List.length_append, List.length_cons] at hci1
   refine j_call 1 ent116 rfl rfl rfl rfl (fun w' hw' => writeByte_con g1 (some ⟨g1, 0, none⟩) (.inr rfl) bv cb _ 44 (by decide) hob (by simp only [List.length_append, List.length_cons, List.length_nil]; omega) w') (fun u S2 hu => ?_)
   obtain ⟨rfl, bv2, cb2, rfl, hob2⟩ := hu
   refine j_q (qs_loadw (l := encI (l.getD i m0)) 1 U68 rfl sz68 rfl rfl (encI_len _)) ?_
   refine j_q (qs_callf (v := .string (bs (g (l.getD i m0)))) hen rfl rfl rfl (fun w' hw' => hf i hi _ w' hw')) ?_
   refine j_call 0 ent115 rfl rfl rfl rfl (fun w' hw' => writeString_con g1 (some ⟨g1, 0, none⟩) (.inr rfl) bv2 cb2 _ (g (l.getD i m0)) hob2 (by simp only [List.length_append, List.length_cons, List.length_nil]; omega) w') (fun u S2 hu => ?_)
   obtain ⟨rfl, bv3, cb3, rfl, hob3⟩ := hu
   have hob4 : Sx.Own 5 1 (ints (o ++ cms ((l.take (i + 1)).map g))) bv3 cb3 := by
    rw [hstep]
    have e : o ++ cms ((l.take i).map g) ++ [by8 44] ++ (g (l.getD i m0)) = o ++ (cms ((l.take i).map g) ++ (44 :: (g (l.getD i m0)))) := by rw [show by8 44 = (44 : UInt8) from rfl]; simp
    rw [← e]
    exact hob3
   refine j_subl (S' := [((g1, .cells [.pointer (some ⟨g1, 0, none⟩), bv3].toArray 169 (0, 0)) :: cb3)]) (by repeat first | exact slR _ | exact slN _ | apply slC | apply slD) ?_
   refine j_q (qs_add64 rfl rfl (by omega)) ?_
   refine j_back rfl ?_
   exact ⟨l.length - (i + 1), by omega, i + 1, bv3, cb3, rfl, rfl, hob4, by omega, rfl⟩
  ·skip
   have h0 : i = 0 := by
    simp only [bnA] at *
    omega
   have hstep := cms_step g (d := m0) hi
   rw [if_pos h0] at hstep
   rw [hstep] at hci1
   have hcm0 : cms ((l.take i).map g) = [] := by
    rw [h0, List.take_zero]
    unfold cms
    rfl
   refine j_q (qs_loadw (l := encI (l.getD i m0)) 0 U68 rfl sz68 rfl rfl (encI_len _)) ?_
   refine j_q (qs_callf (v := .string (bs (g (l.getD i m0)))) hen rfl rfl rfl (fun w' hw' => hf i hi _ w' hw')) ?_
   refine j_call 1 ent115 rfl rfl rfl rfl (fun w' hw' => writeString_con g1 (some ⟨g1, 0, none⟩) (.inr rfl) bv cb _ (g (l.getD i m0)) hob (by simp only [List.length_append, List.length_cons, List.length_nil]; omega) w') (fun u S2 hu => ?_)
   obtain ⟨rfl, bv3, cb3, rfl, hob3⟩ := hu
   have hob4 : Sx.Own 5 1 (ints (o ++ cms ((l.take (i + 1)).map g))) bv3 cb3 := by
    rw [hstep]
    rw [hcm0, List.append_nil] at hob3
    exact hob3
   refine j_subl (S' := [((g1, .cells [.pointer (some ⟨g1, 0, none⟩), bv3].toArray 169 (0, 0)) :: cb3)]) (by repeat first | exact slR _ | exact slN _ | apply slC | apply slD) ?_
   refine j_q (qs_add64 rfl rfl (by omega)) ?_
   refine j_back rfl ?_
   exact ⟨l.length - (i + 1), by omega, i + 1, bv3, cb3, rfl, rfl, hob4, by omega, rfl⟩
 ·skip
  obtain rfl : i = l.length := by
   simp only [bnA] at *
   omega
  rw [List.take_length] at hob
  refine j_call 0 ent115 rfl rfl rfl rfl (fun w' hw' => writeString_con g1 (some ⟨g1, 0, none⟩) (.inr rfl) bv cb _ c hob (by simp only [List.length_append, List.length_cons, List.length_nil]; omega) w') (fun u S2 hu => ?_)
  obtain ⟨rfl, bv2, cb2, rfl, hob2⟩ := hu
  refine j_call 0 ent117 rfl rfl rfl rfl (fun w' hw' => string_con g1 _ bv2 cb2 _ (by simp [ho0]) (by simp only [List.length_append, List.length_cons, List.length_nil]; omega) hob2 w') (fun u S2 hu => ?_)
  obtain ⟨rfl, rfl⟩ := hu
  refine j_ret_con (vs := [_]) (fun w' hw' => ⟨rfl, trivial⟩) ?_
  rfl
theorem listV_con (l : List PV) (v : Value) (o c : Bs) (f : Nat) (g : PV → Bs) (w : World) (hv : RSlN 2 w v (l.map encV).flatten l.length) (hen : Sx.Enters Tryz.prog f) (hf : ∀ i, i < l.length → ∀ S w', Sig ⟨w, dom []⟩ S w' → Con Tryz.prog f [.agg (encV (l.getD i v0)).toArray] w' [] fun u _ => u = .string (bs (g (l.getD i v0)))) (ho0 : o ≠ []) (hn : l.length ≤ 1099511627776) (hlen : (lst o (l.map g) c).length ≤ 1099511627776) : Con Tryz.prog 73 [.string (bs o), v, .func (.func f) #[] #[], .string (bs c)] w [] fun u _ => u = .string (bs (lst o (l.map g) c)) := by
 refine con_of_tree mix Tryz.func73 T73_ok (by kernel_rfl) ?_
 unfold T73
 obtain ⟨A, cap, ga, off, rfl, hcap, hA⟩ := rsln_form hv
 have hcl := cms_take_le g l
 have hlen2 := hlen
 simp only [lst, List.length_append] at hlen2
 refine j_q (qs_ac) ?_
 refine j_alloc zero169 (fun g1 hg1 hs1 => ?_)
 refine j_call 0 ent115 rfl rfl rfl rfl (fun w' hw' => writeString_con g1 none (.inl rfl) (.slice none 0 0) [] [] o own_nil (by simp; omega) w') (fun u S2 hu => ?_)
 obtain ⟨rfl, bv, cb, rfl, hob⟩ := hu
 rw [List.nil_append] at hob
 refine j_subl (S' := [((g1, .cells [.pointer (some ⟨g1, 0, none⟩), bv].toArray 169 (0, 0)) :: cb)]) (by repeat first | exact slR _ | exact slN _ | apply slC | apply slD) ?_
 refine j_q (qs_lenl U23 rfl) ?_
 refine j_q (qs_mc) ?_
 refine j_loop (fun m vs S' => ∃ (i : Nat) (bv : Value) (cb : SH), vs = [.int .i64 (i : Int)] ∧ S' = [((g1, .cells [.pointer (some ⟨g1, 0, none⟩), bv].toArray 169 (0, 0)) :: cb)] ∧ Sx.Own 5 1 (ints (o ++ cms ((l.take i).map g))) bv cb ∧ i ≤ l.length ∧ m = l.length - i) ⟨_, 0, bv, cb, rfl, rfl, by rw [List.take_zero, show cms (([] : List _).map g) = [] by unfold cms; rfl, List.append_nil]; exact hob, Nat.zero_le _, rfl⟩ ?_
 rintro m vs S' hlen ⟨i, bv, cb, rfl, rfl, hob, hin, rfl⟩
 refine j_q (qs_lss rfl rfl) ?_
 refine j_cond rfl (fun hc0 => ?_) (fun hc0 => ?_)
 ·skip
  have hi : i < l.length := by
   simp only [bnA] at *
   omega
  obtain ⟨rfl, hga, hcells⟩ := hA (by omega)
  have hci := hcl i
  have hci1 := hcl (i + 1)
  refine j_q (qs_ixn (g := ga) (off := off) (i := i) U23 sz48 rfl rfl (by omega)) ?_
  refine j_q (qs_loadrecw (encA := encV) (rs := l) (d := v0) (i := i) encV_len (rd_cells hcells (by simp)) hi U48 rfl sz48 rfl) ?_
  refine j_alloc zero48 (fun g8 hg8 hs8 => ?_)
  refine j_storew (vs := encV (l.getD i v0)) 0 sz48 rfl rfl (encV_len _) (encV_one _) rfl rfl ?_
  refine j_q (qs_gtr rfl rfl) ?_
  refine j_cond rfl (fun hc1 => ?_) (fun hc1 => ?_)
  ·skip
   have h0 : ¬ i = 0 := by
    simp only [bnA] at *
    omega
   have hstep := cms_step g (d := v0) hi
   rw [if_neg h0] at hstep
   rw [hstep] at hci1
   simp only [List.length_append, List.length_cons] at hci1
   refine j_call 1 ent116 rfl rfl rfl rfl (fun w' hw' => writeByte_con g1 (some ⟨g1, 0, none⟩) (.inr rfl) bv cb _ 44 (by decide) hob (by simp only [List.length_append, List.length_cons, List.length_nil]; omega) w') (fun u S2 hu => ?_)
   obtain ⟨rfl, bv2, cb2, rfl, hob2⟩ := hu
   refine j_q (qs_loadw (l := encV (l.getD i v0)) 1 U48 rfl sz48 rfl rfl (encV_len _)) ?_
   refine j_q (qs_callf (v := .string (bs (g (l.getD i v0)))) hen rfl rfl rfl (fun w' hw' => hf i hi _ w' hw')) ?_
   refine j_call 0 ent115 rfl rfl rfl rfl (fun w' hw' => writeString_con g1 (some ⟨g1, 0, none⟩) (.inr rfl) bv2 cb2 _ (g (l.getD i v0)) hob2 (by simp only [List.length_append, List.length_cons, List.length_nil]; omega) w') (fun u S2 hu => ?_)
   obtain ⟨rfl, bv3, cb3, rfl, hob3⟩ := hu
   have hob4 : Sx.Own 5 1 (ints (o ++ cms ((l.take (i + 1)).map g))) bv3 cb3 := by
    rw [hstep]
    have e : o ++ cms ((l.take i).map g) ++ [by8 44] ++ (g (l.getD i v0)) = o ++ (cms ((l.take i).map g) ++ (44 :: (g (l.getD i v0)))) := by rw [show by8 44 = (44 : UInt8) from rfl]; simp
    rw [← e]
    exact hob3
   refine j_subl (S' := [((g1, .cells [.pointer (some ⟨g1, 0, none⟩), bv3].toArray 169 (0, 0)) :: cb3)]) (by repeat first | exact slR _ | exact slN _ | apply slC | apply slD) ?_
   refine j_q (qs_add64 rfl rfl (by omega)) ?_
   refine j_back rfl ?_
   exact ⟨l.length - (i + 1), by omega, i + 1, bv3, cb3, rfl, rfl, hob4, by omega, rfl⟩
  ·skip
   have h0 : i = 0 := by
    simp only [bnA] at *
    omega
   have hstep := cms_step g (d := v0) hi
   rw [if_pos h0] at hstep
   rw [hstep] at hci1
   have hcm0 : cms ((l.take i).map g) = [] := by
    rw [h0, List.take_zero]
    unfold cms
    rfl
   refine j_q (qs_loadw (l := encV (l.getD i v0)) 0 U48 rfl sz48 rfl rfl (encV_len _)) ?_
   refine j_q (qs_callf (v := .string (bs (g (l.getD i v0)))) hen rfl rfl rfl (fun w' hw' => hf i hi _ w' hw')) ?_
   refine j_call 1 ent115 rfl rfl rfl rfl (fun w' hw' => writeString_con g1 (some ⟨g1, 0, none⟩) (.inr rfl) bv cb _ (g (l.getD i v0)) hob (by simp only [List.length_append, List.length_cons, List.length_nil]; omega) w') (fun u S2 hu => ?_)
   obtain ⟨rfl, bv3, cb3, rfl, hob3⟩ := hu
   have hob4 : Sx.Own 5 1 (ints (o ++ cms ((l.take (i + 1)).map g))) bv3 cb3 := by
    rw [hstep]
    rw [hcm0, List.append_nil] at hob3
    exact hob3
   refine j_subl (S' := [((g1, .cells [.pointer (some ⟨g1, 0, none⟩), bv3].toArray 169 (0, 0)) :: cb3)]) (by repeat first | exact slR _ | exact slN _ | apply slC | apply slD) ?_
   refine j_q (qs_add64 rfl rfl (by omega)) ?_
   refine j_back rfl ?_
   exact ⟨l.length - (i + 1), by omega, i + 1, bv3, cb3, rfl, rfl, hob4, by omega, rfl⟩
 ·skip
  obtain rfl : i = l.length := by
   simp only [bnA] at *
   omega
  rw [List.take_length] at hob
  refine j_call 0 ent115 rfl rfl rfl rfl (fun w' hw' => writeString_con g1 (some ⟨g1, 0, none⟩) (.inr rfl) bv cb _ c hob (by simp only [List.length_append, List.length_cons, List.length_nil]; omega) w') (fun u S2 hu => ?_)
  obtain ⟨rfl, bv2, cb2, rfl, hob2⟩ := hu
  refine j_call 0 ent117 rfl rfl rfl rfl (fun w' hw' => string_con g1 _ bv2 cb2 _ (by simp [ho0]) (by simp only [List.length_append, List.length_cons, List.length_nil]; omega) hob2 w') (fun u S2 hu => ?_)
  obtain ⟨rfl, rfl⟩ := hu
  refine j_ret_con (vs := [_]) (fun w' hw' => ⟨rfl, trivial⟩) ?_
  rfl
theorem listS_con (l : List Bs) (v : Value) (o c : Bs) (f : Nat) (g : Bs → Bs) (w : World) (hv : StrZ w v l) (hen : Sx.Enters Tryz.prog f) (hf : ∀ i, i < l.length → ∀ S w', Sig ⟨w, dom []⟩ S w' → Con Tryz.prog f [.string (bs (l.getD i []))] w' [] fun u _ => u = .string (bs (g (l.getD i [])))) (ho0 : o ≠ []) (hn : l.length ≤ 1099511627776) (hlen : (lst o (l.map g) c).length ≤ 1099511627776) : Con Tryz.prog 118 [.string (bs o), v, .func (.func f) #[] #[], .string (bs c)] w [] fun u _ => u = .string (bs (lst o (l.map g) c)) := by
 refine con_of_tree mix Tryz.func118 T118_ok (by kernel_rfl) ?_
 unfold T118
 obtain ⟨A, cap, rfl, hcap⟩ := strz_form hv
 have hcl := cms_take_le g l
 have hlen2 := hlen
 simp only [lst, List.length_append] at hlen2
 refine j_q (qs_ac) ?_
 refine j_alloc zero169 (fun g1 hg1 hs1 => ?_)
 refine j_call 0 ent115 rfl rfl rfl rfl (fun w' hw' => writeString_con g1 none (.inl rfl) (.slice none 0 0) [] [] o own_nil (by simp; omega) w') (fun u S2 hu => ?_)
 obtain ⟨rfl, bv, cb, rfl, hob⟩ := hu
 rw [List.nil_append] at hob
 refine j_subl (S' := [((g1, .cells [.pointer (some ⟨g1, 0, none⟩), bv].toArray 169 (0, 0)) :: cb)]) (by repeat first | exact slR _ | exact slN _ | apply slC | apply slD) ?_
 refine j_q (qs_lenl U22 rfl) ?_
 refine j_q (qs_mc) ?_
 refine j_loop (fun m vs S' => ∃ (i : Nat) (bv : Value) (cb : SH), vs = [.int .i64 (i : Int)] ∧ S' = [((g1, .cells [.pointer (some ⟨g1, 0, none⟩), bv].toArray 169 (0, 0)) :: cb)] ∧ Sx.Own 5 1 (ints (o ++ cms ((l.take i).map g))) bv cb ∧ i ≤ l.length ∧ m = l.length - i) ⟨_, 0, bv, cb, rfl, rfl, by rw [List.take_zero, show cms (([] : List _).map g) = [] by unfold cms; rfl, List.append_nil]; exact hob, Nat.zero_le _, rfl⟩ ?_
 rintro m vs S' hlen ⟨i, bv, cb, rfl, rfl, hob, hin, rfl⟩
 refine j_q (qs_lss rfl rfl) ?_
 refine j_cond rfl (fun hc0 => ?_) (fun hc0 => ?_)
 ·skip
  have hi : i < l.length := by
   simp only [bnA] at *
   omega
  obtain ⟨ga, off, rfl, hga, hcells⟩ := strz_addr hv (by omega)
  have hci := hcl i
  have hci1 := hcl (i + 1)
  refine j_q (qs_ixl0 U22 sz9 rfl rfl (by omega)) ?_
  refine j_q (qs_loadrs (rd_cells hcells (by simp)) U9 rfl (by simp only [Int.toNat_natCast]; omega)) ?_
  simp only [Int.toNat_natCast]
  refine j_q (qs_gtr rfl rfl) ?_
  refine j_cond rfl (fun hc1 => ?_) (fun hc1 => ?_)
  ·skip
   have h0 : ¬ i = 0 := by
    simp only [bnA] at *
    omega
   have hstep := cms_step g (d := []) hi
   rw [if_neg h0] at hstep
   rw [hstep] at hci1
   simp only [List.length_append, List.length_cons] at hci1
   refine j_call 0 ent116 rfl rfl rfl rfl (fun w' hw' => writeByte_con g1 (some ⟨g1, 0, none⟩) (.inr rfl) bv cb _ 44 (by decide) hob (by simp only [List.length_append, List.length_cons, List.length_nil]; omega) w') (fun u S2 hu => ?_)
   obtain ⟨rfl, bv2, cb2, rfl, hob2⟩ := hu
   refine j_q (qs_callf (v := .string (bs (g (l.getD i [])))) hen rfl rfl rfl (fun w' hw' => hf i hi _ w' hw')) ?_
   refine j_call 0 ent115 rfl rfl rfl rfl (fun w' hw' => writeString_con g1 (some ⟨g1, 0, none⟩) (.inr rfl) bv2 cb2 _ (g (l.getD i [])) hob2 (by simp only [List.length_append, List.length_cons, List.length_nil]; omega) w') (fun u S2 hu => ?_)
   obtain ⟨rfl, bv3, cb3, rfl, hob3⟩ := hu
   have hob4 : Sx.Own 5 1 (ints (o ++ cms ((l.take (i + 1)).map g))) bv3 cb3 := by
    rw [hstep]
    have e : o ++ cms ((l.take i).map g) ++ [by8 44] ++ (g (l.getD i [])) = o ++ (cms ((l.take i).map g) ++ (44 :: (g (l.getD i [])))) := by rw [show by8 44 = (44 : UInt8) from rfl]; simp
    rw [← e]
    exact hob3
   refine j_subl (S' := [((g1, .cells [.pointer (some ⟨g1, 0, none⟩), bv3].toArray 169 (0, 0)) :: cb3)]) (by repeat first | exact slR _ | exact slN _ | apply slC | apply slD) ?_
   refine j_q (qs_add64 rfl rfl (by omega)) ?_
   refine j_back rfl ?_
   exact ⟨l.length - (i + 1), by omega, i + 1, bv3, cb3, rfl, rfl, hob4, by omega, rfl⟩
  ·skip
   have h0 : i = 0 := by
    simp only [bnA] at *
    omega
   have hstep := cms_step g (d := []) hi
   rw [if_pos h0] at hstep
   rw [hstep] at hci1
   have hcm0 : cms ((l.take i).map g) = [] := by
    rw [h0, List.take_zero]
    unfold cms
    rfl
   refine j_q (qs_callf (v := .string (bs (g (l.getD i [])))) hen rfl rfl rfl (fun w' hw' => hf i hi _ w' hw')) ?_
   refine j_call 0 ent115 rfl rfl rfl rfl (fun w' hw' => writeString_con g1 (some ⟨g1, 0, none⟩) (.inr rfl) bv cb _ (g (l.getD i [])) hob (by simp only [List.length_append, List.length_cons, List.length_nil]; omega) w') (fun u S2 hu => ?_)
   obtain ⟨rfl, bv3, cb3, rfl, hob3⟩ := hu
   have hob4 : Sx.Own 5 1 (ints (o ++ cms ((l.take (i + 1)).map g))) bv3 cb3 := by
    rw [hstep]
    rw [hcm0, List.append_nil] at hob3
    exact hob3
   refine j_subl (S' := [((g1, .cells [.pointer (some ⟨g1, 0, none⟩), bv3].toArray 169 (0, 0)) :: cb3)]) (by repeat first | exact slR _ | exact slN _ | apply slC | apply slD) ?_
   refine j_q (qs_add64 rfl rfl (by omega)) ?_
   refine j_back rfl ?_
   exact ⟨l.length - (i + 1), by omega, i + 1, bv3, cb3, rfl, rfl, hob4, by omega, rfl⟩
 ·skip
  obtain rfl : i = l.length := by
   simp only [bnA] at *
   omega
  rw [List.take_length] at hob
  refine j_call 0 ent115 rfl rfl rfl rfl (fun w' hw' => writeString_con g1 (some ⟨g1, 0, none⟩) (.inr rfl) bv cb _ c hob (by simp only [List.length_append, List.length_cons, List.length_nil]; omega) w') (fun u S2 hu => ?_)
  obtain ⟨rfl, bv2, cb2, rfl, hob2⟩ := hu
  refine j_call 0 ent117 rfl rfl rfl rfl (fun w' hw' => string_con g1 _ bv2 cb2 _ (by simp [ho0]) (by simp only [List.length_append, List.length_cons, List.length_nil]; omega) hob2 w') (fun u S2 hu => ?_)
  obtain ⟨rfl, rfl⟩ := hu
  refine j_ret_con (vs := [_]) (fun w' hw' => ⟨rfl, trivial⟩) ?_
  rfl
theorem listP_con (l : List Bs) (v : Value) (o c : Bs) (f : Nat) (g : Bs → Bs) (w : World) (hv : StrZ w v l) (hen : Sx.Enters Tryz.prog f) (hf : ∀ i, i < l.length → ∀ S w', Sig ⟨w, dom []⟩ S w' → Con Tryz.prog f [.string (bs (l.getD i []))] w' [] fun u _ => u = .string (bs (g (l.getD i [])))) (ho0 : o ≠ []) (hn : l.length ≤ 1099511627776) (hlen : (lst o (l.map g) c).length ≤ 1099511627776) : Con Tryz.prog 123 [.string (bs o), v, .func (.func f) #[] #[], .string (bs c)] w [] fun u _ => u = .string (bs (lst o (l.map g) c)) := by
 refine con_of_tree mix Tryz.func123 T123_ok (by kernel_rfl) ?_
 unfold T123
 obtain ⟨A, cap, rfl, hcap⟩ := strz_form hv
 have hcl := cms_take_le g l
 have hlen2 := hlen
 simp only [lst, List.length_append] at hlen2
 refine j_q (qs_ac) ?_
 refine j_alloc zero169 (fun g1 hg1 hs1 => ?_)
 refine j_call 0 ent115 rfl rfl rfl rfl (fun w' hw' => writeString_con g1 none (.inl rfl) (.slice none 0 0) [] [] o own_nil (by simp; omega) w') (fun u S2 hu => ?_)
 obtain ⟨rfl, bv, cb, rfl, hob⟩ := hu
 rw [List.nil_append] at hob
 refine j_subl (S' := [((g1, .cells [.pointer (some ⟨g1, 0, none⟩), bv].toArray 169 (0, 0)) :: cb)]) (by repeat first | exact slR _ | exact slN _ | apply slC | apply slD) ?_
 refine j_q (qs_lenl U25 rfl) ?_
 refine j_q (qs_mc) ?_
 refine j_loop (fun m vs S' => ∃ (i : Nat) (bv : Value) (cb : SH), vs = [.int .i64 (i : Int)] ∧ S' = [((g1, .cells [.pointer (some ⟨g1, 0, none⟩), bv].toArray 169 (0, 0)) :: cb)] ∧ Sx.Own 5 1 (ints (o ++ cms ((l.take i).map g))) bv cb ∧ i ≤ l.length ∧ m = l.length - i) ⟨_, 0, bv, cb, rfl, rfl, by rw [List.take_zero, show cms (([] : List _).map g) = [] by unfold cms; rfl, List.append_nil]; exact hob, Nat.zero_le _, rfl⟩ ?_
 rintro m vs S' hlen ⟨i, bv, cb, rfl, rfl, hob, hin, rfl⟩
 refine j_q (qs_lss rfl rfl) ?_
 refine j_cond rfl (fun hc0 => ?_) (fun hc0 => ?_)
 ·skip
  have hi : i < l.length := by
   simp only [bnA] at *
   omega
  obtain ⟨ga, off, rfl, hga, hcells⟩ := strz_addr hv (by omega)
  have hci := hcl i
  have hci1 := hcl (i + 1)
  refine j_q (qs_ixl0 U25 sz49 rfl rfl (by omega)) ?_
  refine j_q (qs_loadrs (rd_cells hcells (by simp)) U49 rfl (by simp only [Int.toNat_natCast]; omega)) ?_
  simp only [Int.toNat_natCast]
  refine j_q (qs_gtr rfl rfl) ?_
  refine j_cond rfl (fun hc1 => ?_) (fun hc1 => ?_)
  ·skip
   have h0 : ¬ i = 0 := by
    simp only [bnA] at *
    omega
   have hstep := cms_step g (d := []) hi
   rw [if_neg h0] at hstep
   rw [hstep] at hci1
   simp only [List.length_append, List.length_cons] at hci1
   refine j_call 0 ent116 rfl rfl rfl rfl (fun w' hw' => writeByte_con g1 (some ⟨g1, 0, none⟩) (.inr rfl) bv cb _ 44 (by decide) hob (by simp only [List.length_append, List.length_cons, List.length_nil]; omega) w') (fun u S2 hu => ?_)
   obtain ⟨rfl, bv2, cb2, rfl, hob2⟩ := hu
   refine j_q (qs_callf (v := .string (bs (g (l.getD i [])))) hen rfl rfl rfl (fun w' hw' => hf i hi _ w' hw')) ?_
   refine j_call 0 ent115 rfl rfl rfl rfl (fun w' hw' => writeString_con g1 (some ⟨g1, 0, none⟩) (.inr rfl) bv2 cb2 _ (g (l.getD i [])) hob2 (by simp only [List.length_append, List.length_cons, List.length_nil]; omega) w') (fun u S2 hu => ?_)
   obtain ⟨rfl, bv3, cb3, rfl, hob3⟩ := hu
   have hob4 : Sx.Own 5 1 (ints (o ++ cms ((l.take (i + 1)).map g))) bv3 cb3 := by
    rw [hstep]
    have e : o ++ cms ((l.take i).map g) ++ [by8 44] ++ (g (l.getD i [])) = o ++ (cms ((l.take i).map g) ++ (44 :: (g (l.getD i [])))) := by rw [show by8 44 = (44 : UInt8) from rfl]; simp
    rw [← e]
    exact hob3
   refine j_subl (S' := [((g1, .cells [.pointer (some ⟨g1, 0, none⟩), bv3].toArray 169 (0, 0)) :: cb3)]) (by repeat first | exact slR _ | exact slN _ | apply slC | apply slD) ?_
   refine j_q (qs_add64 rfl rfl (by omega)) ?_
   refine j_back rfl ?_
   exact ⟨l.length - (i + 1), by omega, i + 1, bv3, cb3, rfl, rfl, hob4, by omega, rfl⟩
  ·skip
   have h0 : i = 0 := by
    simp only [bnA] at *
    omega
   have hstep := cms_step g (d := []) hi
   rw [if_pos h0] at hstep
   rw [hstep] at hci1
   have hcm0 : cms ((l.take i).map g) = [] := by
    rw [h0, List.take_zero]
    unfold cms
    rfl
   refine j_q (qs_callf (v := .string (bs (g (l.getD i [])))) hen rfl rfl rfl (fun w' hw' => hf i hi _ w' hw')) ?_
   refine j_call 0 ent115 rfl rfl rfl rfl (fun w' hw' => writeString_con g1 (some ⟨g1, 0, none⟩) (.inr rfl) bv cb _ (g (l.getD i [])) hob (by simp only [List.length_append, List.length_cons, List.length_nil]; omega) w') (fun u S2 hu => ?_)
   obtain ⟨rfl, bv3, cb3, rfl, hob3⟩ := hu
   have hob4 : Sx.Own 5 1 (ints (o ++ cms ((l.take (i + 1)).map g))) bv3 cb3 := by
    rw [hstep]
    rw [hcm0, List.append_nil] at hob3
    exact hob3
   refine j_subl (S' := [((g1, .cells [.pointer (some ⟨g1, 0, none⟩), bv3].toArray 169 (0, 0)) :: cb3)]) (by repeat first | exact slR _ | exact slN _ | apply slC | apply slD) ?_
   refine j_q (qs_add64 rfl rfl (by omega)) ?_
   refine j_back rfl ?_
   exact ⟨l.length - (i + 1), by omega, i + 1, bv3, cb3, rfl, rfl, hob4, by omega, rfl⟩
 ·skip
  obtain rfl : i = l.length := by
   simp only [bnA] at *
   omega
  rw [List.take_length] at hob
  refine j_call 0 ent115 rfl rfl rfl rfl (fun w' hw' => writeString_con g1 (some ⟨g1, 0, none⟩) (.inr rfl) bv cb _ c hob (by simp only [List.length_append, List.length_cons, List.length_nil]; omega) w') (fun u S2 hu => ?_)
  obtain ⟨rfl, bv2, cb2, rfl, hob2⟩ := hu
  refine j_call 0 ent117 rfl rfl rfl rfl (fun w' hw' => string_con g1 _ bv2 cb2 _ (by simp [ho0]) (by simp only [List.length_append, List.length_cons, List.length_nil]; omega) hob2 w') (fun u S2 hu => ?_)
  obtain ⟨rfl, rfl⟩ := hu
  refine j_ret_con (vs := [_]) (fun w' hw' => ⟨rfl, trivial⟩) ?_
  rfl
end Go.Proofs.YtfeabbeebkkhaaaGreat
