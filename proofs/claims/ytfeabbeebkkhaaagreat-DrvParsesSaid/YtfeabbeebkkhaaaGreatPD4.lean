/- Part 4. -/
import Derived.Test.YtfeabbeebkkhaaaGreatPD3
import Derived.SliceStrings
import Derived.Laws.LoneSync
import Derived.Test.YtfeabbeebkkhaaaGreatPD2
/-! Sx17 -/
namespace Go.Sx
open Go Go.MapKept Go.WideMaps Go.Maps
set_option linter.unusedVariables false
set_option linter.unusedSimpArgs false
set_option linter.unusedSectionVars false
variable {P : Program} {R : Ending → World → Prop} {env : Env} {b : Base} {S : List SH} {B : JB} {T : Tree} {v : Value} {ty : TypeId}
def RdO (b : Base) (S : List SH) (g : Nat) (o : Obj) : Prop := ∀ w, Sig b S w → w.heap[g]? = some o
theorem rdo_base {g : Nat} {o : Obj} (h : b.w0.heap[g]? = some o) (hD : g ∉ b.D) : RdO b S g o := fun w hw => (hw.frame g (lt_of_get h) hD).trans h
theorem rd_rdo {g off n : Nat} {l vs : List Value} {e : TypeId} {fz : Nat × Nat} (hr : RdO b S g (.cells l.toArray e fz)) (h : (l.drop off).take n = vs) : Rd b S ⟨g, off, none⟩ vs := fun w hw j u hu => by
  subst h
  rw [add_off, cell_of (hr w hw)]
  rw [List.getElem?_take] at hu
  split at hu
  · rwa [List.getElem?_drop] at hu
  · cases hu
theorem qs_loadO {t : TypeId} {d : TypeDesc} {x : Operand} {g i : Nat} {l : List Value} {e : TypeId} {fz : Nat × Nat} {u : Value} (hr : RdO b S g (.cells l.toArray e fz)) (hu : P.underlying t = some d) (hd : flat d = true) (hx : ev env x = .pointer (some ⟨g, i, none⟩)) (hi : l[i]? = some u) :
    QS P (O (.load t x) ty) env b S u := by
  refine qs_loadR (vs := l) (a := ⟨g, 0, none⟩) (i := i) (rd_rdo (n := l.length) hr (by simp)) hu hd (by rw [add_off, Nat.zero_add]; exact hx) hi
section
variable {κ : Type} [DecidableEq κ] {enc : κ → Value} {ok : κ → Prop} {es : Array MapEntry} {clock : Nat} {m : List (κ × Value)} {kt : TypeId}
end
theorem j_litw {t e : TypeId} {x : Operand} {vs z : List Value} {sz : Nat} (ht : P.underlying t = some (.slice e)) (hz : (P.info? e).map (·.size) = some sz) (h0 : zeroL P e = some z) (hzl : z.length = sz) (hx : ev env x = .agg vs.toArray) (hl : vs.length = sz ∧ 0 < sz ∧ sz ≤ 1000)
    (h : ∀ g, b.w0.heap.size ≤ g → Own e sz vs (.slice (some ⟨g, 0, none⟩) 1 1) [(g, .cells vs.toArray e (0, 0))] → J P R T (.slice (some ⟨g, 0, none⟩) 1 1 :: env) ([(g, .cells vs.toArray e (0, 0))] :: S) b B) : J P R (.op (O (.buildSlice t 1 #[(0, x)]) ty) T) env S b B := fun w hw => by
  obtain ⟨zv, hzv, hrunz⟩ := run_zero_ok h0
  obtain ⟨hl, hs0, hs1⟩ := hl
  have hrun : (execOp (ev env) (O (.buildSlice t 1 #[(0, x)]) ty)).run P w = .ok (.value (.slice (some ⟨w.heap.size, 0, none⟩) 1 1)) (w.alloc (.cells vs.toArray e)) := by
    have hgt : ¬ (1 * sz > 2 ^ 24) := by omega
    have hne : ¬ (1 * sz = 0) := by omega
    have hf : ∀ zs : Array Value, zs.size = 1 * sz → Instr.fill (fun i => some (i * sz, sz)) zs [(0, Value.agg vs.toArray)] = some vs.toArray := by
      intro zs hzs
      have := fill_put (place := fun i => some (i * sz, sz)) [(0, Value.agg vs.toArray)] [(0, vs)] zs.toList rfl fun j p q hp hq => by
        cases j with
        | zero =>
          simp only [List.getElem?_cons_zero, Option.some.injEq] at hp hq
          subst hp hq
          refine ⟨by rw [hl, Nat.zero_mul], rfl, by show 0 + vs.length ≤ zs.size; rw [hzs, hl]; omega⟩
        | succ j => simp at hp
      simp only [Array.toArray_toList] at this
      rw [this]
      congr 2
      simp only [List.foldl_cons, List.foldl_nil]
      unfold putAt
      rw [List.take_zero, List.nil_append, Nat.zero_add, List.drop_of_length_le (by rw [Array.length_toList, hzs, hl]; omega), List.append_nil]
    have hp : (#[(0, x)].map fun p : Nat × Operand => (p.1, ev env p.2)).toList = [(0, Value.agg vs.toArray)] := by simp [hx]
    simp only [O, execOp, Instr.buildSlice, Sem.run_bind, run_underlying_ok ht, Result.andThen_ok, run_sizeOf_ok hz, if_neg hgt, if_neg hne, hrunz, Sem.run_pure]
    rw [hp, hf _ (by simp)]
    rfl
  show opW _ _ _ _ _ _
  unfold opW
  rw [hrun]
  obtain ⟨h1, h2, h3⟩ := hw.new (o := .cells vs.toArray e) (w' := w.alloc (.cells vs.toArray e)) rfl rfl rfl rfl
  exact h w.heap.size h3 (.inr ⟨w.heap.size, 1, 1, [], (0, 0), rfl, by simp, by omega, by simp; omega, Nat.le_refl _, fun _ _ h => by omega⟩) _ h1
theorem qs_mkfunc {f : FuncId} {xs ys : Array Operand} : QS P (O (.makeFunc (.func f) xs ys) ty) env b S (.func (.func f) (xs.map (ev env)) (ys.map (ev env))) := qs_run fun w => by
  simp only [O, execOp, Instr.makeFunc, Sem.run_bind, Sem.run_pure, Result.andThen_ok]
theorem qs_mkfunc1 {f : FuncId} {x : Operand} {v : Value} (hx : ev env x = v) : QS P (O (.makeFunc (.func f) #[] #[x]) ty) env b S (.func (.func f) #[] #[v]) := by
  have := qs_mkfunc (P := P) (env := env) (b := b) (S := S) (ty := ty) (f := f) (xs := #[]) (ys := #[x])
  simpa [hx] using this
theorem qs_callf {o : Oper} {v : Value} {f : FuncId} {xs : Array Operand} {tys : Array TypeId} {g : Operand} {args : List Value} {first cap : Array Value} (h : Enters P f) (ho : o.op = .call ⟨.value g, xs, tys⟩) (hg : ev env g = .func (.func f) first cap) (ha : first.toList ++ xs.toList.map (ev env) ++ cap.toList = args)
    (hc : ∀ w, Sig b S w → Con P f args w [] fun u _ => u = v) : QS P o env b S v := fun w hw => by
  unfold qAt
  rw [run_call h g ho hg w]
  have e : (first ++ xs.map (ev env) ++ cap : Array Value) = args.toArray := by
    rw [← ha]; apply Array.ext'; simp
  rw [e]
  refine ⟨rfl, (hc w hw (by simp) (by simp)).mono ?_⟩
  rintro e w' ⟨u, S', rfl, rfl, hS⟩
  refine ⟨rfl, ?_⟩
  have := Sig.call (Fp := []) (Fr := S.flatten) (S2 := S'.flatten :: S) hw (by simp) hS (by simp)
  exact this.sub (by simp)
end Go.Sx
/-! Sx18 -/
namespace Go.Sx
open Go Go.ChangeShapes Go.WideShapes Go.ChangeAt Go.RowKit
set_option linter.unusedVariables false
def RSlN (n : Nat) (w : World) (v : Value) (vs : List Value) (len : Nat) : Prop :=
  vs.length = len * n ∧ ((v = .slice none 0 0 ∧ len = 0) ∨ ∃ g off cap, v = .slice (some ⟨g, off, none⟩) len cap ∧ g < w.heap.size ∧ len ≤ cap ∧ Cells w ⟨g, off, none⟩ vs)
theorem rsln_form {n : Nat} {w : World} {v : Value} {vs : List Value} {len : Nat} (h : RSlN n w v vs len) : ∃ A cap g off, v = .slice A len cap ∧ len ≤ cap ∧ (0 < len → A = some ⟨g, off, none⟩ ∧ g < w.heap.size ∧ Cells w ⟨g, off, none⟩ vs) := by
  rcases h with ⟨_, ⟨rfl, rfl⟩ | ⟨g, off, cap, rfl, h1, h2, h3⟩⟩
  · exact ⟨none, 0, 0, 0, rfl, Nat.le_refl _, fun h => by omega⟩
  · exact ⟨_, cap, g, off, rfl, h2, fun _ => ⟨rfl, h1, h3⟩⟩
theorem rsln_keep {n : Nat} {w w' : World} {v : Value} {vs : List Value} {len : Nat} (h : RSlN n w v vs len) {S : List SH} (hs : Sig ⟨w, dom []⟩ S w') : RSlN n w' v vs len := by
  obtain ⟨h0, h | ⟨g, off, cap, rfl, h1, h2, h3⟩⟩ := h
  · exact ⟨h0, .inl h⟩
  · exact ⟨h0, .inr ⟨g, off, cap, rfl, Nat.lt_of_lt_of_le h1 hs.size, h2, cells_stay h3 hs (by simp)⟩⟩
section
variable {α : Type}
theorem flat_len {encA : α → List Value} {n : Nat} (hl : ∀ a, (encA a).length = n) (rs : List α) : (rs.map encA).flatten.length = rs.length * n := by
  induction rs with
  | nil => simp
  | cons a rs ih => simp only [List.map_cons, List.flatten_cons, List.length_append, hl, ih, List.length_cons, Nat.add_mul, Nat.one_mul]; omega
theorem flat_get {encA : α → List Value} {n : Nat} (hl : ∀ a, (encA a).length = n) : ∀ (rs : List α) (i k : Nat), k < n → (rs.map encA).flatten[i * n + k]? = (rs[i]?).bind fun a => (encA a)[k]?
  | [], i, k, hk => by simp
  | a :: rs, 0, k, hk => by
    rw [List.map_cons, List.flatten_cons, Nat.zero_mul, Nat.zero_add, List.getElem?_append_left (by rw [hl]; exact hk)]
    rfl
  | a :: rs, i + 1, k, hk => by
    have ih := flat_get hl rs i k hk
    rw [List.map_cons, List.flatten_cons, List.getElem?_append_right (by rw [hl, Nat.add_mul, Nat.one_mul]; omega), hl, show (i + 1) * n + k - n = i * n + k by rw [Nat.add_mul, Nat.one_mul]; omega, ih]
    rfl
end
end Go.Sx
/-! Sx19 -/
namespace Go.Sx
open Go Go.MapKept Go.WideMaps Go.Maps
set_option linter.unusedVariables false
set_option linter.unusedSimpArgs false
set_option linter.unusedSectionVars false
variable {P : Program} {R : Ending → World → Prop} {env : Env} {b : Base} {S : List SH} {B : JB} {T : Tree} {v : Value} {ty : TypeId}
theorem qs_ixn {t e : TypeId} {x y : Operand} {n c sz g off i : Nat} {k : IntKind} (ht : P.underlying t = some (.slice e)) (hz : (P.info? e).map (·.size) = some sz) (hx : ev env x = .slice (some ⟨g, off, none⟩) n c) (hy : ev env y = .int k (i : Int)) (h : i < n) :
    QS P (O (.indexAddr t x y) ty) env b S (.pointer (some ⟨g, off + i * sz, none⟩)) := by
  have := qs_ixl (P := P) (env := env) (b := b) (S := S) (ty := ty) (x := x) (y := y) ht hz hx hy (by omega) (by omega)
  rw [add_off, Int.toNat_natCast] at this
  exact this
theorem qs_loadrec {α : Type} {encA : α → List Value} {n : Nat} {rs : List α} {d : α} {t : TypeId} {dd : TypeDesc} {x : Operand} {g off i fo : Nat} (hl : ∀ a, (encA a).length = n) (hr : Rd b S ⟨g, off, none⟩ (rs.map encA).flatten) (hi : i < rs.length) (hu : P.underlying t = some dd) (hd : flat dd = true)
    (hx : ev env x = .pointer (some ⟨g, off + i * n + fo, none⟩)) (hv : (encA (rs.getD i d))[fo]? = some v) : QS P (O (.load t x) ty) env b S v := by
  refine qs_loadR (a := ⟨g, off, none⟩) (i := i * n + fo) hr hu hd (by rw [add_off, ← Nat.add_assoc]; exact hx) ?_
  have hk : fo < n := by
    have := (List.getElem?_eq_some_iff.1 hv).1
    rwa [hl] at this
  rw [flat_get hl rs i fo hk, List.getElem?_eq_getElem hi]
  rw [List.getD_eq_getElem?_getD, List.getElem?_eq_getElem hi] at hv
  exact hv
theorem qs_loadrecw {α : Type} {encA : α → List Value} {n : Nat} {rs : List α} {d : α} {t : TypeId} {dd : TypeDesc} {x : Operand} {g off i : Nat} (hl : ∀ a, (encA a).length = n) (hr : Rd b S ⟨g, off, none⟩ (rs.map encA).flatten) (hi : i < rs.length) (hu : P.underlying t = some dd) (hd : flat dd = false) (hz : (P.info? t).map (·.size) = some n)
    (hx : ev env x = .pointer (some ⟨g, off + i * n, none⟩)) : QS P (O (.load t x) ty) env b S (.agg (encA (rs.getD i d)).toArray) := by
  refine qs_loadwR (g := g) (off := off + i * n) (n := n) (vs := encA (rs.getD i d)) (fun w hw j u hj => ?_) hu hd hz hx (hl _)
  have hk : j < n := by
    have := (List.getElem?_eq_some_iff.1 hj).1
    rwa [hl] at this
  have h := hr w hw (i * n + j) u (by
    rw [flat_get hl rs i j hk, List.getElem?_eq_getElem hi]
    rw [List.getD_eq_getElem?_getD, List.getElem?_eq_getElem hi] at hj
    exact hj)
  rw [add_off] at h ⊢
  rw [Nat.add_assoc]
  exact h
theorem qs_extw {f : FuncId} {fn : Func} {e : Array Value → Sem Value} {xs : Array Operand} {tys : Array TypeId} {g : Operand} {args : List Value} {o : Oper} (ho : o.op = .call ⟨.value g, xs, tys⟩) (hg : ev env g = .func (.func f) #[] #[]) (ha : xs.toList.map (ev env) = args) (hr : ∀ w, Sig b S w → (callFunc f args.toArray).run P w = .ok (.value v) w) : QS P o env b S v := qs_val fun w hw => by
  have e1 : (#[] ++ xs.map (ev env) ++ #[] : Array Value) = args.toArray := by
    rw [← ha]; apply Array.ext'; simp
  simp only [execOp, ho, resolve, hg, Deferred.ofValue, invoke, Sem.run_bind, Sem.run_pure, Result.andThen_ok, e1, hr w hw]
theorem setCell_same {w : World} {g i : Nat} {l : List Value} {e : TypeId} {fz : Nat × Nat} {u : Value} (h : w.heap[g]? = some (.cells l.toArray e fz)) : (w.setCell ⟨g, i, none⟩ u).heap[g]? = some (.cells (l.set i u).toArray e fz) := by
  unfold World.setCell
  simp [Array.getElem?_modify, h]
theorem setCell_other {w : World} {g i j : Nat} {u : Value} (h : j ≠ g) : (w.setCell ⟨g, i, none⟩ u).heap[j]? = w.heap[j]? := by
  unfold World.setCell
  simp only [Array.getElem?_modify, if_neg (fun e => h (Eq.symm e))]
theorem qs_mkiface {t : TypeId} {x : Operand} {u : Value} {d : TypeDesc} (ht : P.underlying t = some d) (hd : ∀ ms, d ≠ .interface ms) (hx : ev env x = u) : QS P (O (.makeInterface t x) ty) env b S (.iface t u) := qs_run fun w => by
  simp only [O, execOp, hx, Instr.makeInterface, Sem.run_bind, run_underlying_ok ht, Result.andThen_ok]
  cases d <;> first | rfl | exact absurd rfl (hd _)
end Go.Sx
/-! Hex -/
namespace Go.Proofs.YtfeabbeebkkhaaaGreat
open Go Go.Sx
set_option maxRecDepth 100000
set_option maxHeartbeats 4000000
set_option linter.unusedVariables false
set_option linter.unusedSimpArgs false
attribute [local irreducible] J JQ QS Con W opW
theorem ent103 : Sx.Enters Tryz.prog 103 := ⟨_, Tryz.func103, by kernel_rfl, by kernel_rfl⟩
theorem sb5 : (Tryz.prog.info? 5).map (fun i => (i.size, i.bytes)) = some (1, 1) := by kernel_rfl
theorem sz5 : (Tryz.prog.info? 5).map (·.size) = some 1 := by kernel_rfl
theorem sz51 : (Tryz.prog.info? 51).map (·.size) = some 32 := by kernel_rfl
theorem zero5 : zeroL Tryz.prog 5 = some ([.int .u8 0]) := by kernel_rfl
theorem bk_le {n i : Nat} (h : i < n) : n - (i + 1) < n - i := by omega
theorem digit16 (c : UInt8) : ((c.toNat : Int).fdiv (2 ^ min (Int.toNat 4) IntKind.u8.bits) = ((c.toNat : Int) / 16)) ∧ bw .and .u8 (c.toNat : Int) 15 = (c.toNat : Int) % 16 := by
  have : ∀ k : Fin 256, ((k.val : Int).fdiv (2 ^ min (Int.toNat 4) IntKind.u8.bits) = ((k.val : Int) / 16)) ∧ bw .and .u8 (k.val : Int) 15 = (k.val : Int) % 16 := by decide +kernel
  exact this ⟨c.toNat, c.toNat_lt⟩
theorem digits_cut (k : Nat) (h : k < 16) : ((([48, 49, 50, 51, 52, 53, 54, 55, 56, 57, 97, 98, 99, 100, 101, 102] : List UInt8).take (k + 1)).drop k) = [digit (k : Int)] := by
  have : ∀ k : Fin 16, ((([48, 49, 50, 51, 52, 53, 54, 55, 56, 57, 97, 98, 99, 100, 101, 102] : List UInt8).take (k.val + 1)).drop k.val) = [digit (k.val : Int)] := by decide +kernel
  exact this ⟨k, h⟩
theorem own_take0 {e : TypeId} {p l : List UInt8} {v : Value} {c : SH} (h : Own e 1 (ints p) v c) : Own e 1 (ints (p ++ l.take 0)) v c := by simpa using h
theorem dig16 (c : UInt8) : 0 ≤ (c.toNat : Int) / 16 ∧ (c.toNat : Int) / 16 < 16 ∧ 0 ≤ (c.toNat : Int) % 16 ∧ (c.toNat : Int) % 16 < 16 := by
  have := c.toNat_lt
  omega
theorem hex_in (x y : Int) (k : Nat) (hk : k < 2) : ([digit x, digit y] : List UInt8).take (k + 1) = ([digit x, digit y] : List UInt8).take k ++ [digit ([x, y].getD k 0)] := by
  have : k = 0 ∨ k = 1 := by omega
  rcases this with rfl | rfl <;> rfl
theorem hex_rng (c : UInt8) (k : Nat) (hk : k < 2) : 0 ≤ [(c.toNat : Int) / 16, (c.toNat : Int) % 16].getD k 0 ∧ [(c.toNat : Int) / 16, (c.toNat : Int) % 16].getD k 0 < 16 := by
  have h := dig16 c
  have : k = 0 ∨ k = 1 := by omega
  rcases this with rfl | rfl
  · exact ⟨h.1, h.2.1⟩
  · exact ⟨h.2.2.1, h.2.2.2⟩
theorem digit_con (n : Int) (w : World) (h0 : 0 ≤ n) (h1 : n < 16) : Con Tryz.prog 103 [.int .u8 n] w [] fun v _ => v = .int .u8 ((digit n).toNat : Int) := by
  refine con_of_tree mix Tryz.func103 T103_ok (by kernel_rfl) ?_
  unfold T103
  refine j_q (qs_ac) ?_
  refine j_q (qs_lss rfl rfl) ?_
  refine j_cond rfl (fun hc0 => ?_) (fun hc0 => ?_)
  · skip
    refine j_q (qs_add rfl rfl) ?_
    refine j_ret_con (vs := [_]) (fun w' hw' => ⟨rfl, trivial⟩) ?_
    show Value.int _ _ = _
    congr 1
    have hn : n < 10 := by
      simp only [bnA] at *
      omega
    rw [digit, if_pos hn, ← wrap_by8]
  · skip
    refine j_q (qs_add rfl rfl) ?_
    refine j_q (qs_sub rfl rfl) ?_
    refine j_ret_con (vs := [_]) (fun w' hw' => ⟨rfl, trivial⟩) ?_
    show Value.int _ _ = _
    congr 1
    have hn : ¬ n < 10 := by
      simp only [bnA] at *
      omega
    rw [digit, if_neg hn, ← wrap_by8]
theorem hex_con (h : List UInt8) (w : World) (hh : h.length = 32) : Con Tryz.prog 54 [.agg (ints h).toArray] w [] fun v _ => v = .string (bs (hex h)) := by
  refine con_of_tree mix Tryz.func54 T54_ok (by kernel_rfl) ?_
  unfold T54
  refine j_box rfl (fun g0 hg0 hs0 => ?_)
  refine j_q (qs_ac) ?_
  refine j_q (qs_ac) ?_
  first
    | refine j_q (qs_loadw 0 Tryz.underlying51 rfl sz51 rfl rfl (by first | (rw [ints_length]; exact hh) | exact hh | rfl)) ?_
    | refine j_q (qs_loadw 1 Tryz.underlying51 rfl sz51 rfl rfl (by first | (rw [ints_length]; exact hh) | exact hh | rfl)) ?_
    | refine j_q (qs_loadw 2 Tryz.underlying51 rfl sz51 rfl rfl (by first | (rw [ints_length]; exact hh) | exact hh | rfl)) ?_
  refine j_perm (S' := [[], [(g0, .cells (ints h).toArray 51 (0, 0))], []]) (by simp) ?_
  refine j_q (qs_mc) ?_
  refine j_loop (fun m vs S' => ∃ (i : Nat) (v : Value) (c : SH), vs = [v, .int .i64 i] ∧ S' = [c, [(g0, .cells (ints h).toArray 51 (0, 0))], []] ∧ Own 5 1 (ints (hexN h i)) v c ∧ i ≤ 32 ∧ m = 32 - i) ⟨_, 0, _, _, rfl, rfl, own_nil, by omega, rfl⟩ ?_
  rintro m vs S' hlen ⟨i, v, c, rfl, rfl, ho, hi, rfl⟩
  clear hlen
  refine j_q (qs_lss rfl rfl) ?_
  refine j_cond rfl (fun hc0 => ?_) (fun hc0 => ?_)
  · skip
    have hi1 : i < 32 := by
      simp only [bnA] at *
      omega
    refine j_q (qs_ixvi Tryz.underlying51 Tryz.underlying5 sz5 rfl rfl ⟨(by first | omega | (simp only [bnA] at *; omega)), (by first | omega | (simp only [bnA] at *; omega))⟩ (by first | (rw [ints_length]; exact hh) | exact hh | rfl)) ?_
    try rw [Int.toNat_natCast]
    refine j_q (qs_shr rfl rfl (by first | omega | (simp only [bnA] at *; omega))) ?_
    rw [(digit16 _).1]
    refine j_q (qs_and_ rfl rfl) ?_
    rw [(digit16 _).2]
    refine j_q (qs_run (v := .agg (ks .u8 [((h.getD i 0).toNat : Int) / 16, ((h.getD i 0).toNat : Int) % 16]).toArray) (fun w => by kernel_rfl)) ?_
    refine j_q (qs_mc) ?_
    refine j_loop (fun m vs S' => ∃ (k : Nat) (v : Value) (c : SH), vs = [v, .int .i64 k] ∧ S' = [c, [(g0, .cells (ints h).toArray 51 (0, 0))], []] ∧ Own 5 1 (ints (hexN h i ++ ([digit (((h.getD i 0).toNat : Int) / 16), digit (((h.getD i 0).toNat : Int) % 16)] : List UInt8).take k)) v c ∧ k ≤ 2 ∧ m = 2 - k) ⟨_, 0, _, _, rfl, rfl, own_take0 ho, by omega, rfl⟩ ?_
    rintro m vs S' hlen ⟨k, v, c, rfl, rfl, ho, hk, rfl⟩
    clear hlen
    refine j_q (qs_lss rfl rfl) ?_
    refine j_cond rfl (fun hc1 => ?_) (fun hc1 => ?_)
    · skip
      have hk1 : k < 2 := by
        simp only [bnA] at *
        omega
      refine j_q (qs_ixvk Tryz.underlying153 Tryz.underlying5 sz5 rfl rfl ⟨by omega, by omega⟩ rfl) ?_
      try rw [Int.toNat_natCast]
      refine j_q (qs_call ent103 rfl rfl rfl (fun w' hw' => digit_con _ w' (hex_rng _ k hk1).1 (hex_rng _ k hk1).2)) ?_
      refine j_lit (vs := [.int .u8 _]) Tryz.underlying46 sz5 zero5 rfl (by simp [oneV]) ⟨rfl, by decide⟩ (fun g14 v14 c14 hv14 hc14 ho14 => ?_)
      subst hv14 hc14
      refine j_append 1 Tryz.underlying46 Tryz.underlying46 (.inr ⟨_, rfl⟩) sb5 zero5 rfl ho rfl (src_sl (rd_own 0 rfl (n := 1) rfl) rfl) (by simp [oneV]) ⟨(by simp [ints_length, hexN_length]; omega), (by decide)⟩ (fun v15 c15 ho15 => ?_)
      have ho15' : Own 5 1 (ints (hexN h i ++ ([digit (((h.getD i 0).toNat : Int) / 16), digit (((h.getD i 0).toNat : Int) % 16)] : List UInt8).take (k + 1))) v15 c15 := by
        rw [hex_in _ _ k hk1, ← List.append_assoc, ints_append]
        exact ho15
      refine j_drop ?_
      refine j_q (qs_add64 rfl rfl (by first | omega | (simp only [bnA] at *; omega))) ?_
      refine j_back rfl ?_
      exact ⟨_, bk_le hk1, k + 1, _, _, rfl, rfl, ho15', by omega, rfl⟩
    · skip
      have hk1 : k = 2 := by
        simp only [bnA] at *
        omega
      subst hk1
      refine j_q (qs_add64 rfl rfl (by first | omega | (simp only [bnA] at *; omega))) ?_
      refine j_back rfl ?_
      exact ⟨_, bk_le hi1, i + 1, _, _, rfl, rfl, ho, by omega, rfl⟩
  · skip
    have hi1 : i = 32 := by
      simp only [bnA] at *
      omega
    subst hi1
    first
      | refine j_q (qs_stro 0 Tryz.underlying46 Tryz.underlying5 Tryz.underlying9 ho rfl) ?_
      | refine j_q (qs_stro 1 Tryz.underlying46 Tryz.underlying5 Tryz.underlying9 ho rfl) ?_
      | refine j_q (qs_stro 2 Tryz.underlying46 Tryz.underlying5 Tryz.underlying9 ho rfl) ?_
    refine j_ret_con (vs := [_]) (fun w' hw' => ⟨rfl, trivial⟩) ?_
    rfl
theorem rhex_con (h : List UInt8) (w : World) (hh : h.length = 32) : Con Tryz.prog 62 [.agg (ints h).toArray] w [] fun v _ => v = .string (bs (hex h)) := by
  refine con_of_tree mix Tryz.func62 T62_ok (by kernel_rfl) ?_
  unfold T62
  refine j_box rfl (fun g0 hg0 hs0 => ?_)
  refine j_q (qs_ac) ?_
  refine j_q (qs_ac) ?_
  refine j_q (qs_ac) ?_
  refine j_loop (fun m vs S' => ∃ (i : Nat), vs = [.string (bs (hexN h i)), .int .i64 i] ∧ S' = [[(g0, .cells (ints h).toArray 51 (0, 0))], []] ∧ i ≤ 32 ∧ m = 32 - i) ⟨_, 0, rfl, rfl, by omega, rfl⟩ ?_
  rintro m vs S' hlen ⟨i, rfl, rfl, hi, rfl⟩
  clear hlen
  refine j_q (qs_lss rfl rfl) ?_
  refine j_cond rfl (fun hc0 => ?_) (fun hc0 => ?_)
  · skip
    have hi1 : i < 32 := by
      simp only [bnA] at *
      omega
    have hcl := (h.getD i 0).toNat_lt
    refine j_draw ?_
    refine jq_q (qs_ix0 Tryz.underlying51 sz5 rfl rfl ⟨(by first | omega | (simp only [bnA] at *; omega)), (by first | omega | (simp only [bnA] at *; omega))⟩) ?_
    first
      | refine jq_q (qs_loadk 0 Tryz.underlying5 rfl rfl (by first | omega | (simp only [bnA] at *; omega))) ?_
      | refine jq_q (qs_loadk 1 Tryz.underlying5 rfl rfl (by first | omega | (simp only [bnA] at *; omega))) ?_
      | refine jq_q (qs_loadi 0 Tryz.underlying5 rfl rfl (by first | omega | (simp only [bnA] at *; omega))) ?_
      | refine jq_q (qs_loadi 1 Tryz.underlying5 rfl rfl (by first | omega | (simp only [bnA] at *; omega))) ?_
      | refine jq_q (qs_load 0 Tryz.underlying5 rfl rfl rfl rfl) ?_
      | refine jq_q (qs_load 1 Tryz.underlying5 rfl rfl rfl rfl) ?_
    try rw [Int.toNat_natCast]
    refine jq_q (qs_quou rfl rfl (by first | omega | (simp only [bnA] at *; omega)) (by first | omega | (simp only [bnA] at *; omega)) (wrap8_div _ _ (by omega))) ?_
    refine jq_q (qs_ix0 Tryz.underlying51 sz5 rfl rfl ⟨(by first | omega | (simp only [bnA] at *; omega)), (by first | omega | (simp only [bnA] at *; omega))⟩) ?_
    first
      | refine jq_q (qs_loadk 0 Tryz.underlying5 rfl rfl (by first | omega | (simp only [bnA] at *; omega))) ?_
      | refine jq_q (qs_loadk 1 Tryz.underlying5 rfl rfl (by first | omega | (simp only [bnA] at *; omega))) ?_
      | refine jq_q (qs_loadi 0 Tryz.underlying5 rfl rfl (by first | omega | (simp only [bnA] at *; omega))) ?_
      | refine jq_q (qs_loadi 1 Tryz.underlying5 rfl rfl (by first | omega | (simp only [bnA] at *; omega))) ?_
      | refine jq_q (qs_load 0 Tryz.underlying5 rfl rfl rfl rfl) ?_
      | refine jq_q (qs_load 1 Tryz.underlying5 rfl rfl rfl rfl) ?_
    try rw [Int.toNat_natCast]
    refine jq_q (qs_quou rfl rfl (by first | omega | (simp only [bnA] at *; omega)) (by first | omega | (simp only [bnA] at *; omega)) (wrap8_div _ _ (by omega))) ?_
    refine jq_q (qs_add rfl rfl) ?_
    refine jq_q (qs_cuts (l := ([48, 49, 50, 51, 52, 53, 54, 55, 56, 57, 97, 98, 99, 100, 101, 102] : List UInt8)) (a := (h.getD i 0).toNat / 16) (z := (h.getD i 0).toNat / 16 + 1) Tryz.underlying9 rfl ⟨.u8, rfl⟩ ⟨.u8, by show Value.int _ _ = _; congr 1; rw [IntKind.wrap_u8]; omega⟩ (by omega) (by show _ ≤ 16; omega)) ?_
    rw [digits_cut _ (by omega)]
    refine jq_q (qs_sadd rfl rfl (by simp [hexN_length]; omega)) ?_
    refine jq_q (qs_ix0 Tryz.underlying51 sz5 rfl rfl ⟨(by first | omega | (simp only [bnA] at *; omega)), (by first | omega | (simp only [bnA] at *; omega))⟩) ?_
    first
      | refine jq_q (qs_loadk 0 Tryz.underlying5 rfl rfl (by first | omega | (simp only [bnA] at *; omega))) ?_
      | refine jq_q (qs_loadk 1 Tryz.underlying5 rfl rfl (by first | omega | (simp only [bnA] at *; omega))) ?_
      | refine jq_q (qs_loadi 0 Tryz.underlying5 rfl rfl (by first | omega | (simp only [bnA] at *; omega))) ?_
      | refine jq_q (qs_loadi 1 Tryz.underlying5 rfl rfl (by first | omega | (simp only [bnA] at *; omega))) ?_
      | refine jq_q (qs_load 0 Tryz.underlying5 rfl rfl rfl rfl) ?_
      | refine jq_q (qs_load 1 Tryz.underlying5 rfl rfl rfl rfl) ?_
    try rw [Int.toNat_natCast]
    refine jq_q (qs_rem64 rfl rfl (by first | omega | (simp only [bnA] at *; omega)) (by first | omega | (simp only [bnA] at *; omega))) ?_
    refine jq_q (qs_ix0 Tryz.underlying51 sz5 rfl rfl ⟨(by first | omega | (simp only [bnA] at *; omega)), (by first | omega | (simp only [bnA] at *; omega))⟩) ?_
    first
      | refine jq_q (qs_loadk 0 Tryz.underlying5 rfl rfl (by first | omega | (simp only [bnA] at *; omega))) ?_
      | refine jq_q (qs_loadk 1 Tryz.underlying5 rfl rfl (by first | omega | (simp only [bnA] at *; omega))) ?_
      | refine jq_q (qs_loadi 0 Tryz.underlying5 rfl rfl (by first | omega | (simp only [bnA] at *; omega))) ?_
      | refine jq_q (qs_loadi 1 Tryz.underlying5 rfl rfl (by first | omega | (simp only [bnA] at *; omega))) ?_
      | refine jq_q (qs_load 0 Tryz.underlying5 rfl rfl rfl rfl) ?_
      | refine jq_q (qs_load 1 Tryz.underlying5 rfl rfl rfl rfl) ?_
    try rw [Int.toNat_natCast]
    refine jq_q (qs_rem64 rfl rfl (by first | omega | (simp only [bnA] at *; omega)) (by first | omega | (simp only [bnA] at *; omega))) ?_
    refine jq_q (qs_add rfl rfl) ?_
    refine jq_q (qs_cuts (l := ([48, 49, 50, 51, 52, 53, 54, 55, 56, 57, 97, 98, 99, 100, 101, 102] : List UInt8)) (a := (h.getD i 0).toNat % 16) (z := (h.getD i 0).toNat % 16 + 1) Tryz.underlying9 rfl ⟨.u8, rfl⟩ ⟨.u8, by show Value.int _ _ = _; congr 1; rw [IntKind.wrap_u8]; omega⟩ (by omega) (by show _ ≤ 16; omega)) ?_
    rw [digits_cut _ (by omega)]
    refine jq_q (qs_sadd rfl rfl (by simp [hexN_length]; omega)) ?_
    refine jq_nil ?_
    refine j_q (qs_add64 rfl rfl (by first | omega | (simp only [bnA] at *; omega))) ?_
    refine j_back rfl ?_
    refine ⟨_, bk_le hi1, i + 1, ?_, rfl, by omega, rfl⟩
    rw [hexN]
    simp only [List.append_assoc, List.cons_append, List.nil_append]
    rfl
  · skip
    have hi1 : i = 32 := by
      simp only [bnA] at *
      omega
    subst hi1
    refine j_ret_con (vs := [_]) (fun w' hw' => ⟨rfl, trivial⟩) ?_
    rfl
end Go.Proofs.YtfeabbeebkkhaaaGreat
/-! B32 -/
namespace Go.Proofs.YtfeabbeebkkhaaaGreat
open Go Go.Sx
set_option maxRecDepth 100000
set_option maxHeartbeats 4000000
set_option linter.unusedVariables false
set_option linter.unusedSimpArgs false
attribute [local irreducible] J JQ QS Con W opW
theorem ent110 : Sx.Enters Tryz.prog 110 := ⟨_, Tryz.func110, by kernel_rfl, by kernel_rfl⟩
theorem ent147 : Sx.Enters Tryz.prog 147 := ⟨_, Tryz.func147, by kernel_rfl, by kernel_rfl⟩
theorem len_con (n : Nat) (w : World) (hn : n ≤ 16777216) : Con Tryz.prog 147 [.int .i64 n] w [] fun v _ => v = .int .i64 (lenD n : Nat) := by
  refine con_of_tree mix Tryz.func147 T147_ok (by kernel_rfl) ?_
  unfold T147
  refine j_q (qs_ac) ?_
  refine j_q (qs_min rfl rfl) ?_
  refine j_q (qs_max rfl rfl) ?_
  refine j_q (qs_mul64 rfl rfl (by first | omega | (simp only [bnA] at *; omega))) ?_
  refine j_q (qs_add64 rfl rfl (by first | omega | (simp only [bnA] at *; omega))) ?_
  refine j_q (qs_sub64 rfl rfl (by first | omega | (simp only [bnA] at *; omega))) ?_
  refine j_q (qs_quo64 rfl rfl (by first | omega | (simp only [bnA] at *; omega)) (by first | omega | (simp only [bnA] at *; omega)) (by first | omega | (simp only [bnA] at *; omega))) ?_
  refine j_ret_con (vs := [_]) (fun w' hw' => ⟨rfl, trivial⟩) ?_
  show Value.int _ _ = _
  congr 1
  unfold lenD
  omega
theorem rlen_con (n : Nat) (w : World) (hn : n ≤ 16777216) : Con Tryz.prog 110 [.int .i64 n] w [] fun v _ => v = .int .i64 (lenD n : Nat) := by
  refine con_of_tree mix Tryz.func110 T110_ok (by kernel_rfl) ?_
  unfold T110
  refine j_q (qs_ac) ?_
  refine j_q (qs_min rfl rfl) ?_
  refine j_q (qs_max rfl rfl) ?_
  refine j_q (qs_mul64 rfl rfl (by first | omega | (simp only [bnA] at *; omega))) ?_
  refine j_q (qs_add64 rfl rfl (by first | omega | (simp only [bnA] at *; omega))) ?_
  refine j_q (qs_quo64 rfl rfl (by first | omega | (simp only [bnA] at *; omega)) (by first | omega | (simp only [bnA] at *; omega)) (by first | omega | (simp only [bnA] at *; omega))) ?_
  refine j_ret_con (vs := [_]) (fun w' hw' => ⟨rfl, trivial⟩) ?_
  show Value.int _ _ = _
  congr 1
  unfold lenD
  omega
end Go.Proofs.YtfeabbeebkkhaaaGreat
/-! Par -/
namespace Go.Proofs.YtfeabbeebkkhaaaGreat
open Go Go.Sx
set_option maxRecDepth 100000
set_option maxHeartbeats 4000000
set_option linter.unusedVariables false
set_option linter.unusedSimpArgs false
attribute [local irreducible] J JQ QS Con W opW
theorem ent111 : Sx.Enters Tryz.prog 111 := ⟨_, Tryz.func111, by kernel_rfl, by kernel_rfl⟩
theorem ent128 : Sx.Enters Tryz.prog 128 := ⟨_, Tryz.func128, by kernel_rfl, by kernel_rfl⟩
theorem ent149 : Sx.Enters Tryz.prog 149 := ⟨_, Tryz.func149, by kernel_rfl, by kernel_rfl⟩
def parseE (l : List UInt8) : Int := if l.length = 32 ∧ allDig l = true then 0 else 3
theorem parseE_fail {l : List UInt8} {i : Nat} (hi : i < l.length) (h : dpos (l.getD i 0) < 0) : parseE l = 3 := by
  unfold parseE
  rw [if_neg]
  rintro ⟨_, h2⟩
  rw [allDig_fail hi h] at h2
  cases h2
theorem parseE_len {l : List UInt8} (h : l.length ≠ 32) : parseE l = 3 := by
  unfold parseE
  rw [if_neg (fun h2 => h h2.1)]
theorem parseE_ok {l : List UInt8} (h : l.length = 32) (h2 : ∀ i, i < l.length → 0 ≤ dpos (l.getD i 0)) : parseE l = 0 := by
  unfold parseE
  rw [if_pos ⟨h, allDig_of h2⟩]
theorem slIndex_con (s : List UInt8) (c : UInt8) (w : World) : Con Tryz.prog 149 [.string (bs s), .int .u8 (c.toNat : Int)] w [] fun v _ => v = .int .i64 (firstIdx (bs s) c) := by
  refine con_of_tree mix Tryz.func149 T149_ok (by kernel_rfl) ?_
  unfold T149
  refine j_q (qs_ac) ?_
  refine j_q (qs_extern Tryz.func168 (by kernel_rfl) (by kernel_rfl) (by kernel_rfl) (e := Extern.BytealgIndexByte.indexByte) (by kernel_rfl) rfl rfl rfl (fun w => run_indexByte_string (bs s) (c.toNat : Int) w)) ?_
  refine j_ret_con (vs := [_]) (fun w' hw' => ⟨rfl, trivial⟩) ?_
  show Value.int _ _ = _
  rw [show ((c.toNat : Int)).toNat.toUInt8 = c by simp]
theorem index_con (s : List UInt8) (c : UInt8) (w : World) : Con Tryz.prog 128 [.string (bs s), .int .u8 (c.toNat : Int)] w [] fun v _ => v = .int .i64 (firstIdx (bs s) c) := by
  refine con_of_tree mix Tryz.func128 T128_ok (by kernel_rfl) ?_
  unfold T128
  refine j_q (qs_ac) ?_
  refine j_q (qs_call ent149 rfl rfl rfl (fun w' hw' => slIndex_con s c w')) ?_
  refine j_ret_con (vs := [_]) (fun w' hw' => ⟨rfl, trivial⟩) ?_
  rfl
theorem value_con (c : UInt8) (w : World) : Con Tryz.prog 111 [.int .u8 (c.toNat : Int)] w [] fun v _ => v = .int .i64 (dpos c) := by
  refine con_of_tree mix Tryz.func111 T111_ok (by kernel_rfl) ?_
  unfold T111
  refine j_q (qs_ac) ?_
  refine j_q (qs_ac) ?_
  refine j_loop (fun m vs S' => ∃ i : Nat, vs = [.int .i64 i] ∧ S' = [[]] ∧ i ≤ 32 ∧ m = 32 - i ∧ ∀ j, j < i → DIG.getD j 0 ≠ c) ⟨_, 0, rfl, rfl, by omega, rfl, fun j h => by omega⟩ ?_
  rintro m vs S' hlen ⟨i, rfl, rfl, hi, rfl, hall⟩
  clear hlen
  refine j_q (qs_lss rfl rfl) ?_
  refine j_cond rfl (fun hc0 => ?_) (fun hc0 => ?_)
  · skip
    have hi1 : i < 32 := by
      simp only [bnA] at *
      omega
    refine j_q (qs_idx (l := DIG) Tryz.underlying9 rfl rfl ⟨by omega, by show _ < ((32 : Nat) : Int); omega⟩) ?_
    rw [Int.toNat_natCast]
    refine j_q (qs_eql rfl rfl) ?_
    refine j_cond rfl (fun hc1 => ?_) (fun hc1 => ?_)
    · skip
      have he : DIG.getD i 0 = c := UInt8.toNat_inj.1 (by simp only [beq_iff_eq] at hc1; omega)
      refine j_ret_con (vs := [_]) (fun w' hw' => ⟨rfl, trivial⟩) ?_
      show Value.int _ _ = _
      rw [← he, dpos_at i hi1]
    · skip
      have he : DIG.getD i 0 ≠ c := fun h => by rw [h] at hc1; simp at hc1
      refine j_q (qs_add64 rfl rfl (by first | omega | (simp only [bnA] at *; omega))) ?_
      refine j_back rfl ?_
      refine ⟨_, (by omega : 32 - (i + 1) < 32 - i), i + 1, rfl, rfl, by omega, rfl, fun j hj => ?_⟩
      rcases Nat.lt_or_ge j i with h | h
      · exact hall j h
      · obtain rfl : j = i := by omega
        exact he
  · skip
    have hi1 : i = 32 := by
      simp only [bnA] at *
      omega
    refine j_q (qs_ac) ?_
    refine j_ret_con (vs := [_]) (fun w' hw' => ⟨rfl, trivial⟩) ?_
    show Value.int _ _ = _
    subst hi1
    rw [dpos_none c hall]
theorem parse_con (l : List UInt8) (w : World) (hl : l.length ≤ 9223372036854775807) : Con Tryz.prog 126 [.string (bs l), .int .i64 20] w [] fun v _ => ∃ u, v = .tuple #[u, .int .i64 (parseE l)] := by
  refine con_of_tree mix Tryz.func126 T126_ok (by kernel_rfl) ?_
  unfold T126
  refine j_q (qs_ac) ?_
  refine j_q (qs_ac) ?_
  refine j_q (qs_lss rfl rfl) ?_
  refine j_g rfl (fun hb => qs_mt rfl) ?_
  refine j_g rfl (fun hb => qs_gtr (gd_eq hb) rfl) ?_
  refine j_q (qs_or rfl rfl) ?_
  refine j_cond rfl (fun hc0 => ?_) (fun hc0 => ?_)
  · skip
    exact absurd hc0 (by decide)
  · skip
    refine j_q (qs_lens Tryz.underlying9 rfl) ?_
    refine j_q (qs_call ent147 rfl rfl rfl (fun w' hw' => len_con 20 w' (by decide))) ?_
    refine j_q (qs_neq rfl rfl) ?_
    refine j_cond rfl (fun hc1 => ?_) (fun hc1 => ?_)
    · skip
      have hl32 : l.length ≠ 32 := by
        have h20 : lenD 20 = 32 := rfl
        rw [h20] at hc1
        simp only [bnA] at *
        omega
      refine j_q (qs_ac) ?_
      refine j_q (qs_ac) ?_
      refine j_ret_con (vs := [_, _]) (fun w' hw' => ⟨rfl, rfl, trivial⟩) ?_
      show ∃ u, Value.tuple #[_, _] = Value.tuple #[u, _]
      rw [parseE_len hl32]
      exact ⟨_, rfl⟩
    · skip
      have hl32 : l.length = 32 := by
        have h20 : lenD 20 = 32 := rfl
        rw [h20] at hc1
        simp only [bnA] at *
        omega
      refine j_make (n := 0) (c := 20) Tryz.underlying46 sb5 zero5 rfl (by decide) rfl rfl (by decide) (by decide) (fun g13 v13 c13 hv13 hc13 ho13 => ?_)
      refine j_q (qs_ac) ?_
      refine j_q (qs_ac) ?_
      refine j_q (qs_lens Tryz.underlying9 rfl) ?_
      refine j_q (qs_sub64 rfl rfl (by first | omega | (simp only [bnA] at *; omega))) ?_
      rw [show (l.length : Int) - 1 = 31 - ((0 : Nat) : Int) by omega]
      refine j_loop (fun m vs S' => ∃ (t bits : Nat) (xs : List Value) (v : Value) (c : SH), vs = [v, .int .u32 bits, .int .u64 (5 * t % 8 : Nat), .int .i64 (31 - (t : Int))] ∧ S' = [c, []] ∧ Own 5 1 xs v c ∧ xs.length = 5 * t / 8 ∧ bits < 2 ^ (5 * t % 8) ∧ t ≤ 32 ∧ (∀ j, 32 - t ≤ j → j < 32 → 0 ≤ dpos (l.getD j 0)) ∧ m = 32 - t) ⟨_, 0, 0, _, _, _, rfl, rfl, ho13, rfl, by decide, by omega, fun j h1 h2 => by omega, rfl⟩ ?_
      rintro m vs S' hlen ⟨t, bits, xs, v, ch, rfl, rfl, ho, hxl, hb2, ht, hall, rfl⟩
      obtain ⟨n, A, cap, rfl, hn⟩ := own_form ho (by decide)
      rw [Nat.mul_one] at hn
      clear hlen
      refine j_q (qs_geq rfl rfl) ?_
      refine j_cond rfl (fun hc2 => ?_) (fun hc2 => ?_)
      · skip
        have ht1 : t < 32 := by
          simp only [bnA] at *
          omega
        obtain ⟨h, hh⟩ : ∃ h, h = 5 * t % 8 := ⟨_, rfl⟩
        rw [← hh] at hb2 ⊢
        refine j_q (qs_idx Tryz.underlying9 rfl rfl ⟨(by first | omega | (simp only [bnA] at *; omega)), (by first | omega | (simp only [bnA] at *; omega))⟩) ?_
        rw [show (31 - (t : Int)).toNat = 31 - t by omega]
        refine j_q (qs_call ent128 rfl rfl rfl (fun w' hw' => index_con DIG (l.getD (31 - t) 0) w')) ?_
        rw [firstIdx_dig]
        refine j_q (qs_lss rfl rfl) ?_
        refine j_cond rfl (fun hc3 => ?_) (fun hc3 => ?_)
        · skip
          refine j_q (qs_ac) ?_
          refine j_q (qs_ac) ?_
          refine j_ret_con (vs := [_, _]) (fun w' hw' => ⟨rfl, rfl, trivial⟩) ?_
          show ∃ u, Value.tuple #[_, _] = Value.tuple #[u, _]
          rw [parseE_fail (i := 31 - t) (by omega) (by simp only [bnA] at *; omega)]
          exact ⟨_, rfl⟩
        · skip
          have hr := dpos_range (l.getD (31 - t) 0)
          have hd0 : 0 ≤ dpos (l.getD (31 - t) 0) := by
            simp only [bnA] at *
            omega
          obtain ⟨d, hd⟩ : ∃ d : Nat, dpos (l.getD (31 - t) 0) = (d : Int) := ⟨(dpos (l.getD (31 - t) 0)).toNat, by omega⟩
          have hd32 : d < 32 := by omega
          rw [hd]
          refine j_q (qs_conv Tryz.underlying3 Tryz.underlying145 rfl) ?_
          refine j_q (qs_shl rfl rfl (by first | omega | (simp only [bnA] at *; omega))) ?_
          refine j_q (qs_or_ rfl rfl) ?_
          have e26 : bw .or .u32 (bits : Int) (IntKind.u32.wrap (IntKind.u32.wrap (d : Int) * 2 ^ min ((h : Int)).toNat IntKind.u32.bits)) = _ := or32' bits d h hb2 hd32 (by omega)
          rw [e26]
          have hX := more_lt bits d h hb2 hd32
          obtain ⟨X, hXe⟩ : ∃ X, X = bits + d * 2 ^ h := ⟨_, rfl⟩
          rw [← hXe] at hX ⊢
          refine j_q (qs_add rfl rfl) ?_
          rw [show (h : Int) + 5 = ((h + 5 : Nat) : Int) by omega, IntWalk.u64_in _ (by omega)]
          refine j_q (qs_geq rfl rfl) ?_
          refine j_g rfl (fun hb => qs_mt rfl) ?_
          refine j_g rfl (fun hb => qs_lenl Tryz.underlying46 (gd_eq hb)) ?_
          refine j_g rfl (fun hb => qs_mt rfl) ?_
          refine j_g rfl (fun hb => qs_lss (gd_eq hb) (gd_eq hb)) ?_
          refine j_q (qs_and rfl rfl) ?_
          refine j_cond rfl (fun hc4 => ?_) (fun hc4 => ?_)
          · skip
            have h48 : 8 ≤ h + 5 := by
              simp only [bnA] at *
              omega
            refine j_q (qs_conv8 Tryz.underlying145 Tryz.underlying5 rfl) ?_
            refine j_lit (vs := [.int .u8 _]) Tryz.underlying46 sz5 zero5 rfl (by simp [oneV]) ⟨rfl, by decide⟩ (fun g35 v35 c35 hv35 hc35 ho35 => ?_)
            subst hv35 hc35
            refine j_append 1 Tryz.underlying46 Tryz.underlying46 (.inr ⟨_, rfl⟩) sb5 zero5 rfl ho rfl (src_sl (rd_own 0 rfl (n := 1) rfl) rfl) (by simp [oneV]) ⟨(by simp; omega), (by decide)⟩ (fun v36 c36 ho36 => ?_)
            refine j_drop ?_
            refine j_q (qs_shr rfl rfl (by first | omega | (simp only [bnA] at *; omega))) ?_
            have e37 : (X : Int).fdiv (2 ^ min (Int.toNat 8) IntKind.u32.bits) = _ := shr8' X
            rw [e37]
            refine j_q (qs_sub rfl rfl) ?_
            rw [show ((h + 5 : Nat) : Int) - 8 = ((h + 5 - 8 : Nat) : Int) by omega, IntWalk.u64_in _ (by omega)]
            refine j_q (qs_sub64 rfl rfl (by first | omega | (simp only [bnA] at *; omega))) ?_
            refine j_back rfl ?_
            refine ⟨_, (by omega : 32 - (t + 1) < 32 - t), t + 1, X / 256, _, _, _, ?_, rfl, ho36, by simp; omega, ?_, by omega, fun j h1 h2 => by
                  rcases Nat.lt_or_ge j (32 - t) with h3 | h3
                  · obtain rfl : j = 31 - t := by omega
                    omega
                  · exact hall j h3 h2, rfl⟩
            · have e1 : h + 5 - 8 = 5 * (t + 1) % 8 := by omega
              have e2 : 31 - (t : Int) - 1 = 31 - ((t + 1 : Nat) : Int) := by omega
              show [v36, Value.int .u32 ((X / 256 : Nat) : Int), Value.int .u64 ((h + 5 - 8 : Nat) : Int), Value.int .i64 (31 - (t : Int) - 1)] = _
              rw [e1, e2]
            · rw [show 5 * (t + 1) % 8 = h + 5 - 8 by omega]
              exact less_lt X (h + 5) hX h48
          · skip
            have h48 : h + 5 < 8 := by
              simp only [bnA] at *
              omega
            refine j_q (qs_sub64 rfl rfl (by first | omega | (simp only [bnA] at *; omega))) ?_
            refine j_back rfl ?_
            refine ⟨_, (by omega : 32 - (t + 1) < 32 - t), t + 1, X, _, _, _, ?_, rfl, ho, by omega, ?_, by omega, fun j h1 h2 => by
                  rcases Nat.lt_or_ge j (32 - t) with h3 | h3
                  · obtain rfl : j = 31 - t := by omega
                    omega
                  · exact hall j h3 h2, rfl⟩
            · have e1 : h + 5 = 5 * (t + 1) % 8 := by omega
              have e2 : 31 - (t : Int) - 1 = 31 - ((t + 1 : Nat) : Int) := by omega
              show [Value.slice A n cap, Value.int .u32 (X : Int), Value.int .u64 ((h + 5 : Nat) : Int), Value.int .i64 (31 - (t : Int) - 1)] = _
              rw [e1, e2]
            · rw [show 5 * (t + 1) % 8 = h + 5 by omega]
              exact hX
      · skip
        obtain rfl : t = 32 := by
          simp only [bnA] at *
          omega
        refine j_q (qs_neq rfl rfl) ?_
        refine j_cond rfl (fun hc5 => ?_) (fun hc5 => ?_)
        · skip
          exfalso
          have h0 : 5 * 32 % 8 = 0 := rfl
          rw [h0] at hb2
          simp only [bnA] at *
          omega
        · skip
          refine j_q (qs_ac) ?_
          refine j_ret_con (vs := [_, _]) (fun w' hw' => ⟨rfl, rfl, trivial⟩) ?_
          show ∃ u, Value.tuple #[_, _] = Value.tuple #[u, _]
          rw [parseE_ok hl32 (fun i hi => hall i (by omega) (by omega))]
          exact ⟨_, rfl⟩
theorem rparse_con (l : List UInt8) (w : World) (hl : l.length ≤ 9223372036854775807) : Con Tryz.prog 60 [.string (bs l), .int .i64 20] w [] fun v _ => ∃ u, v = .tuple #[u, .int .i64 (parseE l)] := by
  refine con_of_tree mix Tryz.func60 T60_ok (by kernel_rfl) ?_
  unfold T60
  refine j_q (qs_ac) ?_
  refine j_q (qs_ac) ?_
  refine j_q (qs_lss rfl rfl) ?_
  refine j_g rfl (fun hb => qs_mt rfl) ?_
  refine j_g rfl (fun hb => qs_gtr (gd_eq hb) rfl) ?_
  refine j_q (qs_or rfl rfl) ?_
  refine j_cond rfl (fun hc0 => ?_) (fun hc0 => ?_)
  · skip
    exact absurd hc0 (by decide)
  · skip
    refine j_q (qs_lens Tryz.underlying9 rfl) ?_
    refine j_q (qs_call ent110 rfl rfl rfl (fun w' hw' => rlen_con 20 w' (by decide))) ?_
    refine j_q (qs_neq rfl rfl) ?_
    refine j_cond rfl (fun hc1 => ?_) (fun hc1 => ?_)
    · skip
      have hl32 : l.length ≠ 32 := by
        have h20 : lenD 20 = 32 := rfl
        rw [h20] at hc1
        simp only [bnA] at *
        omega
      refine j_q (qs_ac) ?_
      refine j_q (qs_ac) ?_
      refine j_ret_con (vs := [_, _]) (fun w' hw' => ⟨rfl, rfl, trivial⟩) ?_
      show ∃ u, Value.tuple #[_, _] = Value.tuple #[u, _]
      rw [parseE_len hl32]
      exact ⟨_, rfl⟩
    · skip
      have hl32 : l.length = 32 := by
        have h20 : lenD 20 = 32 := rfl
        rw [h20] at hc1
        simp only [bnA] at *
        omega
      refine j_make (n := 20) (c := 20) Tryz.underlying46 sb5 zero5 rfl (by decide) rfl rfl (by decide) (by decide) (fun g13 v13 c13 hv13 hc13 ho13 => ?_)
      subst hv13 hc13
      rw [ints_rep]
      clear ho13
      refine j_q (qs_ac) ?_
      refine j_loop (fun m vs S' => ∃ (t : Nat) (q : List UInt8), vs = [.int .i64 t] ∧ S' = [[(g13, .cells (ints q).toArray 5 (0, 0))], []] ∧ q.length = 20 ∧ t ≤ 32 ∧ (∀ j, 32 - t ≤ j → j < 32 → 0 ≤ dpos (l.getD j 0)) ∧ m = 32 - t) ⟨_, 0, _, rfl, rfl, by simp, by omega, fun j h1 h2 => by omega, rfl⟩ ?_
      rintro m vs S' hlen ⟨t, q, rfl, rfl, hq, ht, hall, rfl⟩
      clear hlen
      refine j_q (qs_lens Tryz.underlying9 rfl) ?_
      refine j_q (qs_lss rfl rfl) ?_
      refine j_cond rfl (fun hc2 => ?_) (fun hc2 => ?_)
      · skip
        have ht1 : t < 32 := by
          simp only [bnA] at *
          omega
        refine j_q (qs_lens Tryz.underlying9 rfl) ?_
        refine j_q (qs_sub64 rfl rfl (by first | omega | (simp only [bnA] at *; omega))) ?_
        refine j_q (qs_sub64 rfl rfl (by first | omega | (simp only [bnA] at *; omega))) ?_
        refine j_q (qs_idx Tryz.underlying9 rfl rfl ⟨(by first | omega | (simp only [bnA] at *; omega)), (by first | omega | (simp only [bnA] at *; omega))⟩) ?_
        rw [show ((l.length : Int) - 1 - (t : Int)).toNat = 31 - t by omega]
        refine j_q (qs_call ent111 rfl rfl rfl (fun w' hw' => value_con (l.getD (31 - t) 0) w')) ?_
        refine j_q (qs_lss rfl rfl) ?_
        refine j_cond rfl (fun hc3 => ?_) (fun hc3 => ?_)
        · skip
          refine j_q (qs_ac) ?_
          refine j_q (qs_ac) ?_
          refine j_ret_con (vs := [_, _]) (fun w' hw' => ⟨rfl, rfl, trivial⟩) ?_
          show ∃ u, Value.tuple #[_, _] = Value.tuple #[u, _]
          rw [parseE_fail (i := 31 - t) (by omega) (by simp only [bnA] at *; omega)]
          exact ⟨_, rfl⟩
        · skip
          have hd0 : 0 ≤ dpos (l.getD (31 - t) 0) := by
            simp only [bnA] at *
            omega
          obtain ⟨dd, hdd⟩ : ∃ dd, dd = dpos (l.getD (31 - t) 0) := ⟨_, rfl⟩
          rw [← hdd]
          refine j_q (qs_ac) ?_
          refine j_loop (fun m vs S' => ∃ (j : Nat) (q : List UInt8), vs = [.int .i64 j] ∧ S' = [[(g13, .cells (ints q).toArray 5 (0, 0))], []] ∧ q.length = 20 ∧ j ≤ 5 ∧ m = 5 - j) ⟨_, 0, _, rfl, rfl, hq, by omega, rfl⟩ ?_
          rintro m vs S' hlen ⟨j, q, rfl, rfl, hq, hj, rfl⟩
          clear hlen
          refine j_q (qs_lss rfl rfl) ?_
          refine j_cond rfl (fun hc4 => ?_) (fun hc4 => ?_)
          · skip
            have hj1 : j < 5 := by
              simp only [bnA] at *
              omega
            refine j_q (qs_conv Tryz.underlying3 Tryz.underlying152 rfl) ?_
            rw [IntWalk.u64_in _ (by omega)]
            refine j_q (qs_shr rfl rfl (by first | omega | (simp only [bnA] at *; omega))) ?_
            refine j_q (qs_and_ rfl rfl) ?_
            refine j_q (qs_eql rfl rfl) ?_
            refine j_cond rfl (fun hc5 => ?_) (fun hc5 => ?_)
            · skip
              refine j_q (qs_add64 rfl rfl (by first | omega | (simp only [bnA] at *; omega))) ?_
              refine j_back rfl ?_
              exact ⟨_, (by omega : 5 - (j + 1) < 5 - j), j + 1, _, rfl, rfl, hq, by omega, rfl⟩
            · skip
              refine j_q (qs_mul64 rfl rfl (by first | omega | (simp only [bnA] at *; omega))) ?_
              refine j_q (qs_add64 rfl rfl (by first | omega | (simp only [bnA] at *; omega))) ?_
              refine j_q (qs_quo64 rfl rfl (by first | omega | (simp only [bnA] at *; omega)) (by first | omega | (simp only [bnA] at *; omega)) (by first | omega | (simp only [bnA] at *; omega))) ?_
              refine j_q (qs_geq rfl rfl) ?_
              refine j_cond rfl (fun hc6 => ?_) (fun hc6 => ?_)
              · skip
                exfalso
                simp only [bnA] at *
                omega
              · skip
                refine j_q (qs_quo64 rfl rfl (by first | omega | (simp only [bnA] at *; omega)) (by first | omega | (simp only [bnA] at *; omega)) (by first | omega | (simp only [bnA] at *; omega))) ?_
                refine j_q (qs_quo64 rfl rfl (by first | omega | (simp only [bnA] at *; omega)) (by first | omega | (simp only [bnA] at *; omega)) (by first | omega | (simp only [bnA] at *; omega))) ?_
                first
                  | refine j_q (qs_ixg Tryz.underlying46 sz5 rfl rfl ⟨(by first | omega | (simp only [bnA] at *; omega)), (by first | omega | (simp only [bnA] at *; omega))⟩) ?_
                  | refine j_q (qs_ixl0 Tryz.underlying46 sz5 rfl rfl ⟨(by first | omega | (simp only [bnA] at *; omega)), (by first | omega | (simp only [bnA] at *; omega))⟩) ?_
                first
                  | refine j_q (qs_loadk 0 Tryz.underlying5 rfl rfl (by first | omega | (simp only [bnA] at *; omega))) ?_
                  | refine j_q (qs_loadi 0 Tryz.underlying5 rfl rfl (by first | omega | (simp only [bnA] at *; omega))) ?_
                  | refine j_q (qs_load 0 Tryz.underlying5 rfl rfl rfl rfl) ?_
                refine j_q (qs_rem64 rfl rfl (by first | omega | (simp only [bnA] at *; omega)) (by first | omega | (simp only [bnA] at *; omega))) ?_
                refine j_q (qs_conv Tryz.underlying3 Tryz.underlying152 rfl) ?_
                rw [IntWalk.u64_in _ (by omega)]
                refine j_q (qs_shl rfl rfl (by first | omega | (simp only [bnA] at *; omega))) ?_
                refine j_q (qs_or_ rfl rfl) ?_
                rw [bw_by8]
                first
                  | refine j_q (qs_ixg Tryz.underlying46 sz5 rfl rfl ⟨(by first | omega | (simp only [bnA] at *; omega)), (by first | omega | (simp only [bnA] at *; omega))⟩) ?_
                  | refine j_q (qs_ixl0 Tryz.underlying46 sz5 rfl rfl ⟨(by first | omega | (simp only [bnA] at *; omega)), (by first | omega | (simp only [bnA] at *; omega))⟩) ?_
                first
                  | refine j_storek 0 sz5 rfl rfl rfl (by first | omega | (simp only [bnA] at *; omega)) ?_
                  | refine j_storei 0 sz5 rfl rfl rfl (by first | omega | (simp only [bnA] at *; omega)) ?_
                  | refine j_store 0 sz5 rfl rfl rfl rfl (by simp) (by first | omega | (simp only [bnA] at *; omega)) ?_
                refine j_q (qs_add64 rfl rfl (by first | omega | (simp only [bnA] at *; omega))) ?_
                refine j_back rfl ?_
                exact ⟨_, (by omega : 5 - (j + 1) < 5 - j), j + 1, _, rfl, rfl, by simpa using hq, by omega, rfl⟩
          · skip
            refine j_q (qs_add64 rfl rfl (by first | omega | (simp only [bnA] at *; omega))) ?_
            refine j_back rfl ?_
            exact ⟨_, (by omega : 32 - (t + 1) < 32 - t), t + 1, _, rfl, rfl, hq, by omega, fun j h1 h2 => by
                  rcases Nat.lt_or_ge j (32 - t) with h3 | h3
                  · obtain rfl : j = 31 - t := by omega
                    omega
                  · exact hall j h3 h2, rfl⟩
      · skip
        obtain rfl : t = 32 := by
          simp only [bnA] at *
          omega
        refine j_q (qs_ac) ?_
        refine j_ret_con (vs := [_, _]) (fun w' hw' => ⟨rfl, rfl, trivial⟩) ?_
        show ∃ u, Value.tuple #[_, _] = Value.tuple #[u, _]
        rw [parseE_ok hl32 (fun i hi => hall i (by omega) (by omega))]
        exact ⟨_, rfl⟩
end Go.Proofs.YtfeabbeebkkhaaaGreat
/-! Path1 -/
namespace Go.Proofs.YtfeabbeebkkhaaaGreat
open Go Go.Sx
set_option maxRecDepth 100000
set_option maxHeartbeats 4000000
set_option linter.unusedVariables false
set_option linter.unusedSimpArgs false
attribute [local irreducible] J JQ QS Con W opW
def okI (n : Int) : Bool := decide (48 ≤ n ∧ n ≤ 57 ∨ 65 ≤ n ∧ n ≤ 90 ∨ 97 ≤ n ∧ n ≤ 122 ∨ n = 43 ∨ n = 45 ∨ n = 46 ∨ n = 95 ∨ n = 63 ∨ n = 61)
def okB (c : UInt8) : Bool := okI (c.toNat : Int)
def isName (l : List UInt8) : Bool := decide (1 ≤ l.length ∧ l.length ≤ 80 ∧ ((l.getD 0 0).toNat : Int) ≠ 46) && l.all okB
theorem isName_len {l : List UInt8} (h : isName l = true) : 1 ≤ l.length ∧ l.length ≤ 80 := by
  simp only [isName, Bool.and_eq_true, decide_eq_true_eq] at h
  exact ⟨h.1.1, h.1.2.1⟩
theorem all_step {l : List UInt8} {i : Nat} (h : (l.take i).all okB = true) (hi : i < l.length) (hc : okI ((l.getD i 0).toNat : Int) = true) : (l.take (i + 1)).all okB = true := by
  rw [List.take_succ_eq_append_getElem hi, List.all_append, h]
  have : l.getD i 0 = l[i] := by rw [List.getD_eq_getElem?_getD, List.getElem?_eq_getElem hi]; rfl
  rw [this] at hc
  simpa [okB] using hc
theorem all_fail {l : List UInt8} {i : Nat} (hi : i < l.length) (hc : okI ((l.getD i 0).toNat : Int) = false) : isName l = false := by
  have : l.getD i 0 = l[i] := by rw [List.getD_eq_getElem?_getD, List.getElem?_eq_getElem hi]; rfl
  rw [this] at hc
  have : l.all okB = false := by
    rw [List.all_eq_false]
    exact ⟨l[i], List.getElem_mem hi, by simp [okB, hc]⟩
  rw [isName, this, Bool.and_false]
theorem all_done {l : List UInt8} {i : Nat} (h : (l.take i).all okB = true) (hi : l.length ≤ i) (h1 : 1 ≤ l.length) (h2 : l.length ≤ 80) (h3 : ((l.getD 0 0).toNat : Int) ≠ 46) : isName l = true := by
  rw [List.take_of_length_le hi] at h
  simp only [isName, h, Bool.and_true, decide_eq_true_eq]
  exact ⟨h1, h2, h3⟩
theorem risName_con (l : List UInt8) (w : World) (hl : l.length ≤ 9223372036854775807) : Con Tryz.prog 59 [.string (bs l)] w [] fun v _ => v = .bool (isName l) := by
  refine con_of_tree mix Tryz.func59 T59_ok (by kernel_rfl) ?_
  unfold T59
  refine j_q (qs_ac) ?_
  refine j_q (qs_lens Tryz.underlying9 rfl) ?_
  refine j_q (qs_lss rfl rfl) ?_
  refine j_g rfl (fun hb => qs_mt rfl) ?_
  refine j_g rfl (fun hb => qs_lens Tryz.underlying9 (gd_eq hb)) ?_
  refine j_g rfl (fun hb => qs_gtr (gd_eq hb) rfl) ?_
  refine j_q (qs_or rfl rfl) ?_
  refine j_g rfl (fun hb => qs_mt rfl) ?_
  refine j_g rfl (fun hb => qs_idx Tryz.underlying9 (gd_eq hb) rfl ⟨(by first | omega | (simp only [bnA] at *; omega)), (by first | omega | (simp only [bnA] at *; omega))⟩) ?_
  refine j_g rfl (fun hb => qs_eql (gd_eq hb) rfl) ?_
  refine j_q (qs_or rfl rfl) ?_
  refine j_cond rfl (fun hc0 => ?_) (fun hc0 => ?_)
  · skip
    refine j_q (qs_ac) ?_
    refine j_ret_con (vs := [_]) (fun w' hw' => ⟨rfl, trivial⟩) ?_
    show Value.bool _ = _
    congr 1
    symm
    simp only [isName, Bool.and_eq_false_iff]
    left
    simp only [decide_eq_false_iff_not]
    intro hx
    simp only [bnA] at *
    have h00 : Int.toNat 0 = 0 := rfl
    rw [h00] at hc0
    omega
  · skip
    refine j_q (qs_ac) ?_
    refine j_loop (fun m vs S' => ∃ i : Nat, vs = [.int .i64 i] ∧ S' = [[]] ∧ i ≤ l.length ∧ m = l.length - i ∧ (l.take i).all okB = true) ⟨_, 0, rfl, rfl, by omega, rfl, rfl⟩ ?_
    rintro m vs S' hlen ⟨i, rfl, rfl, hi, rfl, hall⟩
    refine j_q (qs_lens Tryz.underlying9 rfl) ?_
    refine j_q (qs_lss rfl rfl) ?_
    refine j_cond rfl (fun hc1 => ?_) (fun hc1 => ?_)
    · skip
      refine j_q (qs_idx Tryz.underlying9 rfl rfl (by simp only [bnA] at *; omega)) ?_
      rw [Int.toNat_natCast]
      obtain ⟨c, hc00⟩ : ∃ c : Int, c = ((l.getD i 0).toNat : Int) := ⟨_, rfl⟩
      rw [← hc00]
      refine j_q (qs_geq rfl rfl) ?_
      refine j_g rfl (fun hb => qs_mt rfl) ?_
      refine j_g rfl (fun hb => qs_leq (gd_eq hb) rfl) ?_
      refine j_q (qs_and rfl rfl) ?_
      refine j_g rfl (fun hb => qs_mt rfl) ?_
      refine j_g rfl (fun hb => qs_geq (gd_eq hb) rfl) ?_
      refine j_g rfl (fun hb => qs_move (gd_eq hb)) ?_
      refine j_gg rfl (fun hb hb1 => qs_mt rfl) ?_
      refine j_gg rfl (fun hb hb1 => qs_leq (gd_eq2 hb hb1) rfl) ?_
      refine j_g rfl (fun hb => qs_and (gd_eq hb) (gd_eq hb)) ?_
      refine j_q (qs_or rfl rfl) ?_
      refine j_g rfl (fun hb => qs_mt rfl) ?_
      refine j_g rfl (fun hb => qs_geq (gd_eq hb) rfl) ?_
      refine j_g rfl (fun hb => qs_move (gd_eq hb)) ?_
      refine j_gg rfl (fun hb hb1 => qs_mt rfl) ?_
      refine j_gg rfl (fun hb hb1 => qs_leq (gd_eq2 hb hb1) rfl) ?_
      refine j_g rfl (fun hb => qs_and (gd_eq hb) (gd_eq hb)) ?_
      refine j_q (qs_or rfl rfl) ?_
      refine j_q (qs_not rfl) ?_
      refine j_g rfl (fun hb => qs_mt rfl) ?_
      refine j_g rfl (fun hb => qs_neq (gd_eq hb) rfl) ?_
      refine j_q (qs_and rfl rfl) ?_
      refine j_g rfl (fun hb => qs_mt rfl) ?_
      refine j_g rfl (fun hb => qs_neq (gd_eq hb) rfl) ?_
      refine j_q (qs_and rfl rfl) ?_
      refine j_g rfl (fun hb => qs_mt rfl) ?_
      refine j_g rfl (fun hb => qs_neq (gd_eq hb) rfl) ?_
      refine j_q (qs_and rfl rfl) ?_
      refine j_g rfl (fun hb => qs_mt rfl) ?_
      refine j_g rfl (fun hb => qs_neq (gd_eq hb) rfl) ?_
      refine j_q (qs_and rfl rfl) ?_
      refine j_g rfl (fun hb => qs_mt rfl) ?_
      refine j_g rfl (fun hb => qs_neq (gd_eq hb) rfl) ?_
      refine j_q (qs_and rfl rfl) ?_
      refine j_g rfl (fun hb => qs_mt rfl) ?_
      refine j_g rfl (fun hb => qs_neq (gd_eq hb) rfl) ?_
      refine j_q (qs_and rfl rfl) ?_
      refine j_cond rfl (fun hc2 => ?_) (fun hc2 => ?_)
      · skip
        refine j_q (qs_ac) ?_
        refine j_ret_con (vs := [_]) (fun w' hw' => ⟨rfl, trivial⟩) ?_
        show Value.bool _ = _
        congr 1
        symm
        refine all_fail (i := i) (by first | omega | (simp only [bnA] at *; omega)) ?_
        rw [← hc00]
        simp only [okI, decide_eq_false_iff_not]
        simp only [bnA] at *
        omega
      · skip
        refine j_q (qs_add64 rfl rfl (by first | omega | (simp only [bnA] at *; omega))) ?_
        refine j_back rfl ?_
        have h4 : okI ((l.getD i 0).toNat : Int) = true := by
          rw [← hc00]
          simp only [okI, decide_eq_true_eq]
          simp only [bnA] at *
          omega
        have h5 : i < l.length := by
          simp only [bnA] at *
          omega
        exact ⟨_, (by omega : l.length - (i + 1) < l.length - i), i + 1, by show [Value.int IntKind.i64 _] = _; congr 2, rfl, by omega, rfl, all_step hall h5 h4⟩
    · skip
      refine j_q (qs_ac) ?_
      refine j_ret_con (vs := [_]) (fun w' hw' => ⟨rfl, trivial⟩) ?_
      show Value.bool _ = _
      congr 1
      symm
      have h00 : Int.toNat 0 = 0 := rfl
      rw [h00] at hc0
      simp only [bnA] at *
      exact all_done hall (by omega) (by omega) (by omega) (by omega)
theorem isName_con (l : List UInt8) (w : World) (hl : l.length ≤ 9223372036854775807) : Con Tryz.prog 38 [.string (bs l)] w [] fun v _ => v = .bool (isName l) := by
  refine con_of_tree mix Tryz.func38 T38_ok (by kernel_rfl) ?_
  unfold T38
  refine j_q (qs_ac) ?_
  refine j_q (qs_lens Tryz.underlying9 rfl) ?_
  refine j_q (qs_lss rfl rfl) ?_
  refine j_g rfl (fun hb => qs_mt rfl) ?_
  refine j_g rfl (fun hb => qs_lens Tryz.underlying9 (gd_eq hb)) ?_
  refine j_g rfl (fun hb => qs_gtr (gd_eq hb) rfl) ?_
  refine j_q (qs_or rfl rfl) ?_
  refine j_g rfl (fun hb => qs_mt rfl) ?_
  refine j_g rfl (fun hb => qs_idx Tryz.underlying9 (gd_eq hb) rfl ⟨(by first | omega | (simp only [bnA] at *; omega)), (by first | omega | (simp only [bnA] at *; omega))⟩) ?_
  refine j_g rfl (fun hb => qs_eql (gd_eq hb) rfl) ?_
  refine j_q (qs_or rfl rfl) ?_
  refine j_cond rfl (fun hc0 => ?_) (fun hc0 => ?_)
  · skip
    refine j_q (qs_ac) ?_
    refine j_ret_con (vs := [_]) (fun w' hw' => ⟨rfl, trivial⟩) ?_
    show Value.bool _ = _
    congr 1
    symm
    simp only [isName, Bool.and_eq_false_iff]
    left
    simp only [decide_eq_false_iff_not]
    intro hx
    simp only [bnA] at *
    have h00 : Int.toNat 0 = 0 := rfl
    rw [h00] at hc0
    omega
  · skip
    refine j_bytes Tryz.underlying9 Tryz.underlying46 Tryz.underlying5 rfl (fun v12 c12 ho12 hv12 => ?_)
    obtain ⟨g12, cap12, rfl⟩ := hv12
    refine j_q (qs_lenl Tryz.underlying46 rfl) ?_
    refine j_q (qs_mc) ?_
    refine j_loop (fun m vs S' => ∃ i : Nat, vs = [.int .i64 i] ∧ S' = [c12, []] ∧ i ≤ l.length ∧ m = l.length - i ∧ (l.take i).all okB = true) ⟨_, 0, rfl, rfl, by omega, rfl, rfl⟩ ?_
    rintro m vs S' hlen ⟨i, rfl, rfl, hi, rfl, hall⟩
    refine j_q (qs_lss rfl rfl) ?_
    refine j_cond rfl (fun hc1 => ?_) (fun hc1 => ?_)
    · skip
      have hi1 : i < l.length := by
        simp only [bnA] at *
        omega
      refine j_q (qs_ixl0 Tryz.underlying46 sz5 rfl rfl ⟨(by first | omega | (simp only [bnA] at *; omega)), (by first | omega | (simp only [bnA] at *; omega))⟩) ?_
      refine j_q (qs_loadR (own_rd ho12 0 rfl) Tryz.underlying5 rfl rfl (by rw [Int.toNat_natCast]; exact ints_get_lt hi1)) ?_
      obtain ⟨c, hc00⟩ : ∃ c : Int, c = ((l.getD i 0).toNat : Int) := ⟨_, rfl⟩
      rw [← hc00]
      refine j_q (qs_geq rfl rfl) ?_
      refine j_g rfl (fun hb => qs_mt rfl) ?_
      refine j_g rfl (fun hb => qs_leq (gd_eq hb) rfl) ?_
      refine j_q (qs_and rfl rfl) ?_
      refine j_cond rfl (fun hc2 => ?_) (fun hc2 => ?_)
      · skip
        refine j_cond rfl (fun hc3 => ?_) (fun hc3 => ?_)
        · skip
          refine j_q (qs_add64 rfl rfl (by first | omega | (simp only [bnA] at *; omega))) ?_
          refine j_back rfl ?_
          first
            | (exfalso; simp only [bnA] at * <;> omega)
            | (
              have h4 : okI ((l.getD i 0).toNat : Int) = true := by
                rw [← hc00]
                simp only [okI, decide_eq_true_eq]
                simp only [bnA] at *
                omega
              exact ⟨_, (by omega : l.length - (i + 1) < l.length - i), i + 1, by show [Value.int IntKind.i64 _] = _; congr 2, rfl, by omega, rfl, all_step hall hi1 h4⟩)
        · skip
          refine j_q (qs_eql rfl rfl) ?_
          refine j_cond rfl (fun hc4 => ?_) (fun hc4 => ?_)
          · skip
            refine j_cond rfl (fun hc5 => ?_) (fun hc5 => ?_)
            · skip
              refine j_q (qs_add64 rfl rfl (by first | omega | (simp only [bnA] at *; omega))) ?_
              refine j_back rfl ?_
              first
                | (exfalso; simp only [bnA] at * <;> omega)
                | (
                  have h4 : okI ((l.getD i 0).toNat : Int) = true := by
                    rw [← hc00]
                    simp only [okI, decide_eq_true_eq]
                    simp only [bnA] at *
                    omega
                  exact ⟨_, (by omega : l.length - (i + 1) < l.length - i), i + 1, by show [Value.int IntKind.i64 _] = _; congr 2, rfl, by omega, rfl, all_step hall hi1 h4⟩)
            · skip
              refine j_q (qs_ac) ?_
              refine j_ret_con (vs := [_]) (fun w' hw' => ⟨rfl, trivial⟩) ?_
              first
                | (exfalso; simp only [bnA] at * <;> omega)
                | (
                  show Value.bool _ = _
                  congr 1
                  symm
                  refine all_fail (i := i) hi1 ?_
                  rw [← hc00]
                  simp only [okI, decide_eq_false_iff_not]
                  simp only [bnA] at *
                  omega)
          · skip
            refine j_q (qs_eql rfl rfl) ?_
            refine j_cond rfl (fun hc6 => ?_) (fun hc6 => ?_)
            · skip
              refine j_cond rfl (fun hc7 => ?_) (fun hc7 => ?_)
              · skip
                refine j_q (qs_add64 rfl rfl (by first | omega | (simp only [bnA] at *; omega))) ?_
                refine j_back rfl ?_
                first
                  | (exfalso; simp only [bnA] at * <;> omega)
                  | (
                    have h4 : okI ((l.getD i 0).toNat : Int) = true := by
                      rw [← hc00]
                      simp only [okI, decide_eq_true_eq]
                      simp only [bnA] at *
                      omega
                    exact ⟨_, (by omega : l.length - (i + 1) < l.length - i), i + 1, by show [Value.int IntKind.i64 _] = _; congr 2, rfl, by omega, rfl, all_step hall hi1 h4⟩)
              · skip
                refine j_q (qs_ac) ?_
                refine j_ret_con (vs := [_]) (fun w' hw' => ⟨rfl, trivial⟩) ?_
                first
                  | (exfalso; simp only [bnA] at * <;> omega)
                  | (
                    show Value.bool _ = _
                    congr 1
                    symm
                    refine all_fail (i := i) hi1 ?_
                    rw [← hc00]
                    simp only [okI, decide_eq_false_iff_not]
                    simp only [bnA] at *
                    omega)
            · skip
              refine j_q (qs_eql rfl rfl) ?_
              refine j_cond rfl (fun hc8 => ?_) (fun hc8 => ?_)
              · skip
                refine j_cond rfl (fun hc9 => ?_) (fun hc9 => ?_)
                · skip
                  refine j_q (qs_add64 rfl rfl (by first | omega | (simp only [bnA] at *; omega))) ?_
                  refine j_back rfl ?_
                  first
                    | (exfalso; simp only [bnA] at * <;> omega)
                    | (
                      have h4 : okI ((l.getD i 0).toNat : Int) = true := by
                        rw [← hc00]
                        simp only [okI, decide_eq_true_eq]
                        simp only [bnA] at *
                        omega
                      exact ⟨_, (by omega : l.length - (i + 1) < l.length - i), i + 1, by show [Value.int IntKind.i64 _] = _; congr 2, rfl, by omega, rfl, all_step hall hi1 h4⟩)
                · skip
                  refine j_q (qs_ac) ?_
                  refine j_ret_con (vs := [_]) (fun w' hw' => ⟨rfl, trivial⟩) ?_
                  first
                    | (exfalso; simp only [bnA] at * <;> omega)
                    | (
                      show Value.bool _ = _
                      congr 1
                      symm
                      refine all_fail (i := i) hi1 ?_
                      rw [← hc00]
                      simp only [okI, decide_eq_false_iff_not]
                      simp only [bnA] at *
                      omega)
              · skip
                refine j_q (qs_eql rfl rfl) ?_
                refine j_cond rfl (fun hc10 => ?_) (fun hc10 => ?_)
                · skip
                  refine j_cond rfl (fun hc11 => ?_) (fun hc11 => ?_)
                  · skip
                    refine j_q (qs_add64 rfl rfl (by first | omega | (simp only [bnA] at *; omega))) ?_
                    refine j_back rfl ?_
                    first
                      | (exfalso; simp only [bnA] at * <;> omega)
                      | (
                        have h4 : okI ((l.getD i 0).toNat : Int) = true := by
                          rw [← hc00]
                          simp only [okI, decide_eq_true_eq]
                          simp only [bnA] at *
                          omega
                        exact ⟨_, (by omega : l.length - (i + 1) < l.length - i), i + 1, by show [Value.int IntKind.i64 _] = _; congr 2, rfl, by omega, rfl, all_step hall hi1 h4⟩)
                  · skip
                    refine j_q (qs_ac) ?_
                    refine j_ret_con (vs := [_]) (fun w' hw' => ⟨rfl, trivial⟩) ?_
                    first
                      | (exfalso; simp only [bnA] at * <;> omega)
                      | (
                        show Value.bool _ = _
                        congr 1
                        symm
                        refine all_fail (i := i) hi1 ?_
                        rw [← hc00]
                        simp only [okI, decide_eq_false_iff_not]
                        simp only [bnA] at *
                        omega)
                · skip
                  refine j_q (qs_eql rfl rfl) ?_
                  refine j_cond rfl (fun hc12 => ?_) (fun hc12 => ?_)
                  · skip
                    refine j_cond rfl (fun hc13 => ?_) (fun hc13 => ?_)
                    · skip
                      refine j_q (qs_add64 rfl rfl (by first | omega | (simp only [bnA] at *; omega))) ?_
                      refine j_back rfl ?_
                      first
                        | (exfalso; simp only [bnA] at * <;> omega)
                        | (
                          have h4 : okI ((l.getD i 0).toNat : Int) = true := by
                            rw [← hc00]
                            simp only [okI, decide_eq_true_eq]
                            simp only [bnA] at *
                            omega
                          exact ⟨_, (by omega : l.length - (i + 1) < l.length - i), i + 1, by show [Value.int IntKind.i64 _] = _; congr 2, rfl, by omega, rfl, all_step hall hi1 h4⟩)
                    · skip
                      refine j_q (qs_ac) ?_
                      refine j_ret_con (vs := [_]) (fun w' hw' => ⟨rfl, trivial⟩) ?_
                      first
                        | (exfalso; simp only [bnA] at * <;> omega)
                        | (
                          show Value.bool _ = _
                          congr 1
                          symm
                          refine all_fail (i := i) hi1 ?_
                          rw [← hc00]
                          simp only [okI, decide_eq_false_iff_not]
                          simp only [bnA] at *
                          omega)
                  · skip
                    refine j_q (qs_eql rfl rfl) ?_
                    refine j_cond rfl (fun hc14 => ?_) (fun hc14 => ?_)
                    · skip
                      refine j_q (qs_add64 rfl rfl (by first | omega | (simp only [bnA] at *; omega))) ?_
                      refine j_back rfl ?_
                      first
                        | (exfalso; simp only [bnA] at * <;> omega)
                        | (
                          have h4 : okI ((l.getD i 0).toNat : Int) = true := by
                            rw [← hc00]
                            simp only [okI, decide_eq_true_eq]
                            simp only [bnA] at *
                            omega
                          exact ⟨_, (by omega : l.length - (i + 1) < l.length - i), i + 1, by show [Value.int IntKind.i64 _] = _; congr 2, rfl, by omega, rfl, all_step hall hi1 h4⟩)
                    · skip
                      refine j_q (qs_ac) ?_
                      refine j_ret_con (vs := [_]) (fun w' hw' => ⟨rfl, trivial⟩) ?_
                      first
                        | (exfalso; simp only [bnA] at * <;> omega)
                        | (
                          show Value.bool _ = _
                          congr 1
                          symm
                          refine all_fail (i := i) hi1 ?_
                          rw [← hc00]
                          simp only [okI, decide_eq_false_iff_not]
                          simp only [bnA] at *
                          omega)
      · skip
        refine j_q (qs_geq rfl rfl) ?_
        refine j_g rfl (fun hb => qs_mt rfl) ?_
        refine j_g rfl (fun hb => qs_leq (gd_eq hb) rfl) ?_
        refine j_q (qs_and rfl rfl) ?_
        refine j_cond rfl (fun hc15 => ?_) (fun hc15 => ?_)
        · skip
          refine j_cond rfl (fun hc16 => ?_) (fun hc16 => ?_)
          · skip
            refine j_q (qs_add64 rfl rfl (by first | omega | (simp only [bnA] at *; omega))) ?_
            refine j_back rfl ?_
            first
              | (exfalso; simp only [bnA] at * <;> omega)
              | (
                have h4 : okI ((l.getD i 0).toNat : Int) = true := by
                  rw [← hc00]
                  simp only [okI, decide_eq_true_eq]
                  simp only [bnA] at *
                  omega
                exact ⟨_, (by omega : l.length - (i + 1) < l.length - i), i + 1, by show [Value.int IntKind.i64 _] = _; congr 2, rfl, by omega, rfl, all_step hall hi1 h4⟩)
          · skip
            refine j_q (qs_eql rfl rfl) ?_
            refine j_cond rfl (fun hc17 => ?_) (fun hc17 => ?_)
            · skip
              refine j_cond rfl (fun hc18 => ?_) (fun hc18 => ?_)
              · skip
                refine j_q (qs_add64 rfl rfl (by first | omega | (simp only [bnA] at *; omega))) ?_
                refine j_back rfl ?_
                first
                  | (exfalso; simp only [bnA] at * <;> omega)
                  | (
                    have h4 : okI ((l.getD i 0).toNat : Int) = true := by
                      rw [← hc00]
                      simp only [okI, decide_eq_true_eq]
                      simp only [bnA] at *
                      omega
                    exact ⟨_, (by omega : l.length - (i + 1) < l.length - i), i + 1, by show [Value.int IntKind.i64 _] = _; congr 2, rfl, by omega, rfl, all_step hall hi1 h4⟩)
              · skip
                refine j_q (qs_ac) ?_
                refine j_ret_con (vs := [_]) (fun w' hw' => ⟨rfl, trivial⟩) ?_
                first
                  | (exfalso; simp only [bnA] at * <;> omega)
                  | (
                    show Value.bool _ = _
                    congr 1
                    symm
                    refine all_fail (i := i) hi1 ?_
                    rw [← hc00]
                    simp only [okI, decide_eq_false_iff_not]
                    simp only [bnA] at *
                    omega)
            · skip
              refine j_q (qs_eql rfl rfl) ?_
              refine j_cond rfl (fun hc19 => ?_) (fun hc19 => ?_)
              · skip
                refine j_cond rfl (fun hc20 => ?_) (fun hc20 => ?_)
                · skip
                  refine j_q (qs_add64 rfl rfl (by first | omega | (simp only [bnA] at *; omega))) ?_
                  refine j_back rfl ?_
                  first
                    | (exfalso; simp only [bnA] at * <;> omega)
                    | (
                      have h4 : okI ((l.getD i 0).toNat : Int) = true := by
                        rw [← hc00]
                        simp only [okI, decide_eq_true_eq]
                        simp only [bnA] at *
                        omega
                      exact ⟨_, (by omega : l.length - (i + 1) < l.length - i), i + 1, by show [Value.int IntKind.i64 _] = _; congr 2, rfl, by omega, rfl, all_step hall hi1 h4⟩)
                · skip
                  refine j_q (qs_ac) ?_
                  refine j_ret_con (vs := [_]) (fun w' hw' => ⟨rfl, trivial⟩) ?_
                  first
                    | (exfalso; simp only [bnA] at * <;> omega)
                    | (
                      show Value.bool _ = _
                      congr 1
                      symm
                      refine all_fail (i := i) hi1 ?_
                      rw [← hc00]
                      simp only [okI, decide_eq_false_iff_not]
                      simp only [bnA] at *
                      omega)
              · skip
                refine j_q (qs_eql rfl rfl) ?_
                refine j_cond rfl (fun hc21 => ?_) (fun hc21 => ?_)
                · skip
                  refine j_cond rfl (fun hc22 => ?_) (fun hc22 => ?_)
                  · skip
                    refine j_q (qs_add64 rfl rfl (by first | omega | (simp only [bnA] at *; omega))) ?_
                    refine j_back rfl ?_
                    first
                      | (exfalso; simp only [bnA] at * <;> omega)
                      | (
                        have h4 : okI ((l.getD i 0).toNat : Int) = true := by
                          rw [← hc00]
                          simp only [okI, decide_eq_true_eq]
                          simp only [bnA] at *
                          omega
                        exact ⟨_, (by omega : l.length - (i + 1) < l.length - i), i + 1, by show [Value.int IntKind.i64 _] = _; congr 2, rfl, by omega, rfl, all_step hall hi1 h4⟩)
                  · skip
                    refine j_q (qs_ac) ?_
                    refine j_ret_con (vs := [_]) (fun w' hw' => ⟨rfl, trivial⟩) ?_
                    first
                      | (exfalso; simp only [bnA] at * <;> omega)
                      | (
                        show Value.bool _ = _
                        congr 1
                        symm
                        refine all_fail (i := i) hi1 ?_
                        rw [← hc00]
                        simp only [okI, decide_eq_false_iff_not]
                        simp only [bnA] at *
                        omega)
                · skip
                  refine j_q (qs_eql rfl rfl) ?_
                  refine j_cond rfl (fun hc23 => ?_) (fun hc23 => ?_)
                  · skip
                    refine j_cond rfl (fun hc24 => ?_) (fun hc24 => ?_)
                    · skip
                      refine j_q (qs_add64 rfl rfl (by first | omega | (simp only [bnA] at *; omega))) ?_
                      refine j_back rfl ?_
                      first
                        | (exfalso; simp only [bnA] at * <;> omega)
                        | (
                          have h4 : okI ((l.getD i 0).toNat : Int) = true := by
                            rw [← hc00]
                            simp only [okI, decide_eq_true_eq]
                            simp only [bnA] at *
                            omega
                          exact ⟨_, (by omega : l.length - (i + 1) < l.length - i), i + 1, by show [Value.int IntKind.i64 _] = _; congr 2, rfl, by omega, rfl, all_step hall hi1 h4⟩)
                    · skip
                      refine j_q (qs_ac) ?_
                      refine j_ret_con (vs := [_]) (fun w' hw' => ⟨rfl, trivial⟩) ?_
                      first
                        | (exfalso; simp only [bnA] at * <;> omega)
                        | (
                          show Value.bool _ = _
                          congr 1
                          symm
                          refine all_fail (i := i) hi1 ?_
                          rw [← hc00]
                          simp only [okI, decide_eq_false_iff_not]
                          simp only [bnA] at *
                          omega)
                  · skip
                    refine j_q (qs_eql rfl rfl) ?_
                    refine j_cond rfl (fun hc25 => ?_) (fun hc25 => ?_)
                    · skip
                      refine j_cond rfl (fun hc26 => ?_) (fun hc26 => ?_)
                      · skip
                        refine j_q (qs_add64 rfl rfl (by first | omega | (simp only [bnA] at *; omega))) ?_
                        refine j_back rfl ?_
                        first
                          | (exfalso; simp only [bnA] at * <;> omega)
                          | (
                            have h4 : okI ((l.getD i 0).toNat : Int) = true := by
                              rw [← hc00]
                              simp only [okI, decide_eq_true_eq]
                              simp only [bnA] at *
                              omega
                            exact ⟨_, (by omega : l.length - (i + 1) < l.length - i), i + 1, by show [Value.int IntKind.i64 _] = _; congr 2, rfl, by omega, rfl, all_step hall hi1 h4⟩)
                      · skip
                        refine j_q (qs_ac) ?_
                        refine j_ret_con (vs := [_]) (fun w' hw' => ⟨rfl, trivial⟩) ?_
                        first
                          | (exfalso; simp only [bnA] at * <;> omega)
                          | (
                            show Value.bool _ = _
                            congr 1
                            symm
                            refine all_fail (i := i) hi1 ?_
                            rw [← hc00]
                            simp only [okI, decide_eq_false_iff_not]
                            simp only [bnA] at *
                            omega)
                    · skip
                      refine j_q (qs_eql rfl rfl) ?_
                      refine j_cond rfl (fun hc27 => ?_) (fun hc27 => ?_)
                      · skip
                        refine j_q (qs_add64 rfl rfl (by first | omega | (simp only [bnA] at *; omega))) ?_
                        refine j_back rfl ?_
                        first
                          | (exfalso; simp only [bnA] at * <;> omega)
                          | (
                            have h4 : okI ((l.getD i 0).toNat : Int) = true := by
                              rw [← hc00]
                              simp only [okI, decide_eq_true_eq]
                              simp only [bnA] at *
                              omega
                            exact ⟨_, (by omega : l.length - (i + 1) < l.length - i), i + 1, by show [Value.int IntKind.i64 _] = _; congr 2, rfl, by omega, rfl, all_step hall hi1 h4⟩)
                      · skip
                        refine j_q (qs_ac) ?_
                        refine j_ret_con (vs := [_]) (fun w' hw' => ⟨rfl, trivial⟩) ?_
                        first
                          | (exfalso; simp only [bnA] at * <;> omega)
                          | (
                            show Value.bool _ = _
                            congr 1
                            symm
                            refine all_fail (i := i) hi1 ?_
                            rw [← hc00]
                            simp only [okI, decide_eq_false_iff_not]
                            simp only [bnA] at *
                            omega)
        · skip
          refine j_q (qs_geq rfl rfl) ?_
          refine j_g rfl (fun hb => qs_mt rfl) ?_
          refine j_g rfl (fun hb => qs_leq (gd_eq hb) rfl) ?_
          refine j_q (qs_and rfl rfl) ?_
          refine j_cond rfl (fun hc28 => ?_) (fun hc28 => ?_)
          · skip
            refine j_q (qs_add64 rfl rfl (by first | omega | (simp only [bnA] at *; omega))) ?_
            refine j_back rfl ?_
            first
              | (exfalso; simp only [bnA] at * <;> omega)
              | (
                have h4 : okI ((l.getD i 0).toNat : Int) = true := by
                  rw [← hc00]
                  simp only [okI, decide_eq_true_eq]
                  simp only [bnA] at *
                  omega
                exact ⟨_, (by omega : l.length - (i + 1) < l.length - i), i + 1, by show [Value.int IntKind.i64 _] = _; congr 2, rfl, by omega, rfl, all_step hall hi1 h4⟩)
          · skip
            refine j_q (qs_eql rfl rfl) ?_
            refine j_cond rfl (fun hc29 => ?_) (fun hc29 => ?_)
            · skip
              refine j_cond rfl (fun hc30 => ?_) (fun hc30 => ?_)
              · skip
                refine j_q (qs_add64 rfl rfl (by first | omega | (simp only [bnA] at *; omega))) ?_
                refine j_back rfl ?_
                first
                  | (exfalso; simp only [bnA] at * <;> omega)
                  | (
                    have h4 : okI ((l.getD i 0).toNat : Int) = true := by
                      rw [← hc00]
                      simp only [okI, decide_eq_true_eq]
                      simp only [bnA] at *
                      omega
                    exact ⟨_, (by omega : l.length - (i + 1) < l.length - i), i + 1, by show [Value.int IntKind.i64 _] = _; congr 2, rfl, by omega, rfl, all_step hall hi1 h4⟩)
              · skip
                refine j_q (qs_ac) ?_
                refine j_ret_con (vs := [_]) (fun w' hw' => ⟨rfl, trivial⟩) ?_
                first
                  | (exfalso; simp only [bnA] at * <;> omega)
                  | (
                    show Value.bool _ = _
                    congr 1
                    symm
                    refine all_fail (i := i) hi1 ?_
                    rw [← hc00]
                    simp only [okI, decide_eq_false_iff_not]
                    simp only [bnA] at *
                    omega)
            · skip
              refine j_q (qs_eql rfl rfl) ?_
              refine j_cond rfl (fun hc31 => ?_) (fun hc31 => ?_)
              · skip
                refine j_cond rfl (fun hc32 => ?_) (fun hc32 => ?_)
                · skip
                  refine j_q (qs_add64 rfl rfl (by first | omega | (simp only [bnA] at *; omega))) ?_
                  refine j_back rfl ?_
                  first
                    | (exfalso; simp only [bnA] at * <;> omega)
                    | (
                      have h4 : okI ((l.getD i 0).toNat : Int) = true := by
                        rw [← hc00]
                        simp only [okI, decide_eq_true_eq]
                        simp only [bnA] at *
                        omega
                      exact ⟨_, (by omega : l.length - (i + 1) < l.length - i), i + 1, by show [Value.int IntKind.i64 _] = _; congr 2, rfl, by omega, rfl, all_step hall hi1 h4⟩)
                · skip
                  refine j_q (qs_ac) ?_
                  refine j_ret_con (vs := [_]) (fun w' hw' => ⟨rfl, trivial⟩) ?_
                  first
                    | (exfalso; simp only [bnA] at * <;> omega)
                    | (
                      show Value.bool _ = _
                      congr 1
                      symm
                      refine all_fail (i := i) hi1 ?_
                      rw [← hc00]
                      simp only [okI, decide_eq_false_iff_not]
                      simp only [bnA] at *
                      omega)
              · skip
                refine j_q (qs_eql rfl rfl) ?_
                refine j_cond rfl (fun hc33 => ?_) (fun hc33 => ?_)
                · skip
                  refine j_cond rfl (fun hc34 => ?_) (fun hc34 => ?_)
                  · skip
                    refine j_q (qs_add64 rfl rfl (by first | omega | (simp only [bnA] at *; omega))) ?_
                    refine j_back rfl ?_
                    first
                      | (exfalso; simp only [bnA] at * <;> omega)
                      | (
                        have h4 : okI ((l.getD i 0).toNat : Int) = true := by
                          rw [← hc00]
                          simp only [okI, decide_eq_true_eq]
                          simp only [bnA] at *
                          omega
                        exact ⟨_, (by omega : l.length - (i + 1) < l.length - i), i + 1, by show [Value.int IntKind.i64 _] = _; congr 2, rfl, by omega, rfl, all_step hall hi1 h4⟩)
                  · skip
                    refine j_q (qs_ac) ?_
                    refine j_ret_con (vs := [_]) (fun w' hw' => ⟨rfl, trivial⟩) ?_
                    first
                      | (exfalso; simp only [bnA] at * <;> omega)
                      | (
                        show Value.bool _ = _
                        congr 1
                        symm
                        refine all_fail (i := i) hi1 ?_
                        rw [← hc00]
                        simp only [okI, decide_eq_false_iff_not]
                        simp only [bnA] at *
                        omega)
                · skip
                  refine j_q (qs_eql rfl rfl) ?_
                  refine j_cond rfl (fun hc35 => ?_) (fun hc35 => ?_)
                  · skip
                    refine j_cond rfl (fun hc36 => ?_) (fun hc36 => ?_)
                    · skip
                      refine j_q (qs_add64 rfl rfl (by first | omega | (simp only [bnA] at *; omega))) ?_
                      refine j_back rfl ?_
                      first
                        | (exfalso; simp only [bnA] at * <;> omega)
                        | (
                          have h4 : okI ((l.getD i 0).toNat : Int) = true := by
                            rw [← hc00]
                            simp only [okI, decide_eq_true_eq]
                            simp only [bnA] at *
                            omega
                          exact ⟨_, (by omega : l.length - (i + 1) < l.length - i), i + 1, by show [Value.int IntKind.i64 _] = _; congr 2, rfl, by omega, rfl, all_step hall hi1 h4⟩)
                    · skip
                      refine j_q (qs_ac) ?_
                      refine j_ret_con (vs := [_]) (fun w' hw' => ⟨rfl, trivial⟩) ?_
                      first
                        | (exfalso; simp only [bnA] at * <;> omega)
                        | (
                          show Value.bool _ = _
                          congr 1
                          symm
                          refine all_fail (i := i) hi1 ?_
                          rw [← hc00]
                          simp only [okI, decide_eq_false_iff_not]
                          simp only [bnA] at *
                          omega)
                  · skip
                    refine j_q (qs_eql rfl rfl) ?_
                    refine j_cond rfl (fun hc37 => ?_) (fun hc37 => ?_)
                    · skip
                      refine j_cond rfl (fun hc38 => ?_) (fun hc38 => ?_)
                      · skip
                        refine j_q (qs_add64 rfl rfl (by first | omega | (simp only [bnA] at *; omega))) ?_
                        refine j_back rfl ?_
                        first
                          | (exfalso; simp only [bnA] at * <;> omega)
                          | (
                            have h4 : okI ((l.getD i 0).toNat : Int) = true := by
                              rw [← hc00]
                              simp only [okI, decide_eq_true_eq]
                              simp only [bnA] at *
                              omega
                            exact ⟨_, (by omega : l.length - (i + 1) < l.length - i), i + 1, by show [Value.int IntKind.i64 _] = _; congr 2, rfl, by omega, rfl, all_step hall hi1 h4⟩)
                      · skip
                        refine j_q (qs_ac) ?_
                        refine j_ret_con (vs := [_]) (fun w' hw' => ⟨rfl, trivial⟩) ?_
                        first
                          | (exfalso; simp only [bnA] at * <;> omega)
                          | (
                            show Value.bool _ = _
                            congr 1
                            symm
                            refine all_fail (i := i) hi1 ?_
                            rw [← hc00]
                            simp only [okI, decide_eq_false_iff_not]
                            simp only [bnA] at *
                            omega)
                    · skip
                      refine j_q (qs_eql rfl rfl) ?_
                      refine j_cond rfl (fun hc39 => ?_) (fun hc39 => ?_)
                      · skip
                        refine j_q (qs_add64 rfl rfl (by first | omega | (simp only [bnA] at *; omega))) ?_
                        refine j_back rfl ?_
                        first
                          | (exfalso; simp only [bnA] at * <;> omega)
                          | (
                            have h4 : okI ((l.getD i 0).toNat : Int) = true := by
                              rw [← hc00]
                              simp only [okI, decide_eq_true_eq]
                              simp only [bnA] at *
                              omega
                            exact ⟨_, (by omega : l.length - (i + 1) < l.length - i), i + 1, by show [Value.int IntKind.i64 _] = _; congr 2, rfl, by omega, rfl, all_step hall hi1 h4⟩)
                      · skip
                        refine j_q (qs_ac) ?_
                        refine j_ret_con (vs := [_]) (fun w' hw' => ⟨rfl, trivial⟩) ?_
                        first
                          | (exfalso; simp only [bnA] at * <;> omega)
                          | (
                            show Value.bool _ = _
                            congr 1
                            symm
                            refine all_fail (i := i) hi1 ?_
                            rw [← hc00]
                            simp only [okI, decide_eq_false_iff_not]
                            simp only [bnA] at *
                            omega)
    · skip
      refine j_q (qs_ac) ?_
      refine j_ret_con (vs := [_]) (fun w' hw' => ⟨rfl, trivial⟩) ?_
      first
        | (exfalso; simp only [bnA] at * <;> omega)
        | (
          show Value.bool _ = _
          congr 1
          symm
          have h00 : Int.toNat 0 = 0 := rfl
          rw [h00] at hc0
          simp only [bnA] at *
          exact all_done hall (by omega) (by omega) (by omega) (by omega))
end Go.Proofs.YtfeabbeebkkhaaaGreat
/-! Spl -/
namespace Go.Proofs.YtfeabbeebkkhaaaGreat
open Go Go.Sx
set_option maxRecDepth 100000
set_option maxHeartbeats 4000000
set_option linter.unusedVariables false
set_option linter.unusedSimpArgs false
attribute [local irreducible] J JQ QS Con W opW
theorem ent38 : Sx.Enters Tryz.prog 38 := ⟨_, Tryz.func38, by kernel_rfl, by kernel_rfl⟩
theorem ent59 : Sx.Enters Tryz.prog 59 := ⟨_, Tryz.func59, by kernel_rfl, by kernel_rfl⟩
theorem ent60 : Sx.Enters Tryz.prog 60 := ⟨_, Tryz.func60, by kernel_rfl, by kernel_rfl⟩
theorem ent126 : Sx.Enters Tryz.prog 126 := ⟨_, Tryz.func126, by kernel_rfl, by kernel_rfl⟩
def isPath (l : List UInt8) : Bool := decide (34 ≤ l.length ∧ ((l.getD 32 0).toNat : Int) = 45) && isName (l.drop 33) && allDig (l.take 32)
def spA (l : List UInt8) : List UInt8 := if isPath l then l.take 32 else []
def spB (l : List UInt8) : List UInt8 := if isPath l then l.drop 33 else []
def spE (l : List UInt8) : Int := if isPath l then 0 else 3
def spl (l : List UInt8) : Value := .tuple #[.string (bs (spA l)), .string (bs (spB l)), .int .i64 (spE l)]
theorem spl_no {l : List UInt8} (h : isPath l = false) : spl l = .tuple #[.string (bs []), .string (bs []), .int .i64 3] := by
  simp [spl, spA, spB, spE, h]
theorem spl_yes {l : List UInt8} (h : isPath l = true) : spl l = .tuple #[.string (bs (l.take 32)), .string (bs (l.drop 33)), .int .i64 0] := by
  simp [spl, spA, spB, spE, h]
theorem cut_no {l : List UInt8} (h : (decide ((l.length : Int) < 34) || ((l.getD (Int.toNat 32) 0).toNat : Int) != 45 || !isName (l.drop 33)) = true) : isPath l = false := by
  unfold isPath
  have e : Int.toNat 32 = 32 := rfl
  rw [e] at h
  simp only [Bool.or_eq_true, decide_eq_true_eq, bne_iff_ne, Bool.not_eq_true'] at h
  rcases h with (h | h) | h
  · rw [show decide (34 ≤ l.length ∧ ((l.getD 32 0).toNat : Int) = 45) = false by simp only [decide_eq_false_iff_not]; omega]; rfl
  · rw [show decide (34 ≤ l.length ∧ ((l.getD 32 0).toNat : Int) = 45) = false by simp only [decide_eq_false_iff_not]; rintro ⟨_, h2⟩; exact h h2]; rfl
  · rw [h, Bool.and_false]; rfl
theorem cut_yes {l : List UInt8} (h : (decide ((l.length : Int) < 34) || ((l.getD (Int.toNat 32) 0).toNat : Int) != 45 || !isName (l.drop 33)) = false) : 34 ≤ l.length ∧ isPath l = allDig (l.take 32) := by
  unfold isPath
  have e : Int.toNat 32 = 32 := rfl
  rw [e] at h
  simp only [Bool.or_eq_false_iff, decide_eq_false_iff_not, bne_eq_false_iff_eq, Bool.not_eq_false'] at h
  obtain ⟨⟨h1, h2⟩, h3⟩ := h
  have h4 : 34 ≤ l.length := by omega
  refine ⟨h4, ?_⟩
  rw [show decide (34 ≤ l.length ∧ ((l.getD 32 0).toNat : Int) = 45) = true by simp only [decide_eq_true_eq]; exact ⟨h4, h2⟩, h3]
  rfl
theorem parseE_take {l : List UInt8} (h : 34 ≤ l.length) : parseE ((l.take 32).drop 0) = if allDig (l.take 32) then 0 else 3 := by
  rw [List.drop_zero]
  unfold parseE
  have : (l.take 32).length = 32 := by rw [List.length_take]; omega
  simp [this]
attribute [local irreducible] allDig isName
theorem split_con (l : List UInt8) (w : World) (hl : l.length ≤ 9223372036854775807) : Con Tryz.prog 79 [.string (bs l)] w [] fun v _ => v = spl l := by
  refine con_of_tree mix Tryz.func79 T79_ok (by kernel_rfl) ?_
  unfold T79
  refine j_q (qs_ac) ?_
  refine j_q (qs_ac) ?_
  refine j_q (qs_ac) ?_
  refine j_q (qs_lens Tryz.underlying9 rfl) ?_
  refine j_q (qs_lss rfl rfl) ?_
  refine j_g rfl (fun hb => qs_mt rfl) ?_
  refine j_g rfl (fun hb => qs_idx Tryz.underlying9 (gd_eq hb) rfl ⟨(by first | omega | (simp only [bnA] at *; omega)), (by first | omega | (simp only [bnA] at *; omega))⟩) ?_
  refine j_g rfl (fun hb => qs_neq (gd_eq hb) rfl) ?_
  refine j_q (qs_or rfl rfl) ?_
  refine j_g rfl (fun hb => qs_mt rfl) ?_
  refine j_g rfl (fun hb => qs_cuts (a := 33) (z := l.length) Tryz.underlying9 (gd_eq hb) ⟨.i64, rfl⟩ rfl (by simp only [bnA] at *; omega) (by omega)) ?_
  rw [List.take_length]
  refine j_g rfl (fun hb => qs_call ent38 rfl rfl (args1 (gd_eq hb)) (fun w' hw' => isName_con _ w' (by simp; omega))) ?_
  refine j_g rfl (fun hb => qs_not (gd_eq hb)) ?_
  refine j_q (qs_or rfl rfl) ?_
  refine j_cond rfl (fun hc0 => ?_) (fun hc0 => ?_)
  · skip
    have hno := cut_no hc0
    refine j_q (qs_ac) ?_
    refine j_q (qs_ac) ?_
    refine j_q (qs_ac) ?_
    refine j_ret_con (vs := [_, _, _]) (fun w' hw' => ⟨rfl, rfl, rfl, trivial⟩) ?_
    show Value.tuple #[_, _, _] = _
    rw [spl_no hno]
    rfl
  · skip
    have hy := cut_yes hc0
    have hy1 := hy.1
    refine j_q (qs_cuts (a := 0) (z := 32) Tryz.underlying9 rfl rfl ⟨.i64, rfl⟩ (by omega) (by omega)) ?_
    refine j_call0 ent126 rfl rfl rfl (fun w' hw' => parse_con _ w' (by simp; omega)) (fun u S2 hu => ?_)
    obtain ⟨u0, rfl⟩ := hu
    refine j_sub (S' := [[]]) (by simp) ?_
    rw [parseE_take hy.1]
    refine j_q (qs_ext (vs := [u0, .int .i64 (if allDig (l.take 32) then 0 else 3)]) rfl rfl) ?_
    refine j_q (qs_ext (vs := [u0, .int .i64 (if allDig (l.take 32) then 0 else 3)]) rfl rfl) ?_
    refine j_q (qs_neq rfl rfl) ?_
    refine j_cond rfl (fun hc1 => ?_) (fun hc1 => ?_)
    · skip
      have hd : isPath l = false := by
        rw [hy.2]
        cases hx : allDig (l.take 32)
        · rfl
        · rw [hx] at hc1; exact absurd hc1 (by decide)
      refine j_q (qs_ac) ?_
      refine j_q (qs_ac) ?_
      refine j_q (qs_ac) ?_
      refine j_ret_con (vs := [_, _, _]) (fun w' hw' => ⟨rfl, rfl, rfl, trivial⟩) ?_
      show Value.tuple #[_, _, _] = _
      rw [spl_no hd]
      rfl
    · skip
      have hd : isPath l = true := by
        rw [hy.2]
        cases hx : allDig (l.take 32)
        · rw [hx] at hc1; exact absurd hc1 (by decide)
        · rfl
      refine j_draw ?_
      refine jq_q (qs_cuts (a := 0) (z := 32) Tryz.underlying9 rfl rfl ⟨.i64, rfl⟩ (by omega) (by omega)) ?_
      refine jq_q (qs_cuts (a := 33) (z := l.length) Tryz.underlying9 rfl ⟨.i64, rfl⟩ rfl (by omega) (by omega)) ?_
      rw [List.take_length]
      refine jq_q (qs_ac) ?_
      refine jq_nil ?_
      refine j_ret_con (vs := [_, _, _]) (fun w' hw' => ⟨rfl, rfl, rfl, trivial⟩) ?_
      show Value.tuple #[_, _, _] = _
      rw [spl_yes hd]
      rfl
theorem rsplit_con (l : List UInt8) (w : World) (hl : l.length ≤ 9223372036854775807) : Con Tryz.prog 29 [.string (bs l)] w [] fun v _ => v = spl l := by
  refine con_of_tree mix Tryz.func29 T29_ok (by kernel_rfl) ?_
  unfold T29
  refine j_q (qs_ac) ?_
  refine j_q (qs_ac) ?_
  refine j_q (qs_ac) ?_
  refine j_q (qs_lens Tryz.underlying9 rfl) ?_
  refine j_q (qs_lss rfl rfl) ?_
  refine j_g rfl (fun hb => qs_mt rfl) ?_
  refine j_g rfl (fun hb => qs_idx Tryz.underlying9 (gd_eq hb) rfl ⟨(by first | omega | (simp only [bnA] at *; omega)), (by first | omega | (simp only [bnA] at *; omega))⟩) ?_
  refine j_g rfl (fun hb => qs_neq (gd_eq hb) rfl) ?_
  refine j_q (qs_or rfl rfl) ?_
  refine j_g rfl (fun hb => qs_mt rfl) ?_
  refine j_g rfl (fun hb => qs_cuts (a := 33) (z := l.length) Tryz.underlying9 (gd_eq hb) ⟨.i64, rfl⟩ rfl (by simp only [bnA] at *; omega) (by omega)) ?_
  rw [List.take_length]
  refine j_g rfl (fun hb => qs_call ent59 rfl rfl (args1 (gd_eq hb)) (fun w' hw' => risName_con _ w' (by simp; omega))) ?_
  refine j_g rfl (fun hb => qs_not (gd_eq hb)) ?_
  refine j_q (qs_or rfl rfl) ?_
  refine j_cond rfl (fun hc0 => ?_) (fun hc0 => ?_)
  · skip
    have hno := cut_no hc0
    refine j_q (qs_ac) ?_
    refine j_q (qs_ac) ?_
    refine j_q (qs_ac) ?_
    refine j_ret_con (vs := [_, _, _]) (fun w' hw' => ⟨rfl, rfl, rfl, trivial⟩) ?_
    show Value.tuple #[_, _, _] = _
    rw [spl_no hno]
    rfl
  · skip
    have hy := cut_yes hc0
    have hy1 := hy.1
    refine j_q (qs_cuts (a := 0) (z := 32) Tryz.underlying9 rfl rfl ⟨.i64, rfl⟩ (by omega) (by omega)) ?_
    refine j_call0 ent60 rfl rfl rfl (fun w' hw' => rparse_con _ w' (by simp; omega)) (fun u S2 hu => ?_)
    obtain ⟨u0, rfl⟩ := hu
    refine j_sub (S' := [[]]) (by simp) ?_
    rw [parseE_take hy.1]
    refine j_q (qs_ext (vs := [u0, .int .i64 (if allDig (l.take 32) then 0 else 3)]) rfl rfl) ?_
    refine j_q (qs_ext (vs := [u0, .int .i64 (if allDig (l.take 32) then 0 else 3)]) rfl rfl) ?_
    refine j_q (qs_neq rfl rfl) ?_
    refine j_cond rfl (fun hc1 => ?_) (fun hc1 => ?_)
    · skip
      have hd : isPath l = false := by
        rw [hy.2]
        cases hx : allDig (l.take 32)
        · rfl
        · rw [hx] at hc1; exact absurd hc1 (by decide)
      refine j_q (qs_ac) ?_
      refine j_q (qs_ac) ?_
      refine j_q (qs_ac) ?_
      refine j_ret_con (vs := [_, _, _]) (fun w' hw' => ⟨rfl, rfl, rfl, trivial⟩) ?_
      show Value.tuple #[_, _, _] = _
      rw [spl_no hd]
      rfl
    · skip
      have hd : isPath l = true := by
        rw [hy.2]
        cases hx : allDig (l.take 32)
        · rw [hx] at hc1; exact absurd hc1 (by decide)
        · rfl
      refine j_draw ?_
      refine jq_q (qs_cuts (a := 0) (z := 32) Tryz.underlying9 rfl rfl ⟨.i64, rfl⟩ (by omega) (by omega)) ?_
      refine jq_q (qs_cuts (a := 33) (z := l.length) Tryz.underlying9 rfl ⟨.i64, rfl⟩ rfl (by omega) (by omega)) ?_
      rw [List.take_length]
      refine jq_q (qs_ac) ?_
      refine jq_nil ?_
      refine j_ret_con (vs := [_, _, _]) (fun w' hw' => ⟨rfl, rfl, rfl, trivial⟩) ?_
      show Value.tuple #[_, _, _] = _
      rw [spl_yes hd]
      rfl
end Go.Proofs.YtfeabbeebkkhaaaGreat
/-! Bld -/
namespace Go.Proofs.YtfeabbeebkkhaaaGreat
open Go Go.Sx
set_option maxRecDepth 100000
set_option maxHeartbeats 4000000
set_option linter.unusedVariables false
set_option linter.unusedSimpArgs false
attribute [local irreducible] J JQ QS Con W opW
theorem ent143 : Sx.Enters Tryz.prog 143 := ⟨_, Tryz.func143, by kernel_rfl, by kernel_rfl⟩
theorem sz46 : (Tryz.prog.info? 46).map (·.size) = some 1 := by kernel_rfl
theorem sz167 : (Tryz.prog.info? 167).map (·.size) = some 1 := by kernel_rfl
theorem sz169 : (Tryz.prog.info? 169).map (·.size) = some 2 := by kernel_rfl
theorem copyCheck_con (g : Nat) (A : Option Addr) (hA : A = none ∨ A = some ⟨g, 0, none⟩) (bv : Value) (w : World) : Con Tryz.prog 143 [.pointer (some ⟨g, 0, none⟩)] w [(g, .cells [.pointer A, bv].toArray 169 (0, 0))] fun v S' => v = .tuple #[] ∧ S' = [[(g, .cells [.pointer (some ⟨g, 0, none⟩), bv].toArray 169 (0, 0))]] := by
  refine con_of_tree mix Tryz.func143 T143_ok (by kernel_rfl) ?_
  unfold T143
  refine j_q (qs_nil rfl) ?_
  refine j_q (qs_field Tryz.underlying169 rfl sz167 (by decide) rfl) ?_
  refine j_q (qs_load 0 Tryz.underlying167 rfl rfl rfl rfl) ?_
  refine j_q (qs_pnil Tryz.underlying167 rfl) ?_
  refine j_cond rfl (fun hc0 => ?_) (fun hc0 => ?_)
  · skip
    obtain rfl : A = none := by simpa using hc0
    refine j_q (qs_tounsafe 0 Tryz.underlying167 Tryz.underlying223 sz169 (by decide) rfl rfl (by simp)) ?_
    refine j_q (qs_extern Tryz.func164 (by kernel_rfl) (by kernel_rfl) (by kernel_rfl) (e := Extern.AbiNoEscape.same) (by kernel_rfl) rfl rfl rfl (v := .pointer (some ⟨g, 0, none⟩)) (fun w => rfl)) ?_
    refine j_q (qs_fromunsafe 0 Tryz.underlying223 Tryz.underlying167 sz169 rfl rfl (by kernel_rfl)) ?_
    refine j_q (qs_nil rfl) ?_
    refine j_q (qs_field Tryz.underlying169 rfl sz167 (by decide) rfl) ?_
    refine j_store 0 sz167 rfl rfl rfl rfl (by simp) (by first | omega | (simp only [bnA] at *; omega)) ?_
    refine j_ret_con (vs := []) (fun w' hw' => trivial) ?_
    exact ⟨rfl, rfl⟩
  · skip
    obtain rfl : A = some ⟨g, 0, none⟩ := hA.resolve_left (by rintro rfl; cases hc0)
    refine j_q (qs_nil rfl) ?_
    refine j_q (qs_field Tryz.underlying169 rfl sz167 (by decide) rfl) ?_
    refine j_q (qs_load 0 Tryz.underlying167 rfl rfl rfl rfl) ?_
    refine j_q (qs_psame Tryz.underlying167 sz169 rfl rfl) ?_
    refine j_cond rfl (fun hc1 => ?_) (fun hc1 => ?_)
    · skip
      cases hc1
    · skip
      refine j_ret_con (vs := []) (fun w' hw' => trivial) ?_
      exact ⟨rfl, rfl⟩
theorem writeString_con (g : Nat) (A : Option Addr) (hA : A = none ∨ A = some ⟨g, 0, none⟩) (bv : Value) (c : SH) (l s : List UInt8) (ho : Sx.Own 5 1 (ints l) bv c) (hl : l.length + s.length ≤ 70368744177664) (w : World) : Con Tryz.prog 115 [.pointer (some ⟨g, 0, none⟩), .string (bs s)] w ((g, .cells [.pointer A, bv].toArray 169 (0, 0)) :: c) fun v S' => v = .tuple #[.int .i64 s.length, .nilIface] ∧ ∃ bv' c', S' = [(g, .cells [.pointer (some ⟨g, 0, none⟩), bv'].toArray 169 (0, 0)) :: c'] ∧ Sx.Own 5 1 (ints (l ++ s)) bv' c' := by
  refine con_of_tree mix Tryz.func115 T115_ok (by kernel_rfl) ?_
  unfold T115
  refine j_perm (S' := [[(g, .cells [.pointer A, bv].toArray 169 (0, 0))], c]) (by simp) ?_
  refine j_q (qs_ac) ?_
  refine j_q (qs_ac) ?_
  refine j_call 0 ent143 rfl rfl rfl rfl (fun w' hw' => copyCheck_con g A hA bv w') (fun u S2 hu => ?_)
  obtain ⟨rfl, rfl⟩ := hu
  refine j_q (qs_nil rfl) ?_
  refine j_q (qs_field Tryz.underlying169 rfl sz46 (by decide) rfl) ?_
  refine j_q (qs_load 0 Tryz.underlying46 rfl rfl rfl rfl) ?_
  refine j_append 2 Tryz.underlying46 Tryz.underlying9 (.inl rfl) sb5 zero5 rfl ho rfl (.inr (.inr ⟨s, rfl, rfl, rfl, rfl⟩)) ints_one ⟨(by rw [ints_length, ints_length]; omega), (by decide)⟩ (fun v6 c6 ho6 => ?_)
  rw [← ints_append] at ho6
  obtain ⟨n6, A6, cap6, rfl, hn6⟩ := own_form ho6 (by decide)
  refine j_q (qs_nil rfl) ?_
  refine j_q (qs_field Tryz.underlying169 rfl sz46 (by decide) rfl) ?_
  refine j_store 0 sz46 rfl rfl rfl rfl (by simp) (by first | omega | (simp only [bnA] at *; omega)) ?_
  refine j_q (qs_lens Tryz.underlying9 rfl) ?_
  refine j_q (qs_ac) ?_
  refine j_perm (S' := [(g, .cells [.pointer (some ⟨g, 0, none⟩), .slice A6 n6 cap6].toArray 169 (0, 0)) :: c6]) (by simp; exact List.Perm.refl _) ?_
  refine j_ret_con (vs := [_, _]) (fun w' hw' => ⟨rfl, rfl, trivial⟩) ?_
  exact ⟨rfl, _, _, rfl, ho6⟩
theorem string_con (g : Nat) (A : Value) (bv : Value) (c : SH) (l : List UInt8) (h0 : l ≠ []) (hl : l.length ≤ 9223372036854775807) (ho : Sx.Own 5 1 (ints l) bv c) (w : World) : Con Tryz.prog 117 [.pointer (some ⟨g, 0, none⟩)] w ((g, .cells [A, bv].toArray 169 (0, 0)) :: c) fun v S' => v = .string (bs l) ∧ S' = [] := by
  refine con_of_tree mix Tryz.func117 T117_ok (by kernel_rfl) ?_
  unfold T117
  obtain ⟨g2, n, cap, rfl⟩ := own_some ho (by intro h; exact h0 (by simpa [ints] using h))
  obtain ⟨rest, fz, rfl, ho1, ho2, ho3, ho4⟩ := own_row ho
  have hn : n = l.length := by rw [ints_length] at ho1; omega
  have hl0 : 0 < l.length := List.length_pos_iff.2 h0
  subst hn
  refine j_perm (S' := [[(g, .cells [A, .slice (some ⟨g2, 0, none⟩) l.length cap].toArray 169 (0, 0))], [(g2, .cells (ints l ++ rest).toArray 5 fz)]]) (by simp) ?_
  refine j_q (qs_ac) ?_
  refine j_mix _ (.refl _) ?_
  refine j_mq (qs_nil rfl) ?_
  refine j_mq (qs_field Tryz.underlying169 rfl sz46 (by decide) rfl) ?_
  refine j_mq (qs_load 0 Tryz.underlying46 rfl rfl rfl rfl) ?_
  refine j_mq (qs_nil rfl) ?_
  refine j_mq (qs_field Tryz.underlying169 rfl sz46 (by decide) rfl) ?_
  refine j_mq (qs_load 0 Tryz.underlying46 rfl rfl rfl rfl) ?_
  refine j_mq (qs_lenl Tryz.underlying46 rfl) ?_
  refine j_q (qs_usd rfl (by omega)) ?_
  refine j_mD0 (Le.of_sub (by repeat first | exact slR _ | exact slN _ | apply slC | apply slD)) ?_
  refine j_ustr (l := l) (rest := rest) 1 Tryz.underlying196 (by kernel_rfl) rfl rfl rfl h0 hl ?_
  refine j_mR _ (.refl _) ?_
  refine j_mend ?_
  refine j_sub (S' := []) (by simp) ?_
  refine j_ret_con (vs := [_]) (fun w' hw' => ⟨rfl, trivial⟩) ?_
  exact ⟨rfl, rfl⟩
theorem writeByte_con (g : Nat) (A : Option Addr) (hA : A = none ∨ A = some ⟨g, 0, none⟩) (bv : Value) (c : SH) (l : List UInt8) (s : Int) (hs : 0 ≤ s ∧ s ≤ 255) (ho : Sx.Own 5 1 (ints l) bv c) (hl : l.length + 1 ≤ 70368744177664) (w : World) : Con Tryz.prog 116 [.pointer (some ⟨g, 0, none⟩), .int .u8 s] w ((g, .cells [.pointer A, bv].toArray 169 (0, 0)) :: c) fun v S' => v = .nilIface ∧ ∃ bv' c', S' = [(g, .cells [.pointer (some ⟨g, 0, none⟩), bv'].toArray 169 (0, 0)) :: c'] ∧ Sx.Own 5 1 (ints (l ++ [by8 s])) bv' c' := by
  refine con_of_tree mix Tryz.func116 T116_ok (by kernel_rfl) ?_
  unfold T116
  refine j_perm (S' := [[(g, .cells [.pointer A, bv].toArray 169 (0, 0))], c]) (by simp) ?_
  refine j_q (qs_ac) ?_
  refine j_call 0 ent143 rfl rfl rfl rfl (fun w' hw' => copyCheck_con g A hA bv w') (fun u S2 hu => ?_)
  obtain ⟨rfl, rfl⟩ := hu
  refine j_q (qs_nil rfl) ?_
  refine j_q (qs_field Tryz.underlying169 rfl sz46 (by decide) rfl) ?_
  first
    | refine j_q (qs_load 0 Tryz.underlying46 rfl rfl rfl rfl) ?_
    | refine j_q (qs_load 1 Tryz.underlying46 rfl rfl rfl rfl) ?_
  have hone : ints l ++ [.int .u8 s] = ints (l ++ [by8 s]) := by
    rw [ints_append]
    congr 1
    simp only [ints, List.map_cons, List.map_nil]
    have h1 := wrap_by8 s
    have h2 : IntKind.u8.wrap s = s := by rw [IntKind.wrap_u8]; omega
    rw [← h1, h2]
  refine j_lit (vs := [.int .u8 _]) Tryz.underlying46 sz5 zero5 rfl (by simp [oneV]) ⟨rfl, by decide⟩ (fun g5 v5 c5 hv5 hc5 ho5 => ?_)
  subst hv5 hc5
  refine j_append 3 Tryz.underlying46 Tryz.underlying46 (.inr ⟨_, rfl⟩) sb5 zero5 rfl ho rfl (.inl ⟨_, _, rfl, rd_own (off := 0) (n := 1) 0 rfl rfl, rfl⟩) (by simp [oneV]) ⟨(by rw [ints_length]; simp; omega), (by decide)⟩ (fun v6 c6 ho6 => ?_)
  have ho6 : Sx.Own 5 1 (ints (l ++ [by8 s])) v6 c6 := by
    rw [← hone]
    exact ho6
  obtain ⟨n6, A6, cap6, rfl, hn6⟩ := own_form ho6 (by decide)
  refine j_q (qs_nil rfl) ?_
  refine j_q (qs_field Tryz.underlying169 rfl sz46 (by decide) rfl) ?_
  first
    | refine j_store 0 sz46 rfl rfl rfl rfl (by simp) (by first | omega | (simp only [bnA] at *; omega)) ?_
    | refine j_store 1 sz46 rfl rfl rfl rfl (by simp) (by first | omega | (simp only [bnA] at *; omega)) ?_
  refine j_q (qs_ac) ?_
  refine j_sub (S' := [(g, .cells [.pointer (some ⟨g, 0, none⟩), .slice A6 n6 cap6].toArray 169 (0, 0)) :: c6]) (by simp only [List.set_cons_succ, List.set_cons_zero, List.cons_append, List.nil_append, List.flatten_cons, List.flatten_nil, List.append_nil]; exact List.Sublist.cons _ (List.Sublist.refl _)) ?_
  refine j_ret_con (vs := [_]) (fun w' hw' => ⟨rfl, trivial⟩) ?_
  exact ⟨rfl, _, _, rfl, ho6⟩
end Go.Proofs.YtfeabbeebkkhaaaGreat
