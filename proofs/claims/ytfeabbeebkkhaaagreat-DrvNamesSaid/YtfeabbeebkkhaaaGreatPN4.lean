/- Part 4. -/
import Derived.Test.YtfeabbeebkkhaaaGreatPN3
import Derived.Laws.IdiomStrings
import Derived.Laws.MakeOwn
import Derived.Test.YtfeabbeebkkhaaaGreatProg
import Derived.Laws.Externs
import Derived.Lib.Builder
import Derived.Lib.UnsafeStr
import Derived.Sort.Grow
import Derived.Sort.EncStr
/-! Sx6 -/
namespace Go.Sx
open Go
set_option linter.unusedVariables false
set_option linter.unusedSimpArgs false
variable {P : Program} {R : Ending → World → Prop} {env : Env} {b : Base} {S : List SH} {B : JB} {T : Tree} {v : Value} {ty : TypeId}
def ints (l : List UInt8) : List Value := l.map fun c => .int .u8 (c.toNat : Int)
theorem ints_length (l : List UInt8) : (ints l).length = l.length := by simp [ints]
theorem ints_get (l : List UInt8) (i : Nat) : (ints l)[i]? = l[i]?.map fun c => .int .u8 (c.toNat : Int) := by simp [ints]
theorem ints_append (l m : List UInt8) : ints (l ++ m) = ints l ++ ints m := by simp [ints]
theorem ints_get_lt {l : List UInt8} {i : Nat} (h : i < l.length) : (ints l)[i]? = some (.int .u8 ((l.getD i 0).toNat : Int)) := by
 rw [ints_get]; simp [List.getElem?_eq_getElem h, List.getD_eq_getElem?_getD]
theorem ints_one {l : List UInt8} : ∀ u ∈ ints l, oneV u = true := by
 intro u hu
 obtain ⟨c, _, rfl⟩ := List.mem_map.1 hu
 rfl
def Rd (b : Base) (S : List SH) (a : Addr) (vs : List Value) : Prop := ∀ w, Sig b S w → ∀ j u, vs[j]? = some u → w.cell? (a.add j) = some u
theorem rd_own {g off n : Nat} {l vs : List Value} {e : TypeId} {fz : Nat × Nat} (k : Nat) (hk : S[k]? = some [(g, .cells l.toArray e fz)]) (h : (l.drop off).take n = vs) : Rd b S ⟨g, off, none⟩ vs := fun w hw j u hu => by
 subst h
 rw [add_off, cell_of (hw.at_ hk)]
 rw [List.getElem?_take] at hu
 split at hu
 ·rwa [List.getElem?_drop] at hu
 ·cases hu
theorem rd_ro {a : Addr} {vs : List Value} (h : ∀ j u, vs[j]? = some u → b.w0.cell? (a.add j) = some u) (hD : a.block ∉ b.D) : Rd b S a vs := fun w hw j u hu => by
 refine hw.ro (h j u hu) ?_
 have : (a.add j).block = a.block := by unfold Addr.add; split <;> rfl
 rwa [this]
theorem add_zero_ (a : Addr) : a.add 0 = a := by unfold Addr.add; simp
theorem qs_loadR {t : TypeId} {d : TypeDesc} {x : Operand} {a : Addr} {vs : List Value} {i : Nat} (hr : Rd b S a vs) (hu : P.underlying t = some d) (hd : flat d = true) (hx : ev env x = .pointer (some (a.add i))) (hi : vs[i]? = some v) : QS P (O (.load t x) ty) env b S v := qs_val fun w hw => by
 have h := hr w hw i v hi
 simp only [O, execOp, hx, Instr.loadAt, Instr.sureAddr, Sem.run_bind, Sem.run_pure, Result.andThen_ok, run_loadVar_flat hu hd h]
def Own (e : TypeId) (sz : Nat) (xs : List Value) (v : Value) (c : SH) : Prop :=
 (v = .slice none 0 0 ∧ xs = [] ∧ c = []) ∨ ∃ g n cap rest fz, v = .slice (some ⟨g, 0, none⟩) n cap ∧ c = [(g, .cells (xs ++ rest).toArray e fz)] ∧ xs.length = n * sz ∧ (xs ++ rest).length = cap * sz ∧ n ≤ cap ∧ ∀ j, j < (xs ++ rest).length → ¬ (fz.1 ≤ j ∧ j < fz.2)
theorem own_nil {e : TypeId} {sz : Nat} : Own e sz [] (.slice none 0 0) [] := .inl ⟨rfl, rfl, rfl⟩
def Src (b : Base) (S : List SH) (sz : Nat) (y : Value) (m : Nat) (news : List Value) : Prop :=
 (∃ a c, y = .slice (some a) m c ∧ Rd b S a news ∧ news.length = m * sz) ∨ (∃ c, y = .slice none m c ∧ m = 0 ∧ news = []) ∨ ∃ l, y = .string (bs l) ∧ sz = 1 ∧ news = ints l ∧ m = l.length
theorem src_sl {a : Addr} {c m sz : Nat} {news : List Value} (h : Rd b S a news) (hl : news.length = m * sz) : Src b S sz (.slice (some a) m c) m news := .inl ⟨a, c, rfl, h, hl⟩
theorem src_len {sz m : Nat} {y : Value} {news : List Value} (h : Src b S sz y m news) : news.length = m * sz := by
 rcases h with ⟨a, c, rfl, _, h⟩ | ⟨c, rfl, rfl, rfl⟩ | ⟨l, rfl, rfl, rfl, rfl⟩
 ·exact h
 ·simp
 ·simp [ints_length]
theorem Sig.tomb {b : Base} {S : List SH} {w : World} (h : Sig b S w) {k : Nat} {c : SH} (hk : S[k]? = some c) : Sig b (S.set k []) w := by
 obtain ⟨r, h1, h2⟩ := flatten_set hk []
 refine ⟨h.os, h.tape, h.output, h.size, fun p hp => h.own p (h1.mem_iff.2 (List.mem_append_right _ (h2.mem_iff.1 hp))), ?_, fun j hj => ?_, h.frame⟩
 ·have := (h1.map Prod.fst).nodup_iff.1 h.nodup
  rw [List.map_append, List.nodup_append] at this
  exact (h2.map Prod.fst).nodup_iff.2 this.2.1
 ·refine h.dom_ j ((h1.map Prod.fst).mem_iff.2 ?_)
  rw [List.map_append]
  exact List.mem_append_right _ ((h2.map Prod.fst).mem_iff.1 hj)
theorem Sig.swap {b : Base} {S : List SH} {w w' : World} (h : Sig b S w) {k : Nat} {c : SH} (hk : S[k]? = some c) {o : Obj} (hos : w'.os = w.os) (ht : w'.tape = w.tape) (hou : w'.output = w.output) (hh : w'.heap = w.heap.push o) : Sig b (S.set k [(w.heap.size, o)]) w' := by
 have h1 := ((h.tomb hk).new hos ht hou hh).1
 obtain ⟨r, p1, p2⟩ := flatten_set hk [(w.heap.size, o)]
 obtain ⟨r', q1, q2⟩ := flatten_set (S := S.set k []) (k := k) (c := []) (by
  have := (List.getElem?_eq_some_iff.1 hk).1
  simp [this]) [(w.heap.size, o)]
 simp only [List.set_set, List.nil_append] at q1 q2
 refine h1.perm ?_
 simp only [List.flatten_cons]
 exact (q1.append_left _).trans q2.symm
theorem run_lenOf {sz m : Nat} {y : Value} {news : List Value} (h : Src b S sz y m news) (w : World) : (Builtin.lenOf y).run P w = .ok m w := by
 rcases h with ⟨a, c, rfl, _, h⟩ | ⟨c, rfl, rfl, rfl⟩ | ⟨l, rfl, rfl, rfl, rfl⟩ <;> simp only [Builtin.lenOf, Sem.run_pure, bs_size]
theorem run_firsts {sz m : Nat} {y : Value} {news : List Value} (h : Src b S sz y m news) {w : World} (hw : Sig b S w) : (Builtin.firstCells sz m y).run P w = .ok news.toArray w := by
 rcases h with ⟨a, c, rfl, hr, hl⟩ | ⟨c, rfl, rfl, rfl⟩ | ⟨l, rfl, rfl, rfl, rfl⟩
 ·exact run_firstCells_some w sz m a m c news hl (hr w hw)
 ·simp only [Builtin.firstCells, Sem.run_pure]
 ·simp only [Builtin.firstCells, Sem.run_pure, bs_extract]
  congr 1
  apply Array.ext'
  simp [ints, bs]
theorem j_append {t t' e : TypeId} {x y : Operand} {sz by_ m : Nat} {xs news : List Value} {c : SH} {d : TypeDesc} (k : Nat) (ht : P.underlying t = some (.slice e)) (ht' : P.underlying t' = some d) (hd : d = .string ∨ ∃ e', d = .slice e') (hi : (P.info? e).map (fun i => (i.size, i.bytes)) = some (sz, by_)) {z : List Value} (hz : zeroL P e = some z) (hzl : z.length = sz)
  (hx : Own e sz xs (ev env x) c) (hk : S[k]? = some c) (hy : Src b S sz (ev env y) m news) (h1 : ∀ u ∈ news, oneV u = true) (hb : (xs.length + news.length) * (by_ + 1) ≤ 140737488355328 ∧ 0 < sz)
  (h : ∀ v' c', Own e sz (xs ++ news) v' c' → J P R T (v' :: env) (S.set k c') b B) : J P R (.op (O (.call ⟨.builtin .append, #[x, y], #[t, t']⟩) ty) T) env S b B := fun w hw => by
 rcases hd with rfl | ⟨e', rfl⟩
 all_goals (
  obtain ⟨i, hi', hsb⟩ := Option.map_eq_some_iff.1 hi
  obtain ⟨rfl, rfl⟩ : i.size = sz ∧ i.bytes = by_ := by simpa using hsb
  obtain ⟨zv, hzv, hrunz⟩ := run_zero_ok hz
  obtain ⟨hb, hsz⟩ := hb
  have hml := src_len hy
  have hsize : ∀ w, (sizeOf e).run P w = .ok i.size w := run_sizeOf_ok (by rw [hi']; rfl)
  have hinfo : ∀ w, (typeInfo e).run P w = .ok i w := fun w => by simp only [typeInfo, program, Sem.run_bind, Sem.run, Result.andThen_ok, hi']; simp only [Sem.run_pure]
  have hgo : ∀ v' w' c', Own e i.size (xs ++ news) v' c' → Sig b (S.set k c') w' → (Builtin.append_ #[t, t'] ty #[ev env x, ev env y]).run P w = .ok v' w' → opW P (O (.call ⟨.builtin .append, #[x, y], #[t, t']⟩) ty) env w R fun v w' => W P R T (v :: env) w' (B.map (lift b)) := fun v' w' c' ho hs hr => by
   unfold opW
   have e1 : (execOp (ev env) (O (.call ⟨.builtin .append, #[x, y], #[t, t']⟩) ty)).run P w = .ok (.value v') w' := by
    simp [O, execOp, resolve, invoke, builtin, Sem.run_bind, Sem.run_pure, Result.andThen_ok, hr]
   rw [e1]
   exact h v' c' ho w' hs
  show opW _ _ _ _ _ _
  have hmle : m ≤ news.length := by rw [hml]; exact Nat.le_mul_of_pos_right _ hsz
  have hsum : xs.length + news.length ≤ 140737488355328 := Nat.le_trans (Nat.le_mul_of_pos_right _ (by omega)) hb
  -- a new row
  have grow : ∀ (n cap : Nat) (A : Option Addr), ev env x = .slice A n cap → cap < n + m → xs.length = n * i.size → (∀ w, Sig b S w → (Builtin.firstCells i.size n (.slice A n cap)).run P w = .ok xs.toArray w) →
    opW P (O (.call ⟨.builtin .append, #[x, y], #[t, t']⟩) ty) env w R fun v w' => W P R T (v :: env) w' (B.map (lift b)) := by
   intro n cap A hxe hc hxl hfirst
   have hnle : n ≤ xs.length := by rw [hxl]; exact Nat.le_mul_of_pos_right _ hsz
   have h48 : ¬ (Builtin.nextslicecap (n + m) cap * i.bytes > 2 ^ 48) := by
    have := growslice_fits (need := n + m) (old := cap) (bytes := i.bytes) hc (by
     refine Nat.le_trans (Nat.mul_le_mul_right _ (by omega : n + m ≤ xs.length + news.length)) (Nat.le_trans (Nat.mul_le_mul_left _ (Nat.le_succ _)) hb))
    omega
   have h63 : ¬ ((((n + m : Nat) : Int) > IntKind.i64.max) ∧ (False ∨ i.bytes = 0)) := by
    have : IntKind.i64.max = 9223372036854775807 := rfl
    rw [this]; omega
   have hge := grownCap_ge w (n + m) cap e
   refine hgo (.slice (some ⟨w.heap.size, 0, none⟩) (n + m) (grownCap w (n + m) cap e)) (w.drew.alloc (.cells ((xs ++ news) ++ (Builtin.zeroCells zv.cells (grownCap w (n + m) cap e - (n + m))).toList).toArray e)) _ (.inr ⟨w.heap.size, n + m, grownCap w (n + m) cap e, (Builtin.zeroCells zv.cells (grownCap w (n + m) cap e - (n + m))).toList, (0, 0), rfl, rfl, ?_, ?_, hge, fun _ _ h => by omega⟩) ?_ ?_
   ·rw [List.length_append, hxl, hml, Nat.add_mul]
   ·rw [List.length_append, List.length_append, hxl, hml, Array.length_toList, size_zeroCells, hzv, List.size_toArray, hzl, ← Nat.add_mul, ← Nat.add_mul]
    congr 1
    omega
   ·exact hw.swap hk rfl rfl rfl rfl
   ·have f1 := hfirst w.drew hw.drew
    have f2 := run_firsts (P := P) hy (w := w.drew) hw.drew
    rw [hxe]
    have hroom : ¬ (n + m ≤ cap) := by omega
    have e1 : ∀ (b : Bool) (w : World), (if b = true then (mark Mark.noRoom : Sem PUnit) else pure ()).run P w = .ok ⟨⟩ w := fun b w => by cases b <;> rfl
    have e2 : ∀ (n : Nat) (w : World), (askRoom n).run P w = .ok () w := fun n w => by unfold askRoom; split <;> rfl
    simp only [Builtin.append_, List.getElem?_toArray, List.getElem?_cons_zero, List.getElem?_cons_succ, Sem.run_bind, run_underlying_ok ht, run_underlying_ok ht', Result.andThen_ok, hsize, Sem.run_pure, run_lenOf hy, hinfo]
    simp only [Bool.false_eq_true, if_false, run_lenOf hy, Result.andThen_ok, if_neg hroom, hinfo, Sem.run_bind, Bool.not_false, if_true, if_neg h48, if_neg h63]
    simp only [choose, Sem.run, Question.forced, Bool.false_eq_true, if_false, Result.andThen_ok, Sem.run_bind, e2]
    show ((Builtin.firstCells i.size n (Value.slice A n cap)).run P w.drew).andThen _ = _
    rw [f1]
    simp only [Result.andThen_ok, Sem.run_bind, f2, hrunz, newRow, Sem.run_pure]
    simp only [newObj, Sem.run, Result.andThen_ok]
    simp only [grownCap, Question.cut, Array.toList_append, List.append_assoc]
    congr 1
    simp only [World.alloc, World.drew]
    congr 2
    congr 1
    apply Array.ext'
    simp
  rcases hx with ⟨hxe, rfl, rfl⟩ | ⟨g, n, cap, rest, fz, hxe, rfl, hxl, hcl, hnc, hfz⟩
  ·by_cases hm : m = 0
   ·subst hm
    have hn : news = [] := List.eq_nil_of_length_eq_zero (by simpa using hml)
    subst hn
    have hs : S.set k [] = S := by
     obtain ⟨hlt, he⟩ := List.getElem?_eq_some_iff.1 hk
     have := List.set_getElem_self hlt
     rwa [he] at this
    refine hgo (.slice none 0 0) w [] own_nil (by rw [hs]; exact hw) ?_
    rw [hxe]
    simp only [Builtin.append_, List.getElem?_toArray, List.getElem?_cons_zero, List.getElem?_cons_succ, Sem.run_bind, run_underlying_ok ht, run_underlying_ok ht', Result.andThen_ok, hsize, Sem.run_pure]
    simp only [Bool.false_eq_true, if_false, run_lenOf hy, Result.andThen_ok, Nat.add_zero, Nat.le_refl, if_true, Bool.not_false, run_firsts (P := P) hy hw, Sem.run_bind, Sem.run_pure]
   ·exact grow 0 0 none hxe (by omega) (by simp) (fun w _ => by simp only [Builtin.firstCells, Sem.run_pure])
  ·by_cases hroom : n + m ≤ cap
   ·have hgb := hw.at_ hk
    have hfit : n * i.size + 0 + news.length ≤ (xs ++ rest).length := by
     rw [hcl, hml, Nat.add_zero, ← Nat.add_mul]
     exact Nat.mul_le_mul_right _ hroom
    obtain ⟨w', e1, e2, e3, e4, e5, e6, e7⟩ := run_storeCells_ok (P := P) news (n * i.size) 0 (xs ++ rest) w hgb hfit (fun j _ hj => hfz j (by omega)) h1
    have hE : (xs ++ rest).take (n * i.size + 0) ++ news ++ (xs ++ rest).drop (n * i.size + 0 + news.length) = (xs ++ news) ++ rest.drop news.length := by
     rw [Nat.add_zero, ← hxl, List.take_left', List.drop_append, List.drop_of_length_le (by omega)]
     ·simp
     ·rfl
    rw [hE] at e6
    refine hgo (.slice (some ⟨g, 0, none⟩) (n + m) cap) w' [(g, .cells ((xs ++ news) ++ rest.drop news.length).toArray e fz)] (.inr ⟨g, n + m, cap, rest.drop news.length, fz, rfl, rfl, ?_, ?_, hroom, fun j hj => hfz j ?_⟩) (hw.set hk e2 e3 e4 e5 e6 e7) ?_
    ·rw [List.length_append, hxl, hml, Nat.add_mul]
    ·rw [← hcl]
     simp only [List.length_append, List.length_drop] at hfit hcl ⊢
     omega
    ·simp only [List.length_append, List.length_drop] at hfit hj ⊢
     omega
    ·rw [hxe]
     simp only [Builtin.append_, List.getElem?_toArray, List.getElem?_cons_zero, List.getElem?_cons_succ, Sem.run_bind, run_underlying_ok ht, run_underlying_ok ht', Result.andThen_ok, hsize, Sem.run_pure]
     simp only [Bool.false_eq_true, if_false, run_lenOf hy, Result.andThen_ok, if_pos hroom, Bool.not_false, if_true, run_firsts (P := P) hy hw, add_off, Nat.zero_add, Sem.run_bind]
     have e1' : (storeCells ⟨g, n * i.size, none⟩ news.toArray.toList).run P w = .ok () w' := e1
     rw [e1']
     rfl
   ·refine grow n cap (some ⟨g, 0, none⟩) hxe (by omega) hxl (fun w hw => ?_)
    exact run_firstCells_some w i.size n _ n cap xs hxl (fun j u hu => by
     rw [add_off, Nat.zero_add, cell_of (hw.at_ hk)]
     rw [List.getElem?_append_left (List.getElem?_eq_some_iff.1 hu).1]
     exact hu))
theorem own_rd {e : TypeId} {sz n cap : Nat} {xs : List Value} {a : Addr} {c : SH} (h : Own e sz xs (.slice (some a) n cap) c) (k : Nat) (hk : S[k]? = some c) : Rd b S a xs := by
 rcases h with ⟨h, _⟩ | ⟨g, n', cap', rest, fz, h, rfl, h1, h2, h3, h4⟩
 ·cases h
 ·cases h
  exact rd_own (n := xs.length) k hk (by simp)
theorem own_row {e : TypeId} {sz n cap : Nat} {xs : List Value} {g : Nat} {c : SH} (h : Own e sz xs (.slice (some ⟨g, 0, none⟩) n cap) c) : ∃ rest fz, c = [(g, .cells (xs ++ rest).toArray e fz)] ∧ xs.length = n * sz ∧ (xs ++ rest).length = cap * sz ∧ n ≤ cap ∧ ∀ j, j < (xs ++ rest).length → ¬ (fz.1 ≤ j ∧ j < fz.2) := by
 rcases h with ⟨h, _⟩ | ⟨g', n', cap', rest, fz, h, rfl, h1, h2, h3, h4⟩
 ·cases h
 ·cases h
  exact ⟨rest, fz, rfl, h1, h2, h3, h4⟩
theorem own_form {e : TypeId} {sz : Nat} {xs : List Value} {v : Value} {c : SH} (h : Own e sz xs v c) (hz : 0 < sz) : ∃ n A cap, v = .slice A n cap ∧ xs.length = n * sz := by
 rcases h with ⟨rfl, rfl, rfl⟩ | ⟨g', n', cap', rest, fz, rfl, rfl, h1, h2, h3, h4⟩
 ·exact ⟨0, none, 0, rfl, by simp⟩
 ·exact ⟨n', _, _, rfl, h1⟩
theorem bs_eq_of_bytes (l : List UInt8) : (bs l).data.map (fun b => Value.int .u8 b.toNat) = (ints l).toArray := by apply Array.ext'; simp [bs, ints]
theorem j_bytes {t t' e : TypeId} {x : Operand} {l : List UInt8} (hs : P.underlying t = some .string) (hd : P.underlying t' = some (.slice e)) (he : P.underlying e = some (.int .u8)) (hx : ev env x = .string (bs l))
  (h : ∀ v' c', Own e 1 (ints l) v' c' → (∃ g cap, v' = .slice (some ⟨g, 0, none⟩) l.length cap) → J P R T (v' :: env) (c' :: S) b B) : J P R (.op (O (.convert t t' x) ty) T) env S b B := fun w hw => by
 have hr := run_bytes_of_string (P := P) w t t' e (bs l) hs hd he
 have hrun : (execOp (ev env) (O (.convert t t' x) ty)).run P w = .ok (.value (.slice (some ⟨w.heap.size, 0, none⟩) (bs l).size (grownCap w (bs l).size 0 e)))
   (w.drew.alloc (.cells (bytesRow (bs l) (grownCap w (bs l).size 0 e)) e ((bytesRow (bs l) (grownCap w (bs l).size 0 e)).size, (bytesRow (bs l) (grownCap w (bs l).size 0 e)).size + 1))) := by
  simp only [O, execOp, hx, Sem.run_bind, hr, Result.andThen_ok, Sem.run_pure]
 show opW _ _ _ _ _ _
 unfold opW
 rw [hrun]
 have hge := grownCap_ge w (bs l).size 0 e
 generalize grownCap w (bs l).size 0 e = cap at *
 have hrow : bytesRow (bs l) cap = (ints l ++ List.replicate (cap - l.length) (Value.int .u8 0)).toArray := by
  unfold bytesRow
  rw [bs_eq_of_bytes, bs_size]
  apply Array.ext'
  simp
 rw [hrow]
 have hlen : (ints l ++ List.replicate (cap - l.length) (Value.int .u8 0)).length = cap := by
  rw [bs_size] at hge
  simp [ints_length]; omega
 obtain ⟨h1, h2, h3⟩ := hw.new (o := .cells (ints l ++ List.replicate (cap - l.length) (Value.int .u8 0)).toArray e ((ints l ++ List.replicate (cap - l.length) (Value.int .u8 0)).toArray.size, (ints l ++ List.replicate (cap - l.length) (Value.int .u8 0)).toArray.size + 1)) (w' := w.drew.alloc (.cells (ints l ++ List.replicate (cap - l.length) (Value.int .u8 0)).toArray e ((ints l ++ List.replicate (cap - l.length) (Value.int .u8 0)).toArray.size, (ints l ++ List.replicate (cap - l.length) (Value.int .u8 0)).toArray.size + 1))) rfl rfl rfl rfl
 refine h _ _ ?_ ⟨_, cap, rfl⟩ _ h1
 refine .inr ⟨w.heap.size, l.length, cap, List.replicate (cap - l.length) (Value.int .u8 0), _, rfl, rfl, by simp [ints_length], by omega, by rwa [bs_size] at hge, fun j hj hf => ?_⟩
 simp only [List.size_toArray] at hf
 omega
theorem qs_str {t t' e : TypeId} {x : Operand} {l : List UInt8} {a : Addr} {c : Nat} (hs : P.underlying t = some (.slice e)) (he : P.underlying e = some (.int .u8)) (hd : P.underlying t' = some .string) (hx : ev env x = .slice (some a) l.length c) (hr : Rd b S a (ints l)) :
  QS P (O (.convert t t' x) ty) env b S (.string (bs l)) := qs_val fun w hw => by
 have := run_convert_bytes_back (P := P) w t t' e a c l hs he hd (fun j hj => by
  refine hr w hw j _ ?_
  rw [ints_get, List.getElem?_eq_getElem hj]; rfl)
 simp only [O, execOp, hx, Sem.run_bind, this, Result.andThen_ok, Sem.run_pure]
 rfl
theorem qs_strn {t t' e : TypeId} {x : Operand} {c n : Nat} (hs : P.underlying t = some (.slice e)) (he : P.underlying e = some (.int .u8)) (hd : P.underlying t' = some .string) (hx : ev env x = .slice none n c) :
  QS P (O (.convert t t' x) ty) env b S (.string (bs [])) := qs_run fun w => by
 simp only [O, execOp, hx, convert, Sem.run_bind, run_underlying_ok hs, run_underlying_ok hd, run_underlying_ok he, Result.andThen_ok, Conv.bytesToString, Sem.run_pure]
 rfl
theorem qs_stro {t t' e e' : TypeId} {x : Operand} {l : List UInt8} {c : SH} (k : Nat) (hs : P.underlying t = some (.slice e)) (he : P.underlying e = some (.int .u8)) (hd : P.underlying t' = some .string) (hx : Own e' 1 (ints l) (ev env x) c) (hk : S[k]? = some c) :
  QS P (O (.convert t t' x) ty) env b S (.string (bs l)) := by
 rcases hx with ⟨h1, h2, rfl⟩ | ⟨g, n, cap, rest, fz, h1, rfl, h2, h3, h4, h5⟩
 ·have : l = [] := by cases l <;> first | rfl | cases h2
  subst this
  exact qs_strn hs he hd h1
 ·rw [ints_length] at h2
  obtain rfl : l.length = n := by omega
  exact qs_str hs he hd h1 (rd_own (n := (ints l).length) k hk (by simp))
theorem qs_cuta {t e : TypeId} {lo hi : Option Operand} {x : Operand} {a z n sz g off : Nat} (ht : P.underlying t = some (.array n e)) (hz : (P.info? e).map (·.size) = some sz) (hx : ev env x = .pointer (some ⟨g, off, none⟩)) (hlo : bd env lo a 0) (hhi : bd env hi z n) (h1 : a ≤ z) (h2 : z ≤ n) :
  QS P (O (.slice t x lo hi none) ty) env b S (.slice (some ⟨g, if n = a then off else off + a * sz, none⟩) (z - a) (n - a)) := qs_run fun w => by
 simp only [O, execOp, hx, Instr.sliceAt, Instr.sureAddr, Option.map_none, Sem.run_bind, Sem.run_pure, Result.andThen_ok, run_underlying_ok ht]
 rw [run_bounds hlo hhi h1 h2]
 simp only [Result.andThen_ok, Sem.run_pure, run_sizeOf_ok hz, Sem.run_bind, add_off]
 split <;> rfl
def zeros (z : List Value) : Nat → List Value
 | 0 => []
 | n + 1 => z ++ zeros z n
theorem zeros_length (z : List Value) (n : Nat) : (zeros z n).length = n * z.length := by
 induction n with
 | zero => simp [zeros]
 | succ n ih => simp [zeros, ih, Nat.add_mul]; omega
theorem zeros_get (z : List Value) (hz : z ≠ []) (n i : Nat) (h : i < n * z.length) : (zeros z n)[i]? = z[i % z.length]? := by
 have hpos : 0 < z.length := (List.length_pos_iff.2 hz)
 induction n generalizing i with
 | zero => simp at h
 | succ n ih =>
  rw [Nat.add_mul, Nat.one_mul] at h
  simp only [zeros, List.getElem?_append]
  split
  ·rename_i hl; rw [Nat.mod_eq_of_lt hl]
  ·rename_i hl
   rw [ih _ (by omega)]
   conv => rhs; rw [Nat.mod_eq_sub_mod (by omega)]
theorem madeCells_eq {z : List Value} (hz : z ≠ []) (n : Nat) : madeCells z.toArray (n * z.length) = (zeros z n).toArray := by
 apply Array.ext_getElem?
 intro i
 by_cases h : i < n * z.length
 ·have hm : i % z.length < z.length := Nat.mod_lt _ ((List.length_pos_iff.2 hz))
  simp [madeCells, h, zeros_get z hz n i h, hm]
 ·rw [Array.getElem?_eq_none (by rw [size_madeCells]; omega), Array.getElem?_eq_none (by simp [zeros_length]; omega)]
theorem zeros_add (z : List Value) (n d : Nat) : zeros z (n + d) = zeros z n ++ zeros z d := by
 induction n with
 | zero => simp [zeros]
 | succ n ih => rw [show n + 1 + d = (n + d) + 1 by omega]; simp only [zeros, List.append_assoc, ih]
theorem zeros_one (v : Value) (n : Nat) : zeros [v] n = List.replicate n v := by
 induction n with
 | zero => rfl
 | succ n ih => simp [zeros, ih, List.replicate_succ]
theorem j_make {t e : TypeId} {x y : Operand} {sz by_ n c : Nat} {kl kc : IntKind} {z : List Value} (ht : P.underlying t = some (.slice e)) (hi : (P.info? e).map (fun i => (i.size, i.bytes)) = some (sz, by_)) (hz : zeroL P e = some z) (hzl : z.length = sz) (hzn : z ≠ [])
  (hx : ev env x = .int kl (n : Int)) (hy : ev env y = .int kc (c : Int)) (hnc : n ≤ c) (hb : c * (by_ + 1) ≤ 140737488355328)
  (h : ∀ g v' c', v' = .slice (some ⟨g, 0, none⟩) n c → c' = [(g, .cells (zeros z c).toArray e (0, 0))] → Own e sz (zeros z n) v' c' → J P R T (v' :: env) (c' :: S) b B) : J P R (.op (O (.makeSlice t x y) ty) T) env S b B := fun w hw => by
 obtain ⟨i, hi', hsb⟩ := Option.map_eq_some_iff.1 hi
 obtain ⟨rfl, rfl⟩ : i.size = sz ∧ i.bytes = by_ := by simpa using hsb
 unfold zeroL at hz
 rw [hi'] at hz
 cases hzz : i.zero with
 | none => simp [hzz] at hz
 | some zv =>
  simp [hzz] at hz
  have hc : c ≤ 140737488355328 := Nat.le_trans (Nat.le_mul_of_pos_right _ (by omega)) hb
  have hbb : i.bytes * c ≤ 140737488355328 := by
   rw [Nat.mul_comm]
   exact Nat.le_trans (Nat.mul_le_mul_left _ (Nat.le_succ _)) hb
  have hr := run_make (P := P) w t e i zv ht hi' hzz kl kc n c (by omega) (by omega) (by
   have : ((i.bytes * c : Nat) : Int) ≤ 281474976710656 := by omega
   rwa [Int.natCast_mul] at this) (by omega)
  simp only [Int.toNat_natCast] at hr
  have hrow : madeCells zv.cells (c * i.size) = (zeros z c).toArray := by
   rw [← hzl, ← madeCells_eq hzn]
   congr 1
   rw [← hz]
  rw [hrow] at hr
  have hrun : (execOp (ev env) (O (.makeSlice t x y) ty)).run P w = .ok (.value (.slice (some ⟨w.heap.size, 0, none⟩) n c)) (w.alloc (.cells (zeros z c).toArray e)) := by
   simp only [O, execOp, hx, hy, Sem.run_bind, hr, Result.andThen_ok, Sem.run_pure]
  show opW _ _ _ _ _ _
  unfold opW
  rw [hrun]
  refine h w.heap.size _ _ rfl rfl (.inr ⟨w.heap.size, n, c, zeros z (c - n), (0, 0), rfl, ?_, by rw [zeros_length, hzl], ?_, hnc, fun _ _ h => by omega⟩) _ (hw.new (o := .cells (zeros z c).toArray e) (w' := w.alloc (.cells (zeros z c).toArray e)) rfl rfl rfl rfl).1
  ·have : zeros z n ++ zeros z (c - n) = zeros z c := by
    rw [← zeros_add]; congr 1; omega
   rw [this]
  ·rw [List.length_append, zeros_length, zeros_length, hzl, ← Nat.add_mul]
   congr 1
   omega
theorem qs_ixv {t e : TypeId} {x y : Operand} {n : Nat} {vs : List Value} {k : IntKind} {m : Int} {d : TypeDesc} (ht : P.underlying t = some (.array n e)) (hu : P.underlying e = some d) (hd : flat d = true) (hx : ev env x = .agg vs.toArray) (hz : (P.info? e).map (·.size) = some 1) (hy : ev env y = .int k m) (h : 0 ≤ m ∧ m < n) (hi : vs[m.toNat]? = some v) :
  QS P (O (.index t x y) ty) env b S v := qs_run fun w => by
 have hag : ∀ w, (isAgg e).run P w = .ok false w := fun w => by
  simp only [isAgg, Sem.run_bind, run_underlying_ok hu, Result.andThen_ok]
  cases d <;> first | rfl | cases hd
 have hg : vs.toArray[m.toNat * 1]? = some v := by simpa using hi
 simp only [O, execOp, hx, hy, Instr.index, asIntOf, Sem.run_bind, Sem.run_pure, Result.andThen_ok, run_underlying_ok ht]
 rw [if_pos h]
 simp only [Sem.run_bind, run_sizeOf_ok hz, Result.andThen_ok, part, hag, Bool.false_eq_true, if_false, hg, Sem.run_pure]
theorem qs_min {t t' : TypeId} {x y : Operand} {k : IntKind} {m n : Int} (hx : ev env x = .int k m) (hy : ev env y = .int k n) : QS P (O (.call ⟨.builtin .min, #[x, y], #[t, t']⟩) ty) env b S (.int k (min m n)) := qs_run fun w => by
 have : (if n < m then n else m) = min m n := by omega
 simp [O, execOp, resolve, invoke, hx, hy, builtin, Builtin.min_, Builtin.min2, Sem.run_bind, Sem.run_pure, Result.andThen_ok, this]
theorem qs_max {t t' : TypeId} {x y : Operand} {k : IntKind} {m n : Int} (hx : ev env x = .int k m) (hy : ev env y = .int k n) : QS P (O (.call ⟨.builtin .max, #[x, y], #[t, t']⟩) ty) env b S (.int k (max m n)) := qs_run fun w => by
 have : (if n > m then n else m) = max m n := by omega
 simp [O, execOp, resolve, invoke, hx, hy, builtin, Builtin.max_, Builtin.max2, Sem.run_bind, Sem.run_pure, Result.andThen_ok, this]
end Go.Sx
/-! Sx7 -/
namespace Go.Sx
open Go
set_option linter.unusedVariables false
set_option linter.unusedSimpArgs false
variable {P : Program} {R : Ending → World → Prop} {env : Env} {b : Base} {S : List SH} {B : JB} {T : Tree} {v : Value} {ty : TypeId}
def ks (k : IntKind) (l : List Int) : List Value := l.map (Value.int k)
theorem ks_length (k : IntKind) (l : List Int) : (ks k l).length = l.length := by simp [ks]
theorem ks_get {k : IntKind} {l : List Int} {i : Nat} (h : i < l.length) : (ks k l)[i]? = some (.int k (l.getD i 0)) := by
 simp [ks, List.getElem?_eq_getElem h, List.getD_eq_getElem?_getD]
theorem ks_set (k : IntKind) (l : List Int) (i : Nat) (x : Int) : (ks k l).set i (.int k x) = ks k (l.set i x) := by simp [ks, List.map_set]
theorem ks_one {k : IntKind} {l : List Int} : ∀ u ∈ ks k l, oneV u = true := by
 intro u hu
 obtain ⟨c, _, rfl⟩ := List.mem_map.1 hu
 rfl
theorem ints_set (l : List UInt8) (i : Nat) (c : UInt8) : (ints l).set i (.int .u8 (c.toNat : Int)) = ints (l.set i c) := by simp [ints, List.map_set]
def by8 (z : Int) : UInt8 := UInt8.ofNat (IntKind.u8.wrap z).toNat
theorem wrap_by8 (z : Int) : IntKind.u8.wrap z = ((by8 z).toNat : Int) := by
 have h : 0 ≤ IntKind.u8.wrap z ∧ IntKind.u8.wrap z < 256 := by
  rw [IntKind.wrap_u8]; omega
 simp only [by8, UInt8.toNat_ofNat']
 omega
theorem bw_by8 (op : BinOp) (m n : Int) : bw op .u8 m n = ((by8 (bw op .u8 m n)).toNat : Int) := by
 rw [← wrap_by8]
 unfold bw
 generalize (match op with | .and => _ | .or => _ | .xor => _ | _ => _ : Int) = z
 simp only [IntKind.wrap_u8]
 omega
section
variable {t t' : TypeId} {x y : Operand}
theorem qs_conv8 {d : TypeDesc} {k : IntKind} {m : Int} (hs : P.underlying t = some d) (hd : P.underlying t' = some (.int .u8)) (hx : ev env x = .int k m) : QS P (O (.convert t t' x) ty) env b S (.int .u8 ((by8 m).toNat : Int)) := by
 have := qs_conv (P := P) (b := b) (S := S) (ty := ty) hs hd hx
 rwa [wrap_by8] at this
theorem qs_ix0 {e : TypeId} {n g : Nat} {k : IntKind} {m : Int} (ht : P.underlying t = some (.array n e)) (hz : (P.info? e).map (·.size) = some 1) (hx : ev env x = .pointer (some ⟨g, 0, none⟩)) (hy : ev env y = .int k m) (h : 0 ≤ m ∧ m < n) :
  QS P (O (.indexAddr t x y) ty) env b S (.pointer (some ⟨g, m.toNat, none⟩)) := by
 have := qs_ixa (P := P) (b := b) (S := S) (ty := ty) ht hz hx hy h.1 h.2
 simpa using this
theorem qs_ixl0 {e : TypeId} {n c : Nat} {a : Addr} {k : IntKind} {m : Int} (ht : P.underlying t = some (.slice e)) (hz : (P.info? e).map (·.size) = some 1) (hx : ev env x = .slice (some a) n c) (hy : ev env y = .int k m) (h : 0 ≤ m ∧ m < n) :
  QS P (O (.indexAddr t x y) ty) env b S (.pointer (some (a.add m.toNat))) := by
 have := qs_ixl (P := P) (b := b) (S := S) (ty := ty) ht hz hx hy h.1 h.2
 simpa using this
theorem qs_ixg {e : TypeId} {n c g : Nat} {k : IntKind} {m : Int} (ht : P.underlying t = some (.slice e)) (hz : (P.info? e).map (·.size) = some 1) (hx : ev env x = .slice (some ⟨g, 0, none⟩) n c) (hy : ev env y = .int k m) (h : 0 ≤ m ∧ m < n) :
  QS P (O (.indexAddr t x y) ty) env b S (.pointer (some ⟨g, m.toNat, none⟩)) := by
 have := qs_ixl (P := P) (b := b) (S := S) (ty := ty) ht hz hx hy h.1 h.2
 simpa [add_off] using this
theorem qs_loadk {kd : IntKind} {g i : Nat} {ws : List Int} {e : TypeId} {fz : Nat × Nat} (k : Nat) (hu : P.underlying t = some (.int kd)) (hx : ev env x = .pointer (some ⟨g, i, none⟩)) (hk : S[k]? = some [(g, .cells (ks kd ws).toArray e fz)]) (hi : i < ws.length) :
  QS P (O (.load t x) ty) env b S (.int kd (ws.getD i 0)) := qs_load k hu rfl hx hk (ks_get hi)
theorem qs_loadi {g i : Nat} {l : List UInt8} {e : TypeId} {fz : Nat × Nat} (k : Nat) (hu : P.underlying t = some (.int .u8)) (hx : ev env x = .pointer (some ⟨g, i, none⟩)) (hk : S[k]? = some [(g, .cells (ints l).toArray e fz)]) (hi : i < l.length) :
  QS P (O (.load t x) ty) env b S (.int .u8 ((l.getD i 0).toNat : Int)) := qs_load k hu rfl hx hk (ints_get_lt hi)
theorem qs_loadr8 {a : Addr} {l : List UInt8} {i : Nat} (hr : Rd b S a (ints l)) (hu : P.underlying t = some (.int .u8)) (hx : ev env x = .pointer (some (a.add i))) (hi : i < l.length) :
  QS P (O (.load t x) ty) env b S (.int .u8 ((l.getD i 0).toNat : Int)) := qs_loadR hr hu rfl hx (ints_get_lt hi)
theorem qs_loadrk {kd : IntKind} {a : Addr} {l : List Int} {i : Nat} (hr : Rd b S a (ks kd l)) (hu : P.underlying t = some (.int kd)) (hx : ev env x = .pointer (some (a.add i))) (hi : i < l.length) :
  QS P (O (.load t x) ty) env b S (.int kd (l.getD i 0)) := qs_loadR hr hu rfl hx (ks_get hi)
theorem j_storek {kd : IntKind} {g i : Nat} {ws : List Int} {z : Int} {e : TypeId} (k : Nat) (hz : (P.info? t).map (·.size) = some 1) (hx : ev env x = .pointer (some ⟨g, i, none⟩)) (hy : ev env y = .int kd z)
  (hk : S[k]? = some [(g, .cells (ks kd ws).toArray e (0, 0))]) (hi : i < ws.length) (h : J P R T (undef :: env) (S.set k [(g, .cells (ks kd (ws.set i z)).toArray e (0, 0))]) b B) : J P R (.op (O (.store t x y) ty) T) env S b B := by
 refine j_store k hz hx hy rfl hk (by rwa [ks_length]) (fun h => by omega) ?_
 rwa [ks_set]
theorem j_storei {g i : Nat} {l : List UInt8} {c : UInt8} {e : TypeId} (k : Nat) (hz : (P.info? t).map (·.size) = some 1) (hx : ev env x = .pointer (some ⟨g, i, none⟩)) (hy : ev env y = .int .u8 (c.toNat : Int))
  (hk : S[k]? = some [(g, .cells (ints l).toArray e (0, 0))]) (hi : i < l.length) (h : J P R T (undef :: env) (S.set k [(g, .cells (ints (l.set i c)).toArray e (0, 0))]) b B) : J P R (.op (O (.store t x y) ty) T) env S b B := by
 refine j_store k hz hx hy rfl hk (by rwa [ints_length]) (fun h => by omega) ?_
 rwa [ints_set]
theorem qs_ixvk {e : TypeId} {n : Nat} {kd : IntKind} {ws : List Int} {k : IntKind} {m : Int} (ht : P.underlying t = some (.array n e)) (hu : P.underlying e = some (.int kd)) (hz : (P.info? e).map (·.size) = some 1) (hx : ev env x = .agg (ks kd ws).toArray) (hy : ev env y = .int k m) (h : 0 ≤ m ∧ m < n) (hl : ws.length = n) :
  QS P (O (.index t x y) ty) env b S (.int kd (ws.getD m.toNat 0)) := qs_ixv ht hu rfl hx hz hy h (ks_get (by omega))
theorem qs_ixvi {e : TypeId} {n : Nat} {l : List UInt8} {k : IntKind} {m : Int} (ht : P.underlying t = some (.array n e)) (hu : P.underlying e = some (.int .u8)) (hz : (P.info? e).map (·.size) = some 1) (hx : ev env x = .agg (ints l).toArray) (hy : ev env y = .int k m) (h : 0 ≤ m ∧ m < n) (hl : l.length = n) :
  QS P (O (.index t x y) ty) env b S (.int .u8 ((l.getD m.toNat 0).toNat : Int)) := qs_ixv ht hu rfl hx hz hy h (ints_get_lt (by omega))
end
theorem qs_quou {t t' : TypeId} {x y : Operand} {k : IntKind} {m n : Int} (hx : ev env x = .int k m) (hy : ev env y = .int k n) (h0 : 0 ≤ m) (h1 : 0 < n) (hw : k.wrap (m / n) = m / n) : QS P (O (.binOp .quo t x y t') ty) env b S (.int k (m / n)) := by
 have := qs_quo (P := P) (b := b) (S := S) (t := t) (t' := t') (ty := ty) hx hy (by omega)
 rw [Int.tdiv_eq_ediv_of_nonneg h0] at this
 rwa [hw] at this
theorem wrap8_div (c : UInt8) (n : Int) (hn : 0 < n) : IntKind.u8.wrap ((c.toNat : Int) / n) = (c.toNat : Int) / n := by
 have h1 := c.toNat_lt
 have h2 : (c.toNat : Int) / n ≤ c.toNat := Int.ediv_le_self _ (by omega)
 have h3 : 0 ≤ (c.toNat : Int) / n := Int.ediv_nonneg (by omega) (by omega)
 rw [IntKind.wrap_u8]
 omega
theorem ints_rep (n : Nat) : zeros [.int .u8 0] n = ints (List.replicate n 0) := by
 rw [zeros_one]; simp [ints]
def Cells (w : World) (a : Addr) (vs : List Value) : Prop := ∀ j u, vs[j]? = some u → w.cell? (a.add j) = some u
theorem rd_cells {a : Addr} {vs : List Value} (h : Cells b.w0 a vs) (hD : a.block ∉ b.D) : Rd b S a vs := rd_ro h hD
theorem rd_w {a : Addr} {vs : List Value} (h : Rd b S a vs) {w : World} (hw : Sig b S w) : Cells w a vs := h w hw
theorem qs_loadro {t : TypeId} {x : Operand} {kd : IntKind} {g i : Nat} {l : List Int} (hr : Rd b S ⟨g, 0, none⟩ (ks kd l)) (hu : P.underlying t = some (.int kd)) (hx : ev env x = .pointer (some ⟨g, i, none⟩)) (hi : i < l.length) :
  QS P (O (.load t x) ty) env b S (.int kd (l.getD i 0)) := qs_loadrk (i := i) hr hu (by rw [hx, add_off, Nat.zero_add]) hi
theorem rv_agg {t : TypeId} {d : TypeDesc} {g n i : Nat} {l : List Value} {e : TypeId} {fz : Nat × Nat} (k : Nat) (hu : P.underlying t = some d) (hd : flat d = false) (hz : (P.info? t).map (·.size) = some n) (hx : env.getD i undef = .pointer (some ⟨g, 0, none⟩))
  (hk : S[k]? = some [(g, .cells l.toArray e fz)]) (hl : l.length = n) {w : World} (hw : Sig b S w) : rvW P env w (.cell i t) (.agg l.toArray) := by
 refine ⟨_, hx, run_loadVar_agg hu hd hz hl fun j hj => ?_⟩
 rw [cell_of (hw.at_ hk), Nat.zero_add]
theorem j_drop {c : SH} (h : J P R T env S b B) : J P R T env (c :: S) b B := j_sub (by simp [List.flatten_cons]) h
theorem Sig.ne {w : World} (hw : Sig b S w) {i j : Nat} {g g' : Nat} {o o' : Obj} {r r' : SH} (hi : S[i]? = some ((g, o) :: r)) (hj : S[j]? = some ((g', o') :: r')) (hij : i ≠ j) : g ≠ g' := by
 obtain ⟨q, h1, h2⟩ := flatten_set hi []
 have hnd := (h1.map Prod.fst).nodup_iff.1 hw.nodup
 rw [List.map_append, List.nodup_append] at hnd
 intro e
 have hm : g' ∈ q.map Prod.fst := by
  have : (g', o') ∈ (S.set i []).flatten := List.mem_flatten.2 ⟨(g', o') :: r', List.mem_of_getElem? (i := j) (by rw [List.getElem?_set_ne hij]; exact hj), by simp⟩
  have := h2.mem_iff.1 this
  rw [List.nil_append] at this
  exact List.mem_map_of_mem (f := Prod.fst) this
 exact hnd.2.2 g (by simp) g' hm e
theorem own_some {e : TypeId} {sz : Nat} {xs : List Value} {v : Value} {c : SH} (h : Own e sz xs v c) (hn : xs ≠ []) : ∃ g n cap, v = .slice (some ⟨g, 0, none⟩) n cap := by
 rcases h with ⟨rfl, rfl, rfl⟩ | ⟨g', n', cap', rest, fz, rfl, rfl, h1, h2, h3, h4⟩
 ·exact absurd rfl hn
 ·exact ⟨_, _, _, rfl⟩
theorem list_getD_take {l : List Int} {i j : Nat} (h : j < i) : (l.take i).getD j 0 = l.getD j 0 := by
 rw [List.getD_eq_getElem?_getD, List.getElem?_take_of_lt h, ← List.getD_eq_getElem?_getD]
theorem take_set_succ {α : Type} {l : List α} {i : Nat} (h : i < l.length) (x : α) : (l.set i x).take (i + 1) = l.take i ++ [x] := by
 rw [List.take_succ_eq_append_getElem (by simpa using h), List.take_set_of_le (Nat.le_refl _), List.getElem_set_self]
def numd : Nat → List Value → List (Nat × Value)
 | _, [] => []
 | k, v :: r => (k, v) :: numd (k + 1) r
theorem fill_seq : ∀ (vs pre suf : List Value), (∀ v ∈ vs, oneV v = true) → vs.length ≤ suf.length → Instr.fill (fun i => some (i * 1, 1)) (pre ++ suf).toArray (numd pre.length vs) = some (pre ++ vs ++ suf.drop vs.length).toArray
 | [], pre, suf, _, _ => by simp [numd, Instr.fill]
 | v :: vs, pre, suf, hv, hl => by
  have hc : v.cells = #[v] := cells_of_one (hv v (by simp))
  have ih := fill_seq vs (pre ++ [v]) (suf.drop 1) (fun u hu => hv u (by simp [hu])) (by simp at hl ⊢; omega)
  simp only [numd, Instr.fill, hc]
  cases suf with
  | nil => simp at hl
  | cons x suf =>
   have h1 : ¬ ((#[v] : Array Value).size ≠ 1 || pre.length * 1 + (#[v] : Array Value).size > (pre ++ x :: suf).toArray.size) = true := by
    simp
   rw [if_neg h1]
   have h2 : (#[v] : Array Value).zipIdx.foldl (fun cs (c, j) => cs.setIfInBounds (pre.length * 1 + j) c) (pre ++ x :: suf).toArray = (pre ++ [v] ++ suf).toArray := by
    simp
   rw [h2]
   simpa using ih
theorem j_lit {t e : TypeId} {n : Nat} {parts : Array (Nat × Operand)} {vs : List Value} {z : Value} (ht : P.underlying t = some (.slice e)) (hz : (P.info? e).map (·.size) = some 1) (h0 : zeroL P e = some [z]) (hp' : parts.toList.map (fun p => (p.1, ev env p.2)) = numd 0 vs) (hv : ∀ v ∈ vs, oneV v = true) (hn : vs.length = n ∧ n ≤ 16777216)
  (h : ∀ g v' c', v' = .slice (some ⟨g, 0, none⟩) n n → c' = [(g, .cells vs.toArray e (0, 0))] → Own e 1 vs v' c' → J P R T (v' :: env) (c' :: S) b B) : J P R (.op (O (.buildSlice t n parts) ty) T) env S b B := fun w hw => by
 obtain ⟨zv, hzv, hrunz⟩ := run_zero_ok h0
 obtain ⟨hn, hn2⟩ := hn
 have hp : (parts.map fun p => (p.1, ev env p.2)).toList = numd 0 vs := by rw [Array.toList_map]; exact hp'
 have hrun : (execOp (ev env) (O (.buildSlice t n parts) ty)).run P w = .ok (.value (.slice (some ⟨w.heap.size, 0, none⟩) n n)) (w.alloc (.cells vs.toArray e)) := by
  have hgt : ¬ (n * 1 > 2 ^ 24) := by omega
  have hf : ∀ zs : Array Value, zs.size = n * 1 → Instr.fill (fun i => some (i * 1, 1)) zs (parts.map fun p => (p.1, ev env p.2)).toList = some vs.toArray := by
   intro zs hzs
   rw [hp]
   have := fill_seq vs [] zs.toList hv (by simp; omega)
   simp only [List.nil_append, List.length_nil, Array.toArray_toList] at this
   rw [this]
   congr 1
   have : zs.toList.drop vs.length = [] := List.drop_of_length_le (by simp; omega)
   rw [this, List.append_nil]
  simp only [O, execOp, Instr.buildSlice, Sem.run_bind, run_underlying_ok ht, Result.andThen_ok, run_sizeOf_ok hz, if_neg hgt]
  by_cases hn0 : n * 1 = 0
  ·simp only [if_pos hn0, Sem.run_pure, Result.andThen_ok, Sem.run_bind]
   rw [hf _ (by simp)]
   rfl
  ·simp only [if_neg hn0, Sem.run_bind, hrunz, Sem.run_pure, Result.andThen_ok]
   rw [hf _ (by simp)]
   rfl
 show opW _ _ _ _ _ _
 unfold opW
 rw [hrun]
 refine h w.heap.size _ _ rfl rfl (.inr ⟨w.heap.size, n, n, [], (0, 0), rfl, by simp, by omega, by simp; omega, Nat.le_refl _, fun _ _ h => by omega⟩) _ (hw.new (o := .cells vs.toArray e) (w' := w.alloc (.cells vs.toArray e)) rfl rfl rfl rfl).1
theorem run_equal {t : TypeId} {x y : Value} {r : Bool} {w : World} (h : ∀ d, (Op.equalIn (d + 1) t x y).run P w = .ok r w) : (Op.equal t x y).run P w = .ok r w := h 9999
theorem run_eq {op : BinOp} {t t' : TypeId} {x y : Operand} {u v : Value} {r : Bool} {w : World} (hop : op = .eql ∨ op = .neq) (hx : ev env x = u) (hy : ev env y = v) (hg : eqGuard op t x y u v = pure ()) (hu : ∀ k m, u ≠ .int k m) (hf : ∀ k m, u ≠ .float k m) (hc : ∀ k m n, u ≠ .complex k m n) (hs : ∀ m, u ≠ .string m)
  (h : ∀ d, (Op.equalIn (d + 1) t u v).run P w = .ok r w) : (execOp (ev env) (O (.binOp op t x y t') ty)).run P w = .ok (.value (.bool (if op = .eql then r else !r))) w := by
 simp only [O, execOp, hx, hy, hg, Sem.run_bind, Sem.run_pure, Result.andThen_ok]
 have he := run_equal h
 have hb : binOp op t u v = (match op with | .eql => (do pure (.bool (← Op.equal t u v))) | _ => (do pure (.bool (!(← Op.equal t u v))))) := by
  rcases hop with rfl | rfl <;> cases u <;> first | rfl | exact absurd rfl (hu _ _) | exact absurd rfl (hf _ _) | exact absurd rfl (hc _ _ _) | exact absurd rfl (hs _)
 rw [hb]
 rcases hop with rfl | rfl <;> simp [Sem.run_bind, he, Sem.run_pure, Result.andThen_ok]
theorem qs_slnil {t t' e : TypeId} {x : Operand} {A : Option Addr} {n c n' c' : Nat} (ht : P.underlying t = some (.slice e)) (hx : ev env x = .slice A n c) : QS P (O (.binOp .eql t x (.const (.slice none n' c')) t') ty) env b S (.bool A.isNone) := qs_run fun w => by
 refine run_eq (r := A.isNone) (.inl rfl) hx rfl (by unfold eqGuard; rfl) (fun _ _ h => by cases h) (fun _ _ h => by cases h) (fun _ _ _ h => by cases h) (fun _ h => by cases h) fun d => ?_
 simp only [Op.equalIn, Sem.run_bind, run_underlying_ok ht, Result.andThen_ok, ev]
 cases A <;> rfl
theorem qs_slnnil {t t' e : TypeId} {x : Operand} {A : Option Addr} {n c n' c' : Nat} (ht : P.underlying t = some (.slice e)) (hx : ev env x = .slice A n c) : QS P (O (.binOp .neq t x (.const (.slice none n' c')) t') ty) env b S (.bool A.isSome) := qs_run fun w => by
 have := run_eq (P := P) (ty := ty) (t := t) (t' := t') (r := A.isNone) (w := w) (.inr rfl) hx (y := .const (.slice none n' c')) rfl (by unfold eqGuard; rfl) (fun _ _ h => by cases h) (fun _ _ h => by cases h) (fun _ _ _ h => by cases h) (fun _ h => by cases h) fun d => by
  simp only [Op.equalIn, Sem.run_bind, run_underlying_ok ht, Result.andThen_ok, ev]
  cases A <;> rfl
 rw [this]
 cases A <;> rfl
end Go.Sx
/-! Fc1 -/
namespace Go.Proofs.YtfeabbeebkkhaaaGreat
open Go Go.Sx
set_option maxRecDepth 100000
theorem ent11 : Sx.Enters Tryz.prog 11 := ⟨_, Tryz.func11, by kernel_rfl, by kernel_rfl⟩
theorem ent12 : Sx.Enters Tryz.prog 12 := ⟨_, Tryz.func12, by kernel_rfl, by kernel_rfl⟩
theorem ent13 : Sx.Enters Tryz.prog 13 := ⟨_, Tryz.func13, by kernel_rfl, by kernel_rfl⟩
theorem ent14 : Sx.Enters Tryz.prog 14 := ⟨_, Tryz.func14, by kernel_rfl, by kernel_rfl⟩
theorem ent15 : Sx.Enters Tryz.prog 15 := ⟨_, Tryz.func15, by kernel_rfl, by kernel_rfl⟩
theorem ent16 : Sx.Enters Tryz.prog 16 := ⟨_, Tryz.func16, by kernel_rfl, by kernel_rfl⟩
theorem ent17 : Sx.Enters Tryz.prog 17 := ⟨_, Tryz.func17, by kernel_rfl, by kernel_rfl⟩
theorem ent18 : Sx.Enters Tryz.prog 18 := ⟨_, Tryz.func18, by kernel_rfl, by kernel_rfl⟩
theorem ent21 : Sx.Enters Tryz.prog 21 := ⟨_, Tryz.func21, by kernel_rfl, by kernel_rfl⟩
theorem ent22 : Sx.Enters Tryz.prog 22 := ⟨_, Tryz.func22, by kernel_rfl, by kernel_rfl⟩
theorem ent23 : Sx.Enters Tryz.prog 23 := ⟨_, Tryz.func23, by kernel_rfl, by kernel_rfl⟩
theorem ent24 : Sx.Enters Tryz.prog 24 := ⟨_, Tryz.func24, by kernel_rfl, by kernel_rfl⟩
theorem ent25 : Sx.Enters Tryz.prog 25 := ⟨_, Tryz.func25, by kernel_rfl, by kernel_rfl⟩
theorem ent26 : Sx.Enters Tryz.prog 26 := ⟨_, Tryz.func26, by kernel_rfl, by kernel_rfl⟩
theorem ent28 : Sx.Enters Tryz.prog 28 := ⟨_, Tryz.func28, by kernel_rfl, by kernel_rfl⟩
theorem ent29 : Sx.Enters Tryz.prog 29 := ⟨_, Tryz.func29, by kernel_rfl, by kernel_rfl⟩
theorem ent30 : Sx.Enters Tryz.prog 30 := ⟨_, Tryz.func30, by kernel_rfl, by kernel_rfl⟩
theorem ent31 : Sx.Enters Tryz.prog 31 := ⟨_, Tryz.func31, by kernel_rfl, by kernel_rfl⟩
theorem ent32 : Sx.Enters Tryz.prog 32 := ⟨_, Tryz.func32, by kernel_rfl, by kernel_rfl⟩
theorem ent33 : Sx.Enters Tryz.prog 33 := ⟨_, Tryz.func33, by kernel_rfl, by kernel_rfl⟩
theorem ent34 : Sx.Enters Tryz.prog 34 := ⟨_, Tryz.func34, by kernel_rfl, by kernel_rfl⟩
theorem ent35 : Sx.Enters Tryz.prog 35 := ⟨_, Tryz.func35, by kernel_rfl, by kernel_rfl⟩
theorem ent36 : Sx.Enters Tryz.prog 36 := ⟨_, Tryz.func36, by kernel_rfl, by kernel_rfl⟩
theorem ent37 : Sx.Enters Tryz.prog 37 := ⟨_, Tryz.func37, by kernel_rfl, by kernel_rfl⟩
theorem ent38 : Sx.Enters Tryz.prog 38 := ⟨_, Tryz.func38, by kernel_rfl, by kernel_rfl⟩
theorem ent39 : Sx.Enters Tryz.prog 39 := ⟨_, Tryz.func39, by kernel_rfl, by kernel_rfl⟩
theorem ent40 : Sx.Enters Tryz.prog 40 := ⟨_, Tryz.func40, by kernel_rfl, by kernel_rfl⟩
theorem ent41 : Sx.Enters Tryz.prog 41 := ⟨_, Tryz.func41, by kernel_rfl, by kernel_rfl⟩
theorem ent42 : Sx.Enters Tryz.prog 42 := ⟨_, Tryz.func42, by kernel_rfl, by kernel_rfl⟩
theorem ent50 : Sx.Enters Tryz.prog 50 := ⟨_, Tryz.func50, by kernel_rfl, by kernel_rfl⟩
theorem ent51 : Sx.Enters Tryz.prog 51 := ⟨_, Tryz.func51, by kernel_rfl, by kernel_rfl⟩
theorem ent52 : Sx.Enters Tryz.prog 52 := ⟨_, Tryz.func52, by kernel_rfl, by kernel_rfl⟩
theorem ent53 : Sx.Enters Tryz.prog 53 := ⟨_, Tryz.func53, by kernel_rfl, by kernel_rfl⟩
theorem ent54 : Sx.Enters Tryz.prog 54 := ⟨_, Tryz.func54, by kernel_rfl, by kernel_rfl⟩
theorem ent55 : Sx.Enters Tryz.prog 55 := ⟨_, Tryz.func55, by kernel_rfl, by kernel_rfl⟩
theorem ent56 : Sx.Enters Tryz.prog 56 := ⟨_, Tryz.func56, by kernel_rfl, by kernel_rfl⟩
theorem ent57 : Sx.Enters Tryz.prog 57 := ⟨_, Tryz.func57, by kernel_rfl, by kernel_rfl⟩
theorem ent58 : Sx.Enters Tryz.prog 58 := ⟨_, Tryz.func58, by kernel_rfl, by kernel_rfl⟩
theorem ent59 : Sx.Enters Tryz.prog 59 := ⟨_, Tryz.func59, by kernel_rfl, by kernel_rfl⟩
theorem ent60 : Sx.Enters Tryz.prog 60 := ⟨_, Tryz.func60, by kernel_rfl, by kernel_rfl⟩
theorem ent61 : Sx.Enters Tryz.prog 61 := ⟨_, Tryz.func61, by kernel_rfl, by kernel_rfl⟩
theorem ent62 : Sx.Enters Tryz.prog 62 := ⟨_, Tryz.func62, by kernel_rfl, by kernel_rfl⟩
end Go.Proofs.YtfeabbeebkkhaaaGreat
/-! Fc2 -/
namespace Go.Proofs.YtfeabbeebkkhaaaGreat
open Go Go.Sx
set_option maxRecDepth 100000
theorem ent63 : Sx.Enters Tryz.prog 63 := ⟨_, Tryz.func63, by kernel_rfl, by kernel_rfl⟩
theorem ent64 : Sx.Enters Tryz.prog 64 := ⟨_, Tryz.func64, by kernel_rfl, by kernel_rfl⟩
theorem ent65 : Sx.Enters Tryz.prog 65 := ⟨_, Tryz.func65, by kernel_rfl, by kernel_rfl⟩
theorem ent66 : Sx.Enters Tryz.prog 66 := ⟨_, Tryz.func66, by kernel_rfl, by kernel_rfl⟩
theorem ent67 : Sx.Enters Tryz.prog 67 := ⟨_, Tryz.func67, by kernel_rfl, by kernel_rfl⟩
theorem ent68 : Sx.Enters Tryz.prog 68 := ⟨_, Tryz.func68, by kernel_rfl, by kernel_rfl⟩
theorem ent69 : Sx.Enters Tryz.prog 69 := ⟨_, Tryz.func69, by kernel_rfl, by kernel_rfl⟩
theorem ent70 : Sx.Enters Tryz.prog 70 := ⟨_, Tryz.func70, by kernel_rfl, by kernel_rfl⟩
theorem ent71 : Sx.Enters Tryz.prog 71 := ⟨_, Tryz.func71, by kernel_rfl, by kernel_rfl⟩
theorem ent72 : Sx.Enters Tryz.prog 72 := ⟨_, Tryz.func72, by kernel_rfl, by kernel_rfl⟩
theorem ent73 : Sx.Enters Tryz.prog 73 := ⟨_, Tryz.func73, by kernel_rfl, by kernel_rfl⟩
theorem ent74 : Sx.Enters Tryz.prog 74 := ⟨_, Tryz.func74, by kernel_rfl, by kernel_rfl⟩
theorem ent75 : Sx.Enters Tryz.prog 75 := ⟨_, Tryz.func75, by kernel_rfl, by kernel_rfl⟩
theorem ent76 : Sx.Enters Tryz.prog 76 := ⟨_, Tryz.func76, by kernel_rfl, by kernel_rfl⟩
theorem ent77 : Sx.Enters Tryz.prog 77 := ⟨_, Tryz.func77, by kernel_rfl, by kernel_rfl⟩
theorem ent78 : Sx.Enters Tryz.prog 78 := ⟨_, Tryz.func78, by kernel_rfl, by kernel_rfl⟩
theorem ent79 : Sx.Enters Tryz.prog 79 := ⟨_, Tryz.func79, by kernel_rfl, by kernel_rfl⟩
theorem ent80 : Sx.Enters Tryz.prog 80 := ⟨_, Tryz.func80, by kernel_rfl, by kernel_rfl⟩
theorem ent94 : Sx.Enters Tryz.prog 94 := ⟨_, Tryz.func94, by kernel_rfl, by kernel_rfl⟩
theorem ent95 : Sx.Enters Tryz.prog 95 := ⟨_, Tryz.func95, by kernel_rfl, by kernel_rfl⟩
theorem ent96 : Sx.Enters Tryz.prog 96 := ⟨_, Tryz.func96, by kernel_rfl, by kernel_rfl⟩
theorem ent97 : Sx.Enters Tryz.prog 97 := ⟨_, Tryz.func97, by kernel_rfl, by kernel_rfl⟩
theorem ent98 : Sx.Enters Tryz.prog 98 := ⟨_, Tryz.func98, by kernel_rfl, by kernel_rfl⟩
theorem ent99 : Sx.Enters Tryz.prog 99 := ⟨_, Tryz.func99, by kernel_rfl, by kernel_rfl⟩
theorem ent100 : Sx.Enters Tryz.prog 100 := ⟨_, Tryz.func100, by kernel_rfl, by kernel_rfl⟩
theorem ent101 : Sx.Enters Tryz.prog 101 := ⟨_, Tryz.func101, by kernel_rfl, by kernel_rfl⟩
theorem ent102 : Sx.Enters Tryz.prog 102 := ⟨_, Tryz.func102, by kernel_rfl, by kernel_rfl⟩
theorem ent103 : Sx.Enters Tryz.prog 103 := ⟨_, Tryz.func103, by kernel_rfl, by kernel_rfl⟩
theorem ent104 : Sx.Enters Tryz.prog 104 := ⟨_, Tryz.func104, by kernel_rfl, by kernel_rfl⟩
theorem ent105 : Sx.Enters Tryz.prog 105 := ⟨_, Tryz.func105, by kernel_rfl, by kernel_rfl⟩
theorem ent106 : Sx.Enters Tryz.prog 106 := ⟨_, Tryz.func106, by kernel_rfl, by kernel_rfl⟩
theorem ent107 : Sx.Enters Tryz.prog 107 := ⟨_, Tryz.func107, by kernel_rfl, by kernel_rfl⟩
theorem ent109 : Sx.Enters Tryz.prog 109 := ⟨_, Tryz.func109, by kernel_rfl, by kernel_rfl⟩
theorem ent110 : Sx.Enters Tryz.prog 110 := ⟨_, Tryz.func110, by kernel_rfl, by kernel_rfl⟩
theorem ent111 : Sx.Enters Tryz.prog 111 := ⟨_, Tryz.func111, by kernel_rfl, by kernel_rfl⟩
theorem ent112 : Sx.Enters Tryz.prog 112 := ⟨_, Tryz.func112, by kernel_rfl, by kernel_rfl⟩
theorem ent113 : Sx.Enters Tryz.prog 113 := ⟨_, Tryz.func113, by kernel_rfl, by kernel_rfl⟩
theorem ent114 : Sx.Enters Tryz.prog 114 := ⟨_, Tryz.func114, by kernel_rfl, by kernel_rfl⟩
theorem ent115 : Sx.Enters Tryz.prog 115 := ⟨_, Tryz.func115, by kernel_rfl, by kernel_rfl⟩
theorem ent116 : Sx.Enters Tryz.prog 116 := ⟨_, Tryz.func116, by kernel_rfl, by kernel_rfl⟩
theorem ent117 : Sx.Enters Tryz.prog 117 := ⟨_, Tryz.func117, by kernel_rfl, by kernel_rfl⟩
theorem ent118 : Sx.Enters Tryz.prog 118 := ⟨_, Tryz.func118, by kernel_rfl, by kernel_rfl⟩
theorem ent119 : Sx.Enters Tryz.prog 119 := ⟨_, Tryz.func119, by kernel_rfl, by kernel_rfl⟩
end Go.Proofs.YtfeabbeebkkhaaaGreat
/-! Fc3 -/
namespace Go.Proofs.YtfeabbeebkkhaaaGreat
open Go Go.Sx
set_option maxRecDepth 100000
theorem ent120 : Sx.Enters Tryz.prog 120 := ⟨_, Tryz.func120, by kernel_rfl, by kernel_rfl⟩
theorem ent121 : Sx.Enters Tryz.prog 121 := ⟨_, Tryz.func121, by kernel_rfl, by kernel_rfl⟩
theorem ent122 : Sx.Enters Tryz.prog 122 := ⟨_, Tryz.func122, by kernel_rfl, by kernel_rfl⟩
theorem ent123 : Sx.Enters Tryz.prog 123 := ⟨_, Tryz.func123, by kernel_rfl, by kernel_rfl⟩
theorem ent124 : Sx.Enters Tryz.prog 124 := ⟨_, Tryz.func124, by kernel_rfl, by kernel_rfl⟩
theorem ent125 : Sx.Enters Tryz.prog 125 := ⟨_, Tryz.func125, by kernel_rfl, by kernel_rfl⟩
theorem ent126 : Sx.Enters Tryz.prog 126 := ⟨_, Tryz.func126, by kernel_rfl, by kernel_rfl⟩
theorem ent128 : Sx.Enters Tryz.prog 128 := ⟨_, Tryz.func128, by kernel_rfl, by kernel_rfl⟩
theorem ent131 : Sx.Enters Tryz.prog 131 := ⟨_, Tryz.func131, by kernel_rfl, by kernel_rfl⟩
theorem ent132 : Sx.Enters Tryz.prog 132 := ⟨_, Tryz.func132, by kernel_rfl, by kernel_rfl⟩
theorem ent133 : Sx.Enters Tryz.prog 133 := ⟨_, Tryz.func133, by kernel_rfl, by kernel_rfl⟩
theorem ent134 : Sx.Enters Tryz.prog 134 := ⟨_, Tryz.func134, by kernel_rfl, by kernel_rfl⟩
theorem ent135 : Sx.Enters Tryz.prog 135 := ⟨_, Tryz.func135, by kernel_rfl, by kernel_rfl⟩
theorem ent136 : Sx.Enters Tryz.prog 136 := ⟨_, Tryz.func136, by kernel_rfl, by kernel_rfl⟩
theorem ent137 : Sx.Enters Tryz.prog 137 := ⟨_, Tryz.func137, by kernel_rfl, by kernel_rfl⟩
theorem ent140 : Sx.Enters Tryz.prog 140 := ⟨_, Tryz.func140, by kernel_rfl, by kernel_rfl⟩
theorem ent141 : Sx.Enters Tryz.prog 141 := ⟨_, Tryz.func141, by kernel_rfl, by kernel_rfl⟩
theorem ent142 : Sx.Enters Tryz.prog 142 := ⟨_, Tryz.func142, by kernel_rfl, by kernel_rfl⟩
theorem ent143 : Sx.Enters Tryz.prog 143 := ⟨_, Tryz.func143, by kernel_rfl, by kernel_rfl⟩
theorem ent144 : Sx.Enters Tryz.prog 144 := ⟨_, Tryz.func144, by kernel_rfl, by kernel_rfl⟩
theorem ent146 : Sx.Enters Tryz.prog 146 := ⟨_, Tryz.func146, by kernel_rfl, by kernel_rfl⟩
theorem ent147 : Sx.Enters Tryz.prog 147 := ⟨_, Tryz.func147, by kernel_rfl, by kernel_rfl⟩
theorem ent149 : Sx.Enters Tryz.prog 149 := ⟨_, Tryz.func149, by kernel_rfl, by kernel_rfl⟩
theorem ent151 : Sx.Enters Tryz.prog 151 := ⟨_, Tryz.func151, by kernel_rfl, by kernel_rfl⟩
theorem ent165 : Sx.Enters Tryz.prog 165 := ⟨_, Tryz.func165, by kernel_rfl, by kernel_rfl⟩
theorem ent166 : Sx.Enters Tryz.prog 166 := ⟨_, Tryz.func166, by kernel_rfl, by kernel_rfl⟩
theorem ent167 : Sx.Enters Tryz.prog 167 := ⟨_, Tryz.func167, by kernel_rfl, by kernel_rfl⟩
theorem ent235 : Sx.Enters Tryz.prog 235 := ⟨_, Tryz.func235, by kernel_rfl, by kernel_rfl⟩
theorem sb5 : (Tryz.prog.info? 5).map (fun i => (i.size, i.bytes)) = some (1, 1) := by kernel_rfl
theorem sb9 : (Tryz.prog.info? 9).map (fun i => (i.size, i.bytes)) = some (1, 16) := by kernel_rfl
theorem sb48 : (Tryz.prog.info? 48).map (fun i => (i.size, i.bytes)) = some (2, 32) := by kernel_rfl
theorem sb49 : (Tryz.prog.info? 49).map (fun i => (i.size, i.bytes)) = some (1, 16) := by kernel_rfl
theorem sb53 : (Tryz.prog.info? 53).map (fun i => (i.size, i.bytes)) = some (35, 72) := by kernel_rfl
theorem sb68 : (Tryz.prog.info? 68).map (fun i => (i.size, i.bytes)) = some (2, 40) := by kernel_rfl
theorem sz4 : (Tryz.prog.info? 4).map (·.size) = some 1 := by kernel_rfl
theorem sz5 : (Tryz.prog.info? 5).map (·.size) = some 1 := by kernel_rfl
end Go.Proofs.YtfeabbeebkkhaaaGreat
/-! Fc4 -/
namespace Go.Proofs.YtfeabbeebkkhaaaGreat
open Go Go.Sx
set_option maxRecDepth 100000
theorem sz9 : (Tryz.prog.info? 9).map (·.size) = some 1 := by kernel_rfl
theorem sz22 : (Tryz.prog.info? 22).map (·.size) = some 1 := by kernel_rfl
theorem sz23 : (Tryz.prog.info? 23).map (·.size) = some 1 := by kernel_rfl
theorem sz24 : (Tryz.prog.info? 24).map (·.size) = some 1 := by kernel_rfl
theorem sz25 : (Tryz.prog.info? 25).map (·.size) = some 1 := by kernel_rfl
theorem sz26 : (Tryz.prog.info? 26).map (·.size) = some 1 := by kernel_rfl
theorem sz28 : (Tryz.prog.info? 28).map (·.size) = some 8 := by kernel_rfl
theorem sz46 : (Tryz.prog.info? 46).map (·.size) = some 1 := by kernel_rfl
theorem sz48 : (Tryz.prog.info? 48).map (·.size) = some 2 := by kernel_rfl
theorem sz49 : (Tryz.prog.info? 49).map (·.size) = some 1 := by kernel_rfl
theorem sz51 : (Tryz.prog.info? 51).map (·.size) = some 32 := by kernel_rfl
theorem sz53 : (Tryz.prog.info? 53).map (·.size) = some 35 := by kernel_rfl
theorem sz68 : (Tryz.prog.info? 68).map (·.size) = some 2 := by kernel_rfl
theorem sz145 : (Tryz.prog.info? 145).map (·.size) = some 1 := by kernel_rfl
theorem sz146 : (Tryz.prog.info? 146).map (·.size) = some 8 := by kernel_rfl
theorem sz147 : (Tryz.prog.info? 147).map (·.size) = some 8 := by kernel_rfl
theorem sz155 : (Tryz.prog.info? 155).map (·.size) = some 20 := by kernel_rfl
theorem sz162 : (Tryz.prog.info? 162).map (·.size) = some 64 := by kernel_rfl
theorem sz167 : (Tryz.prog.info? 167).map (·.size) = some 1 := by kernel_rfl
theorem sz169 : (Tryz.prog.info? 169).map (·.size) = some 2 := by kernel_rfl
theorem sz200 : (Tryz.prog.info? 200).map (·.size) = some 1 := by kernel_rfl
theorem sz206 : (Tryz.prog.info? 206).map (·.size) = some 3 := by kernel_rfl
theorem sz208 : (Tryz.prog.info? 208).map (·.size) = some 1 := by kernel_rfl
theorem sz244 : (Tryz.prog.info? 244).map (·.size) = some 256 := by kernel_rfl
theorem sz246 : (Tryz.prog.info? 246).map (·.size) = some 257 := by kernel_rfl
theorem zero5 : zeroL Tryz.prog 5 = some ([.int .u8 0]) := by kernel_rfl
theorem zero9 : zeroL Tryz.prog 9 = some ([.string (bs [])]) := by kernel_rfl
theorem zero28 : zeroL Tryz.prog 28 = some ([.string (bs []), .string (bs []), .string (bs []), .slice none 0 0, .slice none 0 0, .slice none 0 0, .slice none 0 0, .slice none 0 0]) := by kernel_rfl
theorem zero48 : zeroL Tryz.prog 48 = some ([.string (bs []), .string (bs [])]) := by kernel_rfl
theorem zero49 : zeroL Tryz.prog 49 = some ([.string (bs [])]) := by kernel_rfl
theorem zero51 : zeroL Tryz.prog 51 = some (ints (List.replicate 32 0)) := by kernel_rfl
theorem zero53 : zeroL Tryz.prog 53 = some ([.string (bs []), .string (bs []), .bool false, .int .u8 0, .int .u8 0, .int .u8 0, .int .u8 0, .int .u8 0, .int .u8 0, .int .u8 0, .int .u8 0, .int .u8 0, .int .u8 0, .int .u8 0, .int .u8 0, .int .u8 0, .int .u8 0, .int .u8 0, .int .u8 0, .int .u8 0, .int .u8 0, .int .u8 0, .int .u8 0, .int .u8 0, .int .u8 0, .int .u8 0, .int .u8 0, .int .u8 0, .int .u8 0, .int .u8 0, .int .u8 0, .int .u8 0, .int .u8 0, .int .u8 0, .int .u8 0]) := by kernel_rfl
theorem zero68 : zeroL Tryz.prog 68 = some ([.string (bs []), .slice none 0 0]) := by kernel_rfl
theorem zero146 : zeroL Tryz.prog 146 = some (ks .u32 (List.replicate 8 0)) := by kernel_rfl
theorem zero147 : zeroL Tryz.prog 147 = some (ks .u32 (List.replicate 8 0)) := by kernel_rfl
theorem zero155 : zeroL Tryz.prog 155 = some (ints (List.replicate 20 0)) := by kernel_rfl
theorem zero162 : zeroL Tryz.prog 162 = some (ks .u32 (List.replicate 64 0)) := by kernel_rfl
theorem zero169 : zeroL Tryz.prog 169 = some ([.pointer none, .slice none 0 0]) := by kernel_rfl
theorem zero210 : zeroL Tryz.prog 210 = some ([.int .u32 0, .int .i32 0, .int .u32 0, .nilIface, .slice none 0 0]) := by kernel_rfl
end Go.Proofs.YtfeabbeebkkhaaaGreat
/-! Fc -/

/-! Sx8 -/
namespace Go.Sx
open Go
set_option linter.unusedVariables false
set_option linter.unusedSimpArgs false
abbrev cv (z : Int) : Int := IntKind.u32.wrap z
abbrev shl32 (z n : Int) : Int := IntKind.u32.wrap (z * 2 ^ min n.toNat IntKind.u32.bits)
abbrev shr32 (z n : Int) : Int := z.fdiv (2 ^ min n.toNat IntKind.u32.bits)
abbrev xo (a c : Int) : Int := bw .xor .u32 a c
abbrev an (a c : Int) : Int := bw .and .u32 a c
abbrev oo (a c : Int) : Int := bw .or .u32 a c
abbrev inv32 (a : Int) : Int := bw .xor .u32 (if IntKind.u32.signed then -1 else IntKind.u32.max) a
def rotr (x n : Int) : Int := oo (shl32 x (32 - n)) (shr32 x n)
abbrev gb (p : List UInt8) (i : Nat) : Int := ((p.getD i 0).toNat : Int)
def word (p : List UInt8) (i : Nat) : Int := oo (oo (oo (shl32 (cv (gb p (4 * i))) 24) (shl32 (cv (gb p (4 * i + 1))) 16)) (shl32 (cv (gb p (4 * i + 2))) 8)) (cv (gb p (4 * i + 3)))
def sig0 (x : Int) : Int := xo (xo (rotr x 7) (rotr x 18)) (shr32 x 3)
def sig1 (x : Int) : Int := xo (xo (rotr x 17) (rotr x 19)) (shr32 x 10)
def wnext (w : List Int) (n : Nat) : Int := cv (cv (cv (w.getD (n - 16) 0 + sig0 (w.getD (n - 15) 0)) + w.getD (n - 7) 0) + sig1 (w.getD (n - 2) 0))
def sched (p : List UInt8) : Nat → List Int
 | 0 => []
 | n + 1 => sched p n ++ [if n < 16 then word p n else wnext (sched p n) n]
theorem sched_word {p : List UInt8} {w : List Int} {i : Nat} (h : w.take i = sched p i) (hi : i < 16) (hl : i < w.length) : (w.set i (word p i)).take (i + 1) = sched p (i + 1) := by
 rw [take_set_succ hl, h, sched, if_pos hi]
theorem sched_next {p : List UInt8} {w : List Int} {i : Nat} (h : w.take i = sched p i) (hi : 16 ≤ i) (hl : i < w.length) : (w.set i (wnext w i)).take (i + 1) = sched p (i + 1) := by
 rw [take_set_succ hl, h, sched, if_neg (by omega)]
 have hw : wnext (sched p i) i = wnext w i := by
  unfold wnext
  rw [← h, list_getD_take (by omega), list_getD_take (by omega), list_getD_take (by omega), list_getD_take (by omega)]
 rw [hw]
def t1of (k w : Int) (v : List Int) : Int := cv (cv (cv (cv (v.getD 7 0 + xo (xo (rotr (v.getD 4 0) 6) (rotr (v.getD 4 0) 11)) (rotr (v.getD 4 0) 25)) + xo (an (v.getD 4 0) (v.getD 5 0)) (an (inv32 (v.getD 4 0)) (v.getD 6 0))) + k) + w)
def t2of (v : List Int) : Int := cv (xo (xo (rotr (v.getD 0 0) 2) (rotr (v.getD 0 0) 13)) (rotr (v.getD 0 0) 22) + xo (xo (an (v.getD 0 0) (v.getD 1 0)) (an (v.getD 0 0) (v.getD 2 0))) (an (v.getD 1 0) (v.getD 2 0)))
def rnd (k w : Int) (v : List Int) : List Int := [cv (t1of k w v + t2of v), v.getD 0 0, v.getD 1 0, v.getD 2 0, cv (v.getD 3 0 + t1of k w v), v.getD 4 0, v.getD 5 0, v.getD 6 0]
def rounds (kk ws v : List Int) : Nat → List Int
 | 0 => v
 | n + 1 => rnd (kk.getD n 0) (ws.getD n 0) (rounds kk ws v n)
theorem rounds_length {kk ws v : List Int} (h : v.length = 8) (n : Nat) : (rounds kk ws v n).length = 8 := by
 cases n with
 | zero => exact h
 | succ n => rfl
def adds (s v : List Int) : Nat → List Int
 | 0 => s
 | n + 1 => (adds s v n).set n (cv ((adds s v n).getD n 0 + v.getD n 0))
theorem adds_length (s v : List Int) (n : Nat) : (adds s v n).length = s.length := by
 induction n with
 | zero => rfl
 | succ n ih => simp [adds, ih]
def kk64 : List Int := [1116352408, 1899447441, 3049323471, 3921009573, 961987163, 1508970993, 2453635748, 2870763221, 3624381080, 310598401, 607225278, 1426881987, 1925078388, 2162078206, 2614888103, 3248222580, 3835390401, 4022224774, 264347078, 604807628, 770255983, 1249150122, 1555081692, 1996064986, 2554220882, 2821834349, 2952996808, 3210313671, 3336571891, 3584528711, 113926993, 338241895, 666307205, 773529912, 1294757372, 1396182291, 1695183700, 1986661051, 2177026350, 2456956037, 2730485921, 2820302411, 3259730800, 3345764771, 3516065817, 3600352804, 4094571909, 275423344, 430227734, 506948616, 659060556, 883997877, 958139571, 1322822218, 1537002063, 1747873779, 1955562222, 2024104815, 2227730452, 2361852424, 2428436474, 2756734187, 3204031479, 3329325298]
def init8 : List Int := [1779033703, 3144134277, 1013904242, 2773480762, 1359893119, 2600822924, 528734635, 1541459225]
def block (p : List UInt8) (s : List Int) : List Int := adds s (rounds kk64 (sched p 64) s 64) 8
theorem block_length {p : List UInt8} {s : List Int} (h : s.length = 8) : (block p s).length = 8 := by rw [block, adds_length, h]
def blocks : Nat → List UInt8 → List Int → List Int
 | 0, _, s => s
 | n + 1, p, s => blocks n (p.drop 64) (block p s)
theorem blocks_length {n : Nat} {p : List UInt8} {s : List Int} (h : s.length = 8) : (blocks n p s).length = 8 := by
 induction n generalizing p s with
 | zero => exact h
 | succ n ih => exact ih (block_length h)
theorem blocks_succ (n : Nat) (p : List UInt8) (s : List Int) : blocks (n + 1) p s = block (p.drop (64 * n)) (blocks n p s) := by
 induction n generalizing p s with
 | zero => simp [blocks]
 | succ n ih =>
  rw [blocks, ih, blocks, List.drop_drop]
  congr 2
  omega
theorem blocks_add (n m : Nat) (p : List UInt8) (s : List Int) : blocks (n + m) p s = blocks m (p.drop (64 * n)) (blocks n p s) := by
 induction n generalizing p s with
 | zero => simp [blocks]
 | succ n ih =>
  rw [show n + 1 + m = (n + m) + 1 by omega, blocks, ih, blocks, List.drop_drop]
  congr 2
  omega
theorem word_congr {p q : List UInt8} {i : Nat} (h : ∀ j, j < 64 → p.getD j 0 = q.getD j 0) (hi : i < 16) : word p i = word q i := by
 unfold word gb
 rw [h _ (by omega), h _ (by omega), h _ (by omega), h _ (by omega)]
theorem sched_congr {p q : List UInt8} (h : ∀ j, j < 64 → p.getD j 0 = q.getD j 0) (n : Nat) : sched p n = sched q n := by
 induction n with
 | zero => rfl
 | succ n ih =>
  simp only [sched, ih]
  split
  ·rename_i hn; rw [word_congr h hn]
  ·rfl
theorem block_congr {p q : List UInt8} (h : ∀ j, j < 64 → p.getD j 0 = q.getD j 0) (s : List Int) : block p s = block q s := by
 unfold block
 rw [sched_congr h]
theorem blocks_congr {n : Nat} {p q : List UInt8} (h : ∀ j, j < 64 * n → p.getD j 0 = q.getD j 0) (s : List Int) : blocks n p s = blocks n q s := by
 induction n generalizing p q s with
 | zero => rfl
 | succ n ih =>
  rw [blocks, blocks, block_congr (fun j hj => h j (by omega)), ih]
  intro j hj
  simp only [List.getD_eq_getElem?_getD, List.getElem?_drop]
  simpa only [List.getD_eq_getElem?_getD] using h (64 + j) (by omega)
def zc (n : Nat) : Nat := (119 - n % 64) % 64
def len8 (x : Int) : Nat → List UInt8
 | 0 => []
 | i + 1 => len8 x i ++ [by8 (x.fdiv (2 ^ (56 - 8 * i)))]
theorem len8_length (x : Int) (i : Nat) : (len8 x i).length = i := by
 induction i with
 | zero => rfl
 | succ i ih => simp [len8, ih]
def pad (n : Nat) (x : Int) : List UInt8 := [128] ++ List.replicate (zc n) 0 ++ len8 x 8
def outs (s : List Int) : Nat → List UInt8
 | 0 => []
 | i + 1 => outs s i ++ [by8 ((s.getD (i / 4) 0).fdiv (2 ^ (24 - 8 * (i % 4))))]
theorem outs_length (s : List Int) (i : Nat) : (outs s i).length = i := by
 induction i with
 | zero => rfl
 | succ i ih => simp [outs, ih]
def bits8 (n : Nat) : Int := IntKind.u64.wrap (IntKind.u64.wrap (n : Int) * 8)
def ended (s : List Int) (rest : List UInt8) (x : Int) : List UInt8 := outs (blocks ((rest.length + zc rest.length + 9) / 64) (rest ++ pad rest.length x) s) 32
def sum (p : List UInt8) : List UInt8 := ended init8 p (bits8 p.length)
theorem sum_length (p : List UInt8) : (sum p).length = 32 := outs_length _ _
theorem sum_split (p : List UInt8) : ended (blocks (p.length / 64) p init8) (p.drop (64 * (p.length / 64))) (bits8 p.length) = sum p := by
 have hr : (p.drop (64 * (p.length / 64))).length = p.length % 64 := by rw [List.length_drop]; omega
 have hz : zc (p.length % 64) = zc p.length := by unfold zc; omega
 have hp : pad (p.length % 64) (bits8 p.length) = pad p.length (bits8 p.length) := by unfold pad; rw [hz]
 unfold sum ended
 rw [hr, hz, hp]
 congr 1
 have hn : (p.length + zc p.length + 9) / 64 = p.length / 64 + (p.length % 64 + zc p.length + 9) / 64 := by omega
 rw [hn, blocks_add]
 have hd : (p ++ pad p.length (bits8 p.length)).drop (64 * (p.length / 64)) = p.drop (64 * (p.length / 64)) ++ pad p.length (bits8 p.length) := by
  rw [List.drop_append_of_le_length (by omega)]
 rw [hd]
 congr 1
 refine blocks_congr (fun j hj => ?_) _
 rw [List.getD_eq_getElem?_getD, List.getD_eq_getElem?_getD, List.getElem?_append_left (by omega)]
theorem zc_back {n j : Nat} (hj : j ≤ zc n) (h : (n + 1 + j) % 64 ≠ 56) : j < zc n := by unfold zc at *; omega
theorem zc_end {n j : Nat} (hj : j ≤ zc n) (h : (n + 1 + j) % 64 = 56) : j = zc n := by unfold zc at *; omega
theorem zc_lt (n : Nat) : zc n < 64 := by unfold zc; omega
theorem zc_mod (n : Nat) : (n + zc n + 9) % 64 = 0 := by unfold zc; omega
def foldN (h : List UInt8) : Nat → List UInt8
 | 0 => List.replicate 20 0
 | i + 1 => (foldN h i).set (i % 20) (by8 (bw .xor .u8 (((foldN h i).getD (i % 20) 0).toNat : Int) ((h.getD i 0).toNat : Int)))
theorem foldN_length (h : List UInt8) (i : Nat) : (foldN h i).length = 20 := by
 induction i with
 | zero => rfl
 | succ i ih => simp [foldN, ih]
def fold (h : List UInt8) : List UInt8 := foldN h 32
def digit (n : Int) : UInt8 := if n < 10 then by8 (48 + n) else by8 (IntKind.u8.wrap (97 + n) - 10)
def hexN (h : List UInt8) : Nat → List UInt8
 | 0 => []
 | i + 1 => hexN h i ++ [digit (((h.getD i 0).toNat : Int) / 16), digit (((h.getD i 0).toNat : Int) % 16)]
theorem hexN_length (h : List UInt8) (i : Nat) : (hexN h i).length = 2 * i := by
 induction i with
 | zero => rfl
 | succ i ih => simp [hexN, ih]; omega
def hex (h : List UInt8) : List UInt8 := hexN h 32
end Go.Sx
/-! Sx9 -/
namespace Go.Sx
open Go
set_option linter.unusedVariables false
set_option linter.unusedSimpArgs false
def numL : List UInt8 → Nat
 | [] => 0
 | c :: l => c.toNat + 256 * numL l
theorem num_lt (l : List UInt8) : numL l < 2 ^ (8 * l.length) := by
 induction l with
 | nil => simp [numL]
 | cons c l ih =>
  have hc := c.toNat_lt
  have : 2 ^ (8 * (c :: l).length) = 256 * 2 ^ (8 * l.length) := by
   rw [List.length_cons, show 8 * (l.length + 1) = 8 + 8 * l.length by omega, Nat.pow_add]
  rw [this, numL]
  omega
theorem num_split (l : List UInt8) (i : Nat) : numL l = numL (l.take i) + 2 ^ (8 * i) * numL (l.drop i) := by
 induction i generalizing l with
 | zero => simp [numL]
 | succ i ih =>
  cases l with
  | nil => simp [numL]
  | cons c l =>
   simp only [List.take_succ_cons, List.drop_succ_cons, numL]
   have hp : 2 ^ (8 * (i + 1)) = 256 * 2 ^ (8 * i) := by rw [show 8 * (i + 1) = 8 + 8 * i by omega, Nat.pow_add]
   rw [hp, Nat.mul_assoc]
   have := ih l
   omega
theorem num_take_succ (l : List UInt8) (i : Nat) (h : i < l.length) : numL (l.take (i + 1)) = numL (l.take i) + (l.getD i 0).toNat * 2 ^ (8 * i) := by
 induction i generalizing l with
 | zero =>
  cases l with
  | nil => simp at h
  | cons c l => simp [numL]
 | succ i ih =>
  cases l with
  | nil => simp at h
  | cons c l =>
   simp only [List.take_succ_cons, numL]
   have hp : 2 ^ (8 * (i + 1)) = 256 * 2 ^ (8 * i) := by rw [show 8 * (i + 1) = 8 + 8 * i by omega, Nat.pow_add]
   have h1 := ih l (by simpa using h)
   have h2 : (c :: l).getD (i + 1) 0 = l.getD i 0 := by simp
   rw [h1, h2, hp, Nat.mul_left_comm]
   omega
def dg (n i : Nat) : Nat := n / 2 ^ (5 * i) % 32
theorem dg_take (l : List UInt8) (a i : Nat) (h : 5 * i + 5 ≤ 8 * a ∨ l.length ≤ a) : dg (numL l) i = numL (l.take a) / 2 ^ (5 * i) % 32 := by
 rcases h with h | h
 ·unfold dg
  rw [num_split l a]
  obtain ⟨d, hd⟩ := Nat.exists_eq_add_of_le h
  have : 2 ^ (8 * a) * numL (l.drop a) = 2 ^ (5 * i) * (32 * (2 ^ d * numL (l.drop a))) := by
   rw [hd, Nat.pow_add, Nat.pow_add]
   simp only [Nat.mul_assoc]
  rw [this, Nat.add_mul_div_left _ _ (Nat.two_pow_pos _), Nat.add_mul_mod_self_left]
 ·rw [List.take_of_length_le h]
  rfl
def DIG : List UInt8 := [48, 49, 50, 51, 52, 53, 54, 55, 56, 57, 97, 98, 99, 100, 102, 103, 104, 105, 106, 107, 108, 109, 110, 112, 113, 114, 115, 118, 119, 120, 121, 122]
def digs (n : Nat) : Nat → List UInt8
 | 0 => []
 | i + 1 => DIG.getD (dg n i) 0 :: digs n i
theorem digs_length (n i : Nat) : (digs n i).length = i := by
 induction i with
 | zero => rfl
 | succ i ih => simp [digs, ih]
def lenD (n : Nat) : Nat := (8 * n + 4) / 5
def text32 (l : List UInt8) : List UInt8 := digs (numL l) (lenD l.length)
theorem text32_length (l : List UInt8) : (text32 l).length = lenD l.length := digs_length _ _
theorem or32 (m c h : Nat) (hm : m < 2 ^ h) (hc : c < 256) (hh : h ≤ 7) : oo (m : Int) (shl32 (cv (c : Int)) (h : Int)) = ((m + c * 2 ^ h : Nat) : Int) := by
 have h1 : 2 ^ h ≤ 128 := Nat.pow_le_pow_right (by decide) hh
 have h2 : c * 2 ^ h ≤ 255 * 128 := Nat.mul_le_mul (by omega) h1
 have hcv : cv (c : Int) = (c : Int) := IntWalk.u32_in _ (by omega)
 have hmin : min ((h : Int).toNat) IntKind.u32.bits = h := by
  show min _ 32 = _
  omega
 have hs : shl32 (cv (c : Int)) (h : Int) = ((c * 2 ^ h : Nat) : Int) := by
  unfold shl32
  rw [hcv, hmin]
  have e : (c : Int) * 2 ^ h = ((c * 2 ^ h : Nat) : Int) := by rw [Int.natCast_mul, Int.natCast_pow]; rfl
  rw [e]
  exact IntWalk.u32_in _ (by omega)
 rw [hs]
 unfold oo bw
 simp only []
 have e1 : (BitVec.ofInt IntKind.u32.bits (m : Int) ||| BitVec.ofInt IntKind.u32.bits ((c * 2 ^ h : Nat) : Int)).toNat = m + c * 2 ^ h := by
  rw [BitVec.toNat_or, BitVec.ofInt_natCast, BitVec.ofInt_natCast, BitVec.toNat_ofNat, BitVec.toNat_ofNat]
  have hb : IntKind.u32.bits = 32 := rfl
  rw [hb, Nat.mod_eq_of_lt (by omega), Nat.mod_eq_of_lt (by omega), Nat.or_comm, Nat.mul_comm c, ← Nat.two_pow_add_eq_or_of_lt hm, Nat.add_comm]
 rw [e1]
 exact IntWalk.u32_in _ (by omega)
theorem and32 (m : Nat) (hm : m < 4294967296) : an (m : Int) 31 = ((m % 32 : Nat) : Int) := by
 unfold an bw
 simp only []
 have e1 : (BitVec.ofInt IntKind.u32.bits (m : Int) &&& BitVec.ofInt IntKind.u32.bits 31).toNat = m % 32 := by
  have : (31 : Int) = ((31 : Nat) : Int) := rfl
  rw [this, BitVec.toNat_and, BitVec.ofInt_natCast, BitVec.ofInt_natCast, BitVec.toNat_ofNat, BitVec.toNat_ofNat]
  have hb : IntKind.u32.bits = 32 := rfl
  rw [hb, Nat.mod_eq_of_lt (by omega)]
  exact Nat.and_two_pow_sub_one_eq_mod m 5
 rw [e1]
 exact IntWalk.u32_in _ (by omega)
theorem shr5 (m : Nat) : shr32 (m : Int) 5 = ((m / 32 : Nat) : Int) := by
 show Int.fdiv (m : Int) 32 = _
 rw [Int.fdiv_eq_ediv_of_nonneg _ (by omega)]
 rfl
structure Buf (b : List UInt8) (i a h bits : Nat) : Prop where
 a_le : a ≤ b.length
 h_eq : h = 8 * a - 5 * i
 ahead : a < b.length → 5 * i ≤ 8 * a
 h_le : h ≤ 7
 bits_eq : bits = numL (b.take a) / 2 ^ (5 * i)
theorem Buf.start (b : List UInt8) : Buf b 0 0 0 0 := ⟨Nat.zero_le _, rfl, fun _ => Nat.le_refl _, by decide, by simp [numL]⟩
theorem Buf.lt {b : List UInt8} {i a h bits : Nat} (B : Buf b i a h bits) : bits < 2 ^ h := by
 have h1 := num_lt (b.take a)
 rw [List.length_take, Nat.min_eq_left B.a_le] at h1
 rw [B.bits_eq, B.h_eq]
 rcases Nat.le_total (5 * i) (8 * a) with h2 | h2
 ·rw [Nat.div_lt_iff_lt_mul (Nat.two_pow_pos _), ← Nat.pow_add, Nat.sub_add_cancel h2]
  exact h1
 ·have : numL (b.take a) < 2 ^ (5 * i) := Nat.lt_of_lt_of_le h1 (Nat.pow_le_pow_right (by decide) h2)
  rw [Nat.div_eq_of_lt this]
  exact Nat.two_pow_pos _
theorem Buf.fill {b : List UInt8} {i a h bits : Nat} (B : Buf b i a h bits) (ha : a < b.length) (hh : h < 5) : bits + (b.getD a 0).toNat * 2 ^ h = numL (b.take (a + 1)) / 2 ^ (5 * i) := by
 have h1 := B.ahead ha
 rw [num_take_succ b a ha, B.bits_eq, B.h_eq]
 have : (b.getD a 0).toNat * 2 ^ (8 * a) = 2 ^ (5 * i) * ((b.getD a 0).toNat * 2 ^ (8 * a - 5 * i)) := by
  rw [Nat.mul_left_comm, ← Nat.pow_add, Nat.add_sub_cancel' h1]
 rw [this, Nat.add_mul_div_left _ _ (Nat.two_pow_pos _)]
theorem Buf.next1 {b : List UInt8} {i a h bits : Nat} (B : Buf b i a h bits) (ha : a < b.length) (hh : h < 5) : (bits + (b.getD a 0).toNat * 2 ^ h) % 32 = dg (numL b) i ∧ Buf b (i + 1) (a + 1) (h + 8 - 5) ((bits + (b.getD a 0).toNat * 2 ^ h) / 32) := by
 have h1 := B.ahead ha
 have h2 := B.h_eq
 rw [B.fill ha hh]
 refine ⟨(dg_take b (a + 1) i (.inl (by omega))).symm, by omega, by omega, fun _ => by omega, by omega, ?_⟩
 rw [Nat.div_div_eq_div_mul, show 5 * (i + 1) = 5 * i + 5 by omega, Nat.pow_add]
theorem Buf.next0 {b : List UInt8} {i a h bits : Nat} (B : Buf b i a h bits) (hn : ¬ (h < 5 ∧ a < b.length)) : bits % 32 = dg (numL b) i ∧ Buf b (i + 1) a (max h 5 - 5) (bits / 32) := by
 have h2 := B.h_eq
 have h3 := B.a_le
 have h4 := B.h_le
 rw [B.bits_eq]
 refine ⟨(dg_take b a i (by omega)).symm, B.a_le, by omega, fun _ => by have := B.ahead (by omega); omega, by omega, ?_⟩
 rw [Nat.div_div_eq_div_mul, show 5 * (i + 1) = 5 * i + 5 by omega, Nat.pow_add]
theorem digs_put {n N i : Nat} (h : i < n) : (List.replicate (n - i) (0 : UInt8) ++ digs N i).set (n - 1 - i) (DIG.getD (dg N i) 0) = List.replicate (n - (i + 1)) 0 ++ digs N (i + 1) := by
 have h1 : n - i = (n - (i + 1)) + 1 := by omega
 rw [h1, List.replicate_succ', List.append_assoc, List.set_append_right _ _ (by simp; omega)]
 simp only [List.length_replicate, show n - 1 - i - (n - (i + 1)) = 0 by omega, List.cons_append, List.nil_append, List.set_cons_zero, digs]
theorem bit_at (l : List UInt8) (k : Nat) (h : k / 8 < l.length) : numL l / 2 ^ k % 2 = (l.getD (k / 8) 0).toNat / 2 ^ (k % 8) % 2 := by
 have hs := num_split l (k / 8)
 have hlt := num_lt (l.take (k / 8))
 rw [List.length_take, Nat.min_eq_left (by omega)] at hlt
 have hk : 2 ^ k = 2 ^ (8 * (k / 8)) * 2 ^ (k % 8) := by rw [← Nat.pow_add]; congr 1; omega
 rw [hk, ← Nat.div_div_eq_div_mul, hs, Nat.add_mul_div_left _ _ (Nat.two_pow_pos _), Nat.div_eq_of_lt hlt, Nat.zero_add]
 have hd : l.drop (k / 8) = l.getD (k / 8) 0 :: l.drop (k / 8 + 1) := by
  rw [List.drop_eq_getElem_cons h, List.getD_eq_getElem?_getD, List.getElem?_eq_getElem h]
  rfl
 rw [hd, numL]
 have hr : k % 8 < 8 := Nat.mod_lt _ (by decide)
 have h256 : (256 : Nat) * numL (l.drop (k / 8 + 1)) = 2 ^ (k % 8) * (2 * (2 ^ (7 - k % 8) * numL (l.drop (k / 8 + 1)))) := by
  have : (256 : Nat) = 2 ^ (k % 8) * (2 * 2 ^ (7 - k % 8)) := by
   rw [← Nat.pow_succ', ← Nat.pow_add, show k % 8 + (7 - k % 8).succ = 8 by omega]
  rw [this]
  simp only [Nat.mul_assoc]
 rw [h256, Nat.add_mul_div_left _ _ (Nat.two_pow_pos _), Nat.add_mul_mod_self_left]
theorem bit_past (l : List UInt8) (k : Nat) (h : l.length ≤ k / 8) : numL l / 2 ^ k % 2 = 0 := by
 have hlt := num_lt l
 rw [Nat.div_eq_of_lt (Nat.lt_of_lt_of_le hlt (Nat.pow_le_pow_right (by decide) (by omega)))]
theorem bit_step (N i t : Nat) (h : t < 5) : 2 * (N / 2 ^ (5 * i + (5 - t)) % 2 ^ t) + N / 2 ^ (5 * i + (4 - t)) % 2 = N / 2 ^ (5 * i + (5 - (t + 1))) % 2 ^ (t + 1) := by
 have e1 : 5 * i + (5 - t) = (5 * i + (4 - t)) + 1 := by omega
 have e2 : 5 * i + (5 - (t + 1)) = 5 * i + (4 - t) := by omega
 rw [e1, e2, Nat.pow_succ 2 (5 * i + (4 - t)), ← Nat.div_div_eq_div_mul, Nat.pow_succ' , Nat.mod_mul]
 omega
theorem and1 (c : UInt8) (k : Nat) (hk : k < 8) : bw .and .i64 (IntKind.i64.wrap ((c.toNat : Int).fdiv (2 ^ k))) 1 = ((c.toNat / 2 ^ k % 2 : Nat) : Int) := by
 have : ∀ (x : Fin 256) (k : Fin 8), bw .and .i64 (IntKind.i64.wrap ((x.val : Int).fdiv (2 ^ k.val))) 1 = ((x.val / 2 ^ k.val % 2 : Nat) : Int) := by decide +kernel
 exact this ⟨c.toNat, c.toNat_lt⟩ ⟨k, hk⟩
theorem args1 {env : Env} {x0 : Operand} {u0 : Value} (h0 : ev env x0 = u0) : (#[x0] : Array Operand).toList.map (ev env) = [u0] := by simp [h0]
theorem args2 {env : Env} {x0 x1 : Operand} {u0 u1 : Value} (h0 : ev env x0 = u0) (h1 : ev env x1 = u1) : (#[x0, x1] : Array Operand).toList.map (ev env) = [u0, u1] := by simp [h0, h1]
end Go.Sx
/-! Sx10 -/
namespace Go.Sx
open Go
set_option linter.unusedVariables false
variable {P : Program} {env : Env} {b : Base} {S : List SH} {v : Value} {o : Oper}
theorem qs_extern {f : FuncId} {fn : Func} {e : Array Value → Sem Value} {xs : Array Operand} {tys : Array TypeId} {g : Operand} {args : List Value} (hf : P.funcs[f]? = some fn) (hname : (fn.name == "runtime.NumGoroutine") = false) (hb : fn.body.isNone = true) (hn : Extern.findNext fn = none) (he : Extern.find fn = some e)
  (ho : o.op = .call ⟨.value g, xs, tys⟩) (hg : ev env g = .func (.func f) #[] #[]) (ha : xs.toList.map (ev env) = args) (hr : ∀ w, (e args.toArray).run P w = .ok v w) : QS P o env b S v := qs_run fun w => by
 have e1 : (#[] ++ xs.map (ev env) ++ #[] : Array Value) = args.toArray := by
  rw [← ha]; apply Array.ext'; simp
 simp only [execOp, ho, resolve, hg, Deferred.ofValue, invoke, Sem.run_bind, Sem.run_pure, Result.andThen_ok, e1, run_callFunc_extern hf hname hb hn he, hr]
def dpos (c : UInt8) : Int := match (List.range 32).find? (fun i => DIG.getD i 0 == c) with | some i => i | none => -1
theorem ofNat_lt (c : UInt8) : UInt8.ofNat (⟨c.toNat, c.toNat_lt⟩ : Fin 256).val = c := by simp
theorem firstIdx_dig (c : UInt8) : firstIdx (bs DIG) c = dpos c := by
 have : ∀ k : Fin 256, firstIdx (bs DIG) (UInt8.ofNat k.val) = dpos (UInt8.ofNat k.val) := by decide +kernel
 have h := this ⟨c.toNat, c.toNat_lt⟩
 rwa [ofNat_lt] at h
theorem dpos_at (i : Nat) (h : i < 32) : dpos (DIG.getD i 0) = i := by
 have : ∀ k : Fin 32, dpos (DIG.getD k.val 0) = (k.val : Int) := by decide +kernel
 exact this ⟨i, h⟩
theorem dpos_none (c : UInt8) (h : ∀ j, j < 32 → DIG.getD j 0 ≠ c) : dpos c = -1 := by
 have : ∀ k : Fin 256, (∀ j : Fin 32, DIG.getD j.val 0 ≠ UInt8.ofNat k.val) → dpos (UInt8.ofNat k.val) = -1 := by decide +kernel
 have h2 := this ⟨c.toNat, c.toNat_lt⟩
 rw [ofNat_lt] at h2
 exact h2 fun j => h j.val j.isLt
theorem dpos_range (c : UInt8) : -1 ≤ dpos c ∧ dpos c < 32 := by
 have : ∀ k : Fin 256, -1 ≤ dpos (UInt8.ofNat k.val) ∧ dpos (UInt8.ofNat k.val) < 32 := by decide +kernel
 have h := this ⟨c.toNat, c.toNat_lt⟩
 rwa [ofNat_lt] at h
def allDig (l : List UInt8) : Bool := l.all fun c => decide (0 ≤ dpos c)
theorem allDig_fail {l : List UInt8} {i : Nat} (hi : i < l.length) (h : dpos (l.getD i 0) < 0) : allDig l = false := by
 have e : l.getD i 0 = l[i] := by rw [List.getD_eq_getElem?_getD, List.getElem?_eq_getElem hi]; rfl
 rw [e] at h
 unfold allDig
 rw [List.all_eq_false]
 exact ⟨l[i], List.getElem_mem hi, by simp; omega⟩
theorem allDig_of {l : List UInt8} (h : ∀ i, i < l.length → 0 ≤ dpos (l.getD i 0)) : allDig l = true := by
 unfold allDig
 rw [List.all_eq_true]
 intro c hc
 obtain ⟨i, hi, rfl⟩ := List.getElem_of_mem hc
 have := h i hi
 rw [List.getD_eq_getElem?_getD, List.getElem?_eq_getElem hi] at this
 simpa using this
theorem or32' (m c h : Nat) (hm : m < 2 ^ h) (hc : c < 32) (hh : h ≤ 7) : oo (m : Int) (shl32 (cv (c : Int)) (h : Int)) = ((m + c * 2 ^ h : Nat) : Int) := or32 m c h hm (by omega) hh
theorem shr8' (m : Nat) : shr32 (m : Int) 8 = ((m / 256 : Nat) : Int) := by
 show Int.fdiv (m : Int) 256 = _
 rw [Int.fdiv_eq_ediv_of_nonneg _ (by omega)]
 rfl
theorem more_lt (m c h : Nat) (hm : m < 2 ^ h) (hc : c < 32) : m + c * 2 ^ h < 2 ^ (h + 5) := by
 have : 2 ^ (h + 5) = 2 ^ h * 32 := by rw [Nat.pow_add]
 rw [this]
 have h1 : c * 2 ^ h ≤ 31 * 2 ^ h := Nat.mul_le_mul_right _ (by omega)
 omega
theorem less_lt (m h : Nat) (hm : m < 2 ^ h) (h8 : 8 ≤ h) : m / 256 < 2 ^ (h - 8) := by
 have : 2 ^ h = 2 ^ (h - 8) * 256 := by
  have h2 : (256 : Nat) = 2 ^ 8 := rfl
  rw [h2, ← Nat.pow_add, Nat.sub_add_cancel h8]
 omega
end Go.Sx
/-! Sx12 -/
namespace Go.Sx
open Go
set_option linter.unusedVariables false
set_option linter.unusedSimpArgs false
variable {P : Program} {R : Ending → World → Prop} {env : Env} {b : Base} {S : List SH} {B : JB} {T : Tree} {v : Value} {ty : TypeId}
theorem qs_field {s : TypeId} {x : Operand} {i sz : Nat} {fs : Array Field} {f : Field} {g off : Nat} (hs : P.underlying s = some (.struct fs)) (hf : fs[i]? = some f) (hz : (P.info? f.type).map (·.size) = some sz) (hsz : sz ≠ 0) (hx : ev env x = .pointer (some ⟨g, off, none⟩)) :
  QS P (O (.fieldAddr s x i) ty) env b S (.pointer (some ⟨g, off + f.offset, none⟩)) := qs_run fun w => by
 simp only [O, execOp, hx, Instr.fieldAt, Instr.sureAddr, Sem.run_bind, Sem.run_pure, Result.andThen_ok, run_underlying_ok hs, hf, fieldPlace, run_sizeOf_ok hz, if_neg hsz, add_off]
theorem qs_pnil {t e t' : TypeId} {x : Operand} {A : Option Addr} (ht : P.underlying t = some (.pointer e)) (hx : ev env x = .pointer A) : QS P (O (.binOp .eql t x (.const (.pointer none)) t') ty) env b S (.bool A.isNone) := qs_run fun w => by
 refine run_eq (r := A.isNone) (.inl rfl) hx rfl (by unfold eqGuard; rfl) (fun _ _ h => by cases h) (fun _ _ h => by cases h) (fun _ _ _ h => by cases h) (fun _ h => by cases h) fun d => ?_
 simp only [Op.equalIn, Sem.run_bind, run_underlying_ok ht, Result.andThen_ok, ev]
 cases A <;> rfl
theorem qs_psame {t e t' : TypeId} {x y : Operand} {a : Addr} {n : Nat} (ht : P.underlying t = some (.pointer e)) (he : (P.info? e).map (·.size) = some n) (hx : ev env x = .pointer (some a)) (hy : ev env y = .pointer (some a)) : QS P (O (.binOp .neq t x y t') ty) env b S (.bool false) := qs_run fun w => by
 obtain ⟨j, hj, _⟩ := Option.map_eq_some_iff.1 he
 have hg : (eqGuard .neq t x y (.pointer (some a)) (.pointer (some a))) = pure () := by unfold eqGuard; rfl
 simp only [O, execOp, hx, hy, hg, Sem.run_bind, Sem.run_pure, Result.andThen_ok, Lib.run_neq_ptr_same w a ht hj]
theorem Sig.shape {w : World} (hw : Sig b S w) {k g : Nat} {l : List Value} {e : TypeId} {fz : Nat × Nat} (hk : S[k]? = some [(g, .cells l.toArray e fz)]) : w.shape? g = some (e, l.length) := by
 simp [World.shape?, hw.at_ hk]
theorem qs_tounsafe {t t' u e : TypeId} {x : Operand} {g off n : Nat} {l : List Value} {fz : Nat × Nat} (k : Nat) (hs : P.underlying t = some (.pointer u)) (hd : P.underlying t' = some .unsafePointer) (hu : (P.info? u).map (·.size) = some n) (hn : n ≠ 0) (hx : ev env x = .pointer (some ⟨g, off, none⟩)) (hk : S[k]? = some [(g, .cells l.toArray e fz)]) (ho : off < l.length) :
  QS P (O (.convert t t' x) ty) env b S (.pointer (some ⟨g, off, none⟩)) := qs_val fun w hw => by
 obtain ⟨j, hj, rfl⟩ := Option.map_eq_some_iff.1 hu
 simp only [O, execOp, hx, Sem.run_bind, Lib.run_to_unsafe w ⟨g, off, none⟩ hs hd hj hn (hw.shape hk) ho, Result.andThen_ok, Sem.run_pure]
theorem qs_fromunsafe {t t' u e : TypeId} {x : Operand} {g off n : Nat} {l : List Value} {fz : Nat × Nat} (k : Nat) (hs : P.underlying t = some .unsafePointer) (hd : P.underlying t' = some (.pointer u)) (hu : (P.info? u).map (·.size) = some n) (hx : ev env x = .pointer (some ⟨g, off, none⟩)) (hk : S[k]? = some [(g, .cells l.toArray e fz)]) (hl : liesAt P P.depth e (l.length / P.cellsOf e) off u 1 = true) :
  QS P (O (.convert t t' x) ty) env b S (.pointer (some ⟨g, off, none⟩)) := qs_val fun w hw => by
 obtain ⟨j, hj, rfl⟩ := Option.map_eq_some_iff.1 hu
 simp only [O, execOp, hx, Sem.run_bind, Lib.run_from_unsafe w ⟨g, off, none⟩ hs hd hj (hw.shape hk) hl, Result.andThen_ok, Sem.run_pure]
theorem qs_usd {t : TypeId} {x : Operand} {a : Addr} {n c : Nat} (hx : ev env x = .slice (some a) n c) (hc : c ≠ 0) : QS P (O (.call ⟨.builtin .unsafeSliceData, #[x], #[t]⟩) ty) env b S (.pointer (some a)) := qs_run fun w => by
 rw [run_b1 w, hx]
 simp only [builtin, Sem.run_bind, Lib.run_unsafeSliceData_row w _ _ a n c hc, Result.andThen_ok, Sem.run_pure]
theorem j_ustr {t t' e : TypeId} {x y : Operand} {g : Nat} {l : List UInt8} {rest : List Value} {fz : Nat × Nat} (k : Nat) (ht : P.underlying t = some (.pointer e)) (hc : P.cellsOf e = 1) (hx : ev env x = .pointer (some ⟨g, 0, none⟩)) (hy : ev env y = .int .i64 l.length) (hk : S[k]? = some [(g, .cells (ints l ++ rest).toArray e fz)]) (h0 : l ≠ []) (hl : l.length ≤ 9223372036854775807)
  (h : J P R T (.string (bs l) :: env) (S.set k []) b B) : J P R (.op (O (.call ⟨.builtin .unsafeString, #[x, y], #[t, t']⟩) ty) T) env S b B := fun w hw => by
 have hg := hw.at_ hk
 have hr := Lib.run_unsafeString_row (P := P) w t t' ty e ht hc g (ints l ++ rest).length (hw.shape hk) l h0 (by simp [ints_length]) hl (fun j x hx => by
  rw [add_off, Nat.zero_add, cell_of hg, List.getElem?_append_left (by rw [ints_length]; exact (List.getElem?_eq_some_iff.1 hx).1), ints_get, hx]
  rfl)
 have hrun : (execOp (ev env) (O (.call ⟨.builtin .unsafeString, #[x, y], #[t, t']⟩) ty)).run P w = .ok (.value (.string (bs l))) (w.freeze ⟨g, 0, none⟩ l.length) := by
  simp [O, execOp, resolve, invoke, hx, hy, builtin, Sem.run_bind, Sem.run_pure, Result.andThen_ok]
  rw [hr]
  rfl
 show opW _ _ _ _ _ _
 unfold opW
 rw [hrun]
 refine h _ ?_
 obtain ⟨r, p1, p2⟩ := flatten_set hk []
 have hnd := (p1.map Prod.fst).nodup_iff.1 hw.nodup
 simp only [List.map_cons, List.cons_append, List.nil_append, List.nodup_cons] at hnd
 have hother : ∀ j, j ≠ g → (w.freeze ⟨g, 0, none⟩ l.length).heap[j]? = w.heap[j]? := fun j hj => by
  unfold World.freeze
  split
  ·rfl
  ·simp only [Array.getElem?_modify]
   rw [if_neg (fun e => hj e.symm)]
 have hsz : (w.freeze ⟨g, 0, none⟩ l.length).heap.size = w.heap.size := by
  unfold World.freeze
  split <;> simp
 have hrest : (w.freeze ⟨g, 0, none⟩ l.length).os = w.os ∧ (w.freeze ⟨g, 0, none⟩ l.length).tape = w.tape ∧ (w.freeze ⟨g, 0, none⟩ l.length).output = w.output := by
  unfold World.freeze
  split <;> exact ⟨rfl, rfl, rfl⟩
 have ht' := hw.tomb hk
 have hgm : g ∈ dom S.flatten := (p1.map Prod.fst).mem_iff.2 (by simp)
 refine ⟨hrest.1.trans ht'.os, hrest.2.1.trans ht'.tape, hrest.2.2.trans ht'.output, by rw [hsz]; exact ht'.size, fun p hp => ?_, ht'.nodup, ht'.dom_, fun j hj hD => ?_⟩
 ·rw [hother p.1 (fun e => hnd.1 (by
   rw [← e]
   have := p2.mem_iff.1 hp
   exact List.mem_map_of_mem (by simpa using this)))]
  exact ht'.own p hp
 ·rw [hother j (fun e => ?_)]
  ·exact ht'.frame j hj hD
  ·subst e
   rcases hw.dom_ _ hgm with hd | hd
   ·exact hD hd
   ·omega
end Go.Sx
/-! Sx11 -/
namespace Go.Sx
open Go Go.Sort Go.Proofs
set_option linter.unusedVariables false
def strs (ss : List (List UInt8)) : List Value := ss.map fun l => .string (bs l)
theorem strs_length (ss : List (List UInt8)) : (strs ss).length = ss.length := by simp [strs]
theorem strs_get {ss : List (List UInt8)} {i : Nat} (h : i < ss.length) : (strs ss)[i]? = some (.string (bs (ss.getD i []))) := by
 simp [strs, List.getElem?_eq_getElem h, List.getD_eq_getElem?_getD]
theorem strs_one {ss : List (List UInt8)} : ∀ u ∈ strs ss, oneV u = true := by
 intro u hu
 obtain ⟨c, _, rfl⟩ := List.mem_map.1 hu
 rfl
def sortS (ss : List (List UInt8)) : List (List UInt8) := ss.mergeSort fun x y => decide (x ≤ y)
theorem sortS_length (ss : List (List UInt8)) : (sortS ss).length = ss.length := by unfold sortS; exact List.length_mergeSort _
theorem mid_get {α : Type} {A B Z : List α} {k : Nat} (h1 : A.length ≤ k) (h2 : k < A.length + B.length) : (A ++ B ++ Z)[k]? = B[k - A.length]? := by
 rw [List.append_assoc, List.getElem?_append_right h1, List.getElem?_append_left (by omega)]
theorem con_sort {P : Program} {f : FuncId}
  (h : ∀ (blk off cap : Nat) (ss : List (List UInt8)) (w : World), Holds encStr w blk off ss.toArray → blk < w.heap.size → ss.length < 4611686018427387904 → Calls P f #[.slice (some ⟨blk, off, none⟩) ss.length cap] w fun e w' =>
   e = .returned (.tuple #[]) ∧ ∃ n os, w' = grow (putRow encStr (Sort.ahead w n) blk off (ss.mergeSort fun x y => decide (x ≤ y)).toArray) os)
  (g cap : Nat) (e : TypeId) (fz : Nat × Nat) (A Z : List Value) (ss : List (List UInt8)) (w : World) (hfz : ∀ j, j < A.length + ss.length → ¬ (fz.1 ≤ j ∧ j < fz.2)) (hsz : ss.length < 4611686018427387904) :
  Con P f [.slice (some ⟨g, A.length, none⟩) ss.length cap] w [(g, .cells (A ++ strs ss ++ Z).toArray e fz)] fun v S' => v = .tuple #[] ∧ S' = [[(g, .cells (A ++ strs (sortS ss) ++ Z).toArray e fz)]] := fun hown hnd => by
 have hg : w.heap[g]? = some (.cells (A ++ strs ss ++ Z).toArray e fz) := hown (g, _) (by simp)
 have hlt := lt_of_get hg
 have hH : Holds encStr w g A.length ss.toArray := fun j hj => by
  rw [List.size_toArray] at hj
  refine ⟨?_, ?_⟩
  ·rw [cell_of hg, List.append_assoc, List.getElem?_append_right (by omega), Nat.add_sub_cancel_left, List.getElem?_append_left (by rw [strs_length]; exact hj), strs_get hj]
   simp only [encStr]
   congr 3
   rw [List.getD_eq_getElem?_getD, List.getElem?_eq_getElem hj]
   simp [hj]
  ·unfold World.frozen?
   simp only [hg]
   have := hfz (A.length + j) (by omega)
   simpa using this
 refine (h g A.length cap ss w hH hlt hsz).mono ?_
 rintro e' w' ⟨rfl, n, os, rfl⟩
 refine ⟨_, _, rfl, ⟨rfl, rfl⟩, ?_⟩
 have hheap : ∀ k, k < w.heap.size → (grow (putRow encStr (Sort.ahead w n) g A.length (ss.mergeSort fun x y => decide (x ≤ y)).toArray) os).heap[k]? = (putRow encStr (Sort.ahead w n) g A.length (ss.mergeSort fun x y => decide (x ≤ y)).toArray).heap[k]? := fun k hk => by
  unfold grow
  simp only []
  rw [Array.getElem?_append_left]
  unfold putRow mapBlock
  simpa [Sort.ahead] using hk
 have hput : ∀ k, (putRow encStr (Sort.ahead w n) g A.length (ss.mergeSort fun x y => decide (x ≤ y)).toArray).heap[k]? = if g = k then w.heap[k]?.map (onCells (putCells encStr A.length (ss.mergeSort fun x y => decide (x ≤ y)).toArray)) else w.heap[k]? := fun k => by
  unfold putRow mapBlock
  simp only [Sort.ahead, Array.getElem?_modify]
 refine ⟨rfl, rfl, rfl, ?_, fun p hp => ?_, by simp, fun k hk => .inl (by simpa using hk), fun k hk hD => ?_⟩
 ·show w.heap.size ≤ _
  rw [size_grow]
  unfold putRow mapBlock
  simp [Sort.ahead]
 ·simp only [List.flatten_cons, List.flatten_nil, List.append_nil, List.mem_singleton] at hp
  subst hp
  simp only []
  rw [hheap g hlt, hput, if_pos rfl, hg]
  simp only [Option.map_some, onCells]
  congr 2
  apply Array.ext_getElem?
  intro k
  simp only [putCells, Array.getElem?_mapIdx, List.getElem?_toArray, List.size_toArray, List.length_mergeSort]
  by_cases h1 : k < A.length
  ·rw [List.append_assoc, List.append_assoc, List.getElem?_append_left h1, List.getElem?_append_left h1, List.getElem?_eq_getElem h1]
   simp only [Option.map_some]
   rw [if_neg (by omega)]
  ·by_cases h2 : k < A.length + ss.length
   ·rw [mid_get (by omega) (by rw [strs_length]; omega), mid_get (by omega) (by rw [strs_length, sortS_length]; omega)]
    rw [strs_get (by omega), strs_get (by rw [sortS_length]; omega)]
    simp only [Option.map_some]
    rw [if_pos (by omega)]
    simp only [encStr]
    congr 3
    have h3 : k - A.length < (ss.mergeSort fun x y => decide (x ≤ y)).length := by rw [List.length_mergeSort]; omega
    rw [List.getD_eq_getElem?_getD]
    have h4 : (sortS ss)[k - A.length]? = some ((ss.mergeSort fun x y => decide (x ≤ y))[k - A.length]) := List.getElem?_eq_getElem h3
    rw [h4]
    have h5 : (ss.mergeSort fun x y => decide (x ≤ y)).toArray[k - A.length]! = (ss.mergeSort fun x y => decide (x ≤ y))[k - A.length] := by
     rw [getElem!_pos _ _ (by simpa using h3)]
     simp
    rw [h5]
    rfl
   ·rw [List.getElem?_append_right (by simp [strs_length]; omega), List.getElem?_append_right (by simp [strs_length, sortS_length]; omega)]
    simp only [List.length_append, strs_length, sortS_length]
    cases Z[k - (A.length + ss.length)]? with
    | none => rfl
    | some y => simp only [Option.map_some]; rw [if_neg (by omega)]
 ·have hk' : k < w.heap.size := hk
  have hne : g ≠ k := fun e => hD (by simp [e])
  rw [hheap k hk', hput, if_neg hne]
theorem con_of_own {P : Program} {f : FuncId} {args : List Value} {w : World} {e : TypeId} {sz n : Nat} {xs : List Value} (h : Calls P f args.toArray w fun e' w' => ∃ v, e' = .returned v ∧ w'.ownsRow w.heap.size e sz v n xs ∧ _root_.Go.RowKit.Below w.heap.size w w') :
  Con P f args w [] fun v S' => ∃ c, S' = [c] ∧ Own e sz xs v c := fun _ _ => by
 refine h.mono ?_
 rintro e' w' ⟨v, rfl, ⟨hl, ho⟩, hb⟩
 rcases ho with ⟨rfl, rfl⟩ | ⟨g, cap, cur, rfl, hg1, hg2, hc1, hc2, hc3, hc4⟩
 ·have hx : xs = [] := List.eq_nil_of_length_eq_zero (by simpa using hl)
  subst hx
  exact ⟨_, [[]], rfl, ⟨[], rfl, own_nil⟩, ⟨hb.os, hb.tape, hb.output, hb.size, by simp, by simp, by simp, fun k hk _ => hb.block k hk⟩⟩
 ·have hcur : cur = (xs ++ cur.toList.drop (n * sz)).toArray := by
   apply Array.ext'
   simp only
   rw [← hc4, List.take_append_drop]
  have hlen : (xs ++ cur.toList.drop (n * sz)).length = cap * sz := by
   rw [← hc4, List.take_append_drop, Array.length_toList, hc3]
  refine ⟨_, [[(g, .cells (xs ++ cur.toList.drop (n * sz)).toArray e (0, 0))]], rfl, ⟨_, rfl, .inr ⟨g, n, cap, cur.toList.drop (n * sz), (0, 0), rfl, rfl, hl, hlen, hc1, fun _ _ h => by omega⟩⟩, ⟨hb.os, hb.tape, hb.output, hb.size, ?_, by simp, ?_, fun k hk _ => hb.block k hk⟩⟩
  ·intro p hp
   simp only [List.flatten_cons, List.flatten_nil, List.append_nil, List.mem_singleton] at hp
   subst hp
   simp only []
   rw [hg2, ← hcur]
  ·intro k hk
   simp only [dom, List.flatten_cons, List.flatten_nil, List.append_nil, List.map_cons, List.map_nil, List.mem_singleton] at hk
   subst hk
   exact .inr hg1
theorem con_sort_nil {P : Program} {f : FuncId} (h : ∀ (p : Option Addr) (cap : Nat) (w : World), Calls P f #[.slice p 0 cap] w fun e w' => e = .returned (.tuple #[]) ∧ w' = w) (p : Option Addr) (cap : Nat) (w : World) :
  Con P f [.slice p 0 cap] w [] fun v S' => v = .tuple #[] ∧ S' = [[]] := fun _ _ => by
 refine (h p cap w).mono ?_
 rintro e' w' ⟨rfl, rfl⟩
 exact ⟨_, _, rfl, ⟨rfl, rfl⟩, ⟨rfl, rfl, rfl, Nat.le_refl _, by simp, by simp, by simp, fun _ _ _ => rfl⟩⟩
theorem con_sort_own {P : Program} {f : FuncId}
  (h : ∀ (blk off cap : Nat) (ss : List (List UInt8)) (w : World), Holds encStr w blk off ss.toArray → blk < w.heap.size → ss.length < 4611686018427387904 → Calls P f #[.slice (some ⟨blk, off, none⟩) ss.length cap] w fun e w' =>
   e = .returned (.tuple #[]) ∧ ∃ n os, w' = grow (putRow encStr (Sort.ahead w n) blk off (ss.mergeSort fun x y => decide (x ≤ y)).toArray) os)
  (h0 : ∀ (p : Option Addr) (cap : Nat) (w : World), Calls P f #[.slice p 0 cap] w fun e w' => e = .returned (.tuple #[]) ∧ w' = w)
  {e : TypeId} {ss : List (List UInt8)} {v : Value} {c : SH} (ho : Own e 1 (strs ss) v c) (hsz : ss.length < 4611686018427387904) (w : World) : Con P f [v] w c fun u S' => u = .tuple #[] ∧ ∃ c', S' = [c'] ∧ Own e 1 (strs (sortS ss)) v c' := by
 rcases ho with ⟨rfl, hx, rfl⟩ | ⟨g, n, cap, rest, fz, rfl, rfl, h1, h2, h3, h4⟩
 ·have : ss = [] := by cases ss <;> first | rfl | cases hx
  subst this
  intro ha hb
  refine (con_sort_nil h0 none 0 w ha hb).mono ?_
  rintro e' w' ⟨v, S', rfl, ⟨rfl, rfl⟩, hS⟩
  exact ⟨_, _, rfl, ⟨rfl, [], rfl, by rw [show strs (sortS []) = [] by simp [sortS, strs]]; exact own_nil⟩, hS⟩
 ·rw [strs_length] at h1
  obtain rfl : n = ss.length := by omega
  have hc := con_sort h g cap e fz [] rest ss w (fun j hj => h4 j (by simp [strs_length] at hj ⊢; omega)) hsz
  simp only [List.nil_append, List.length_nil] at hc
  intro ha hb
  refine (hc ha hb).mono ?_
  rintro e' w' ⟨v, S', rfl, ⟨rfl, rfl⟩, hS⟩
  refine ⟨_, _, rfl, ⟨rfl, _, rfl, .inr ⟨g, ss.length, cap, rest, fz, rfl, rfl, by rw [strs_length, sortS_length]; omega, ?_, h3, fun j hj => h4 j ?_⟩⟩, hS⟩
  ·rw [← h2]; simp [strs_length, sortS_length]
  ·simpa [strs_length, sortS_length] using hj
theorem qs_makefunc {P : Program} {env : Env} {b : Base} {S : List SH} {ty : TypeId} {fn : Fn} {fi ca : Array Operand} {fv cv : List Value} (h1 : fi.toList.map (ev env) = fv) (h2 : ca.toList.map (ev env) = cv) : QS P (O (.makeFunc fn fi ca) ty) env b S (.func fn fv.toArray cv.toArray) := qs_run fun w => by
 have e1 : fi.map (ev env) = fv.toArray := by rw [← h1]; apply Array.ext'; simp
 have e2 : ca.map (ev env) = cv.toArray := by rw [← h2]; apply Array.ext'; simp
 simp only [O, execOp, Instr.makeFunc, e1, e2, Sem.run_bind, Sem.run_pure, Result.andThen_ok]
end Go.Sx
/-! Sx13 -/
namespace Go.Sx
open Go
set_option linter.unusedVariables false
set_option linter.unusedSimpArgs false
variable {P : Program} {R : Ending → World → Prop} {env : Env} {b : Base} {S : List SH} {B : JB} {T : Tree} {v : Value} {ty : TypeId}
theorem strs_append (l m : List (List UInt8)) : strs (l ++ m) = strs l ++ strs m := by simp [strs]
theorem strs_set (ys : List (List UInt8)) (i : Nat) (y : List UInt8) : (strs ys).set i (.string (bs y)) = strs (ys.set i y) := by simp [strs, List.map_set]
theorem strs_take (ys : List (List UInt8)) (i : Nat) : (strs ys).take i = strs (ys.take i) := by simp [strs]
theorem strs_drop (ys : List (List UInt8)) (i : Nat) : (strs ys).drop i = strs (ys.drop i) := by simp [strs]
theorem strs_nil {ys : List (List UInt8)} (h : strs ys = []) : ys = [] := by simpa [strs] using h
theorem qs_loadst {t : TypeId} {x : Operand} {g i : Nat} {ys : List (List UInt8)} {rest : List Value} {e : TypeId} {fz : Nat × Nat} (k : Nat) (hu : P.underlying t = some .string) (hx : ev env x = .pointer (some ⟨g, i, none⟩)) (hk : S[k]? = some [(g, .cells (strs ys ++ rest).toArray e fz)]) (hi : i < ys.length) :
  QS P (O (.load t x) ty) env b S (.string (bs (ys.getD i []))) := qs_load k hu rfl hx hk (by rw [List.getElem?_append_left (by rw [strs_length]; exact hi), strs_get hi])
theorem qs_loadst0 {t : TypeId} {x : Operand} {g o i : Nat} {ys : List (List UInt8)} {rest : List Value} {e : TypeId} {fz : Nat × Nat} (k : Nat) (hu : P.underlying t = some .string) (hx : ev env x = .pointer (some ((⟨g, o, none⟩ : Addr).add i))) (hk : S[k]? = some [(g, .cells (strs ys ++ rest).toArray e fz)]) (hi : o + i < ys.length) :
  QS P (O (.load t x) ty) env b S (.string (bs (ys.getD (o + i) []))) := qs_loadst k hu (by rw [hx, add_off]) hk hi
theorem qs_loadrs {t : TypeId} {x : Operand} {a : Addr} {i : Nat} {ys : List (List UInt8)} (hr : Rd b S a (strs ys)) (hu : P.underlying t = some .string) (hx : ev env x = .pointer (some (a.add i))) (hi : i < ys.length) :
  QS P (O (.load t x) ty) env b S (.string (bs (ys.getD i []))) := qs_loadR hr hu rfl hx (strs_get hi)
theorem j_storest {t : TypeId} {x y : Operand} {g i : Nat} {ys : List (List UInt8)} {z : List UInt8} {rest : List Value} {e : TypeId} {fz : Nat × Nat} (k : Nat) (hz : (P.info? t).map (·.size) = some 1) (hx : ev env x = .pointer (some ⟨g, i, none⟩)) (hy : ev env y = .string (bs z)) (hk : S[k]? = some [(g, .cells (strs ys ++ rest).toArray e fz)])
  (hfz : ¬ (fz.1 ≤ i ∧ i < fz.2)) (hi : i < ys.length) (h : J P R T (undef :: env) (S.set k [(g, .cells (strs (ys.set i z) ++ rest).toArray e fz)]) b B) : J P R (.op (O (.store t x y) ty) T) env S b B := by
 refine j_store k hz hx hy rfl hk (by rw [List.length_append, strs_length]; omega) hfz ?_
 rw [List.set_append_left _ _ (by rw [strs_length]; exact hi), strs_set]
 exact h
theorem zeroCells_one (z : Value) (n : Nat) : (Builtin.zeroCells #[z] n).toList = List.replicate n z := by
 apply List.ext_getElem?
 intro i
 simp only [Builtin.zeroCells, List.size_toArray, List.length_cons, List.length_nil, Nat.zero_add, Nat.mul_one, Nat.mod_one, Array.toList_map, List.getElem?_map, List.getElem?_replicate]
 by_cases h : i < n
 ·rw [if_pos h]; simp [h]
 ·rw [if_neg h]; simp [h]
theorem j_clear {t e : TypeId} {x : Operand} {g off n c : Nat} {l : List Value} {z : Value} {e' : TypeId} {fz : Nat × Nat} (k : Nat) (ht : P.underlying t = some (.slice e)) (h0 : zeroL P e = some [z]) (hz1 : oneV z = true) (hx : ev env x = .slice (some ⟨g, off, none⟩) n c) (hk : S[k]? = some [(g, .cells l.toArray e' fz)])
  (hi : off + n ≤ l.length) (hf : ∀ j, off ≤ j → j < off + n → ¬ (fz.1 ≤ j ∧ j < fz.2)) (h : J P R T (.tuple #[] :: env) (S.set k [(g, .cells (l.take off ++ List.replicate n z ++ l.drop (off + n)).toArray e' fz)]) b B) :
  J P R (.op (O (.call ⟨.builtin .clear, #[x], #[t]⟩) ty) T) env S b B := fun w hw => by
 have hg := hw.at_ hk
 show opW _ _ _ _ _ _
 unfold opW
 rw [run_b1 w, hx]
 by_cases hn : n = 0
 ·subst hn
  have hset : S.set k [(g, .cells (l.take off ++ List.replicate 0 z ++ l.drop (off + 0)).toArray e' fz)] = S := by
   have e1 : l.take off ++ List.replicate 0 z ++ l.drop (off + 0) = l := by simp
   rw [e1]
   obtain ⟨hlt, he⟩ := List.getElem?_eq_some_iff.1 hk
   have := List.set_getElem_self hlt
   rwa [he] at this
  rw [hset] at h
  have hr : ∀ cs, (builtin .clear #[t] ty cs #[Value.slice (some ⟨g, off, none⟩) 0 c]).run P w = .ok (.value (.tuple #[])) w := by
   intro cs
   simp only [builtin, Builtin.clear_, List.getElem?_toArray, List.getElem?_cons_zero, Sem.run_bind, run_underlying_ok ht, Result.andThen_ok, Sem.run_pure]
  rw [hr]
  exact h w hw
 ·obtain ⟨zv, hzv, hrunz⟩ := run_zero_ok h0
  obtain ⟨w', e1, e2, e3, e4, e5, e6, e7⟩ := run_storeCells_ok (P := P) (List.replicate n z) off 0 l w hg (by simpa using hi) (fun j h1 h2 => hf j (by omega) (by simpa using h2)) (fun v hv => by rw [List.eq_of_mem_replicate hv]; exact hz1)
  have hr : ∀ cs, (builtin .clear #[t] ty cs #[Value.slice (some ⟨g, off, none⟩) n c]).run P w = .ok (.value (.tuple #[])) w' := by
   intro cs
   obtain ⟨m, rfl⟩ : ∃ m, n = m + 1 := ⟨n - 1, by omega⟩
   simp only [builtin, Builtin.clear_, List.getElem?_toArray, List.getElem?_cons_zero, Sem.run_bind, run_underlying_ok ht, Result.andThen_ok, Sem.run_pure, hrunz, hzv, zeroCells_one, e1]
  rw [hr]
  refine h _ (hw.set hk e2 e3 e4 e5 ?_ e7)
  rw [e6]
  simp
theorem src_cut {e : TypeId} {xs : List Value} {A : Option Addr} {n cap : Nat} {c : SH} (ho : Own e 1 xs (.slice A n cap) c) (k : Nat) (hk : S[k]? = some c) {a z : Nat} (h1 : a ≤ z) (h2 : z ≤ n) :
  Src b S 1 (.slice (if cap = a then A else A.map (·.add (a * 1))) (z - a) (cap - a)) (z - a) ((xs.take z).drop a) := by
 rcases ho with ⟨hv, rfl, rfl⟩ | ⟨g, n', cap', rest, fz, hv, rfl, h3, h4, h5, h6⟩
 ·injection hv with hA hn hc
  subst hA hn hc
  obtain rfl : z = 0 := by omega
  obtain rfl : a = 0 := by omega
  exact .inr (.inl ⟨0, by simp, rfl, by simp⟩)
 ·injection hv with hA hn hc
  subst hA hn hc
  rw [Nat.mul_one] at h3 h4
  have hl : ((xs.take z).drop a).length = (z - a) * 1 := by simp only [List.length_drop, List.length_take, Nat.mul_one]; omega
  by_cases hca : cap = a
  ·rw [if_pos hca]
   refine .inl ⟨_, _, rfl, fun w hw j u hu => ?_, hl⟩
   have := (List.getElem?_eq_some_iff.1 hu).1
   rw [hl] at this
   omega
  ·rw [if_neg hca, Option.map_some, add_off, Nat.zero_add, Nat.mul_one]
   refine .inl ⟨_, _, rfl, rd_own (n := z - a) k hk ?_, hl⟩
   rw [List.drop_append_of_le_length (by omega), List.take_append_of_le_length (by simp only [List.length_drop]; omega), List.drop_take]
theorem own_addr {e : TypeId} {xs : List Value} {A : Option Addr} {n cap : Nat} {c : SH} (ho : Own e 1 xs (.slice A n cap) c) (h : 0 < xs.length) : ∃ g, A = some ⟨g, 0, none⟩ := by
 obtain ⟨g, n', cap', hv⟩ := own_some ho (by rintro rfl; simp at h)
 injection hv with hA
 exact ⟨g, hA⟩
theorem own_cap {e : TypeId} {sz : Nat} {xs : List Value} {A : Option Addr} {n cap : Nat} {c : SH} (ho : Own e sz xs (.slice A n cap) c) : n ≤ cap := by
 rcases ho with ⟨hv, rfl, rfl⟩ | ⟨g, n', cap', rest, fz, hv, rfl, h3, h4, h5, h6⟩
 ·injection hv with hA hn hc; omega
 ·injection hv with hA hn hc; omega
def StrSl (w : World) (v : Value) (rs : List (List UInt8)) : Prop :=
 (v = .slice none 0 0 ∧ rs = []) ∨ ∃ g off cap, v = .slice (some ⟨g, off, none⟩) rs.length cap ∧ g < w.heap.size ∧ rs.length ≤ cap ∧ Cells w ⟨g, off, none⟩ (strs rs)
theorem strsl_form {w : World} {v : Value} {rs : List (List UInt8)} (h : StrSl w v rs) : ∃ A cap, v = .slice A rs.length cap ∧ rs.length ≤ cap := by
 rcases h with ⟨rfl, rfl⟩ | ⟨g, off, cap, rfl, _, h, _⟩
 ·exact ⟨none, 0, rfl, Nat.le_refl _⟩
 ·exact ⟨_, cap, rfl, h⟩
theorem strsl_addr {w : World} {A : Option Addr} {n cap : Nat} {rs : List (List UInt8)} (h : StrSl w (.slice A n cap) rs) (h0 : 0 < rs.length) : ∃ g off, A = some ⟨g, off, none⟩ ∧ g < w.heap.size ∧ Cells w ⟨g, off, none⟩ (strs rs) := by
 rcases h with ⟨_, rfl⟩ | ⟨g, off, cap', hv, h1, _, h2⟩
 ·simp at h0
 ·injection hv with hA
  exact ⟨g, off, hA, h1, h2⟩
theorem cells_keep {w w' : World} {a : Addr} {vs : List Value} (h : Cells w a vs) (hs : Sig ⟨w, dom []⟩ S w') : Cells w' a vs := rd_w (rd_cells (b := ⟨w, dom []⟩) h (by simp)) hs
theorem strsl_keep {w w' : World} {v : Value} {rs : List (List UInt8)} (h : StrSl w v rs) (hs : Sig ⟨w, dom []⟩ S w') : StrSl w' v rs := by
 rcases h with h | ⟨g, off, cap, rfl, h1, h2, h3⟩
 ·exact .inl h
 ·exact .inr ⟨g, off, cap, rfl, Nat.lt_of_lt_of_le h1 hs.size, h2, cells_keep h3 hs⟩
theorem strsl_own {w : World} {e : TypeId} {xs : List (List UInt8)} {v : Value} {c : SH} (ho : Own e 1 (strs xs) v c) (k : Nat) (hk : S[k]? = some c) (hw : Sig b S w) : StrSl w v xs := by
 rcases ho with ⟨rfl, h, rfl⟩ | ⟨g, n, cap, rest, fz, rfl, rfl, h1, h2, h3, h4⟩
 ·exact .inl ⟨rfl, strs_nil h⟩
 ·rw [strs_length, Nat.mul_one] at h1
  subst h1
  exact .inr ⟨g, 0, cap, rfl, lt_of_get (hw.at_ hk), h3, rd_w (rd_own (n := (strs xs).length) k hk (by simp)) hw⟩
theorem src_strsl {w : World} {A : Option Addr} {n cap : Nat} {rs : List (List UInt8)} (h : StrSl w (.slice A n cap) rs) : Src ⟨w, dom []⟩ S 1 (.slice A n cap) n (strs rs) := by
 rcases h with ⟨hv, rfl⟩ | ⟨g, off, cap', hv, h1, h2, h3⟩
 ·injection hv with hA hn hc
  subst hA hn hc
  exact .inr (.inl ⟨0, rfl, rfl, rfl⟩)
 ·injection hv with hA hn hc
  subst hA hn hc
  exact .inl ⟨_, _, rfl, rd_cells (b := ⟨w, dom []⟩) h3 (by simp), by rw [strs_length, Nat.mul_one]⟩
theorem j_subl {S' : List SH} (h : S'.Sublist S) (hj : J P R T env S' b B) : J P R T env S b B := j_sub (sub_flatten h) hj
theorem j_swap {c1 c2 : SH} (h : J P R T env (c2 :: c1 :: S) b B) : J P R T env (c1 :: c2 :: S) b B := j_perm (S' := c2 :: c1 :: S) (by simp only [List.flatten_cons]; exact List.perm_append_comm_assoc _ _ _) h
end Go.Sx
/-! Hex -/
namespace Go.Proofs.YtfeabbeebkkhaaaGreat
theorem U3 : type_of% @Tryz.underlying3 := @Tryz.underlying3
theorem U4 : type_of% @Tryz.underlying4 := @Tryz.underlying4
theorem U5 : type_of% @Tryz.underlying5 := @Tryz.underlying5
theorem U9 : type_of% @Tryz.underlying9 := @Tryz.underlying9
theorem U22 : type_of% @Tryz.underlying22 := @Tryz.underlying22
theorem U23 : type_of% @Tryz.underlying23 := @Tryz.underlying23
theorem U24 : type_of% @Tryz.underlying24 := @Tryz.underlying24
theorem U25 : type_of% @Tryz.underlying25 := @Tryz.underlying25
theorem U26 : type_of% @Tryz.underlying26 := @Tryz.underlying26
theorem U28 : type_of% @Tryz.underlying28 := @Tryz.underlying28
theorem U46 : type_of% @Tryz.underlying46 := @Tryz.underlying46
theorem U48 : type_of% @Tryz.underlying48 := @Tryz.underlying48
theorem U49 : type_of% @Tryz.underlying49 := @Tryz.underlying49
theorem U51 : type_of% @Tryz.underlying51 := @Tryz.underlying51
theorem U53 : type_of% @Tryz.underlying53 := @Tryz.underlying53
theorem U55 : type_of% @Tryz.underlying55 := @Tryz.underlying55
theorem U68 : type_of% @Tryz.underlying68 := @Tryz.underlying68
theorem U97 : type_of% @Tryz.underlying97 := @Tryz.underlying97
theorem U104 : type_of% @Tryz.underlying104 := @Tryz.underlying104
theorem U106 : type_of% @Tryz.underlying106 := @Tryz.underlying106
theorem U145 : type_of% @Tryz.underlying145 := @Tryz.underlying145
theorem U146 : type_of% @Tryz.underlying146 := @Tryz.underlying146
theorem U147 : type_of% @Tryz.underlying147 := @Tryz.underlying147
theorem U151 : type_of% @Tryz.underlying151 := @Tryz.underlying151
theorem U152 : type_of% @Tryz.underlying152 := @Tryz.underlying152
theorem U153 : type_of% @Tryz.underlying153 := @Tryz.underlying153
theorem U155 : type_of% @Tryz.underlying155 := @Tryz.underlying155
theorem U162 : type_of% @Tryz.underlying162 := @Tryz.underlying162
theorem U167 : type_of% @Tryz.underlying167 := @Tryz.underlying167
theorem U169 : type_of% @Tryz.underlying169 := @Tryz.underlying169
theorem U196 : type_of% @Tryz.underlying196 := @Tryz.underlying196
theorem U200 : type_of% @Tryz.underlying200 := @Tryz.underlying200
theorem U206 : type_of% @Tryz.underlying206 := @Tryz.underlying206
theorem U208 : type_of% @Tryz.underlying208 := @Tryz.underlying208
theorem U210 : type_of% @Tryz.underlying210 := @Tryz.underlying210
theorem U223 : type_of% @Tryz.underlying223 := @Tryz.underlying223
theorem U244 : type_of% @Tryz.underlying244 := @Tryz.underlying244
theorem U246 : type_of% @Tryz.underlying246 := @Tryz.underlying246
theorem U247 : type_of% @Tryz.underlying247 := @Tryz.underlying247
theorem U265 : type_of% @Tryz.underlying265 := @Tryz.underlying265
end Go.Proofs.YtfeabbeebkkhaaaGreat
namespace Go.Proofs.YtfeabbeebkkhaaaGreat
open Go Go.Sx
set_option maxRecDepth 100000
set_option maxHeartbeats 4000000
set_option linter.unusedVariables false
set_option linter.unusedSimpArgs false
attribute [local irreducible] J JQ QS Con W opW
theorem bk_le {n i : Nat} (h : i < n) : n - (i + 1) < n - i := by omega
theorem digit16 (c : UInt8) : ((c.toNat : Int).fdiv (2 ^ min (Int.toNat 4) IntKind.u8.bits) = ((c.toNat : Int) / 16)) ∧ bw .and .u8 (c.toNat : Int) 15 = (c.toNat : Int) % 16 := by
 have : ∀ k : Fin 256, ((k.val : Int).fdiv (2 ^ min (Int.toNat 4) IntKind.u8.bits) = ((k.val : Int) / 16)) ∧ bw .and .u8 (k.val : Int) 15 = (k.val : Int) % 16 := by decide +kernel
 exact this ⟨c.toNat, c.toNat_lt⟩
theorem digits_cut (k : Nat) (h : k < 16) : ((([48, 49, 50, 51, 52, 53, 54, 55, 56, 57, 97, 98, 99, 100, 101, 102] : List UInt8).take (k + 1)).drop k) = [digit (k : Int)] := by
 have : ∀ k : Fin 16, ((([48, 49, 50, 51, 52, 53, 54, 55, 56, 57, 97, 98, 99, 100, 101, 102] : List UInt8).take (k.val + 1)).drop k.val) = [digit (k.val : Int)] := by decide +kernel
 exact this ⟨k, h⟩
theorem own_take0 {e : TypeId} {p l : List UInt8} {v : Value} {c : SH} (h : Sx.Own e 1 (ints p) v c) : Sx.Own e 1 (ints (p ++ l.take 0)) v c := by simpa using h
theorem dig16 (c : UInt8) : 0 ≤ (c.toNat : Int) / 16 ∧ (c.toNat : Int) / 16 < 16 ∧ 0 ≤ (c.toNat : Int) % 16 ∧ (c.toNat : Int) % 16 < 16 := by
 have := c.toNat_lt
 omega
theorem hex_in (x y : Int) (k : Nat) (hk : k < 2) : ([digit x, digit y] : List UInt8).take (k + 1) = ([digit x, digit y] : List UInt8).take k ++ [digit ([x, y].getD k 0)] := by
 have : k = 0 ∨ k = 1 := by omega
 rcases this with rfl | rfl <;> rfl
theorem hex_rng (c : UInt8) (k : Nat) (hk : k < 2) : 0 ≤ [(c.toNat : Int) / 16, (c.toNat : Int) % 16].getD k 0 ∧ [(c.toNat : Int) / 16, (c.toNat : Int) % 16].getD k 0 < 16 := by
 have h := dig16 c
 have : k = 0 ∨ k = 1 := by omega
 rcases this with rfl | rfl
 ·exact ⟨h.1, h.2.1⟩
 ·exact ⟨h.2.2.1, h.2.2.2⟩
theorem digit_con (n : Int) (w : World) (h0 : 0 ≤ n) (h1 : n < 16) : Con Tryz.prog 103 [.int .u8 n] w [] fun v _ => v = .int .u8 ((digit n).toNat : Int) := by
 refine con_of_tree mix Tryz.func103 T103_ok (by kernel_rfl) ?_
 unfold T103
 refine j_q (qs_ac) ?_
 refine j_q (qs_lss rfl rfl) ?_
 refine j_cond rfl (fun hc0 => ?_) (fun hc0 => ?_)
 ·skip
  refine j_q (qs_add rfl rfl) ?_
  refine j_ret_con (vs := [_]) (fun w' hw' => ⟨rfl, trivial⟩) ?_
  show Value.int _ _ = _
  congr 1
  have hn : n < 10 := by
   simp only [bnA] at *
   omega
  rw [digit, if_pos hn, ← wrap_by8]
 ·skip
  refine j_q (qs_add rfl rfl) ?_
  refine j_q (qs_sub rfl rfl) ?_
  refine j_ret_con (vs := [_]) (fun w' hw' => ⟨rfl, trivial⟩) ?_
  show Value.int _ _ = _
  congr 1
  have hn : ¬ n < 10 := by
   simp only [bnA] at *
   omega
  rw [digit, if_neg hn, ← wrap_by8]
theorem hex_con (h : List UInt8) (w : World) (hh : h.length = 32) : Con Tryz.prog 54 [.agg (ints h).toArray] w [] fun v _ => v = .string (bs (hex h)) := by
 refine con_of_tree mix Tryz.func54 T54_ok (by kernel_rfl) ?_
 unfold T54
 refine j_box rfl (fun g0 hg0 hs0 => ?_)
 refine j_q (qs_ac) ?_
 refine j_q (qs_ac) ?_
 refine j_q (qs_loadw 0 U51 rfl sz51 rfl rfl (by first | (rw [ints_length]; exact hh) | exact hh | rfl)) ?_
 refine j_perm (S' := [[], [(g0, .cells (ints h).toArray 51 (0, 0))], []]) (by simp) ?_
 refine j_q (qs_mc) ?_
 refine j_loop (fun m vs S' => ∃ (i : Nat) (v : Value) (c : SH), vs = [v, .int .i64 i] ∧ S' = [c, [(g0, .cells (ints h).toArray 51 (0, 0))], []] ∧ Sx.Own 5 1 (ints (hexN h i)) v c ∧ i ≤ 32 ∧ m = 32 - i) ⟨_, 0, _, _, rfl, rfl, own_nil, by omega, rfl⟩ ?_
 rintro m vs S' hlen ⟨i, v, c, rfl, rfl, ho, hi, rfl⟩
 clear hlen
 refine j_q (qs_lss rfl rfl) ?_
 refine j_cond rfl (fun hc0 => ?_) (fun hc0 => ?_)
 ·skip
  have hi1 : i < 32 := by
   simp only [bnA] at *
   omega
  refine j_q (qs_ixvi U51 U5 sz5 rfl rfl ⟨(by omega), (by omega)⟩ (by first | (rw [ints_length]; exact hh) | exact hh | rfl)) ?_
  try rw [Int.toNat_natCast]
  refine j_q (qs_shr rfl rfl (by omega)) ?_
  rw [(digit16 _).1]
  refine j_q (qs_and_ rfl rfl) ?_
  rw [(digit16 _).2]
  refine j_q (qs_run (v := .agg (ks .u8 [((h.getD i 0).toNat : Int) / 16, ((h.getD i 0).toNat : Int) % 16]).toArray) (fun w => by kernel_rfl)) ?_
  refine j_q (qs_mc) ?_
  refine j_loop (fun m vs S' => ∃ (k : Nat) (v : Value) (c : SH), vs = [v, .int .i64 k] ∧ S' = [c, [(g0, .cells (ints h).toArray 51 (0, 0))], []] ∧ Sx.Own 5 1 (ints (hexN h i ++ ([digit (((h.getD i 0).toNat : Int) / 16), digit (((h.getD i 0).toNat : Int) % 16)] : List UInt8).take k)) v c ∧ k ≤ 2 ∧ m = 2 - k) ⟨_, 0, _, _, rfl, rfl, own_take0 ho, by omega, rfl⟩ ?_
  rintro m vs S' hlen ⟨k, v, c, rfl, rfl, ho, hk, rfl⟩
  clear hlen
  refine j_q (qs_lss rfl rfl) ?_
  refine j_cond rfl (fun hc1 => ?_) (fun hc1 => ?_)
  ·skip
   have hk1 : k < 2 := by
    simp only [bnA] at *
    omega
   refine j_q (qs_ixvk U153 U5 sz5 rfl rfl ⟨by omega, by omega⟩ rfl) ?_
   try rw [Int.toNat_natCast]
   refine j_q (qs_call ent103 rfl rfl rfl (fun w' hw' => digit_con _ w' (hex_rng _ k hk1).1 (hex_rng _ k hk1).2)) ?_
   refine j_lit (vs := [.int .u8 _]) U46 sz5 zero5 rfl (by simp [oneV]) ⟨rfl, by decide⟩ (fun g14 v14 c14 hv14 hc14 ho14 => ?_)
   subst hv14 hc14
   refine j_append 1 U46 U46 (.inr ⟨_, rfl⟩) sb5 zero5 rfl ho rfl (src_sl (rd_own 0 rfl (n := 1) rfl) rfl) (by simp [oneV]) ⟨(by simp [ints_length, hexN_length]; omega), (by decide)⟩ (fun v15 c15 ho15 => ?_)
   have ho15' : Sx.Own 5 1 (ints (hexN h i ++ ([digit (((h.getD i 0).toNat : Int) / 16), digit (((h.getD i 0).toNat : Int) % 16)] : List UInt8).take (k + 1))) v15 c15 := by
    rw [hex_in _ _ k hk1, ← List.append_assoc, ints_append]
    exact ho15
   refine j_drop ?_
   refine j_q (qs_add64 rfl rfl (by omega)) ?_
   refine j_back rfl ?_
   exact ⟨_, bk_le hk1, k + 1, _, _, rfl, rfl, ho15', by omega, rfl⟩
  ·skip
   have hk1 : k = 2 := by
    simp only [bnA] at *
    omega
   subst hk1
   refine j_q (qs_add64 rfl rfl (by omega)) ?_
   refine j_back rfl ?_
   exact ⟨_, bk_le hi1, i + 1, _, _, rfl, rfl, ho, by omega, rfl⟩
 ·skip
  have hi1 : i = 32 := by
   simp only [bnA] at *
   omega
  subst hi1
  refine j_q (qs_stro 0 U46 U5 U9 ho rfl) ?_
  refine j_ret_con (vs := [_]) (fun w' hw' => ⟨rfl, trivial⟩) ?_
  rfl
theorem rhex_con (h : List UInt8) (w : World) (hh : h.length = 32) : Con Tryz.prog 62 [.agg (ints h).toArray] w [] fun v _ => v = .string (bs (hex h)) := by
 refine con_of_tree mix Tryz.func62 T62_ok (by kernel_rfl) ?_
 unfold T62
 refine j_box rfl (fun g0 hg0 hs0 => ?_)
 refine j_q (qs_ac) ?_
 refine j_q (qs_ac) ?_
 refine j_q (qs_ac) ?_
 refine j_loop (fun m vs S' => ∃ (i : Nat), vs = [.string (bs (hexN h i)), .int .i64 i] ∧ S' = [[(g0, .cells (ints h).toArray 51 (0, 0))], []] ∧ i ≤ 32 ∧ m = 32 - i) ⟨_, 0, rfl, rfl, by omega, rfl⟩ ?_
 rintro m vs S' hlen ⟨i, rfl, rfl, hi, rfl⟩
 clear hlen
 refine j_q (qs_lss rfl rfl) ?_
 refine j_cond rfl (fun hc0 => ?_) (fun hc0 => ?_)
 ·skip
  have hi1 : i < 32 := by
   simp only [bnA] at *
   omega
  have hcl := (h.getD i 0).toNat_lt
  refine j_draw ?_
  refine jq_q (qs_ix0 U51 sz5 rfl rfl ⟨(by omega), (by omega)⟩) ?_
  refine jq_q (qs_loadi 0 U5 rfl rfl (by omega)) ?_
  try rw [Int.toNat_natCast]
  refine jq_q (qs_quou rfl rfl (by omega) (by omega) (wrap8_div _ _ (by omega))) ?_
  refine jq_q (qs_ix0 U51 sz5 rfl rfl ⟨(by omega), (by omega)⟩) ?_
  refine jq_q (qs_loadi 0 U5 rfl rfl (by omega)) ?_
  try rw [Int.toNat_natCast]
  refine jq_q (qs_quou rfl rfl (by omega) (by omega) (wrap8_div _ _ (by omega))) ?_
  refine jq_q (qs_add rfl rfl) ?_
  refine jq_q (qs_cuts (l := ([48, 49, 50, 51, 52, 53, 54, 55, 56, 57, 97, 98, 99, 100, 101, 102] : List UInt8)) (a := (h.getD i 0).toNat / 16) (z := (h.getD i 0).toNat / 16 + 1) U9 rfl ⟨.u8, rfl⟩ ⟨.u8, by show Value.int _ _ = _; congr 1; rw [IntKind.wrap_u8]; omega⟩ (by omega) (by show _ ≤ 16; omega)) ?_
  rw [digits_cut _ (by omega)]
  refine jq_q (qs_sadd rfl rfl (by simp [hexN_length]; omega)) ?_
  refine jq_q (qs_ix0 U51 sz5 rfl rfl ⟨(by omega), (by omega)⟩) ?_
  refine jq_q (qs_loadi 0 U5 rfl rfl (by omega)) ?_
  try rw [Int.toNat_natCast]
  refine jq_q (qs_rem64 rfl rfl (by omega) (by omega)) ?_
  refine jq_q (qs_ix0 U51 sz5 rfl rfl ⟨(by omega), (by omega)⟩) ?_
  refine jq_q (qs_loadi 0 U5 rfl rfl (by omega)) ?_
  try rw [Int.toNat_natCast]
  refine jq_q (qs_rem64 rfl rfl (by omega) (by omega)) ?_
  refine jq_q (qs_add rfl rfl) ?_
  refine jq_q (qs_cuts (l := ([48, 49, 50, 51, 52, 53, 54, 55, 56, 57, 97, 98, 99, 100, 101, 102] : List UInt8)) (a := (h.getD i 0).toNat % 16) (z := (h.getD i 0).toNat % 16 + 1) U9 rfl ⟨.u8, rfl⟩ ⟨.u8, by show Value.int _ _ = _; congr 1; rw [IntKind.wrap_u8]; omega⟩ (by omega) (by show _ ≤ 16; omega)) ?_
  rw [digits_cut _ (by omega)]
  refine jq_q (qs_sadd rfl rfl (by simp [hexN_length]; omega)) ?_
  refine jq_nil ?_
  refine j_q (qs_add64 rfl rfl (by omega)) ?_
  refine j_back rfl ?_
  refine ⟨_, bk_le hi1, i + 1, ?_, rfl, by omega, rfl⟩
  rw [hexN]
  simp only [List.append_assoc, List.cons_append, List.nil_append]
  rfl
 ·skip
  have hi1 : i = 32 := by
   simp only [bnA] at *
   omega
  subst hi1
  refine j_ret_con (vs := [_]) (fun w' hw' => ⟨rfl, trivial⟩) ?_
  rfl
end Go.Proofs.YtfeabbeebkkhaaaGreat
/-! B32 -/
namespace Go.Proofs.YtfeabbeebkkhaaaGreat
open Go Go.Sx
set_option maxRecDepth 100000
set_option maxHeartbeats 4000000
set_option linter.unusedVariables false
set_option linter.unusedSimpArgs false
attribute [local irreducible] J JQ QS Con W opW
theorem back_lt {n i : Nat} (h : i < n) : n - (i + 1) < n - i := by omega
theorem len_con (n : Nat) (w : World) (hn : n ≤ 16777216) : Con Tryz.prog 147 [.int .i64 n] w [] fun v _ => v = .int .i64 (lenD n : Nat) := by
 refine con_of_tree mix Tryz.func147 T147_ok (by kernel_rfl) ?_
 unfold T147
 refine j_q (qs_ac) ?_
 refine j_q (qs_min rfl rfl) ?_
 refine j_q (qs_max rfl rfl) ?_
 refine j_q (qs_mul64 rfl rfl (by omega)) ?_
 refine j_q (qs_add64 rfl rfl (by omega)) ?_
 refine j_q (qs_sub64 rfl rfl (by omega)) ?_
 refine j_q (qs_quo64 rfl rfl (by omega) (by omega) (by omega)) ?_
 refine j_ret_con (vs := [_]) (fun w' hw' => ⟨rfl, trivial⟩) ?_
 show Value.int _ _ = _
 congr 1
 unfold lenD
 omega
theorem rlen_con (n : Nat) (w : World) (hn : n ≤ 16777216) : Con Tryz.prog 110 [.int .i64 n] w [] fun v _ => v = .int .i64 (lenD n : Nat) := by
 refine con_of_tree mix Tryz.func110 T110_ok (by kernel_rfl) ?_
 unfold T110
 refine j_q (qs_ac) ?_
 refine j_q (qs_min rfl rfl) ?_
 refine j_q (qs_max rfl rfl) ?_
 refine j_q (qs_mul64 rfl rfl (by omega)) ?_
 refine j_q (qs_add64 rfl rfl (by omega)) ?_
 refine j_q (qs_quo64 rfl rfl (by omega) (by omega) (by omega)) ?_
 refine j_ret_con (vs := [_]) (fun w' hw' => ⟨rfl, trivial⟩) ?_
 show Value.int _ _ = _
 congr 1
 unfold lenD
 omega
theorem text_con (p : List UInt8) (a : Addr) (c : Nat) (w : World) (hpm : p.length ≤ 16777216) (hpc : Cells w a (ints p)) : Con Tryz.prog 132 [.slice (some a) p.length c] w [] fun v _ => v = .string (bs (text32 p)) := by
 refine con_of_tree mix Tryz.func132 T132_ok (by kernel_rfl) ?_
 unfold T132
 have hld : lenD p.length ≤ 33554432 := by unfold lenD; omega
 refine j_q (qs_ac) ?_
 refine j_q (qs_lenl U46 rfl) ?_
 refine j_q (qs_call ent147 rfl rfl rfl (fun w' hw' => len_con p.length w' hpm)) ?_
 refine j_make U46 sb5 zero5 rfl (by decide) rfl rfl (by omega) (by omega) (fun g3 v3 c3 hv3 hc3 ho3 => ?_)
 subst hv3 hc3
 rw [ints_rep]
 refine j_q (qs_ac) ?_
 refine j_q (qs_ac) ?_
 refine j_q (qs_ac) ?_
 refine j_q (qs_lenl U46 rfl) ?_
 refine j_q (qs_mc) ?_
 refine j_loop (fun m vs S' => ∃ (i at_ h bits : Nat), vs = [.int .u32 bits, .int .u64 h, .int .i64 at_, .int .i64 i] ∧ S' = [[(g3, .cells (ints (List.replicate (lenD p.length - i) 0 ++ digs (numL p) i)).toArray 5 (0, 0))], []] ∧ Buf p i at_ h bits ∧ i ≤ lenD p.length ∧ m = lenD p.length - i) ⟨_, 0, 0, 0, 0, rfl, by simp [digs], Buf.start p, by omega, rfl⟩ ?_
 rintro m vs S' hlen ⟨i, at_, h, bits, rfl, rfl, B, hi, rfl⟩
 have hba := B.a_le
 have hbh := B.h_le
 clear hlen
 refine j_q (qs_lss rfl rfl) ?_
 refine j_cond rfl (fun hc0 => ?_) (fun hc0 => ?_)
 ·skip
  have hi1 : i < lenD p.length := by
   simp only [bnA] at *
   omega
  refine j_q (qs_lss rfl rfl) ?_
  refine j_g rfl (fun hb => qs_mt rfl) ?_
  refine j_g rfl (fun hb => qs_mt rfl) ?_
  refine j_g rfl (fun hb => qs_lenl U46 (gd_eq hb)) ?_
  refine j_g rfl (fun hb => qs_lss (gd_eq hb) (gd_eq hb)) ?_
  refine j_q (qs_and rfl rfl) ?_
  refine j_cond rfl (fun hc1 => ?_) (fun hc1 => ?_)
  ·skip
   have hh1 : h < 5 := by
    simp only [bnA] at *
    omega
   have ha1 : at_ < p.length := by
    simp only [bnA] at *
    omega
   refine j_q (qs_ixl0 U46 sz5 rfl rfl ⟨(by omega), (by omega)⟩) ?_
   refine j_q (qs_loadr8 (rd_cells hpc (by simp)) U5 rfl (by omega)) ?_
   try rw [Int.toNat_natCast]
   refine j_q (qs_conv U5 U145 rfl) ?_
   refine j_q (qs_shl rfl rfl (by omega)) ?_
   refine j_q (qs_or_ rfl rfl) ?_
   have e20 : bw .or .u32 (bits : Int) (IntKind.u32.wrap (IntKind.u32.wrap ((p.getD at_ 0).toNat : Int) * 2 ^ min ((h : Int)).toNat IntKind.u32.bits)) = _ := or32 bits (p.getD at_ 0).toNat h B.lt (UInt8.toNat_lt _) B.h_le
   rw [e20]
   have hnx := B.next1 ha1 hh1
   have hX := B.next1 ha1 hh1
   obtain ⟨X, hXe⟩ : ∃ X, X = bits + (p.getD at_ 0).toNat * 2 ^ h := ⟨_, rfl⟩
   rw [← hXe] at hnx ⊢
   have hXb : X < 65536 := by
    rw [hXe]
    have h1 : 2 ^ h ≤ 16 := Nat.pow_le_pow_right (n := 2) (by decide) (by omega : h ≤ 4)
    have h2 := B.lt
    have h3 : (p.getD at_ 0).toNat * 2 ^ h ≤ 255 * 16 := Nat.mul_le_mul (by have := (p.getD at_ 0).toNat_lt; omega) h1
    omega
   refine j_q (qs_add rfl rfl) ?_
   rw [IntWalk.u64_in _ (by omega)]
   refine j_q (qs_add64 rfl rfl (by omega)) ?_
   refine j_q (qs_sub64 rfl rfl (by omega)) ?_
   refine j_q (qs_sub64 rfl rfl (by omega)) ?_
   refine j_q (qs_and_ rfl rfl) ?_
   have e25 : bw .and .u32 (X : Int) 31 = _ := and32 X (by omega)
   rw [e25]
   refine j_q (qs_idx (l := DIG) U9 rfl rfl ⟨by omega, by show _ < ((32 : Nat) : Int); omega⟩) ?_
   rw [Int.toNat_natCast, hnx.1]
   refine j_q (qs_ixg U46 sz5 rfl rfl ⟨(by omega), (by omega)⟩) ?_
   have hset : (List.replicate (lenD p.length - i) (0 : UInt8) ++ digs (numL p) i).set ((lenD p.length : Int) - 1 - (i : Int)).toNat (DIG.getD (dg (numL p) i) 0) = List.replicate (lenD p.length - (i + 1)) 0 ++ digs (numL p) (i + 1) := by
    rw [show ((lenD p.length : Int) - 1 - (i : Int)).toNat = lenD p.length - 1 - i by omega]
    exact digs_put hi1
   refine j_storei 0 sz5 rfl rfl rfl (by simp [digs_length]; omega) ?_
   rw [hset]
   refine j_q (qs_shr rfl rfl (by omega)) ?_
   have e29 : (X : Int).fdiv (2 ^ min (Int.toNat 5) IntKind.u32.bits) = _ := shr5 X
   rw [e29]
   refine j_q (qs_max rfl rfl) ?_
   refine j_q (qs_sub rfl rfl) ?_
   rw [show max ((h : Int) + 8) 5 - 5 = ((h + 8 - 5 : Nat) : Int) by omega, IntWalk.u64_in _ (by omega)]
   refine j_q (qs_add64 rfl rfl (by omega)) ?_
   refine j_back rfl ?_
   exact ⟨_, back_lt hi1, i + 1, at_ + 1, h + 8 - 5, X / 32, rfl, rfl, hnx.2, by omega, rfl⟩
  ·skip
   have hn1 : ¬ (h < 5 ∧ at_ < p.length) := by
    simp only [bnA] at *
    omega
   have hnx := B.next0 hn1
   have hXb : bits < 65536 := by
    have h1 : 2 ^ h ≤ 128 := Nat.pow_le_pow_right (n := 2) (by decide) hbh
    have h2 := B.lt
    omega
   refine j_q (qs_sub64 rfl rfl (by omega)) ?_
   refine j_q (qs_sub64 rfl rfl (by omega)) ?_
   refine j_q (qs_and_ rfl rfl) ?_
   have e25 : bw .and .u32 (bits : Int) 31 = _ := and32 bits (by omega)
   rw [e25]
   refine j_q (qs_idx (l := DIG) U9 rfl rfl ⟨by omega, by show _ < ((32 : Nat) : Int); omega⟩) ?_
   rw [Int.toNat_natCast, hnx.1]
   refine j_q (qs_ixg U46 sz5 rfl rfl ⟨(by omega), (by omega)⟩) ?_
   have hset : (List.replicate (lenD p.length - i) (0 : UInt8) ++ digs (numL p) i).set ((lenD p.length : Int) - 1 - (i : Int)).toNat (DIG.getD (dg (numL p) i) 0) = List.replicate (lenD p.length - (i + 1)) 0 ++ digs (numL p) (i + 1) := by
    rw [show ((lenD p.length : Int) - 1 - (i : Int)).toNat = lenD p.length - 1 - i by omega]
    exact digs_put hi1
   refine j_storei 0 sz5 rfl rfl rfl (by simp [digs_length]; omega) ?_
   rw [hset]
   refine j_q (qs_shr rfl rfl (by omega)) ?_
   have e29 : (bits : Int).fdiv (2 ^ min (Int.toNat 5) IntKind.u32.bits) = _ := shr5 bits
   rw [e29]
   refine j_q (qs_max rfl rfl) ?_
   refine j_q (qs_sub rfl rfl) ?_
   rw [show max (h : Int) 5 - 5 = ((max h 5 - 5 : Nat) : Int) by omega, IntWalk.u64_in _ (by omega)]
   refine j_q (qs_add64 rfl rfl (by omega)) ?_
   refine j_back rfl ?_
   exact ⟨_, back_lt hi1, i + 1, at_, max h 5 - 5, bits / 32, rfl, rfl, hnx.2, by omega, rfl⟩
 ·skip
  have hi1 : i = lenD p.length := by
   simp only [bnA] at *
   omega
  obtain rfl := hi1
  rw [Nat.sub_self]
  refine j_q (qs_str (l := text32 p) U46 U5 U9 (by rw [text32_length]; rfl) (rd_own (n := (text32 p).length) 0 rfl (by rw [List.drop_zero, List.take_of_length_le (by simp [ints, text32])]; rfl))) ?_
  refine j_ret_con (vs := [_]) (fun w' hw' => ⟨rfl, trivial⟩) ?_
  rfl
theorem bit_con (p : List UInt8) (k : Nat) (a : Addr) (c : Nat) (w : World) (hk : k ≤ 268435456) (hpc : Cells w a (ints p)) : Con Tryz.prog 136 [.slice (some a) p.length c, .int .i64 k] w [] fun v _ => v = .int .i64 (numL p / 2 ^ k % 2 : Nat) := by
 refine con_of_tree mix Tryz.func136 T136_ok (by kernel_rfl) ?_
 unfold T136
 refine j_q (qs_ac) ?_
 refine j_q (qs_quo64 rfl rfl (by omega) (by omega) (by omega)) ?_
 refine j_q (qs_lenl U46 rfl) ?_
 refine j_q (qs_geq rfl rfl) ?_
 refine j_cond rfl (fun hc0 => ?_) (fun hc0 => ?_)
 ·skip
  have hk1 : p.length ≤ k / 8 := by
   simp only [bnA] at *
   omega
  refine j_q (qs_ac) ?_
  refine j_ret_con (vs := [_]) (fun w' hw' => ⟨rfl, trivial⟩) ?_
  show Value.int _ _ = _
  rw [bit_past p k hk1]
  rfl
 ·skip
  have hk1 : k / 8 < p.length := by
   simp only [bnA] at *
   omega
  refine j_q (qs_quo64 rfl rfl (by omega) (by omega) (by omega)) ?_
  refine j_q (qs_ixl0 U46 sz5 rfl rfl ⟨(by omega), (by omega)⟩) ?_
  refine j_q (qs_loadr8 (rd_cells hpc (by simp)) U5 rfl (by omega)) ?_
  rw [show ((k : Int) / 8).toNat = k / 8 by omega]
  refine j_q (qs_rem64 rfl rfl (by omega) (by omega)) ?_
  refine j_q (qs_conv U3 U152 rfl) ?_
  rw [IntWalk.u64_in _ (by omega)]
  refine j_q (qs_shr rfl rfl (by omega)) ?_
  rw [show min ((k : Int) % 8).toNat IntKind.u8.bits = k % 8 by show min _ 8 = _; omega]
  refine j_q (qs_conv U5 U3 rfl) ?_
  refine j_q (qs_and_ rfl rfl) ?_
  rw [and1 _ _ (Nat.mod_lt _ (by decide))]
  refine j_ret_con (vs := [_]) (fun w' hw' => ⟨rfl, trivial⟩) ?_
  show Value.int _ _ = _
  rw [bit_at p k hk1]
theorem rtext_con (p : List UInt8) (a : Addr) (c : Nat) (w : World) (hpm : p.length ≤ 16777216) (hpc : Cells w a (ints p)) : Con Tryz.prog 105 [.slice (some a) p.length c] w [] fun v _ => v = .string (bs (text32 p)) := by
 refine con_of_tree mix Tryz.func105 T105_ok (by kernel_rfl) ?_
 unfold T105
 have hld : lenD p.length ≤ 33554432 := by unfold lenD; omega
 refine j_q (qs_ac) ?_
 refine j_q (qs_lenl U46 rfl) ?_
 refine j_q (qs_gtr rfl rfl) ?_
 refine j_cond rfl (fun hc0 => ?_) (fun hc0 => ?_)
 ·skip
  exfalso
  simp only [bnA] at *
  omega
 ·skip
  refine j_q (qs_ac) ?_
  refine j_q (qs_lenl U46 rfl) ?_
  refine j_q (qs_call ent110 rfl rfl rfl (fun w' hw' => rlen_con p.length w' hpm)) ?_
  refine j_q (qs_sub64 rfl rfl (by omega)) ?_
  refine j_perm (S' := [[], []]) (by simp) ?_
  refine j_loop (fun m vs S' => ∃ (i : Nat) (s : List UInt8) (v : Value) (c : SH), vs = [v, .int .i64 ((i : Int) - 1)] ∧ S' = [c, []] ∧ Sx.Own 5 1 (ints s) v c ∧ s ++ digs (numL p) i = text32 p ∧ i ≤ lenD p.length ∧ m = i) ⟨_, lenD p.length, [], _, _, rfl, rfl, own_nil, rfl, by omega, rfl⟩ ?_
  rintro m vs S' hlen ⟨i0, s, v, ch, rfl, rfl, ho, hs, hi, rfl⟩
  have hsl : s.length ≤ 33554432 := by
   have h1 := congrArg List.length hs
   rw [List.length_append, text32_length, digs_length] at h1
   omega
  clear hlen
  refine j_q (qs_geq rfl rfl) ?_
  refine j_cond rfl (fun hc1 => ?_) (fun hc1 => ?_)
  ·skip
   obtain ⟨i, rfl⟩ : ∃ i, m = i + 1 := ⟨m - 1, by
    simp only [bnA] at *
    omega⟩
   rw [show ((i + 1 : Nat) : Int) - 1 = (i : Int) by omega]
   refine j_q (qs_ac) ?_
   refine j_q (qs_ac) ?_
   refine j_loop (fun m vs S' => ∃ (t : Nat), vs = [.int .i64 (numL p / 2 ^ (5 * i + (5 - t)) % 2 ^ t : Nat), .int .i64 (4 - (t : Int))] ∧ S' = [ch, []] ∧ t ≤ 5 ∧ m = 5 - t) ⟨_, 0, (by rw [Nat.pow_zero, Nat.mod_one]; rfl), rfl, by omega, rfl⟩ ?_
   rintro m vs S' hlen ⟨t, rfl, rfl, ht, rfl⟩
   have hdl : numL p / 2 ^ (5 * i + (5 - t)) % 2 ^ t < 2 ^ t := Nat.mod_lt _ (Nat.two_pow_pos _)
   have hd5 : 2 ^ t ≤ 32 := Nat.pow_le_pow_right (n := 2) (by decide) ht
   obtain ⟨d, hd⟩ : ∃ d : Nat, d = numL p / 2 ^ (5 * i + (5 - t)) % 2 ^ t := ⟨_, rfl⟩
   rw [← hd] at hdl ⊢
   have hd6 : d < 32 := by omega
   clear hlen hdl hd5
   refine j_q (qs_geq rfl rfl) ?_
   refine j_cond rfl (fun hc2 => ?_) (fun hc2 => ?_)
   ·skip
    have ht1 : t < 5 := by
     simp only [bnA] at *
     omega
    refine j_q (qs_mul64 rfl rfl (by omega)) ?_
    refine j_q (qs_mul64 rfl rfl (by omega)) ?_
    refine j_q (qs_add64 rfl rfl (by omega)) ?_
    rw [show 5 * (i : Int) + (4 - (t : Int)) = ((5 * i + (4 - t) : Nat) : Int) by omega]
    refine j_q (qs_call ent136 rfl rfl rfl (fun w' hw' => bit_con p (5 * i + (4 - t)) a c w' (by omega) (rd_w (rd_cells hpc (by simp)) hw'))) ?_
    refine j_q (qs_add64 rfl rfl (by omega)) ?_
    refine j_q (qs_sub64 rfl rfl (by omega)) ?_
    refine j_back rfl ?_
    have e1 : (2 * (d : Int) + ((numL p / 2 ^ (5 * i + (4 - t)) % 2 : Nat) : Int)) = ((numL p / 2 ^ (5 * i + (5 - (t + 1))) % 2 ^ (t + 1) : Nat) : Int) := by
     rw [← bit_step _ _ _ ht1, ← hd]
     omega
    have e2 : 4 - (t : Int) - 1 = 4 - ((t + 1 : Nat) : Int) := by omega
    refine ⟨_, back_lt ht1, t + 1, ?_, rfl, by omega, rfl⟩
    show [Value.int .i64 (2 * (d : Int) + ((numL p / 2 ^ (5 * i + (4 - t)) % 2 : Nat) : Int)), Value.int .i64 (4 - (t : Int) - 1)] = _
    rw [e1, e2]
   ·skip
    obtain rfl : t = 5 := by
     simp only [bnA] at *
     omega
    have hdd : d = dg (numL p) i := hd
    refine j_q (qs_idx (l := DIG) U9 rfl rfl ⟨by omega, by show _ < ((32 : Nat) : Int); omega⟩) ?_
    rw [Int.toNat_natCast, hdd]
    refine j_lit (vs := [.int .u8 _]) U46 sz5 zero5 rfl (by simp [oneV]) ⟨rfl, by decide⟩ (fun g19 v19 c19 hv19 hc19 ho19 => ?_)
    subst hv19 hc19
    refine j_append 1 U46 U46 (.inr ⟨_, rfl⟩) sb5 zero5 rfl ho rfl (src_sl (rd_own 0 rfl (n := 1) rfl) rfl) (by simp [oneV]) ⟨(by simp [ints_length]; omega), (by decide)⟩ (fun v20 c20 ho20 => ?_)
    have ho20' : Sx.Own 5 1 (ints (s ++ [DIG.getD (dg (numL p) i) 0])) v20 c20 := by rw [ints_append]; exact ho20
    refine j_drop ?_
    refine j_q (qs_sub64 rfl rfl (by omega)) ?_
    refine j_back rfl ?_
    refine ⟨i, by omega, i, _, _, _, rfl, rfl, ho20', ?_, by omega, rfl⟩
    rw [List.append_assoc]
    exact hs
  ·skip
   obtain rfl : m = 0 := by
    simp only [bnA] at *
    omega
   rw [digs, List.append_nil] at hs
   subst hs
   refine j_q (qs_stro 0 U46 U5 U9 ho rfl) ?_
   refine j_ret_con (vs := [_]) (fun w' hw' => ⟨rfl, trivial⟩) ?_
   rfl
end Go.Proofs.YtfeabbeebkkhaaaGreat
