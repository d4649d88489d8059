/- Rules for slices that grow, for bytes and strings, for arrays and structs as values. -/
import Derived.Test.YtfeabbeebkkhaaaGreatSx5
import Derived.Laws.IdiomStrings
import Derived.Laws.MakeOwn
namespace Go.Sx
open Go
set_option linter.unusedVariables false
set_option linter.unusedSimpArgs false
variable {P : Program} {R : Ending → World → Prop} {env : Env} {b : Base} {S : List SH} {B : JB} {T : Tree} {v : Value} {ty : TypeId}

/-- bytes as cells -/
def ints (l : List UInt8) : List Value := l.map fun c => .int .u8 (c.toNat : Int)
theorem ints_length (l : List UInt8) : (ints l).length = l.length := by simp [ints]
theorem ints_get (l : List UInt8) (i : Nat) : (ints l)[i]? = l[i]?.map fun c => .int .u8 (c.toNat : Int) := by simp [ints]
theorem ints_append (l m : List UInt8) : ints (l ++ m) = ints l ++ ints m := by simp [ints]
theorem ints_get_lt {l : List UInt8} {i : Nat} (h : i < l.length) : (ints l)[i]? = some (.int .u8 ((l.getD i 0).toNat : Int)) := by
  rw [ints_get]; simp [List.getElem?_eq_getElem h, List.getD_eq_getElem?_getD]
theorem ints_one {l : List UInt8} : ∀ u ∈ ints l, oneV u = true := by
  intro u hu
  obtain ⟨c, _, rfl⟩ := List.mem_map.1 hu
  rfl
theorem oneV' {v : Value} : oneV v = true ↔ v.oneCell' = true := by cases v <;> simp [oneV, Value.oneCell']

/-- cells that can be read -/
def Rd (b : Base) (S : List SH) (a : Addr) (vs : List Value) : Prop := ∀ w, Sig b S w → ∀ j u, vs[j]? = some u → w.cell? (a.add j) = some u
theorem rd_own {g off n : Nat} {l vs : List Value} {e : TypeId} {fz : Nat × Nat} (k : Nat) (hk : S[k]? = some [(g, .cells l.toArray e fz)]) (h : (l.drop off).take n = vs) : Rd b S ⟨g, off, none⟩ vs := fun w hw j u hu => by
  subst h
  rw [add_off, cell_of (hw.at_ hk)]
  rw [List.getElem?_take] at hu
  split at hu
  · rwa [List.getElem?_drop] at hu
  · cases hu
theorem rd_ro {a : Addr} {vs : List Value} (h : ∀ j u, vs[j]? = some u → b.w0.cell? (a.add j) = some u) (hD : a.block ∉ b.D) : Rd b S a vs := fun w hw j u hu => by
  refine hw.ro (h j u hu) ?_
  have : (a.add j).block = a.block := by unfold Addr.add; split <;> rfl
  rwa [this]
theorem rd_drop {a : Addr} {vs : List Value} (h : Rd b S a vs) (n : Nat) : Rd b S (a.add n) (vs.drop n) := fun w hw j u hu => by
  have : (a.add n).add j = a.add (n + j) := by
    obtain ⟨g, o, sp⟩ := a
    unfold Addr.add
    by_cases h1 : n = 0
    · subst h1; simp
    · by_cases h2 : j = 0
      · subst h2; simp
      · have h3 : n + j ≠ 0 := by omega
        simp [h1, h2, h3, Nat.add_assoc]
  rw [this]
  rw [List.getElem?_drop] at hu
  exact h w hw _ _ hu
theorem rd_take {a : Addr} {vs : List Value} (h : Rd b S a vs) (n : Nat) : Rd b S a (vs.take n) := fun w hw j u hu => by
  rw [List.getElem?_take] at hu
  split at hu
  · exact h w hw _ _ hu
  · cases hu
theorem add_zero_ (a : Addr) : a.add 0 = a := by unfold Addr.add; simp
theorem qs_loadR {t : TypeId} {d : TypeDesc} {x : Operand} {a : Addr} {vs : List Value} {i : Nat} (hr : Rd b S a vs) (hu : P.underlying t = some d) (hd : flat d = true) (hx : ev env x = .pointer (some (a.add i))) (hi : vs[i]? = some v) : QS P (O (.load t x) ty) env b S v := qs_val fun w hw => by
  have h := hr w hw i v hi
  simp only [O, execOp, hx, Instr.loadAt, Instr.sureAddr, Sem.run_bind, Sem.run_pure, Result.andThen_ok, run_loadVar_flat hu hd h]

/-- a slice that is alone in its row: what it holds, and the row -/
def Own (e : TypeId) (sz : Nat) (xs : List Value) (v : Value) (c : SH) : Prop :=
  (v = .slice none 0 0 ∧ xs = [] ∧ c = []) ∨ ∃ g n cap rest fz, v = .slice (some ⟨g, 0, none⟩) n cap ∧ c = [(g, .cells (xs ++ rest).toArray e fz)] ∧ xs.length = n * sz ∧ (xs ++ rest).length = cap * sz ∧ n ≤ cap ∧ ∀ j, j < (xs ++ rest).length → ¬ (fz.1 ≤ j ∧ j < fz.2)
theorem own_nil {e : TypeId} {sz : Nat} : Own e sz [] (.slice none 0 0) [] := .inl ⟨rfl, rfl, rfl⟩
/-- what can be appended -/
def Src (b : Base) (S : List SH) (sz : Nat) (y : Value) (m : Nat) (news : List Value) : Prop :=
  (∃ a c, y = .slice (some a) m c ∧ Rd b S a news ∧ news.length = m * sz) ∨ (∃ c, y = .slice none m c ∧ m = 0 ∧ news = []) ∨ ∃ l, y = .string (bs l) ∧ sz = 1 ∧ news = ints l ∧ m = l.length
theorem src_sl {a : Addr} {c m sz : Nat} {news : List Value} (h : Rd b S a news) (hl : news.length = m * sz) : Src b S sz (.slice (some a) m c) m news := .inl ⟨a, c, rfl, h, hl⟩
theorem src_own {e : TypeId} {sz : Nat} {xs : List Value} {c : SH} (k : Nat) (h : Own e sz xs v c) (hk : S[k]? = some c) : ∃ m, Src b S sz v m xs ∧ xs.length = m * sz := by
  rcases h with ⟨rfl, rfl, rfl⟩ | ⟨g, n, cap, rest, fz, rfl, rfl, h1, h2, h3, h4⟩
  · exact ⟨0, .inr (.inl ⟨0, rfl, rfl, rfl⟩), by simp⟩
  · exact ⟨n, .inl ⟨_, _, rfl, rd_own (n := xs.length) k hk (by simp), h1⟩, h1⟩
theorem src_len {sz m : Nat} {y : Value} {news : List Value} (h : Src b S sz y m news) : news.length = m * sz := by
  rcases h with ⟨a, c, rfl, _, h⟩ | ⟨c, rfl, rfl, rfl⟩ | ⟨l, rfl, rfl, rfl, rfl⟩
  · exact h
  · simp
  · simp [ints_length]
theorem Sig.tomb {b : Base} {S : List SH} {w : World} (h : Sig b S w) {k : Nat} {c : SH} (hk : S[k]? = some c) : Sig b (S.set k []) w := by
  obtain ⟨r, h1, h2⟩ := flatten_set hk []
  refine ⟨h.os, h.tape, h.output, h.size, fun p hp => h.own p (h1.mem_iff.2 (List.mem_append_right _ (h2.mem_iff.1 hp))), ?_, fun j hj => ?_, h.frame⟩
  · have := (h1.map Prod.fst).nodup_iff.1 h.nodup
    rw [List.map_append, List.nodup_append] at this
    exact (h2.map Prod.fst).nodup_iff.2 this.2.1
  · refine h.dom_ j ((h1.map Prod.fst).mem_iff.2 ?_)
    rw [List.map_append]
    exact List.mem_append_right _ ((h2.map Prod.fst).mem_iff.1 hj)
theorem Sig.swap {b : Base} {S : List SH} {w w' : World} (h : Sig b S w) {k : Nat} {c : SH} (hk : S[k]? = some c) {o : Obj} (hos : w'.os = w.os) (ht : w'.tape = w.tape) (hou : w'.output = w.output) (hh : w'.heap = w.heap.push o) : Sig b (S.set k [(w.heap.size, o)]) w' := by
  have h1 := ((h.tomb hk).new hos ht hou hh).1
  obtain ⟨r, p1, p2⟩ := flatten_set hk [(w.heap.size, o)]
  obtain ⟨r', q1, q2⟩ := flatten_set (S := S.set k []) (k := k) (c := []) (by
    have := (List.getElem?_eq_some_iff.1 hk).1
    simp [this]) [(w.heap.size, o)]
  simp only [List.set_set, List.nil_append] at q1 q2
  refine h1.perm ?_
  simp only [List.flatten_cons]
  exact (q1.append_left _).trans q2.symm
theorem run_lenOf {sz m : Nat} {y : Value} {news : List Value} (h : Src b S sz y m news) (w : World) : (Builtin.lenOf y).run P w = .ok m w := by
  rcases h with ⟨a, c, rfl, _, h⟩ | ⟨c, rfl, rfl, rfl⟩ | ⟨l, rfl, rfl, rfl, rfl⟩ <;> simp only [Builtin.lenOf, Sem.run_pure, bs_size]
theorem run_firsts {sz m : Nat} {y : Value} {news : List Value} (h : Src b S sz y m news) {w : World} (hw : Sig b S w) : (Builtin.firstCells sz m y).run P w = .ok news.toArray w := by
  rcases h with ⟨a, c, rfl, hr, hl⟩ | ⟨c, rfl, rfl, rfl⟩ | ⟨l, rfl, rfl, rfl, rfl⟩
  · exact run_firstCells_some w sz m a m c news hl (hr w hw)
  · simp only [Builtin.firstCells, Sem.run_pure]
  · simp only [Builtin.firstCells, Sem.run_pure, bs_extract]
    congr 1
    apply Array.ext'
    simp [ints, bs]
def notInt : TypeDesc → Bool
  | .int _ => false
  | _ => true
/-- append -/
theorem j_append {t t' e : TypeId} {x y : Operand} {sz by_ m : Nat} {xs news : List Value} {c : SH} {d : TypeDesc} (k : Nat) (ht : P.underlying t = some (.slice e)) (ht' : P.underlying t' = some d) (hd : d = .string ∨ ∃ e', d = .slice e') (hi : (P.info? e).map (fun i => (i.size, i.bytes)) = some (sz, by_)) {z : List Value} (hz : zeroL P e = some z) (hzl : z.length = sz)
    (hx : Own e sz xs (ev env x) c) (hk : S[k]? = some c) (hy : Src b S sz (ev env y) m news) (h1 : ∀ u ∈ news, oneV u = true) (hb : (xs.length + news.length) * (by_ + 1) ≤ 140737488355328 ∧ 0 < sz)
    (h : ∀ v' c', Own e sz (xs ++ news) v' c' → J P R T (v' :: env) (S.set k c') b B) : J P R (.op (O (.call ⟨.builtin .append, #[x, y], #[t, t']⟩) ty) T) env S b B := fun w hw => by
  rcases hd with rfl | ⟨e', rfl⟩
  all_goals (
    obtain ⟨i, hi', hsb⟩ := Option.map_eq_some_iff.1 hi
    obtain ⟨rfl, rfl⟩ : i.size = sz ∧ i.bytes = by_ := by simpa using hsb
    obtain ⟨zv, hzv, hrunz⟩ := run_zero_ok hz
    obtain ⟨hb, hsz⟩ := hb
    have hml := src_len hy
    have hsize : ∀ w, (sizeOf e).run P w = .ok i.size w := run_sizeOf_ok (by rw [hi']; rfl)
    have hinfo : ∀ w, (typeInfo e).run P w = .ok i w := fun w => by simp only [typeInfo, program, Sem.run_bind, Sem.run, Result.andThen_ok, hi']; simp only [Sem.run_pure]
    have hgo : ∀ v' w' c', Own e i.size (xs ++ news) v' c' → Sig b (S.set k c') w' → (Builtin.append_ #[t, t'] ty #[ev env x, ev env y]).run P w = .ok v' w' → opW P (O (.call ⟨.builtin .append, #[x, y], #[t, t']⟩) ty) env w R fun v w' => W P R T (v :: env) w' (B.map (lift b)) := fun v' w' c' ho hs hr => by
      unfold opW
      have e1 : (execOp (ev env) (O (.call ⟨.builtin .append, #[x, y], #[t, t']⟩) ty)).run P w = .ok (.value v') w' := by
        simp [O, execOp, resolve, invoke, builtin, Sem.run_bind, Sem.run_pure, Result.andThen_ok, hr]
      rw [e1]
      exact h v' c' ho w' hs
    show opW _ _ _ _ _ _
    have hmle : m ≤ news.length := by rw [hml]; exact Nat.le_mul_of_pos_right _ hsz
    have hsum : xs.length + news.length ≤ 140737488355328 := Nat.le_trans (Nat.le_mul_of_pos_right _ (by omega)) hb
    -- a new row
    have grow : ∀ (n cap : Nat) (A : Option Addr), ev env x = .slice A n cap → cap < n + m → xs.length = n * i.size → (∀ w, Sig b S w → (Builtin.firstCells i.size n (.slice A n cap)).run P w = .ok xs.toArray w) →
        opW P (O (.call ⟨.builtin .append, #[x, y], #[t, t']⟩) ty) env w R fun v w' => W P R T (v :: env) w' (B.map (lift b)) := by
      intro n cap A hxe hc hxl hfirst
      have hnle : n ≤ xs.length := by rw [hxl]; exact Nat.le_mul_of_pos_right _ hsz
      have h48 : ¬ (Builtin.nextslicecap (n + m) cap * i.bytes > 2 ^ 48) := by
        have := growslice_fits (need := n + m) (old := cap) (bytes := i.bytes) hc (by
          refine Nat.le_trans (Nat.mul_le_mul_right _ (by omega : n + m ≤ xs.length + news.length)) (Nat.le_trans (Nat.mul_le_mul_left _ (Nat.le_succ _)) hb))
        omega
      have h63 : ¬ ((((n + m : Nat) : Int) > IntKind.i64.max) ∧ (False ∨ i.bytes = 0)) := by
        have : IntKind.i64.max = 9223372036854775807 := rfl
        rw [this]; omega
      have hge := grownCap_ge w (n + m) cap e
      refine hgo (.slice (some ⟨w.heap.size, 0, none⟩) (n + m) (grownCap w (n + m) cap e)) (w.drew.alloc (.cells ((xs ++ news) ++ (Builtin.zeroCells zv.cells (grownCap w (n + m) cap e - (n + m))).toList).toArray e)) _ (.inr ⟨w.heap.size, n + m, grownCap w (n + m) cap e, (Builtin.zeroCells zv.cells (grownCap w (n + m) cap e - (n + m))).toList, (0, 0), rfl, rfl, ?_, ?_, hge, fun _ _ h => by omega⟩) ?_ ?_
      · rw [List.length_append, hxl, hml, Nat.add_mul]
      · rw [List.length_append, List.length_append, hxl, hml, Array.length_toList, size_zeroCells, hzv, List.size_toArray, hzl, ← Nat.add_mul, ← Nat.add_mul]
        congr 1
        omega
      · exact hw.swap hk rfl rfl rfl rfl
      · have f1 := hfirst w.drew hw.drew
        have f2 := run_firsts (P := P) hy (w := w.drew) hw.drew
        rw [hxe]
        have hroom : ¬ (n + m ≤ cap) := by omega
        have e1 : ∀ (b : Bool) (w : World), (if b = true then (mark Mark.noRoom : Sem PUnit) else pure ()).run P w = .ok ⟨⟩ w := fun b w => by cases b <;> rfl
        have e2 : ∀ (n : Nat) (w : World), (askRoom n).run P w = .ok () w := fun n w => by unfold askRoom; split <;> rfl
        simp only [Builtin.append_, List.getElem?_toArray, List.getElem?_cons_zero, List.getElem?_cons_succ, Sem.run_bind, run_underlying_ok ht, run_underlying_ok ht', Result.andThen_ok, hsize, Sem.run_pure, run_lenOf hy, hinfo]
        simp only [Bool.false_eq_true, if_false, run_lenOf hy, Result.andThen_ok, if_neg hroom, hinfo, Sem.run_bind, Bool.not_false, if_true, if_neg h48, if_neg h63]
        simp only [choose, Sem.run, Question.forced, Bool.false_eq_true, if_false, Result.andThen_ok, Sem.run_bind, e2]
        show ((Builtin.firstCells i.size n (Value.slice A n cap)).run P w.drew).andThen _ = _
        rw [f1]
        simp only [Result.andThen_ok, Sem.run_bind, f2, hrunz, newRow, Sem.run_pure]
        simp only [newObj, Sem.run, Result.andThen_ok]
        simp only [grownCap, Question.cut, Array.toList_append, List.append_assoc]
        congr 1
        simp only [World.alloc, World.drew]
        congr 2
        congr 1
        apply Array.ext'
        simp
    rcases hx with ⟨hxe, rfl, rfl⟩ | ⟨g, n, cap, rest, fz, hxe, rfl, hxl, hcl, hnc, hfz⟩
    · by_cases hm : m = 0
      · subst hm
        have hn : news = [] := List.eq_nil_of_length_eq_zero (by simpa using hml)
        subst hn
        have hs : S.set k [] = S := by
          obtain ⟨hlt, he⟩ := List.getElem?_eq_some_iff.1 hk
          have := List.set_getElem_self hlt
          rwa [he] at this
        refine hgo (.slice none 0 0) w [] own_nil (by rw [hs]; exact hw) ?_
        rw [hxe]
        simp only [Builtin.append_, List.getElem?_toArray, List.getElem?_cons_zero, List.getElem?_cons_succ, Sem.run_bind, run_underlying_ok ht, run_underlying_ok ht', Result.andThen_ok, hsize, Sem.run_pure]
        simp only [Bool.false_eq_true, if_false, run_lenOf hy, Result.andThen_ok, Nat.add_zero, Nat.le_refl, if_true, Bool.not_false, run_firsts (P := P) hy hw, Sem.run_bind, Sem.run_pure]
      · exact grow 0 0 none hxe (by omega) (by simp) (fun w _ => by simp only [Builtin.firstCells, Sem.run_pure])
    · by_cases hroom : n + m ≤ cap
      · have hgb := hw.at_ hk
        have hfit : n * i.size + 0 + news.length ≤ (xs ++ rest).length := by
          rw [hcl, hml, Nat.add_zero, ← Nat.add_mul]
          exact Nat.mul_le_mul_right _ hroom
        obtain ⟨w', e1, e2, e3, e4, e5, e6, e7⟩ := run_storeCells_ok (P := P) news (n * i.size) 0 (xs ++ rest) w hgb hfit (fun j _ hj => hfz j (by omega)) h1
        have hE : (xs ++ rest).take (n * i.size + 0) ++ news ++ (xs ++ rest).drop (n * i.size + 0 + news.length) = (xs ++ news) ++ rest.drop news.length := by
          rw [Nat.add_zero, ← hxl, List.take_left', List.drop_append, List.drop_of_length_le (by omega)]
          · simp
          · rfl
        rw [hE] at e6
        refine hgo (.slice (some ⟨g, 0, none⟩) (n + m) cap) w' [(g, .cells ((xs ++ news) ++ rest.drop news.length).toArray e fz)] (.inr ⟨g, n + m, cap, rest.drop news.length, fz, rfl, rfl, ?_, ?_, hroom, fun j hj => hfz j ?_⟩) (hw.set hk e2 e3 e4 e5 e6 e7) ?_
        · rw [List.length_append, hxl, hml, Nat.add_mul]
        · rw [← hcl]
          simp only [List.length_append, List.length_drop] at hfit hcl ⊢
          omega
        · simp only [List.length_append, List.length_drop] at hfit hj ⊢
          omega
        · rw [hxe]
          simp only [Builtin.append_, List.getElem?_toArray, List.getElem?_cons_zero, List.getElem?_cons_succ, Sem.run_bind, run_underlying_ok ht, run_underlying_ok ht', Result.andThen_ok, hsize, Sem.run_pure]
          simp only [Bool.false_eq_true, if_false, run_lenOf hy, Result.andThen_ok, if_pos hroom, Bool.not_false, if_true, run_firsts (P := P) hy hw, add_off, Nat.zero_add, Sem.run_bind]
          have e1' : (storeCells ⟨g, n * i.size, none⟩ news.toArray.toList).run P w = .ok () w' := e1
          rw [e1']
          rfl
      · refine grow n cap (some ⟨g, 0, none⟩) hxe (by omega) hxl (fun w hw => ?_)
        exact run_firstCells_some w i.size n _ n cap xs hxl (fun j u hu => by
          rw [add_off, Nat.zero_add, cell_of (hw.at_ hk)]
          rw [List.getElem?_append_left (List.getElem?_eq_some_iff.1 hu).1]
          exact hu))

theorem own_rd {e : TypeId} {sz n cap : Nat} {xs : List Value} {a : Addr} {c : SH} (h : Own e sz xs (.slice (some a) n cap) c) (k : Nat) (hk : S[k]? = some c) : Rd b S a xs := by
  rcases h with ⟨h, _⟩ | ⟨g, n', cap', rest, fz, h, rfl, h1, h2, h3, h4⟩
  · cases h
  · cases h
    exact rd_own (n := xs.length) k hk (by simp)
theorem own_row {e : TypeId} {sz n cap : Nat} {xs : List Value} {g : Nat} {c : SH} (h : Own e sz xs (.slice (some ⟨g, 0, none⟩) n cap) c) : ∃ rest fz, c = [(g, .cells (xs ++ rest).toArray e fz)] ∧ xs.length = n * sz ∧ (xs ++ rest).length = cap * sz ∧ n ≤ cap ∧ ∀ j, j < (xs ++ rest).length → ¬ (fz.1 ≤ j ∧ j < fz.2) := by
  rcases h with ⟨h, _⟩ | ⟨g', n', cap', rest, fz, h, rfl, h1, h2, h3, h4⟩
  · cases h
  · cases h
    exact ⟨rest, fz, rfl, h1, h2, h3, h4⟩
theorem own_form {e : TypeId} {sz : Nat} {xs : List Value} {v : Value} {c : SH} (h : Own e sz xs v c) (hz : 0 < sz) : ∃ n A cap, v = .slice A n cap ∧ xs.length = n * sz := by
  rcases h with ⟨rfl, rfl, rfl⟩ | ⟨g', n', cap', rest, fz, rfl, rfl, h1, h2, h3, h4⟩
  · exact ⟨0, none, 0, rfl, by simp⟩
  · exact ⟨n', _, _, rfl, h1⟩

/-! bytes and strings -/
theorem bs_eq_of_bytes (l : List UInt8) : (bs l).data.map (fun b => Value.int .u8 b.toNat) = (ints l).toArray := by apply Array.ext'; simp [bs, ints]
/-- '[]byte(s)' -/
theorem j_bytes {t t' e : TypeId} {x : Operand} {l : List UInt8} (hs : P.underlying t = some .string) (hd : P.underlying t' = some (.slice e)) (he : P.underlying e = some (.int .u8)) (hx : ev env x = .string (bs l))
    (h : ∀ v' c', Own e 1 (ints l) v' c' → (∃ g cap, v' = .slice (some ⟨g, 0, none⟩) l.length cap) → J P R T (v' :: env) (c' :: S) b B) : J P R (.op (O (.convert t t' x) ty) T) env S b B := fun w hw => by
  have hr := run_bytes_of_string (P := P) w t t' e (bs l) hs hd he
  have hrun : (execOp (ev env) (O (.convert t t' x) ty)).run P w = .ok (.value (.slice (some ⟨w.heap.size, 0, none⟩) (bs l).size (grownCap w (bs l).size 0 e)))
      (w.drew.alloc (.cells (bytesRow (bs l) (grownCap w (bs l).size 0 e)) e ((bytesRow (bs l) (grownCap w (bs l).size 0 e)).size, (bytesRow (bs l) (grownCap w (bs l).size 0 e)).size + 1))) := by
    simp only [O, execOp, hx, Sem.run_bind, hr, Result.andThen_ok, Sem.run_pure]
  show opW _ _ _ _ _ _
  unfold opW
  rw [hrun]
  have hge := grownCap_ge w (bs l).size 0 e
  generalize grownCap w (bs l).size 0 e = cap at *
  have hrow : bytesRow (bs l) cap = (ints l ++ List.replicate (cap - l.length) (Value.int .u8 0)).toArray := by
    unfold bytesRow
    rw [bs_eq_of_bytes, bs_size]
    apply Array.ext'
    simp
  rw [hrow]
  have hlen : (ints l ++ List.replicate (cap - l.length) (Value.int .u8 0)).length = cap := by
    rw [bs_size] at hge
    simp [ints_length]; omega
  obtain ⟨h1, h2, h3⟩ := hw.new (o := .cells (ints l ++ List.replicate (cap - l.length) (Value.int .u8 0)).toArray e ((ints l ++ List.replicate (cap - l.length) (Value.int .u8 0)).toArray.size, (ints l ++ List.replicate (cap - l.length) (Value.int .u8 0)).toArray.size + 1)) (w' := w.drew.alloc (.cells (ints l ++ List.replicate (cap - l.length) (Value.int .u8 0)).toArray e ((ints l ++ List.replicate (cap - l.length) (Value.int .u8 0)).toArray.size, (ints l ++ List.replicate (cap - l.length) (Value.int .u8 0)).toArray.size + 1))) rfl rfl rfl rfl
  refine h _ _ ?_ ⟨_, cap, rfl⟩ _ h1
  refine .inr ⟨w.heap.size, l.length, cap, List.replicate (cap - l.length) (Value.int .u8 0), _, rfl, rfl, by simp [ints_length], by omega, by rwa [bs_size] at hge, fun j hj hf => ?_⟩
  simp only [List.size_toArray] at hf
  omega
/-- 'string(b)' -/
theorem qs_str {t t' e : TypeId} {x : Operand} {l : List UInt8} {a : Addr} {c : Nat} (hs : P.underlying t = some (.slice e)) (he : P.underlying e = some (.int .u8)) (hd : P.underlying t' = some .string) (hx : ev env x = .slice (some a) l.length c) (hr : Rd b S a (ints l)) :
    QS P (O (.convert t t' x) ty) env b S (.string (bs l)) := qs_val fun w hw => by
  have := run_convert_bytes_back (P := P) w t t' e a c l hs he hd (fun j hj => by
    refine hr w hw j _ ?_
    rw [ints_get, List.getElem?_eq_getElem hj]; rfl)
  simp only [O, execOp, hx, Sem.run_bind, this, Result.andThen_ok, Sem.run_pure]
  rfl
theorem qs_strn {t t' e : TypeId} {x : Operand} {c n : Nat} (hs : P.underlying t = some (.slice e)) (he : P.underlying e = some (.int .u8)) (hd : P.underlying t' = some .string) (hx : ev env x = .slice none n c) :
    QS P (O (.convert t t' x) ty) env b S (.string (bs [])) := qs_run fun w => by
  simp only [O, execOp, hx, convert, Sem.run_bind, run_underlying_ok hs, run_underlying_ok hd, run_underlying_ok he, Result.andThen_ok, Conv.bytesToString, Sem.run_pure]
  rfl
theorem qs_stro {t t' e e' : TypeId} {x : Operand} {l : List UInt8} {c : SH} (k : Nat) (hs : P.underlying t = some (.slice e)) (he : P.underlying e = some (.int .u8)) (hd : P.underlying t' = some .string) (hx : Own e' 1 (ints l) (ev env x) c) (hk : S[k]? = some c) :
    QS P (O (.convert t t' x) ty) env b S (.string (bs l)) := by
  rcases hx with ⟨h1, h2, rfl⟩ | ⟨g, n, cap, rest, fz, h1, rfl, h2, h3, h4, h5⟩
  · have : l = [] := by cases l <;> first | rfl | cases h2
    subst this
    exact qs_strn hs he hd h1
  · rw [ints_length] at h2
    obtain rfl : l.length = n := by omega
    exact qs_str hs he hd h1 (rd_own (n := (ints l).length) k hk (by simp))

/-! slices of arrays; made slices -/
theorem qs_cutp {t r e : TypeId} {lo hi : Option Operand} {x : Operand} {a z n sz g off : Nat} (ht : P.underlying t = some (.pointer r)) (hr : P.underlying r = some (.array n e)) (hz : (P.info? e).map (·.size) = some sz) (hx : ev env x = .pointer (some ⟨g, off, none⟩)) (hlo : bd env lo a 0) (hhi : bd env hi z n) (h1 : a ≤ z) (h2 : z ≤ n) :
    QS P (O (.slice t x lo hi none) ty) env b S (.slice (some ⟨g, if n = a then off else off + a * sz, none⟩) (z - a) (n - a)) := qs_run fun w => by
  simp only [O, execOp, hx, Instr.sliceAt, Instr.slice, asAddr, Option.map_none, Sem.run_bind, Sem.run_pure, Result.andThen_ok, run_underlying_ok ht, run_underlying_ok hr]
  rw [run_bounds hlo hhi h1 h2]
  simp only [Result.andThen_ok, Sem.run_pure, run_sizeOf_ok hz, Sem.run_bind, add_off]
  split <;> rfl
theorem qs_cuta {t e : TypeId} {lo hi : Option Operand} {x : Operand} {a z n sz g off : Nat} (ht : P.underlying t = some (.array n e)) (hz : (P.info? e).map (·.size) = some sz) (hx : ev env x = .pointer (some ⟨g, off, none⟩)) (hlo : bd env lo a 0) (hhi : bd env hi z n) (h1 : a ≤ z) (h2 : z ≤ n) :
    QS P (O (.slice t x lo hi none) ty) env b S (.slice (some ⟨g, if n = a then off else off + a * sz, none⟩) (z - a) (n - a)) := qs_run fun w => by
  simp only [O, execOp, hx, Instr.sliceAt, Instr.sureAddr, Option.map_none, Sem.run_bind, Sem.run_pure, Result.andThen_ok, run_underlying_ok ht]
  rw [run_bounds hlo hhi h1 h2]
  simp only [Result.andThen_ok, Sem.run_pure, run_sizeOf_ok hz, Sem.run_bind, add_off]
  split <;> rfl
/-- n zeros of a type -/
def zeros (z : List Value) : Nat → List Value
  | 0 => []
  | n + 1 => z ++ zeros z n
theorem zeros_length (z : List Value) (n : Nat) : (zeros z n).length = n * z.length := by
  induction n with
  | zero => simp [zeros]
  | succ n ih => simp [zeros, ih, Nat.add_mul]; omega
theorem zeros_get (z : List Value) (hz : z ≠ []) (n i : Nat) (h : i < n * z.length) : (zeros z n)[i]? = z[i % z.length]? := by
  have hpos : 0 < z.length := (List.length_pos_iff.2 hz)
  induction n generalizing i with
  | zero => simp at h
  | succ n ih =>
    rw [Nat.add_mul, Nat.one_mul] at h
    simp only [zeros, List.getElem?_append]
    split
    · rename_i hl; rw [Nat.mod_eq_of_lt hl]
    · rename_i hl
      rw [ih _ (by omega)]
      conv => rhs; rw [Nat.mod_eq_sub_mod (by omega)]
theorem madeCells_eq {z : List Value} (hz : z ≠ []) (n : Nat) : madeCells z.toArray (n * z.length) = (zeros z n).toArray := by
  apply Array.ext_getElem?
  intro i
  by_cases h : i < n * z.length
  · have hm : i % z.length < z.length := Nat.mod_lt _ ((List.length_pos_iff.2 hz))
    simp [madeCells, h, zeros_get z hz n i h, hm]
  · rw [Array.getElem?_eq_none (by rw [size_madeCells]; omega), Array.getElem?_eq_none (by simp [zeros_length]; omega)]
theorem zeros_add (z : List Value) (n d : Nat) : zeros z (n + d) = zeros z n ++ zeros z d := by
  induction n with
  | zero => simp [zeros]
  | succ n ih => rw [show n + 1 + d = (n + d) + 1 by omega]; simp only [zeros, List.append_assoc, ih]
theorem zeros_one (v : Value) (n : Nat) : zeros [v] n = List.replicate n v := by
  induction n with
  | zero => rfl
  | succ n ih => simp [zeros, ih, List.replicate_succ]
/-- make([]T, n, c) -/
theorem j_make {t e : TypeId} {x y : Operand} {sz by_ n c : Nat} {kl kc : IntKind} {z : List Value} (ht : P.underlying t = some (.slice e)) (hi : (P.info? e).map (fun i => (i.size, i.bytes)) = some (sz, by_)) (hz : zeroL P e = some z) (hzl : z.length = sz) (hzn : z ≠ [])
    (hx : ev env x = .int kl (n : Int)) (hy : ev env y = .int kc (c : Int)) (hnc : n ≤ c) (hb : c * (by_ + 1) ≤ 140737488355328)
    (h : ∀ g v' c', v' = .slice (some ⟨g, 0, none⟩) n c → c' = [(g, .cells (zeros z c).toArray e (0, 0))] → Own e sz (zeros z n) v' c' → J P R T (v' :: env) (c' :: S) b B) : J P R (.op (O (.makeSlice t x y) ty) T) env S b B := fun w hw => by
  obtain ⟨i, hi', hsb⟩ := Option.map_eq_some_iff.1 hi
  obtain ⟨rfl, rfl⟩ : i.size = sz ∧ i.bytes = by_ := by simpa using hsb
  unfold zeroL at hz
  rw [hi'] at hz
  cases hzz : i.zero with
  | none => simp [hzz] at hz
  | some zv =>
    simp [hzz] at hz
    have hc : c ≤ 140737488355328 := Nat.le_trans (Nat.le_mul_of_pos_right _ (by omega)) hb
    have hbb : i.bytes * c ≤ 140737488355328 := by
      rw [Nat.mul_comm]
      exact Nat.le_trans (Nat.mul_le_mul_left _ (Nat.le_succ _)) hb
    have hr := run_make (P := P) w t e i zv ht hi' hzz kl kc n c (by omega) (by omega) (by
      have : ((i.bytes * c : Nat) : Int) ≤ 281474976710656 := by omega
      rwa [Int.natCast_mul] at this) (by omega)
    simp only [Int.toNat_natCast] at hr
    have hrow : madeCells zv.cells (c * i.size) = (zeros z c).toArray := by
      rw [← hzl, ← madeCells_eq hzn]
      congr 1
      rw [← hz]
    rw [hrow] at hr
    have hrun : (execOp (ev env) (O (.makeSlice t x y) ty)).run P w = .ok (.value (.slice (some ⟨w.heap.size, 0, none⟩) n c)) (w.alloc (.cells (zeros z c).toArray e)) := by
      simp only [O, execOp, hx, hy, Sem.run_bind, hr, Result.andThen_ok, Sem.run_pure]
    show opW _ _ _ _ _ _
    unfold opW
    rw [hrun]
    refine h w.heap.size _ _ rfl rfl (.inr ⟨w.heap.size, n, c, zeros z (c - n), (0, 0), rfl, ?_, by rw [zeros_length, hzl], ?_, hnc, fun _ _ h => by omega⟩) _ (hw.new (o := .cells (zeros z c).toArray e) (w' := w.alloc (.cells (zeros z c).toArray e)) rfl rfl rfl rfl).1
    · have : zeros z n ++ zeros z (c - n) = zeros z c := by
        rw [← zeros_add]; congr 1; omega
      rw [this]
    · rw [List.length_append, zeros_length, zeros_length, hzl, ← Nat.add_mul]
      congr 1
      omega
/-! arrays and structs as values -/
theorem qs_ixv {t e : TypeId} {x y : Operand} {n : Nat} {vs : List Value} {k : IntKind} {m : Int} {d : TypeDesc} (ht : P.underlying t = some (.array n e)) (hu : P.underlying e = some d) (hd : flat d = true) (hx : ev env x = .agg vs.toArray) (hz : (P.info? e).map (·.size) = some 1) (hy : ev env y = .int k m) (h : 0 ≤ m ∧ m < n) (hi : vs[m.toNat]? = some v) :
    QS P (O (.index t x y) ty) env b S v := qs_run fun w => by
  have hag : ∀ w, (isAgg e).run P w = .ok false w := fun w => by
    simp only [isAgg, Sem.run_bind, run_underlying_ok hu, Result.andThen_ok]
    cases d <;> first | rfl | cases hd
  have hg : vs.toArray[m.toNat * 1]? = some v := by simpa using hi
  simp only [O, execOp, hx, hy, Instr.index, asIntOf, Sem.run_bind, Sem.run_pure, Result.andThen_ok, run_underlying_ok ht]
  rw [if_pos h]
  simp only [Sem.run_bind, run_sizeOf_ok hz, Result.andThen_ok, part, hag, Bool.false_eq_true, if_false, hg, Sem.run_pure]
theorem qs_cap {t e : TypeId} {x : Operand} {A : Option Addr} {n c : Nat} (ht : P.underlying t = some (.slice e)) (hx : ev env x = .slice A n c) : QS P (O (.call ⟨.builtin .cap, #[x], #[t]⟩) ty) env b S (.int .i64 c) := qs_run fun w => by
  rw [run_b1 w, hx]
  simp only [builtin, Builtin.cap_, Sem.run_bind, run_underlying_ok ht, Result.andThen_ok, List.getElem?_toArray, List.getElem?_cons_zero]
  rfl
theorem qs_min {t t' : TypeId} {x y : Operand} {k : IntKind} {m n : Int} (hx : ev env x = .int k m) (hy : ev env y = .int k n) : QS P (O (.call ⟨.builtin .min, #[x, y], #[t, t']⟩) ty) env b S (.int k (min m n)) := qs_run fun w => by
  have : (if n < m then n else m) = min m n := by omega
  simp [O, execOp, resolve, invoke, hx, hy, builtin, Builtin.min_, Builtin.min2, Sem.run_bind, Sem.run_pure, Result.andThen_ok, this]
theorem qs_max {t t' : TypeId} {x y : Operand} {k : IntKind} {m n : Int} (hx : ev env x = .int k m) (hy : ev env y = .int k n) : QS P (O (.call ⟨.builtin .max, #[x, y], #[t, t']⟩) ty) env b S (.int k (max m n)) := qs_run fun w => by
  have : (if n > m then n else m) = max m n := by omega
  simp [O, execOp, resolve, invoke, hx, hy, builtin, Builtin.max_, Builtin.max2, Sem.run_bind, Sem.run_pure, Result.andThen_ok, this]
end Go.Sx
