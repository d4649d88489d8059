/- Appending where the old row stays: rows that several look at. -/
import Derived.Test.YtfeabbeebkkhaaaGreatSx19
import Derived.LaidEql
namespace Go.Sx
open Go Go.MapKept Go.WideMaps Go.Maps
set_option linter.unusedVariables false
set_option linter.unusedSimpArgs false
set_option linter.unusedSectionVars false
variable {P : Program} {R : Ending → World → Prop} {env : Env} {b : Base} {S : List SH} {B : JB} {T : Tree} {v : Value} {ty : TypeId}
theorem j_appendK {t t' e : TypeId} {x y : Operand} {sz by_ m n cap : Nat} {A : Option Addr} {xs news : List Value} {d : TypeDesc} (k : Nat) (ht : P.underlying t = some (.slice e)) (ht' : P.underlying t' = some d) (hd : d = .string ∨ ∃ e', d = .slice e') (hi : (P.info? e).map (fun i => (i.size, i.bytes)) = some (sz, by_)) {z : List Value} (hz : zeroL P e = some z) (hzl : z.length = sz)
    (hx : ev env x = .slice A n cap) (hxl : xs.length = n * sz) (hA : (A = none ∧ cap = 0) ∨ ∃ g, A = some ⟨g, 0, none⟩ ∧ Rd b S ⟨g, 0, none⟩ xs) (hncap : n ≤ cap) (hy : Src b S sz (ev env y) m news) (h1 : ∀ u ∈ news, oneV u = true) (hb : (xs.length + news.length) * (by_ + 1) ≤ 140737488355328 ∧ 0 < sz)
    (hgrow : cap < n + m → ∀ g' cap' rest, n + m ≤ cap' → ((xs ++ news) ++ rest).length = cap' * sz → J P R T (.slice (some ⟨g', 0, none⟩) (n + m) cap' :: env) ([(g', .cells ((xs ++ news) ++ rest).toArray e (0, 0))] :: S) b B)
    (hzero : m = 0 → J P R T (.slice A n cap :: env) S b B)
    (hfit : n + m ≤ cap → m ≠ 0 → ∃ g rest fz, A = some ⟨g, 0, none⟩ ∧ S[k]? = some [(g, .cells (xs ++ rest).toArray e fz)] ∧ (xs ++ rest).length = cap * sz ∧ (∀ j, j < (xs ++ rest).length → ¬ (fz.1 ≤ j ∧ j < fz.2)) ∧ J P R T (.slice (some ⟨g, 0, none⟩) (n + m) cap :: env) (S.set k [(g, .cells ((xs ++ news) ++ rest.drop news.length).toArray e fz)]) b B) :
    J P R (.op (O (.call ⟨.builtin .append, #[x, y], #[t, t']⟩) ty) T) env S b B := fun w hw => by
  rcases hd with rfl | ⟨e', rfl⟩
  all_goals (
    obtain ⟨i, hi', hsb⟩ := Option.map_eq_some_iff.1 hi
    obtain ⟨rfl, rfl⟩ : i.size = sz ∧ i.bytes = by_ := by simpa using hsb
    obtain ⟨zv, hzv, hrunz⟩ := run_zero_ok hz
    obtain ⟨hb, hsz⟩ := hb
    have hml := src_len hy
    have hsize : ∀ w, (sizeOf e).run P w = .ok i.size w := run_sizeOf_ok (by rw [hi']; rfl)
    have hinfo : ∀ w, (typeInfo e).run P w = .ok i w := fun w => by simp only [typeInfo, program, Sem.run_bind, Sem.run, Result.andThen_ok, hi']; simp only [Sem.run_pure]
    have hgo : ∀ v' w' S', J P R T (v' :: env) S' b B → Sig b S' w' → (Builtin.append_ #[t, t'] ty #[ev env x, ev env y]).run P w = .ok v' w' → opW P (O (.call ⟨.builtin .append, #[x, y], #[t, t']⟩) ty) env w R fun v w' => W P R T (v :: env) w' (B.map (lift b)) := fun v' w' S' hJ hs hr => by
      unfold opW
      have e1 : (execOp (ev env) (O (.call ⟨.builtin .append, #[x, y], #[t, t']⟩) ty)).run P w = .ok (.value v') w' := by
        simp [O, execOp, resolve, invoke, builtin, Sem.run_bind, Sem.run_pure, Result.andThen_ok, hr]
      rw [e1]
      exact hJ w' hs
    show opW _ _ _ _ _ _
    have hmle : m ≤ news.length := by rw [hml]; exact Nat.le_mul_of_pos_right _ hsz
    have hsum : xs.length + news.length ≤ 140737488355328 := Nat.le_trans (Nat.le_mul_of_pos_right _ (by omega)) hb
    have hfirst : ∀ w, Sig b S w → (Builtin.firstCells i.size n (.slice A n cap)).run P w = .ok xs.toArray w := fun w hw => by
      rcases hA with ⟨rfl, rfl⟩ | ⟨g, rfl, hr⟩
      · obtain rfl : n = 0 := by omega
        rw [Nat.zero_mul] at hxl
        rw [List.eq_nil_of_length_eq_zero hxl]
        simp only [Builtin.firstCells, Sem.run_pure]
      · exact run_firstCells_some w i.size n _ n cap xs hxl (hr w hw)
    have hnle : n ≤ xs.length := by rw [hxl]; exact Nat.le_mul_of_pos_right _ hsz
    by_cases hroom : n + m ≤ cap
    · by_cases hm : m = 0
      · subst hm
        have hn : news = [] := List.eq_nil_of_length_eq_zero (by simpa using hml)
        subst hn
        refine hgo (.slice A n cap) w S (hzero rfl) hw ?_
        rw [hx]
        rcases hA with ⟨rfl, rfl⟩ | ⟨g, rfl, hr⟩
        · obtain rfl : n = 0 := by omega
          simp only [Builtin.append_, List.getElem?_toArray, List.getElem?_cons_zero, List.getElem?_cons_succ, Sem.run_bind, run_underlying_ok ht, run_underlying_ok ht', Result.andThen_ok, hsize, Sem.run_pure]
          simp only [Bool.false_eq_true, if_false, run_lenOf hy, Result.andThen_ok, Nat.add_zero, Nat.le_refl, if_true, Bool.not_false, run_firsts (P := P) hy hw, Sem.run_bind, Sem.run_pure]
        · simp only [Builtin.append_, List.getElem?_toArray, List.getElem?_cons_zero, List.getElem?_cons_succ, Sem.run_bind, run_underlying_ok ht, run_underlying_ok ht', Result.andThen_ok, hsize, Sem.run_pure]
          simp only [Bool.false_eq_true, if_false, run_lenOf hy, Result.andThen_ok, if_pos hncap, if_pos hroom, Nat.add_zero, Bool.not_false, if_true, run_firsts (P := P) hy hw, add_off, Nat.zero_add, Sem.run_bind]
          rfl
      · obtain ⟨g, rest, fz, rfl, hk, hcl, hfz, hJ⟩ := hfit hroom hm
        have hgb := hw.at_ hk
        have hfit' : n * i.size + 0 + news.length ≤ (xs ++ rest).length := by
          rw [hcl, hml, Nat.add_zero, ← Nat.add_mul]
          exact Nat.mul_le_mul_right _ hroom
        obtain ⟨w', e1, e2, e3, e4, e5, e6, e7⟩ := run_storeCells_ok (P := P) news (n * i.size) 0 (xs ++ rest) w hgb hfit' (fun j _ hj => hfz j (by omega)) h1
        have hE : (xs ++ rest).take (n * i.size + 0) ++ news ++ (xs ++ rest).drop (n * i.size + 0 + news.length) = (xs ++ news) ++ rest.drop news.length := by
          rw [Nat.add_zero, ← hxl, List.take_left', List.drop_append, List.drop_of_length_le (by omega)]
          · simp
          · rfl
        rw [hE] at e6
        refine hgo (.slice (some ⟨g, 0, none⟩) (n + m) cap) w' _ hJ (hw.set hk e2 e3 e4 e5 e6 e7) ?_
        rw [hx]
        simp only [Builtin.append_, List.getElem?_toArray, List.getElem?_cons_zero, List.getElem?_cons_succ, Sem.run_bind, run_underlying_ok ht, run_underlying_ok ht', Result.andThen_ok, hsize, Sem.run_pure]
        simp only [Bool.false_eq_true, if_false, run_lenOf hy, Result.andThen_ok, if_pos hroom, Bool.not_false, if_true, run_firsts (P := P) hy hw, add_off, Nat.zero_add, Sem.run_bind]
        have e1' : (storeCells ⟨g, n * i.size, none⟩ news.toArray.toList).run P w = .ok () w' := e1
        rw [e1']
        rfl
    · have hc : cap < n + m := by omega
      have h48 : ¬ (Builtin.nextslicecap (n + m) cap * i.bytes > 2 ^ 48) := by
        have := growslice_fits (need := n + m) (old := cap) (bytes := i.bytes) hc (by
          refine Nat.le_trans (Nat.mul_le_mul_right _ (by omega : n + m ≤ xs.length + news.length)) (Nat.le_trans (Nat.mul_le_mul_left _ (Nat.le_succ _)) hb))
        omega
      have h63 : ¬ ((((n + m : Nat) : Int) > IntKind.i64.max) ∧ (False ∨ i.bytes = 0)) := by
        have : IntKind.i64.max = 9223372036854775807 := rfl
        rw [this]; omega
      have hge := grownCap_ge w (n + m) cap e
      refine hgo (.slice (some ⟨w.heap.size, 0, none⟩) (n + m) (grownCap w (n + m) cap e)) (w.drew.alloc (.cells ((xs ++ news) ++ (Builtin.zeroCells zv.cells (grownCap w (n + m) cap e - (n + m))).toList).toArray e)) _ (hgrow hc w.heap.size (grownCap w (n + m) cap e) (Builtin.zeroCells zv.cells (grownCap w (n + m) cap e - (n + m))).toList hge ?_) ?_ ?_
      · rw [List.length_append, List.length_append, hxl, hml, Array.length_toList, size_zeroCells, hzv, List.size_toArray, hzl, ← Nat.add_mul, ← Nat.add_mul]
        congr 1
        omega
      · exact (Sig.new (w' := w.drew.alloc (.cells ((xs ++ news) ++ (Builtin.zeroCells zv.cells (grownCap w (n + m) cap e - (n + m))).toList).toArray e)) hw rfl rfl rfl rfl).1
      · have f1 := hfirst w.drew hw.drew
        have f2 := run_firsts (P := P) hy (w := w.drew) hw.drew
        rw [hx]
        have hroom : ¬ (n + m ≤ cap) := by omega
        have e1 : ∀ (b : Bool) (w : World), (if b = true then (mark Mark.noRoom : Sem PUnit) else pure ()).run P w = .ok ⟨⟩ w := fun b w => by cases b <;> rfl
        have e2 : ∀ (n : Nat) (w : World), (askRoom n).run P w = .ok () w := fun n w => by unfold askRoom; split <;> rfl
        simp only [Builtin.append_, List.getElem?_toArray, List.getElem?_cons_zero, List.getElem?_cons_succ, Sem.run_bind, run_underlying_ok ht, run_underlying_ok ht', Result.andThen_ok, hsize, Sem.run_pure, run_lenOf hy, hinfo]
        simp only [Bool.false_eq_true, if_false, run_lenOf hy, Result.andThen_ok, if_neg hroom, hinfo, Sem.run_bind, Bool.not_false, if_true, if_neg h48, if_neg h63]
        simp only [choose, Sem.run, Question.forced, Bool.false_eq_true, if_false, Result.andThen_ok, Sem.run_bind, e2]
        show ((Builtin.firstCells i.size n (Value.slice A n cap)).run P w.drew).andThen _ = _
        rw [f1]
        simp only [Result.andThen_ok, Sem.run_bind, f2, hrunz, newRow, Sem.run_pure]
        simp only [newObj, Sem.run, Result.andThen_ok]
        simp only [grownCap, Question.cut, Array.toList_append, List.append_assoc]
        congr 1
        simp only [World.alloc, World.drew]
        congr 2
        congr 1
        apply Array.ext'
        simp)
theorem run_ptr_eq {t e : TypeId} {n : Nat} {w : World} {A : Option Addr} {a : Addr} (ht : P.underlying t = some (.pointer e)) (hz : (P.info? e).map (·.size) = some n) (hn : n ≠ 0) (hA : ∀ a', A = some a' → ∃ l ty, w.heap[a'.block]? = some (.cells l ty (0, 0))) (ha : ∃ l ty, w.heap[a.block]? = some (.cells l ty (0, 0))) (d : Nat) :
    (Op.equalIn (d + 1) t (.pointer A) (.pointer (some a))).run P w = .ok (decide (A = some a)) w := by
  cases A with
  | none => simp only [Op.equalIn, Sem.run_bind, run_underlying_ok ht, Result.andThen_ok, Sem.run_pure]; rfl
  | some a' =>
    simp only [Op.equalIn, Sem.run_bind, run_underlying_ok ht, Result.andThen_ok, run_sizeOf_ok hz w]
    rw [if_pos hn]
    by_cases h : a' = a
    · subst h
      rw [run_sameAddr_same]
      simp
    · obtain ⟨l, ty, h1⟩ := hA a' rfl
      obtain ⟨l2, ty2, h2⟩ := ha
      rw [run_sameAddr_other w h h1 h2]
      congr 1
      simp [h]
/-- two pointers -/
theorem qs_pne {t e t' : TypeId} {x y : Operand} {n : Nat} {A : Option Addr} {a : Addr} (ht : P.underlying t = some (.pointer e)) (hz : (P.info? e).map (·.size) = some n) (hn : n ≠ 0) (hx : ev env x = .pointer A) (hy : ev env y = .pointer (some a)) (hA : ∀ a', A = some a' → ∃ l ty, RdO b S a'.block (.cells l ty (0, 0))) (ha : ∃ l ty, RdO b S a.block (.cells l ty (0, 0))) :
    QS P (O (.binOp .neq t x y t') ty) env b S (.bool (!decide (A = some a))) := qs_val fun w hw => by
  refine run_eq (r := decide (A = some a)) (.inr rfl) hx hy (by unfold eqGuard; rfl) (fun _ _ h => by cases h) (fun _ _ h => by cases h) (fun _ _ _ h => by cases h) (fun _ h => by cases h) fun d => ?_
  refine run_ptr_eq ht hz hn (fun a' h => ?_) ?_ d
  · obtain ⟨l, ty, h1⟩ := hA a' h
    exact ⟨l, ty, h1 w hw⟩
  · obtain ⟨l, ty, h1⟩ := ha
    exact ⟨l, ty, h1 w hw⟩
theorem qs_peq {t e t' : TypeId} {x y : Operand} {n : Nat} {A : Option Addr} {a : Addr} (ht : P.underlying t = some (.pointer e)) (hz : (P.info? e).map (·.size) = some n) (hn : n ≠ 0) (hx : ev env x = .pointer A) (hy : ev env y = .pointer (some a)) (hA : ∀ a', A = some a' → ∃ l ty, RdO b S a'.block (.cells l ty (0, 0))) (ha : ∃ l ty, RdO b S a.block (.cells l ty (0, 0))) :
    QS P (O (.binOp .eql t x y t') ty) env b S (.bool (decide (A = some a))) := qs_val fun w hw => by
  refine run_eq (r := decide (A = some a)) (.inl rfl) hx hy (by unfold eqGuard; rfl) (fun _ _ h => by cases h) (fun _ _ h => by cases h) (fun _ _ _ h => by cases h) (fun _ h => by cases h) fun d => ?_
  refine run_ptr_eq ht hz hn (fun a' h => ?_) ?_ d
  · obtain ⟨l, ty, h1⟩ := hA a' h
    exact ⟨l, ty, h1 w hw⟩
  · obtain ⟨l, ty, h1⟩ := ha
    exact ⟨l, ty, h1 w hw⟩
/-- s[:z:m] -/
theorem qs_cut3 {t e : TypeId} {x h mx : Operand} {z m n c sz : Nat} {k1 k2 : IntKind} {A : Option Addr} (ht : P.underlying t = some (.slice e)) (hz : (P.info? e).map (·.size) = some sz) (hx : ev env x = .slice A n c) (hh : ev env h = .int k1 (z : Int)) (hm : ev env mx = .int k2 (m : Int)) (h1 : z ≤ m) (h2 : m ≤ c) :
    QS P (O (.slice t x none (some h) (some mx)) ty) env b S (.slice (if m = 0 then A else A.map (·.add (0 * sz))) z m) := qs_run fun w => by
  have hz' : ∀ w, (sizeOf e).run P w = .ok sz w := run_sizeOf_ok hz
  have hb : ∀ w, (Instr.sliceBounds true n c none (some (.int k1 (z : Int))) (some (.int k2 (m : Int)))).run P w = .ok (0, z, m) w := fun w => by
    simp [Instr.sliceBounds, run_bound h2, run_bound h1, Sem.run_bind, Sem.run_pure]
  simp only [O, execOp, hx, Instr.sliceAt, Instr.slice, Option.map_none, Option.map_some, hh, hm, Sem.run_bind, Sem.run_pure, Result.andThen_ok, run_underlying_ok ht]
  rw [hb]
  simp only [Result.andThen_ok, Sem.run_pure, hz', Sem.run_bind, Nat.sub_zero]
/-- []byte of constants -/
theorem j_convsl {t e : TypeId} {x : Operand} {g n c : Nat} {l : List Value} {e0 : TypeId} (k : Nat) (ht : P.underlying t = some (.slice e)) (he : P.underlying e = some (.int .u8)) (hk : S[k]? = some [(g, .cells l.toArray e0 (0, 0))]) (hx : ev env x = .slice (some ⟨g, 0, none⟩) n c)
    (h : J P R T (.slice (some ⟨g, 0, none⟩) n c :: env) (S.set k [(g, .cells l.toArray e0 (l.length, l.length + 1))]) b B) : J P R (.op (O (.convert t t x) ty) T) env S b B := fun w hw => by
  have hg := hw.at_ hk
  show opW _ _ _ _ _ _
  unfold opW
  have hsh : (shape g).run P w = .ok (some (e0, l.length)) w := by
    simp [shape, Sem.run, World.shape?, hg]
  have hrun : (execOp (ev env) (O (.convert t t x) ty)).run P w = .ok (.value (.slice (some ⟨g, 0, none⟩) n c)) (w.freeze ⟨g, l.length, none⟩ 1) := by
    simp only [O, execOp, hx, convert, Sem.run_bind, run_underlying_ok ht, run_underlying_ok he, Result.andThen_ok, beq_self_eq_true, markStringish, hsh]
    rfl
  rw [hrun]
  refine h _ (hw.set hk (o' := .cells l.toArray e0 (l.length, l.length + 1)) ?_ ?_ ?_ ?_ ?_ (fun j hj => ?_))
  · simp [World.freeze]
  · simp [World.freeze]
  · simp [World.freeze]
  · simp [World.freeze]
  · simp [World.freeze, Array.getElem?_modify, hg]
  · simp [World.freeze, Array.getElem?_modify, Ne.symm hj]
end Go.Sx
