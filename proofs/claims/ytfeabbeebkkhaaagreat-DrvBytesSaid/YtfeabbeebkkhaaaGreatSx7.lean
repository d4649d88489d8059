/- Rows of numbers and of bytes. -/
import Derived.Test.YtfeabbeebkkhaaaGreatSx6
namespace Go.Sx
open Go
set_option linter.unusedVariables false
set_option linter.unusedSimpArgs false
variable {P : Program} {R : Ending → World → Prop} {env : Env} {b : Base} {S : List SH} {B : JB} {T : Tree} {v : Value} {ty : TypeId}

/-- numbers as cells -/
def ks (k : IntKind) (l : List Int) : List Value := l.map (Value.int k)
theorem ks_length (k : IntKind) (l : List Int) : (ks k l).length = l.length := by simp [ks]
theorem ks_get {k : IntKind} {l : List Int} {i : Nat} (h : i < l.length) : (ks k l)[i]? = some (.int k (l.getD i 0)) := by
  simp [ks, List.getElem?_eq_getElem h, List.getD_eq_getElem?_getD]
theorem ks_set (k : IntKind) (l : List Int) (i : Nat) (x : Int) : (ks k l).set i (.int k x) = ks k (l.set i x) := by simp [ks, List.map_set]
theorem ks_one {k : IntKind} {l : List Int} : ∀ u ∈ ks k l, oneV u = true := by
  intro u hu
  obtain ⟨c, _, rfl⟩ := List.mem_map.1 hu
  rfl
theorem ints_set (l : List UInt8) (i : Nat) (c : UInt8) : (ints l).set i (.int .u8 (c.toNat : Int)) = ints (l.set i c) := by simp [ints, List.map_set]
/-- a byte out of a number -/
def by8 (z : Int) : UInt8 := UInt8.ofNat (IntKind.u8.wrap z).toNat
theorem wrap_by8 (z : Int) : IntKind.u8.wrap z = ((by8 z).toNat : Int) := by
  have h : 0 ≤ IntKind.u8.wrap z ∧ IntKind.u8.wrap z < 256 := by
    rw [IntKind.wrap_u8]; omega
  simp only [by8, UInt8.toNat_ofNat']
  omega
theorem by8_toNat (c : UInt8) : by8 (c.toNat : Int) = c := by
  have := wrap_by8 (c.toNat : Int)
  have h2 : IntKind.u8.wrap (c.toNat : Int) = (c.toNat : Int) := by
    rw [IntKind.wrap_u8]
    have := c.toNat_lt
    omega
  rw [h2] at this
  exact (UInt8.toNat_inj.1 (by omega)).symm
theorem bw_by8 (op : BinOp) (m n : Int) : bw op .u8 m n = ((by8 (bw op .u8 m n)).toNat : Int) := by
  rw [← wrap_by8]
  unfold bw
  generalize (match op with | .and => _ | .or => _ | .xor => _ | _ => _ : Int) = z
  simp only [IntKind.wrap_u8]
  omega
section
variable {t t' : TypeId} {x y : Operand}
theorem qs_conv8 {d : TypeDesc} {k : IntKind} {m : Int} (hs : P.underlying t = some d) (hd : P.underlying t' = some (.int .u8)) (hx : ev env x = .int k m) : QS P (O (.convert t t' x) ty) env b S (.int .u8 ((by8 m).toNat : Int)) := by
  have := qs_conv (P := P) (b := b) (S := S) (ty := ty) hs hd hx
  rwa [wrap_by8] at this
/-- the address of a row's cell: each element is one cell -/
theorem qs_ix0 {e : TypeId} {n g : Nat} {k : IntKind} {m : Int} (ht : P.underlying t = some (.array n e)) (hz : (P.info? e).map (·.size) = some 1) (hx : ev env x = .pointer (some ⟨g, 0, none⟩)) (hy : ev env y = .int k m) (h : 0 ≤ m ∧ m < n) :
    QS P (O (.indexAddr t x y) ty) env b S (.pointer (some ⟨g, m.toNat, none⟩)) := by
  have := qs_ixa (P := P) (b := b) (S := S) (ty := ty) ht hz hx hy h.1 h.2
  simpa using this
theorem qs_ixl0 {e : TypeId} {n c : Nat} {a : Addr} {k : IntKind} {m : Int} (ht : P.underlying t = some (.slice e)) (hz : (P.info? e).map (·.size) = some 1) (hx : ev env x = .slice (some a) n c) (hy : ev env y = .int k m) (h : 0 ≤ m ∧ m < n) :
    QS P (O (.indexAddr t x y) ty) env b S (.pointer (some (a.add m.toNat))) := by
  have := qs_ixl (P := P) (b := b) (S := S) (ty := ty) ht hz hx hy h.1 h.2
  simpa using this
theorem qs_ixg {e : TypeId} {n c g : Nat} {k : IntKind} {m : Int} (ht : P.underlying t = some (.slice e)) (hz : (P.info? e).map (·.size) = some 1) (hx : ev env x = .slice (some ⟨g, 0, none⟩) n c) (hy : ev env y = .int k m) (h : 0 ≤ m ∧ m < n) :
    QS P (O (.indexAddr t x y) ty) env b S (.pointer (some ⟨g, m.toNat, none⟩)) := by
  have := qs_ixl (P := P) (b := b) (S := S) (ty := ty) ht hz hx hy h.1 h.2
  simpa [add_off] using this
theorem qs_loadk {kd : IntKind} {g i : Nat} {ws : List Int} {e : TypeId} {fz : Nat × Nat} (k : Nat) (hu : P.underlying t = some (.int kd)) (hx : ev env x = .pointer (some ⟨g, i, none⟩)) (hk : S[k]? = some [(g, .cells (ks kd ws).toArray e fz)]) (hi : i < ws.length) :
    QS P (O (.load t x) ty) env b S (.int kd (ws.getD i 0)) := qs_load k hu rfl hx hk (ks_get hi)
theorem qs_loadi {g i : Nat} {l : List UInt8} {e : TypeId} {fz : Nat × Nat} (k : Nat) (hu : P.underlying t = some (.int .u8)) (hx : ev env x = .pointer (some ⟨g, i, none⟩)) (hk : S[k]? = some [(g, .cells (ints l).toArray e fz)]) (hi : i < l.length) :
    QS P (O (.load t x) ty) env b S (.int .u8 ((l.getD i 0).toNat : Int)) := qs_load k hu rfl hx hk (ints_get_lt hi)
/-- a byte out of cells that can be read -/
theorem qs_loadr8 {a : Addr} {l : List UInt8} {i : Nat} (hr : Rd b S a (ints l)) (hu : P.underlying t = some (.int .u8)) (hx : ev env x = .pointer (some (a.add i))) (hi : i < l.length) :
    QS P (O (.load t x) ty) env b S (.int .u8 ((l.getD i 0).toNat : Int)) := qs_loadR hr hu rfl hx (ints_get_lt hi)
theorem qs_loadrk {kd : IntKind} {a : Addr} {l : List Int} {i : Nat} (hr : Rd b S a (ks kd l)) (hu : P.underlying t = some (.int kd)) (hx : ev env x = .pointer (some (a.add i))) (hi : i < l.length) :
    QS P (O (.load t x) ty) env b S (.int kd (l.getD i 0)) := qs_loadR hr hu rfl hx (ks_get hi)
theorem j_storek {kd : IntKind} {g i : Nat} {ws : List Int} {z : Int} {e : TypeId} (k : Nat) (hz : (P.info? t).map (·.size) = some 1) (hx : ev env x = .pointer (some ⟨g, i, none⟩)) (hy : ev env y = .int kd z)
    (hk : S[k]? = some [(g, .cells (ks kd ws).toArray e (0, 0))]) (hi : i < ws.length) (h : J P R T (undef :: env) (S.set k [(g, .cells (ks kd (ws.set i z)).toArray e (0, 0))]) b B) : J P R (.op (O (.store t x y) ty) T) env S b B := by
  refine j_store k hz hx hy rfl hk (by rwa [ks_length]) (fun h => by omega) ?_
  rwa [ks_set]
theorem j_storei {g i : Nat} {l : List UInt8} {c : UInt8} {e : TypeId} (k : Nat) (hz : (P.info? t).map (·.size) = some 1) (hx : ev env x = .pointer (some ⟨g, i, none⟩)) (hy : ev env y = .int .u8 (c.toNat : Int))
    (hk : S[k]? = some [(g, .cells (ints l).toArray e (0, 0))]) (hi : i < l.length) (h : J P R T (undef :: env) (S.set k [(g, .cells (ints (l.set i c)).toArray e (0, 0))]) b B) : J P R (.op (O (.store t x y) ty) T) env S b B := by
  refine j_store k hz hx hy rfl hk (by rwa [ints_length]) (fun h => by omega) ?_
  rwa [ints_set]
theorem qs_ixvk {e : TypeId} {n : Nat} {kd : IntKind} {ws : List Int} {k : IntKind} {m : Int} (ht : P.underlying t = some (.array n e)) (hu : P.underlying e = some (.int kd)) (hz : (P.info? e).map (·.size) = some 1) (hx : ev env x = .agg (ks kd ws).toArray) (hy : ev env y = .int k m) (h : 0 ≤ m ∧ m < n) (hl : ws.length = n) :
    QS P (O (.index t x y) ty) env b S (.int kd (ws.getD m.toNat 0)) := qs_ixv ht hu rfl hx hz hy h (ks_get (by omega))
theorem qs_ixvi {e : TypeId} {n : Nat} {l : List UInt8} {k : IntKind} {m : Int} (ht : P.underlying t = some (.array n e)) (hu : P.underlying e = some (.int .u8)) (hz : (P.info? e).map (·.size) = some 1) (hx : ev env x = .agg (ints l).toArray) (hy : ev env y = .int k m) (h : 0 ≤ m ∧ m < n) (hl : l.length = n) :
    QS P (O (.index t x y) ty) env b S (.int .u8 ((l.getD m.toNat 0).toNat : Int)) := qs_ixv ht hu rfl hx hz hy h (ints_get_lt (by omega))
end
/-- a quotient in a kind that holds it -/
theorem qs_quou {t t' : TypeId} {x y : Operand} {k : IntKind} {m n : Int} (hx : ev env x = .int k m) (hy : ev env y = .int k n) (h0 : 0 ≤ m) (h1 : 0 < n) (hw : k.wrap (m / n) = m / n) : QS P (O (.binOp .quo t x y t') ty) env b S (.int k (m / n)) := by
  have := qs_quo (P := P) (b := b) (S := S) (t := t) (t' := t') (ty := ty) hx hy (by omega)
  rw [Int.tdiv_eq_ediv_of_nonneg h0] at this
  rwa [hw] at this
theorem wrap8_div (c : UInt8) (n : Int) (hn : 0 < n) : IntKind.u8.wrap ((c.toNat : Int) / n) = (c.toNat : Int) / n := by
  have h1 := c.toNat_lt
  have h2 : (c.toNat : Int) / n ≤ c.toNat := Int.ediv_le_self _ (by omega)
  have h3 : 0 ≤ (c.toNat : Int) / n := Int.ediv_nonneg (by omega) (by omega)
  rw [IntKind.wrap_u8]
  omega
theorem ints_rep (n : Nat) : zeros [.int .u8 0] n = ints (List.replicate n 0) := by
  rw [zeros_one]; simp [ints]
/-- cells of a world -/
def Cells (w : World) (a : Addr) (vs : List Value) : Prop := ∀ j u, vs[j]? = some u → w.cell? (a.add j) = some u
theorem rd_cells {a : Addr} {vs : List Value} (h : Cells b.w0 a vs) (hD : a.block ∉ b.D) : Rd b S a vs := rd_ro h hD
theorem rd_w {a : Addr} {vs : List Value} (h : Rd b S a vs) {w : World} (hw : Sig b S w) : Cells w a vs := h w hw
/-- a load out of a row that can be read from its first cell on -/
theorem qs_loadro {t : TypeId} {x : Operand} {kd : IntKind} {g i : Nat} {l : List Int} (hr : Rd b S ⟨g, 0, none⟩ (ks kd l)) (hu : P.underlying t = some (.int kd)) (hx : ev env x = .pointer (some ⟨g, i, none⟩)) (hi : i < l.length) :
    QS P (O (.load t x) ty) env b S (.int kd (l.getD i 0)) := qs_loadrk (i := i) hr hu (by rw [hx, add_off, Nat.zero_add]) hi
theorem qs_loadro8 {t : TypeId} {x : Operand} {g i : Nat} {l : List UInt8} (hr : Rd b S ⟨g, 0, none⟩ (ints l)) (hu : P.underlying t = some (.int .u8)) (hx : ev env x = .pointer (some ⟨g, i, none⟩)) (hi : i < l.length) :
    QS P (O (.load t x) ty) env b S (.int .u8 ((l.getD i 0).toNat : Int)) := qs_loadr8 (i := i) hr hu (by rw [hx, add_off, Nat.zero_add]) hi
/-! results that lie in cells -/
theorem rv_agg {t : TypeId} {d : TypeDesc} {g n i : Nat} {l : List Value} {e : TypeId} {fz : Nat × Nat} (k : Nat) (hu : P.underlying t = some d) (hd : flat d = false) (hz : (P.info? t).map (·.size) = some n) (hx : env.getD i undef = .pointer (some ⟨g, 0, none⟩))
    (hk : S[k]? = some [(g, .cells l.toArray e fz)]) (hl : l.length = n) {w : World} (hw : Sig b S w) : rvW P env w (.cell i t) (.agg l.toArray) := by
  refine ⟨_, hx, run_loadVar_agg hu hd hz hl fun j hj => ?_⟩
  rw [cell_of (hw.at_ hk), Nat.zero_add]
theorem rv_flat {t : TypeId} {d : TypeDesc} {g j i : Nat} {l : List Value} {e : TypeId} {fz : Nat × Nat} (k : Nat) (hu : P.underlying t = some d) (hd : flat d = true) (hx : env.getD i undef = .pointer (some ⟨g, j, none⟩))
    (hk : S[k]? = some [(g, .cells l.toArray e fz)]) (hl : l[j]? = some v) {w : World} (hw : Sig b S w) : rvW P env w (.cell i t) v := by
  refine ⟨_, hx, run_loadVar_flat hu hd ?_⟩
  rw [cell_of (hw.at_ hk), hl]
/-- what the walk owns but needs no more -/
theorem j_drop {c : SH} (h : J P R T env S b B) : J P R T env (c :: S) b B := j_sub (by simp [List.flatten_cons]) h
theorem j_drop1 {c c1 : SH} (h : J P R T env (c :: S) b B) : J P R T env (c :: c1 :: S) b B := j_sub (by simp [List.flatten_cons]) h
theorem j_drop2 {c c1 c2 : SH} (h : J P R T env (c :: c1 :: S) b B) : J P R T env (c :: c1 :: c2 :: S) b B := j_sub (by simp [List.flatten_cons]) h
theorem Sig.ne {w : World} (hw : Sig b S w) {i j : Nat} {g g' : Nat} {o o' : Obj} {r r' : SH} (hi : S[i]? = some ((g, o) :: r)) (hj : S[j]? = some ((g', o') :: r')) (hij : i ≠ j) : g ≠ g' := by
  obtain ⟨q, h1, h2⟩ := flatten_set hi []
  have hnd := (h1.map Prod.fst).nodup_iff.1 hw.nodup
  rw [List.map_append, List.nodup_append] at hnd
  intro e
  have hm : g' ∈ q.map Prod.fst := by
    have : (g', o') ∈ (S.set i []).flatten := List.mem_flatten.2 ⟨(g', o') :: r', List.mem_of_getElem? (i := j) (by rw [List.getElem?_set_ne hij]; exact hj), by simp⟩
    have := h2.mem_iff.1 this
    rw [List.nil_append] at this
    exact List.mem_map_of_mem (f := Prod.fst) this
  exact hnd.2.2 g (by simp) g' hm e
theorem own_some {e : TypeId} {sz : Nat} {xs : List Value} {v : Value} {c : SH} (h : Own e sz xs v c) (hn : xs ≠ []) : ∃ g n cap, v = .slice (some ⟨g, 0, none⟩) n cap := by
  rcases h with ⟨rfl, rfl, rfl⟩ | ⟨g', n', cap', rest, fz, rfl, rfl, h1, h2, h3, h4⟩
  · exact absurd rfl hn
  · exact ⟨_, _, _, rfl⟩
theorem list_getD_take {l : List Int} {i j : Nat} (h : j < i) : (l.take i).getD j 0 = l.getD j 0 := by
  rw [List.getD_eq_getElem?_getD, List.getElem?_take_of_lt h, ← List.getD_eq_getElem?_getD]
theorem take_set_succ {α : Type} {l : List α} {i : Nat} (h : i < l.length) (x : α) : (l.set i x).take (i + 1) = l.take i ++ [x] := by
  rw [List.take_succ_eq_append_getElem (by simpa using h), List.take_set_of_le (Nat.le_refl _), List.getElem_set_self]
/-! literals -/
def numd : Nat → List Value → List (Nat × Value)
  | _, [] => []
  | k, v :: r => (k, v) :: numd (k + 1) r
theorem fill_seq : ∀ (vs pre suf : List Value), (∀ v ∈ vs, oneV v = true) → vs.length ≤ suf.length → Instr.fill (fun i => some (i * 1, 1)) (pre ++ suf).toArray (numd pre.length vs) = some (pre ++ vs ++ suf.drop vs.length).toArray
  | [], pre, suf, _, _ => by simp [numd, Instr.fill]
  | v :: vs, pre, suf, hv, hl => by
    have hc : v.cells = #[v] := cells_of_one (hv v (by simp))
    have ih := fill_seq vs (pre ++ [v]) (suf.drop 1) (fun u hu => hv u (by simp [hu])) (by simp at hl ⊢; omega)
    simp only [numd, Instr.fill, hc]
    cases suf with
    | nil => simp at hl
    | cons x suf =>
      have h1 : ¬ ((#[v] : Array Value).size ≠ 1 || pre.length * 1 + (#[v] : Array Value).size > (pre ++ x :: suf).toArray.size) = true := by
        simp
      rw [if_neg h1]
      have h2 : (#[v] : Array Value).zipIdx.foldl (fun cs (c, j) => cs.setIfInBounds (pre.length * 1 + j) c) (pre ++ x :: suf).toArray = (pre ++ [v] ++ suf).toArray := by
        simp
      rw [h2]
      simpa using ih
/-- a slice's literal, each of its elements one cell -/
theorem j_lit {t e : TypeId} {n : Nat} {parts : Array (Nat × Operand)} {vs : List Value} {z : Value} (ht : P.underlying t = some (.slice e)) (hz : (P.info? e).map (·.size) = some 1) (h0 : zeroL P e = some [z]) (hp' : parts.toList.map (fun p => (p.1, ev env p.2)) = numd 0 vs) (hv : ∀ v ∈ vs, oneV v = true) (hn : vs.length = n ∧ n ≤ 16777216)
    (h : ∀ g v' c', v' = .slice (some ⟨g, 0, none⟩) n n → c' = [(g, .cells vs.toArray e (0, 0))] → Own e 1 vs v' c' → J P R T (v' :: env) (c' :: S) b B) : J P R (.op (O (.buildSlice t n parts) ty) T) env S b B := fun w hw => by
  obtain ⟨zv, hzv, hrunz⟩ := run_zero_ok h0
  obtain ⟨hn, hn2⟩ := hn
  have hp : (parts.map fun p => (p.1, ev env p.2)).toList = numd 0 vs := by rw [Array.toList_map]; exact hp'
  have hrun : (execOp (ev env) (O (.buildSlice t n parts) ty)).run P w = .ok (.value (.slice (some ⟨w.heap.size, 0, none⟩) n n)) (w.alloc (.cells vs.toArray e)) := by
    have hgt : ¬ (n * 1 > 2 ^ 24) := by omega
    have hf : ∀ zs : Array Value, zs.size = n * 1 → Instr.fill (fun i => some (i * 1, 1)) zs (parts.map fun p => (p.1, ev env p.2)).toList = some vs.toArray := by
      intro zs hzs
      rw [hp]
      have := fill_seq vs [] zs.toList hv (by simp; omega)
      simp only [List.nil_append, List.length_nil, Array.toArray_toList] at this
      rw [this]
      congr 1
      have : zs.toList.drop vs.length = [] := List.drop_of_length_le (by simp; omega)
      rw [this, List.append_nil]
    simp only [O, execOp, Instr.buildSlice, Sem.run_bind, run_underlying_ok ht, Result.andThen_ok, run_sizeOf_ok hz, if_neg hgt]
    by_cases hn0 : n * 1 = 0
    · simp only [if_pos hn0, Sem.run_pure, Result.andThen_ok, Sem.run_bind]
      rw [hf _ (by simp)]
      rfl
    · simp only [if_neg hn0, Sem.run_bind, hrunz, Sem.run_pure, Result.andThen_ok]
      rw [hf _ (by simp)]
      rfl
  show opW _ _ _ _ _ _
  unfold opW
  rw [hrun]
  refine h w.heap.size _ _ rfl rfl (.inr ⟨w.heap.size, n, n, [], (0, 0), rfl, by simp, by omega, by simp; omega, Nat.le_refl _, fun _ _ h => by omega⟩) _ (hw.new (o := .cells vs.toArray e) (w' := w.alloc (.cells vs.toArray e)) rfl rfl rfl rfl).1

/-! equality -/
theorem run_equal {t : TypeId} {x y : Value} {r : Bool} {w : World} (h : ∀ d, (Op.equalIn (d + 1) t x y).run P w = .ok r w) : (Op.equal t x y).run P w = .ok r w := h 9999
theorem run_eq {op : BinOp} {t t' : TypeId} {x y : Operand} {u v : Value} {r : Bool} {w : World} (hop : op = .eql ∨ op = .neq) (hx : ev env x = u) (hy : ev env y = v) (hg : eqGuard op t x y u v = pure ()) (hu : ∀ k m, u ≠ .int k m) (hf : ∀ k m, u ≠ .float k m) (hc : ∀ k m n, u ≠ .complex k m n) (hs : ∀ m, u ≠ .string m)
    (h : ∀ d, (Op.equalIn (d + 1) t u v).run P w = .ok r w) : (execOp (ev env) (O (.binOp op t x y t') ty)).run P w = .ok (.value (.bool (if op = .eql then r else !r))) w := by
  simp only [O, execOp, hx, hy, hg, Sem.run_bind, Sem.run_pure, Result.andThen_ok]
  have he := run_equal h
  have hb : binOp op t u v = (match op with | .eql => (do pure (.bool (← Op.equal t u v))) | _ => (do pure (.bool (!(← Op.equal t u v))))) := by
    rcases hop with rfl | rfl <;> cases u <;> first | rfl | exact absurd rfl (hu _ _) | exact absurd rfl (hf _ _) | exact absurd rfl (hc _ _ _) | exact absurd rfl (hs _)
  rw [hb]
  rcases hop with rfl | rfl <;> simp [Sem.run_bind, he, Sem.run_pure, Result.andThen_ok]
theorem qs_slnil {t t' e : TypeId} {x : Operand} {A : Option Addr} {n c n' c' : Nat} (ht : P.underlying t = some (.slice e)) (hx : ev env x = .slice A n c) : QS P (O (.binOp .eql t x (.const (.slice none n' c')) t') ty) env b S (.bool A.isNone) := qs_run fun w => by
  refine run_eq (r := A.isNone) (.inl rfl) hx rfl (by unfold eqGuard; rfl) (fun _ _ h => by cases h) (fun _ _ h => by cases h) (fun _ _ _ h => by cases h) (fun _ h => by cases h) fun d => ?_
  simp only [Op.equalIn, Sem.run_bind, run_underlying_ok ht, Result.andThen_ok, ev]
  cases A <;> rfl
theorem qs_slnnil {t t' e : TypeId} {x : Operand} {A : Option Addr} {n c n' c' : Nat} (ht : P.underlying t = some (.slice e)) (hx : ev env x = .slice A n c) : QS P (O (.binOp .neq t x (.const (.slice none n' c')) t') ty) env b S (.bool A.isSome) := qs_run fun w => by
  have := run_eq (P := P) (ty := ty) (t := t) (t' := t') (r := A.isNone) (w := w) (.inr rfl) hx (y := .const (.slice none n' c')) rfl (by unfold eqGuard; rfl) (fun _ _ h => by cases h) (fun _ _ h => by cases h) (fun _ _ _ h => by cases h) (fun _ h => by cases h) fun d => by
    simp only [Op.equalIn, Sem.run_bind, run_underlying_ok ht, Result.andThen_ok, ev]
    cases A <;> rfl
  rw [this]
  cases A <;> rfl
theorem qs_beq {t t' : TypeId} {x y : Operand} {m n : Bool} (ht : P.underlying t = some .bool) (hx : ev env x = .bool m) (hy : ev env y = .bool n) : QS P (O (.binOp .eql t x y t') ty) env b S (.bool (m == n)) := qs_run fun w => by
  refine run_eq (r := m == n) (.inl rfl) hx hy (by unfold eqGuard; rfl) (fun _ _ h => by cases h) (fun _ _ h => by cases h) (fun _ _ _ h => by cases h) (fun _ h => by cases h) fun d => ?_
  simp only [Op.equalIn, Sem.run_bind, run_underlying_ok ht, Result.andThen_ok]
  rfl
theorem qs_bne {t t' : TypeId} {x y : Operand} {m n : Bool} (ht : P.underlying t = some .bool) (hx : ev env x = .bool m) (hy : ev env y = .bool n) : QS P (O (.binOp .neq t x y t') ty) env b S (.bool (m != n)) := qs_run fun w => by
  have := run_eq (P := P) (ty := ty) (t := t) (t' := t') (r := m == n) (w := w) (.inr rfl) hx hy (by unfold eqGuard; rfl) (fun _ _ h => by cases h) (fun _ _ h => by cases h) (fun _ _ _ h => by cases h) (fun _ h => by cases h) fun d => by
    simp only [Op.equalIn, Sem.run_bind, run_underlying_ok ht, Result.andThen_ok]
    rfl
  rw [this]
  rfl
end Go.Sx
