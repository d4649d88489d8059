/- Rules for arrays of bytes as keys and as values, for copy, and for structs that are built. -/
import Derived.Test.YtfeabbeebkkhaaaGreatSx14
namespace Go.Sx
open Go Go.MapKept Go.WideMaps Go.Maps
set_option linter.unusedVariables false
set_option linter.unusedSimpArgs false
variable {P : Program} {R : Ending → World → Prop} {env : Env} {b : Base} {S : List SH} {B : JB} {T : Tree} {v : Value} {ty : TypeId}
theorem ints_inj {l m : List UInt8} (h : ints l = ints m) : l = m := by
  have e : ∀ l : List UInt8, (ints l).map (fun v => match v with | .int _ m => by8 m | _ => 0) = l := fun l => by
    simp only [ints, List.map_map]
    conv => rhs; rw [← List.map_id l]
    exact List.map_congr_left fun c _ => by simp only [Function.comp, id]; exact by8_toNat c
  rw [← e l, ← e m, h]
theorem mapM_all {α β : Type} {f : α → Option β} {g : α → β} : ∀ (l : List α), (∀ x ∈ l, f x = some (g x)) → l.mapM f = some (l.map g)
  | [], _ => rfl
  | x :: l, h => by
    rw [List.mapM_cons, h x (by simp), mapM_all l (fun y hy => h y (by simp [hy]))]
    rfl
theorem bytes_key {kt e : TypeId} {n : Nat} (A : ArrKey P kt e n) (he : P.underlying e = some (.int .u8)) (hsz : ∃ m, P.types.size = m + 1) : KeyE P kt (fun l : List UInt8 => Value.agg (ints l).toArray) (fun l => l.length = n) := by
  refine ⟨Keyed.of_law A.law, fun a b h => ints_inj (by injection h with h; simpa using congrArg Array.toList h), fun l hl => ?_⟩
  obtain ⟨m, hm⟩ := hsz
  have hk := A.keyType ⟨m, hm⟩
  have hf : (Value.agg (ints l).toArray).formed P kt = true := by
    unfold Value.formed
    simp only [A.hu, A.size, List.size_toArray, ints_length, hl, beq_self_eq_true]
  have hlits : P.keyLits (P.types.size + 1) kt (Value.agg (ints l).toArray).cells.toList = some ((List.range n).map fun i => [Lit.int .u8 ((l.getD i 0).toNat : Int)]).flatten := by
    have hc : (Value.agg (ints l).toArray).cells.toList = ints l := rfl
    rw [hc, hm]
    unfold Program.keyLits
    simp only [A.hu]
    rw [if_pos (by rw [ints_length, A.size, hl]), mapM_all (g := fun i => [Lit.int .u8 ((l.getD i 0).toNat : Int)])]
    · rfl
    · intro i hi
      rw [List.mem_range] at hi
      rw [A.one, Nat.mul_one]
      have e1 : ((ints l).drop i).take 1 = [.int .u8 ((l.getD i 0).toNat : Int)] := by
        have hi' : i < l.length := by omega
        have h1 := ints_get_lt hi'
        obtain ⟨h2, h3⟩ := List.getElem?_eq_some_iff.1 h1
        rw [List.drop_eq_getElem_cons h2, List.take_succ_cons, h3, List.take_zero]
      rw [e1]
      unfold Program.keyLits
      simp only [he]
      have hw : (Lit.int IntKind.u8 ((l.getD i 0).toNat : Int)).wf = true := by
        have h1 : IntKind.u8.min = 0 := rfl
        have h2 : IntKind.u8.max = 255 := rfl
        have h3 := (l.getD i 0).toNat_lt
        simp only [Lit.wf, h1, h2, Bool.and_eq_true, decide_eq_true_eq]
        constructor <;> omega
      rw [if_pos ⟨trivial, hw⟩]
  have hu := A.hu
  refine ⟨.string (keyBytes ((List.range n).map fun i => [Lit.int .u8 ((l.getD i 0).toNat : Int)]).flatten), ?_⟩
  unfold keyOf
  simp only [hu, hk, hf, Bool.and_self, if_true, hlits, Option.map_some]
/-! equality of arrays of bytes -/
theorem eqItems_ints {e : TypeId} (he : P.underlying e = some (.int .u8)) (hpl : P.plainKey e = true) {l m : List UInt8} (w : World) (d : Nat) : ∀ (is : List Nat), (∀ i ∈ is, i < l.length ∧ i < m.length) →
    (Op.eqItems (d + 1) e 1 (ints l).toArray (ints m).toArray is).run P w = .ok (is.all fun i => l.getD i 0 == m.getD i 0) w
  | [], _ => by simp [Op.eqItems]
  | i :: is, h => by
    have h0 := h i (by simp)
    have p1 := run_part_plain (w := w) hpl (xs := (ints l).toArray) (off := i) (v := .int .u8 ((l.getD i 0).toNat : Int)) (by simpa using ints_get_lt h0.1)
    have p2 := run_part_plain (w := w) hpl (xs := (ints m).toArray) (off := i) (v := .int .u8 ((m.getD i 0).toNat : Int)) (by simpa using ints_get_lt h0.2)
    have p3 : (Op.equalIn (d + 1) e (.int .u8 ((l.getD i 0).toNat : Int)) (.int .u8 ((m.getD i 0).toNat : Int))).run P w = .ok (((l.getD i 0).toNat : Int) == ((m.getD i 0).toNat : Int)) w := by
      simp only [Op.equalIn, Sem.run_bind, run_underlying_ok he, Result.andThen_ok, if_true, Sem.run_pure]
    have hcmp : (((l.getD i 0).toNat : Int) == ((m.getD i 0).toNat : Int)) = (l.getD i 0 == m.getD i 0) := by
      rw [Bool.eq_iff_iff, beq_iff_eq, beq_iff_eq]
      exact ⟨fun h => UInt8.toNat_inj.1 (by omega), fun h => by rw [h]⟩
    have ih := eqItems_ints he hpl (l := l) (m := m) w d is fun j hj => h j (by simp [hj])
    simp only [Op.eqItems, Nat.mul_one, Sem.run_bind, p1, p2, p3, Result.andThen_ok, hcmp, List.all_cons]
    cases hb : (l.getD i 0 == m.getD i 0)
    · simp
    · simpa using ih
theorem run_eqa {t e : TypeId} {n : Nat} (ht : P.underlying t = some (.array n e)) (he : P.underlying e = some (.int .u8)) (hpl : P.plainKey e = true) (hc : P.cellsOf e = 1) {l m : List UInt8} (hl : l.length = n) (hm : m.length = n) (w : World) (d : Nat) :
    (Op.equalIn (d + 2) t (.agg (ints l).toArray) (.agg (ints m).toArray)).run P w = .ok (l == m) w := by
  obtain ⟨i, hi⟩ := info_of_underlying he
  rw [run_equalIn_array w (d + 1) _ _ ht hi, hc, eqItems_ints he hpl w d _ (fun i hi => by rw [List.mem_range] at hi; omega)]
  congr 1
  rw [Bool.eq_iff_iff, List.all_eq_true, beq_iff_eq]
  constructor
  · intro h
    apply List.ext_getElem (by omega)
    intro i h1 h2
    have := h i (by rw [List.mem_range]; omega)
    rw [beq_iff_eq, List.getD_eq_getElem?_getD, List.getD_eq_getElem?_getD, List.getElem?_eq_getElem h1, List.getElem?_eq_getElem h2] at this
    simpa using this
  · rintro rfl i _
    simp
theorem run_eqa_op {op : BinOp} {t t' e : TypeId} {x y : Operand} {n : Nat} (hop : op = .eql ∨ op = .neq) (ht : P.underlying t = some (.array n e)) (he : P.underlying e = some (.int .u8)) (hpl : P.plainKey e = true) (hc : P.cellsOf e = 1) (hgd : P.eqGuardType P.depth t = false) {l m : List UInt8} (hx : ev env x = .agg (ints l).toArray) (hy : ev env y = .agg (ints m).toArray) (hl : l.length = n) (hm : m.length = n) (w : World) :
    (execOp (ev env) (O (.binOp op t x y t') ty)).run P w = .ok (.value (.bool (if op = .eql then l == m else !(l == m)))) w := by
  have hg : ∀ w, (eqGuard op t x y (.agg (ints l).toArray) (.agg (ints m).toArray)).run P w = .ok () w := fun w => by
    unfold eqGuard
    rcases hop with rfl | rfl <;> simp [Sem.run_bind, program, Sem.run, hgd]
  have he' : (Op.equal t (.agg (ints l).toArray) (.agg (ints m).toArray)).run P w = .ok (l == m) w := run_eqa ht he hpl hc hl hm w 9998
  have hb : binOp op t (.agg (ints l).toArray) (.agg (ints m).toArray) = (match op with | .eql => (do pure (.bool (← Op.equal t (.agg (ints l).toArray) (.agg (ints m).toArray)))) | _ => (do pure (.bool (!(← Op.equal t (.agg (ints l).toArray) (.agg (ints m).toArray)))))) := by
    rcases hop with rfl | rfl <;> rfl
  simp only [O, execOp, hx, hy, hg, Sem.run_bind, Sem.run_pure, Result.andThen_ok]
  rw [hb]
  rcases hop with rfl | rfl <;> simp [Sem.run_bind, he', Sem.run_pure, Result.andThen_ok]
theorem qs_aeq {t t' e : TypeId} {x y : Operand} {n : Nat} (ht : P.underlying t = some (.array n e)) (he : P.underlying e = some (.int .u8)) (hpl : P.plainKey e = true) (hc : P.cellsOf e = 1) (hgd : P.eqGuardType P.depth t = false) {l m : List UInt8} (hx : ev env x = .agg (ints l).toArray) (hy : ev env y = .agg (ints m).toArray) (hl : l.length = n) (hm : m.length = n) :
    QS P (O (.binOp .eql t x y t') ty) env b S (.bool (l == m)) := qs_run fun w => run_eqa_op (.inl rfl) ht he hpl hc hgd hx hy hl hm w
theorem qs_ane {t t' e : TypeId} {x y : Operand} {n : Nat} (ht : P.underlying t = some (.array n e)) (he : P.underlying e = some (.int .u8)) (hpl : P.plainKey e = true) (hc : P.cellsOf e = 1) (hgd : P.eqGuardType P.depth t = false) {l m : List UInt8} (hx : ev env x = .agg (ints l).toArray) (hy : ev env y = .agg (ints m).toArray) (hl : l.length = n) (hm : m.length = n) :
    QS P (O (.binOp .neq t x y t') ty) env b S (.bool (!(l == m))) := qs_run fun w => run_eqa_op (.inr rfl) ht he hpl hc hgd hx hy hl hm w
/-! a slice's cells as an array's -/
theorem qs_arrp {t e : TypeId} {x : Operand} {A : Option Addr} {n m c : Nat} (ht : P.underlying t = some (.array n e)) (hx : ev env x = .slice A m c) (h : n ≤ m) : QS P (O (.sliceToArrayPointer t x) ty) env b S (.pointer A) := qs_run fun w => by
  simp only [O, execOp, hx, Instr.arrayAt, Sem.run_bind, run_underlying_ok ht, Result.andThen_ok, if_neg (Nat.not_lt.2 h), Sem.run_pure]
theorem qs_loadwR {t : TypeId} {d : TypeDesc} {x : Operand} {g off n : Nat} {vs : List Value} (hr : Rd b S ⟨g, off, none⟩ vs) (hu : P.underlying t = some d) (hd : flat d = false) (hz : (P.info? t).map (·.size) = some n) (hx : ev env x = .pointer (some ⟨g, off, none⟩)) (hl : vs.length = n) : QS P (O (.load t x) ty) env b S (.agg vs.toArray) := qs_val fun w hw => by
  have h := run_loadVar_agg hu hd hz (g := g) (off := off) (w := w) hl (fun j hj => by
    obtain ⟨u, hu⟩ : ∃ u, vs[j]? = some u := ⟨vs[j]'(by omega), List.getElem?_eq_getElem (by omega)⟩
    have := hr w hw j u hu
    rw [add_off] at this
    rw [this, hu])
  simp only [O, execOp, hx, Instr.loadAt, Instr.sureAddr, Sem.run_bind, Sem.run_pure, Result.andThen_ok, h]
/-! copy -/
theorem run_firstsN {m n : Nat} {y : Value} {news : List Value} (h : Src b S 1 y m news) (hn : n ≤ m) {w : World} (hw : Sig b S w) : (Builtin.firstCells 1 n y).run P w = .ok (news.take n).toArray w := by
  rcases h with ⟨a, c, rfl, hr, hl⟩ | ⟨c, rfl, rfl, rfl⟩ | ⟨l, rfl, _, rfl, rfl⟩
  · refine run_firstCells_some w 1 n a m c (news.take n) (by rw [List.length_take, hl]; omega) (fun j u hu => ?_)
    rw [List.getElem?_take] at hu
    split at hu
    · exact hr w hw j u hu
    · cases hu
  · obtain rfl : n = 0 := by omega
    simp only [Builtin.firstCells, Sem.run_pure, List.take_nil]
  · simp only [Builtin.firstCells, Sem.run_pure, bs_extract]
    congr 1
    apply Array.ext'
    simp [ints, bs]
/-- copy into a row of one's own -/
theorem j_copy {t t' e : TypeId} {x y : Operand} {g off dn dc m : Nat} {l news : List Value} {e' : TypeId} {fz : Nat × Nat} (k : Nat) (ht : P.underlying t = some (.slice e)) (hz : (P.info? e).map (·.size) = some 1) (hx : ev env x = .slice (some ⟨g, off, none⟩) dn dc) (hy : Src b S 1 (ev env y) m news) (hk : S[k]? = some [(g, .cells l.toArray e' fz)])
    (hone : ∀ u ∈ news, oneV u = true) (hi : off + dn ≤ l.length) (hf : ∀ j, off ≤ j → j < off + dn → ¬ (fz.1 ≤ j ∧ j < fz.2))
    (h : J P R T (.int .i64 (min m dn : Nat) :: env) (S.set k [(g, .cells (l.take off ++ news.take (min m dn) ++ l.drop (off + min m dn)).toArray e' fz)]) b B) :
    J P R (.op (O (.call ⟨.builtin .copy, #[x, y], #[t, t']⟩) ty) T) env S b B := fun w hw => by
  have hg := hw.at_ hk
  have hml := src_len hy
  rw [Nat.mul_one] at hml
  have hsize : ∀ w, (sizeOf e).run P w = .ok 1 w := run_sizeOf_ok hz
  have hlen : (news.take (min m dn)).length = min m dn := by rw [List.length_take]; omega
  obtain ⟨w', e1, e2, e3, e4, e5, e6, e7⟩ := run_storeCells_ok (P := P) (news.take (min m dn)) off 0 l w hg (by rw [hlen]; omega) (fun j h1 h2 => hf j (by omega) (by rw [hlen] at h2; omega)) (fun v hv => hone v (List.mem_of_mem_take hv))
  have hfc := run_firstsN (P := P) (n := min m dn) hy (by omega) hw
  have hmin : Nat.min m dn = min m dn := rfl
  have hrun : (execOp (ev env) (O (.call ⟨.builtin .copy, #[x, y], #[t, t']⟩) ty)).run P w = .ok (.value (.int .i64 (min m dn : Nat))) w' := by
    simp [O, execOp, resolve, invoke, builtin, Sem.run_bind, Sem.run_pure, Result.andThen_ok, hx, Builtin.copy_, run_underlying_ok ht, run_lenOf hy, hsize, hmin, hfc]
    simp only [e1, Result.andThen_ok]
    rfl
  show opW _ _ _ _ _ _
  unfold opW
  rw [hrun]
  refine h _ (hw.set hk e2 e3 e4 e5 ?_ e7)
  rw [e6, hlen]
  simp
/-! structs that are built -/
/-- cells laid over others -/
def putAt (l : List Value) (off : Nat) (vs : List Value) : List Value := l.take off ++ vs ++ l.drop (off + vs.length)
theorem putAt_length {l vs : List Value} {off : Nat} (h : off + vs.length ≤ l.length) : (putAt l off vs).length = l.length := by
  simp only [putAt, List.length_append, List.length_take, List.length_drop]; omega
theorem fold_put : ∀ (vs : List Value) (i off : Nat) (l : List Value), off + i + vs.length ≤ l.length →
    (vs.zipIdx i).foldl (fun cs (p : Value × Nat) => Array.setIfInBounds cs (off + p.2) p.1) l.toArray = (putAt l (off + i) vs).toArray
  | [], i, off, l, _ => by simp [putAt]
  | v :: vs, i, off, l, h => by
    simp only [List.length_cons] at h
    rw [List.zipIdx_cons, List.foldl_cons]
    have e1 : Array.setIfInBounds l.toArray (off + i) v = (l.set (off + i) v).toArray := by apply Array.ext'; simp
    simp only [e1]
    rw [fold_put vs (i + 1) off (l.set (off + i) v) (by simp; omega)]
    congr 1
    unfold putAt
    rw [show off + (i + 1) = off + i + 1 by omega, take_set_succ (by omega), List.drop_set_of_lt (by omega)]
    simp only [List.length_cons, List.append_assoc, List.singleton_append]
    congr 3
    omega
theorem fill_put {place : Nat → Option (Nat × Nat)} : ∀ (parts : List (Nat × Value)) (offs : List (Nat × List Value)) (l : List Value), offs.length = parts.length → (∀ (j : Nat) (p : Nat × Value) (q : Nat × List Value), parts[j]? = some p → offs[j]? = some q → place p.1 = some (q.1, q.2.length) ∧ p.2.cells = q.2.toArray ∧ q.1 + q.2.length ≤ l.length) →
    Instr.fill place l.toArray parts = some (offs.foldl (fun l q => putAt l q.1 q.2) l).toArray
  | [], [], l, _, _ => by simp [Instr.fill]
  | p :: parts, q :: offs, l, hl, h => by
    obtain ⟨h1, h2, h3⟩ := h 0 p q rfl rfl
    obtain ⟨i, v⟩ := p
    simp only at h1 h2
    unfold Instr.fill
    simp only [h1, h2, List.size_toArray, ne_eq, not_true_eq_false, decide_false, Bool.false_or]
    rw [if_neg (by simp; omega)]
    have e1 : (q.2.toArray.zipIdx.foldl (fun cs x => match x with | (c, j) => Array.setIfInBounds cs (q.1 + j) c) l.toArray) = (putAt l q.1 q.2).toArray := by
      have := fold_put q.2 0 q.1 l (by simpa using h3)
      rw [Nat.add_zero] at this
      rw [← this, ← Array.foldl_toList, Array.toList_zipIdx]
    rw [e1]
    have hl2 := putAt_length h3
    refine fill_put parts offs (putAt l q.1 q.2) (by simpa using hl) fun j p' q' hp hq => ?_
    rw [hl2]
    exact h (j + 1) p' q' hp hq
  | [], _ :: _, _, hl, _ => by simp at hl
  | _ :: _, [], _, hl, _ => by simp at hl
theorem qs_build {t : TypeId} {fs : Array Field} {parts : Array (Nat × Operand)} {places : List (Nat × Nat)} {offs : List (Nat × List Value)} {z : List Value} (ht : P.underlying t = some (.struct fs)) (h0 : zeroL P t = some z) (hpl : fs.toList.mapM (fun f => (P.info? f.type).map fun i => (f.offset, i.size)) = some places)
    (hlen : offs.length = parts.toList.length) (h : ∀ (j : Nat) (p : Nat × Operand) (q : Nat × List Value), parts.toList[j]? = some p → offs[j]? = some q → places[p.1]? = some (q.1, q.2.length) ∧ (ev env p.2).cells = q.2.toArray ∧ q.1 + q.2.length ≤ z.length) :
    QS P (O (.build t parts) ty) env b S (.agg (offs.foldl (fun l q => putAt l q.1 q.2) z).toArray) := qs_run fun w => by
  obtain ⟨zv, hzv, hrunz⟩ := run_zero_ok h0
  have hm : ∀ (l : List Field) (pl : List (Nat × Nat)), l.mapM (fun f => (P.info? f.type).map fun i => (f.offset, i.size)) = some pl → (l.mapM (fun f => do pure (f.offset, ← sizeOf f.type) : Field → Sem (Nat × Nat))).run P w = .ok pl w := by
    intro l
    induction l with
    | nil => intro pl h; simp at h; subst h; rfl
    | cons f l ih =>
      intro pl h
      rw [List.mapM_cons] at h ⊢
      simp only [bind, Option.bind_eq_some_iff, pure, Option.some.injEq] at h
      obtain ⟨a, ha, l', hl', rfl⟩ := h
      obtain ⟨i, hi, rfl⟩ := Option.map_eq_some_iff.1 ha
      have hs : (sizeOf f.type).run P w = .ok i.size w := run_sizeOf_ok (by rw [hi]; rfl) w
      simp only [Sem.run_bind, hs, Result.andThen_ok, Sem.run_pure, ih l' hl']
  have hfill := fill_put (place := (places.toArray[·]?)) (parts.toList.map fun p => (p.1, ev env p.2)) offs z (by simpa using hlen) fun j p q hp hq => by
    rw [List.getElem?_map] at hp
    obtain ⟨p', hp', rfl⟩ := Option.map_eq_some_iff.1 hp
    obtain ⟨h1, h2, h3⟩ := h j p' q hp' hq
    exact ⟨by simpa using h1, h2, h3⟩
  have hmA : (fs.mapM (fun f => do pure (f.offset, ← sizeOf f.type) : Field → Sem (Nat × Nat))).run P w = .ok places.toArray w := by
    have e : fs.mapM (fun f => do pure (f.offset, ← sizeOf f.type) : Field → Sem (Nat × Nat)) = List.toArray <$> fs.toList.mapM (fun f => do pure (f.offset, ← sizeOf f.type) : Field → Sem (Nat × Nat)) := by rw [← List.mapM_toArray, Array.toArray_toList]
    rw [e, map_eq_pure_bind, Sem.run_bind, hm _ _ hpl]
    rfl
  have hparts : (parts.map fun x => match x with | (i, x) => (i, ev env x)).toList = parts.toList.map fun p => (p.1, ev env p.2) := by simp
  simp only [O, execOp, Instr.build, Sem.run_bind, hrunz, Result.andThen_ok, run_underlying_ok ht, hmA, hzv, hparts, hfill, Sem.run_pure]
theorem Con.mono {f : FuncId} {args : List Value} {w : World} {Fp : SH} {post post' : Value → List SH → Prop} (h : Con P f args w Fp post) (hp : ∀ v S', post v S' → post' v S') : Con P f args w Fp post' := fun h1 h2 => by
  refine (h h1 h2).mono ?_
  rintro e w' ⟨v, S', rfl, h3, hS⟩
  exact ⟨v, S', rfl, hp _ _ h3, hS⟩
theorem con_calls {f : FuncId} {args : List Value} {w : World} {post : Value → List SH → Prop} (h : Calls P f args.toArray w fun e w' => ∃ v S', e = .returned v ∧ post v S' ∧ Sig ⟨w, dom []⟩ S' w') : Con P f args w [] post := fun _ _ => h
end Go.Sx
