/- Rules for maps. -/
import Derived.Test.YtfeabbeebkkhaaaGreatSx13
import Derived.Maps.Keyed
import Derived.WideKeyArr
import Derived.Sort.KeysCollected
namespace Go.Sx
open Go Go.MapKept Go.WideMaps Go.Maps
set_option linter.unusedVariables false
set_option linter.unusedSimpArgs false
set_option linter.unusedSectionVars false
variable {P : Program} {R : Ending → World → Prop} {env : Env} {b : Base} {S : List SH} {B : JB} {T : Tree} {v : Value} {ty : TypeId}
theorem getObj_map {w : World} {r : Nat} {es : Array MapEntry} {clock : Nat} (hb : w.heap[r]? = some (.map es clock)) : (getObj r).run P w = .ok (.map es clock) w := by
  simp [getObj, Sem.run, hb]
theorem setObj_map {w : World} {r : Nat} {es : Array MapEntry} {clock : Nat} (o : Obj) (hb : w.heap[r]? = some (.map es clock)) : (setObj r o).run P w = .ok () { w with heap := w.heap.setIfInBounds r o } := by
  simp [setObj, Sem.run, hb]
theorem nodup_inj {α : Type} {l : List α} (h : l.Nodup) {i j : Nat} {a : α} (hi : l[i]? = some a) (hj : l[j]? = some a) : i = j := by
  obtain ⟨hi1, hi2⟩ := List.getElem?_eq_some_iff.1 hi
  obtain ⟨hj1, hj2⟩ := List.getElem?_eq_some_iff.1 hj
  rcases Nat.lt_trichotomy i j with h1 | h1 | h1
  · exact absurd (hi2.trans hj2.symm) (List.pairwise_iff_getElem.1 h i j hi1 hj1 h1)
  · exact h1
  · exact absurd (hj2.trans hi2.symm) (List.pairwise_iff_getElem.1 h j i hj1 hi1 h1)
/-- keys as a walk names them -/
structure KeyE (P : Program) (kt : TypeId) {κ : Type} (enc : κ → Value) (ok : κ → Prop) : Prop where
  keyed : Keyed P kt
  inj : ∀ a b, enc a = enc b → a = b
  lit : ∀ k, ok k → ∃ l, keyOf P kt (enc k) = some l
/-- what a map's block holds, in some order -/
structure MapOk {κ : Type} (enc : κ → Value) (ok : κ → Prop) (es : Array MapEntry) (clock : Nat) (m : List (κ × Value)) : Prop where
  ents : es.toList.map (fun e => (e.key, e.val)) = m.map (fun p => (enc p.1, p.2))
  stamped : Stamped es clock
  keys : ∀ p ∈ m, ok p.1
section
variable {κ : Type} [DecidableEq κ] {enc : κ → Value} {ok : κ → Prop} {es : Array MapEntry} {clock : Nat} {m : List (κ × Value)} {kt : TypeId}
def mlook (m : List (κ × Value)) (k : κ) : Option Value := (m.find? (fun p => decide (p.1 = k))).map (·.2)
def mput (m : List (κ × Value)) (k : κ) (v : Value) : List (κ × Value) := m.map fun p => if p.1 = k then (p.1, v) else p
def mset (m : List (κ × Value)) (k : κ) (v : Value) : List (κ × Value) := if (mlook m k).isSome then mput m k v else m ++ [(k, v)]
/-- an entry is there, at least -/
def ment (m : List (κ × Value)) (k : κ) (z : Value) : List (κ × Value) := if (mlook m k).isSome then m else m ++ [(k, z)]
theorem mlook_mem : ∀ {m : List (κ × Value)} {k : κ} {v : Value}, (m.map Prod.fst).Nodup → (k, v) ∈ m → mlook m k = some v
  | p :: m, k, v, hn, h => by
    rw [List.map_cons, List.nodup_cons] at hn
    rcases List.mem_cons.1 h with rfl | h
    · simp [mlook]
    · have hne : p.1 ≠ k := fun e => hn.1 (by rw [e]; exact List.mem_map_of_mem (f := Prod.fst) h)
      have := mlook_mem hn.2 h
      unfold mlook at this ⊢
      rw [List.find?_cons_of_neg (by simpa using hne)]
      exact this
theorem mlook_some {m : List (κ × Value)} {k : κ} {v : Value} (h : mlook m k = some v) : (k, v) ∈ m := by
  unfold mlook at h
  obtain ⟨p, hp, rfl⟩ := Option.map_eq_some_iff.1 h
  have h1 := List.mem_of_find?_eq_some hp
  have h2 := List.find?_some hp
  simp only [decide_eq_true_eq] at h2
  subst h2
  exact h1
theorem mlook_none {m : List (κ × Value)} {k : κ} : mlook m k = none ↔ ∀ p ∈ m, p.1 ≠ k := by
  unfold mlook
  rw [Option.map_eq_none_iff, List.find?_eq_none]
  simp
theorem MapOk.get (h : MapOk enc ok es clock m) (j : Nat) : (es[j]?).map (fun e => (e.key, e.val)) = (m[j]?).map (fun p => (enc p.1, p.2)) := by
  have := congrArg (fun l => l[j]?) h.ents
  simpa using this
theorem MapOk.nodup (h : MapOk enc ok es clock m) : (m.map Prod.fst).Nodup := by
  have h1 := h.stamped.2.2
  have h2 : es.toList.map (·.key) = m.map (fun p => enc p.1) := by
    have := congrArg (List.map Prod.fst) h.ents
    simpa [List.map_map, Function.comp_def] using this
  rw [h2] at h1
  unfold List.Nodup at h1 ⊢
  rw [List.pairwise_map] at h1 ⊢
  exact h1.imp fun hne e => hne (by rw [e])
theorem MapOk.size (h : MapOk enc ok es clock m) : es.size = m.length := by
  have := congrArg List.length h.ents
  simpa using this
theorem mapOk_nil : MapOk enc ok #[] 0 ([] : List (κ × Value)) := ⟨rfl, ⟨by simp, by simp, by simp⟩, by simp⟩
theorem find_cases (KE : KeyE P kt enc ok) (h : MapOk enc ok es clock m) {k : κ} (hk : ok k) (w : World) :
    ((Instr.findKey kt (enc k) es.toList).run P w = .ok none w ∧ mlook m k = none) ∨
    ∃ j e, (Instr.findKey kt (enc k) es.toList).run P w = .ok (some (j, e.val)) w ∧ es[j]? = some e ∧ e.key = enc k ∧ m[j]? = some (k, e.val) ∧ mlook m k = some e.val := by
  obtain ⟨lx, hlx⟩ := KE.lit k hk
  have hes : ∀ e ∈ es.toList, ∃ l, keyOf P kt e.key = some l := fun e he => by
    have : (e.key, e.val) ∈ m.map (fun p => (enc p.1, p.2)) := by rw [← h.ents]; exact List.mem_map_of_mem (f := fun e : MapEntry => (e.key, e.val)) he
    obtain ⟨p, hp, e1⟩ := List.mem_map.1 this
    injection e1 with e1 e2
    obtain ⟨l, hl⟩ := KE.lit p.1 (h.keys p hp)
    exact ⟨l, by rw [← e1]; exact hl⟩
  rcases KE.keyed.find w hlx es.toList hes with ⟨h1, h2⟩ | ⟨j, e, h1, h2, h3⟩
  · refine .inl ⟨h1, mlook_none.2 fun p hp e => ?_⟩
    have : (enc p.1, p.2) ∈ es.toList.map (fun e => (e.key, e.val)) := by rw [h.ents]; exact List.mem_map_of_mem (f := fun p : κ × Value => (enc p.1, p.2)) hp
    obtain ⟨x, hx, e1⟩ := List.mem_map.1 this
    injection e1 with e1 e2
    exact h2 x hx (by rw [e1, e])
  · have h2' : es[j]? = some e := by simpa using h2
    have hg := h.get j
    rw [h2', Option.map_some] at hg
    obtain ⟨p, hp, e1⟩ := Option.map_eq_some_iff.1 hg.symm
    injection e1 with e1 e2
    have hpk : p.1 = k := KE.inj _ _ (by rw [e1, h3])
    have hp' : p = (k, e.val) := by rw [← hpk, ← e2]
    rw [hp'] at hp
    exact .inr ⟨j, e, h1, h2', h3, hp, mlook_mem h.nodup (List.mem_of_getElem? hp)⟩
theorem mput_keys (m : List (κ × Value)) (k : κ) (v : Value) : (mput m k v).map Prod.fst = m.map Prod.fst := by
  simp only [mput, List.map_map]
  refine List.map_congr_left fun p _ => ?_
  simp only [Function.comp]
  split <;> rfl
/-- an entry turns -/
theorem MapOk.modify (h : MapOk enc ok es clock m) {k : κ} {j : Nat} {e : MapEntry} (hj : es[j]? = some e) (hkey : e.key = enc k) (hm : m[j]? = some (k, e.val)) (v : Value) (f : MapEntry → MapEntry) (hf : f e = { e with val := v }) : MapOk enc ok (es.modify j f) clock (mput m k v) := by
  have hjlt := (Array.getElem?_eq_some_iff.1 hj).1
  have hl : (es.modify j f).toList = es.toList.set j { e with val := v } := by
    apply List.ext_getElem?
    intro i
    simp only [Array.getElem?_toList, Array.getElem?_modify, List.getElem?_set]
    by_cases hij : j = i
    · subst hij
      rw [if_pos rfl, if_pos rfl, hj, if_pos (by simpa using hjlt), Option.map_some, hf]
    · rw [if_neg hij, if_neg hij]
  have hkeys : (es.modify j f).toList.map (·.key) = es.toList.map (·.key) := by
    rw [hl, List.map_set]
    have hj' : (es.toList.map (·.key))[j]? = some e.key := by simp [hj]
    obtain ⟨h1, h2⟩ := List.getElem?_eq_some_iff.1 hj'
    have := List.set_getElem_self h1
    rwa [h2] at this
  have hborn : (es.modify j f).toList.map (·.born) = es.toList.map (·.born) := by
    rw [hl, List.map_set]
    have hj' : (es.toList.map (·.born))[j]? = some e.born := by simp [hj]
    obtain ⟨h1, h2⟩ := List.getElem?_eq_some_iff.1 hj'
    have := List.set_getElem_self h1
    rwa [h2] at this
  refine ⟨?_, ⟨fun x hx => ?_, by rw [hborn]; exact h.stamped.2.1, by rw [hkeys]; exact h.stamped.2.2⟩, fun p hp => ?_⟩
  · rw [hl, List.map_set, h.ents]
    apply List.ext_getElem?
    intro i
    simp only [List.getElem?_set, mput, List.map_map, List.getElem?_map, List.length_map]
    by_cases hij : j = i
    · subst hij
      rw [if_pos rfl, hm, if_pos (List.getElem?_eq_some_iff.1 hm).1]
      simp [hkey]
    · rw [if_neg hij]
      cases hi : m[i]? with
      | none => rfl
      | some p =>
        simp only [Option.map_some, Function.comp]
        rw [if_neg]
        intro e1
        have hn := h.nodup
        exact hij (nodup_inj hn (i := j) (j := i) (a := k) (by simp [hm]) (by simp [hi, e1]))
  · have : x.born ∈ (es.modify j f).toList.map (·.born) := List.mem_map_of_mem (f := (·.born)) hx
    rw [hborn] at this
    obtain ⟨y, hy, e1⟩ := List.mem_map.1 this
    rw [← e1]
    exact h.stamped.1 y hy
  · have : p.1 ∈ (mput m k v).map Prod.fst := List.mem_map_of_mem (f := Prod.fst) hp
    rw [mput_keys] at this
    obtain ⟨q, hq, e1⟩ := List.mem_map.1 this
    rw [← e1]
    exact h.keys q hq
/-- a new entry -/
theorem MapOk.push (h : MapOk enc ok es clock m) (hinj : ∀ a b, enc a = enc b → a = b) {k : κ} (hk : ok k) (hno : mlook m k = none) (v : Value) : MapOk enc ok (es.push ⟨enc k, v, clock⟩) (clock + 1) (m ++ [(k, v)]) := by
  have hno := mlook_none.1 hno
  refine ⟨by simp [h.ents], ⟨fun x hx => ?_, ?_, ?_⟩, fun p hp => ?_⟩
  · simp only [Array.toList_push, List.mem_append, List.mem_singleton] at hx
    rcases hx with hx | rfl
    · have := h.stamped.1 x hx; omega
    · simp
  · simp only [Array.toList_push, List.map_append, List.map_cons, List.map_nil]
    rw [List.nodup_append]
    refine ⟨h.stamped.2.1, by simp, fun a ha c hc => ?_⟩
    obtain ⟨y, hy, rfl⟩ := List.mem_map.1 ha
    rw [List.mem_singleton] at hc
    subst hc
    have := h.stamped.1 y hy
    omega
  · simp only [Array.toList_push, List.map_append, List.map_cons, List.map_nil]
    rw [List.nodup_append]
    refine ⟨h.stamped.2.2, by simp, fun a ha c hc => ?_⟩
    obtain ⟨y, hy, rfl⟩ := List.mem_map.1 ha
    rw [List.mem_singleton] at hc
    subst hc
    intro e1
    have : (y.key, y.val) ∈ m.map (fun p => (enc p.1, p.2)) := by rw [← h.ents]; exact List.mem_map_of_mem (f := fun e : MapEntry => (e.key, e.val)) hy
    obtain ⟨p, hp, e2⟩ := List.mem_map.1 this
    injection e2 with e2 e3
    exact hno p hp (hinj _ _ (by rw [e2, e1]))
  · rcases List.mem_append.1 hp with hp | hp
    · exact h.keys p hp
    · rw [List.mem_singleton] at hp
      rw [hp]
      exact hk
theorem Sig.map_at {w : World} (hw : Sig b S w) {k g : Nat} (hk : S[k]? = some [(g, .map es clock)]) : w.heap[g]? = some (.map es clock) := hw.at_ hk
theorem run_zeroV {t : TypeId} {z : Value} (h : (P.info? t).bind (·.zero) = some z) (w : World) : (zeroValue t).run P w = .ok z w := by
  cases hi : P.info? t with
  | none => simp [hi] at h
  | some i =>
    rw [hi] at h
    simp only [Option.bind_some] at h
    simp only [zeroValue, typeInfo, program, Sem.run_bind, Sem.run, Result.andThen_ok, hi, h]
    simp only [Sem.run_pure, Result.andThen_ok, h]
theorem j_mkmap {t : TypeId} (h : ∀ g, b.w0.heap.size ≤ g → J P R T (.map (some g) :: env) ([(g, .map #[] 0)] :: S) b B) : J P R (.op (O (.makeMap t none) ty) T) env S b B := fun w hw => by
  have hrun : (execOp (ev env) (O (.makeMap t none) ty)).run P w = .ok (.value (.map (some w.heap.size))) { w with heap := w.heap.push (.map #[] 0) } := by
    simp only [O, execOp, Option.map_none, Instr.makeMap, Sem.run_bind, Sem.run_pure, Result.andThen_ok, newObj, Sem.run]
  show opW _ _ _ _ _ _
  unfold opW
  rw [hrun]
  obtain ⟨h1, h2, h3⟩ := hw.new (o := .map #[] 0) (w' := { w with heap := w.heap.push (.map #[] 0) }) rfl rfl rfl rfl
  exact h _ h3 _ h1
theorem run_lookup_ok (KE : KeyE P kt enc ok) {t vt : TypeId} {g : Nat} {k : κ} {z : Value} (ht : P.underlying t = some (.map kt vt)) (hz : (P.info? vt).bind (·.zero) = some z) (hm : MapOk enc ok es clock m) (hk : ok k) {w : World} (hg : w.heap[g]? = some (.map es clock)) (c : Bool) :
    (Instr.lookup t (.map (some g)) (enc k) c).run P w = .ok (if c then .tuple #[(mlook m k).getD z, .bool (mlook m k).isSome] else (mlook m k).getD z) w := by
  obtain ⟨l, hl⟩ := KE.lit k hk
  have hck := fun em => KE.keyed.check w em hl
  rcases find_cases KE hm hk w with ⟨h1, h2⟩ | ⟨j, e, h1, _, _, _, h2⟩
  · simp only [Instr.lookup, Sem.run_bind, run_underlying_ok ht, Result.andThen_ok, getObj_map hg, Sem.run_pure, hck, h1, run_zeroV hz, h2]
    cases c <;> rfl
  · simp only [Instr.lookup, Sem.run_bind, run_underlying_ok ht, Result.andThen_ok, getObj_map hg, Sem.run_pure, hck, h1, h2]
    cases c <;> rfl
theorem qs_lookup (KE : KeyE P kt enc ok) {t vt : TypeId} {x y : Operand} {g : Nat} {key : κ} {z : Value} (k : Nat) (ht : P.underlying t = some (.map kt vt)) (hz : (P.info? vt).bind (·.zero) = some z) (hx : ev env x = .map (some g)) (hy : ev env y = enc key) (hk : S[k]? = some [(g, .map es clock)]) (hm : MapOk enc ok es clock m) (hok : ok key) :
    QS P (O (.lookup t x y false) ty) env b S ((mlook m key).getD z) := qs_val fun w hw => by
  simp only [O, execOp, hx, hy, Sem.run_bind, run_lookup_ok KE ht hz hm hok (hw.map_at hk) false, Result.andThen_ok, Sem.run_pure]
  rfl
theorem qs_lookup2 (KE : KeyE P kt enc ok) {t vt : TypeId} {x y : Operand} {g : Nat} {key : κ} {z : Value} (k : Nat) (ht : P.underlying t = some (.map kt vt)) (hz : (P.info? vt).bind (·.zero) = some z) (hx : ev env x = .map (some g)) (hy : ev env y = enc key) (hk : S[k]? = some [(g, .map es clock)]) (hm : MapOk enc ok es clock m) (hok : ok key) :
    QS P (O (.lookup t x y true) ty) env b S (.tuple #[(mlook m key).getD z, .bool (mlook m key).isSome]) := qs_val fun w hw => by
  simp only [O, execOp, hx, hy, Sem.run_bind, run_lookup_ok KE ht hz hm hok (hw.map_at hk) true, Result.andThen_ok, Sem.run_pure]
  rfl
theorem sig_setmap {w : World} (hw : Sig b S w) {k g : Nat} (hk : S[k]? = some [(g, .map es clock)]) (o : Obj) : Sig b (S.set k [(g, o)]) { w with heap := w.heap.setIfInBounds g o } := by
  have hg := hw.map_at hk
  have hlt := lt_of_get hg
  exact hw.set hk rfl rfl rfl (by simp) (by simp [hlt]) fun j hj => by simp [Ne.symm hj]
theorem j_mapset (KE : KeyE P kt enc ok) {t vt : TypeId} {x y z : Operand} {g : Nat} {key : κ} {val : Value} (k : Nat) (ht : P.underlying t = some (.map kt vt)) (hx : ev env x = .map (some g)) (hy : ev env y = enc key) (hv : ev env z = val) (hk : S[k]? = some [(g, .map es clock)]) (hm : MapOk enc ok es clock m) (hok : ok key)
    (h : ∀ es' clock', MapOk enc ok es' clock' (mset m key val) → J P R T (undef :: env) (S.set k [(g, .map es' clock')]) b B) : J P R (.op (O (.mapUpdate t x y z) ty) T) env S b B := fun w hw => by
  have hg := hw.map_at hk
  obtain ⟨l, hl⟩ := KE.lit key hok
  have hck := fun em => KE.keyed.check w em hl
  show opW _ _ _ _ _ _
  unfold opW
  rcases find_cases KE hm hok w with ⟨h1, h2⟩ | ⟨j, e, h1, h3, h4, h5, h2⟩
  · have hrun : (execOp (ev env) (O (.mapUpdate t x y z) ty)).run P w = .ok .skip { w with heap := w.heap.setIfInBounds g (.map (es.push ⟨enc key, val, clock⟩) (clock + 1)) } := by
      simp only [O, execOp, hx, hy, hv, Instr.mapUpdate, Sem.run_bind, run_underlying_ok ht, Result.andThen_ok, getObj_map hg, hck, h1, setObj_map _ hg, Sem.run_pure]
    rw [hrun]
    refine h _ _ ?_ _ (sig_setmap hw hk _)
    unfold mset
    rw [h2]
    exact hm.push KE.inj hok h2 val
  · have hst : (Instr.keyThatStays (((es[j]?).map (·.key)).getD (enc key)) (enc key)).run P w = .ok (enc key) w := by
      rw [h3, Option.map_some, Option.getD_some, h4]
      exact KE.keyed.stays w hl
    have hrun : (execOp (ev env) (O (.mapUpdate t x y z) ty)).run P w = .ok .skip { w with heap := w.heap.setIfInBounds g (.map (es.modify j fun e => { e with key := enc key, val := val }) clock) } := by
      simp only [O, execOp, hx, hy, hv, Instr.mapUpdate, Sem.run_bind, run_underlying_ok ht, Result.andThen_ok, getObj_map hg, hck, h1, hst, setObj_map _ hg, Sem.run_pure]
    rw [hrun]
    refine h _ _ ?_ _ (sig_setmap hw hk _)
    unfold mset
    rw [h2]
    exact hm.modify h3 h4 h5 val _ (by rw [← h4])
/-- the entry at a key, which is made: its value, and its stamp -/
theorem j_mapentry (KE : KeyE P kt enc ok) {t vt : TypeId} {x y : Operand} {g : Nat} {key : κ} {z : Value} (k : Nat) (ht : P.underlying t = some (.map kt vt)) (hz : (P.info? vt).bind (·.zero) = some z) (hx : ev env x = .map (some g)) (hy : ev env y = enc key) (hk : S[k]? = some [(g, .map es clock)]) (hm : MapOk enc ok es clock m) (hok : ok key)
    (h : ∀ es' clock' (j : Nat) e, MapOk enc ok es' clock' (ment m key z) → es'[j]? = some e → e.key = enc key → J P R T (.tuple #[(mlook m key).getD z, .int .i64 (e.born : Int)] :: env) (S.set k [(g, .map es' clock')]) b B) : J P R (.op (O (.mapEntry t x y) ty) T) env S b B := fun w hw => by
  have hg := hw.map_at hk
  obtain ⟨l, hl⟩ := KE.lit key hok
  have hck := fun em => KE.keyed.check w em hl
  show opW _ _ _ _ _ _
  unfold opW
  rcases find_cases KE hm hok w with ⟨h1, h2⟩ | ⟨j, e, h1, h3, h4, h5, h2⟩
  · have hrun : (execOp (ev env) (O (.mapEntry t x y) ty)).run P w = .ok (.value (.tuple #[z, .int .i64 (clock : Int)])) { w with heap := w.heap.setIfInBounds g (.map (es.push ⟨enc key, z, clock⟩) (clock + 1)) } := by
      simp only [O, execOp, hx, hy, Instr.mapEntry, Sem.run_bind, run_underlying_ok ht, Result.andThen_ok, getObj_map hg, hck, h1, run_zeroV hz, setObj_map _ hg, Sem.run_pure, goInt]
    rw [hrun]
    have hm' := hm.push KE.inj hok h2 z
    have := h (es.push ⟨enc key, z, clock⟩) (clock + 1) es.size ⟨enc key, z, clock⟩ (by unfold ment; rw [h2]; exact hm') (by simp) rfl _ (sig_setmap hw hk _)
    rw [h2] at this
    exact this
  · have hst : (Instr.keyThatStays (((es[j]?).map (·.key)).getD (enc key)) (enc key)).run P w = .ok (enc key) w := by
      rw [h3, Option.map_some, Option.getD_some, h4]
      exact KE.keyed.stays w hl
    have hst2 : (Instr.keyThatStays e.key (enc key)).run P w = .ok (enc key) w := by rw [h4]; exact KE.keyed.stays w hl
    have hrun : (execOp (ev env) (O (.mapEntry t x y) ty)).run P w = .ok (.value (.tuple #[e.val, .int .i64 (e.born : Int)])) { w with heap := w.heap.setIfInBounds g (.map (es.modify j fun e => { e with key := enc key }) clock) } := by
      simp only [O, execOp, hx, hy, Instr.mapEntry, Sem.run_bind, run_underlying_ok ht, Result.andThen_ok, getObj_map hg, hck, h1, hst2, setObj_map _ hg, Sem.run_pure, goInt, h3, Option.map_some, Option.getD_some]
    rw [hrun]
    have hm' := hm.modify h3 h4 h5 e.val (fun e => { e with key := enc key }) (by rw [← h4])
    have hsame : mput m key e.val = m := by
      unfold mput
      conv => rhs; rw [← List.map_id m]
      refine List.map_congr_left fun p hp => ?_
      split
      · rename_i hpk
        have := mlook_mem hm.nodup (show (key, p.2) ∈ m by rw [← hpk]; exact hp)
        rw [h2] at this
        injection this with this
        rw [this]
        rfl
      · rfl
    rw [hsame] at hm'
    have := h (es.modify j fun e => { e with key := enc key }) clock j { e with key := enc key } (by unfold ment; rw [h2]; exact hm') (by simp [Array.getElem?_modify, h3]) rfl _ (sig_setmap hw hk _)
    rw [h2] at this
    exact this
/-- the value of an entry, told by its stamp -/
theorem j_entrystore {t : TypeId} {x y z : Operand} {g j : Nat} {key : κ} {val : Value} {e : MapEntry} (k : Nat) (hinj : ∀ a b, enc a = enc b → a = b) (hx : ev env x = .map (some g)) (hy : ev env y = .int .i64 (e.born : Int)) (hv : ev env z = val) (hk : S[k]? = some [(g, .map es clock)]) (hm : MapOk enc ok es clock m) (hj : es[j]? = some e) (hkey : e.key = enc key)
    (h : ∀ es' clock', MapOk enc ok es' clock' (mput m key val) → J P R T (undef :: env) (S.set k [(g, .map es' clock')]) b B) : J P R (.op (O (.entryStore t x y z) ty) T) env S b B := fun w hw => by
  have hg := hw.map_at hk
  have hjlt := (Array.getElem?_eq_some_iff.1 hj).1
  have hfi : es.findIdx? (fun x => (x.born : Int) == (e.born : Int)) = some j := by
    rw [Array.findIdx?_eq_some_iff_getElem]
    refine ⟨hjlt, by rw [Array.getElem?_eq_some_iff] at hj; rw [hj.2]; simp, fun i hi => ?_⟩
    intro hb
    have hn := hm.stamped.2.1
    have hil : i < es.size := by omega
    have hbe : es[i].born = e.born := by simp at hb; omega
    have := nodup_inj hn (i := i) (j := j) (a := e.born) (by simp [hil, hbe]) (by simp [hj])
    omega
  have hmj : m[j]? = some (key, e.val) := by
    have hgj := hm.get j
    rw [hj, Option.map_some] at hgj
    obtain ⟨p, hp, e1⟩ := Option.map_eq_some_iff.1 hgj.symm
    injection e1 with e1 e2
    have hpk : p.1 = key := hinj _ _ (by rw [e1, hkey])
    rw [hp, ← hpk, ← e2]
  have hai : (asInt (.int .i64 (e.born : Int))).run P w = .ok (e.born : Int) w := rfl
  have hrun : (execOp (ev env) (O (.entryStore t x y z) ty)).run P w = .ok .skip { w with heap := w.heap.setIfInBounds g (.map (es.modify j fun e => { e with val := val }) clock) } := by
    simp only [O, execOp, hx, hy, hv, Instr.entryStore, Sem.run_bind, Result.andThen_ok, getObj_map hg, hai, hfi, setObj_map _ hg, Sem.run_pure]
  show opW _ _ _ _ _ _
  unfold opW
  rw [hrun]
  exact h _ _ (hm.modify hj hkey hmj val _ rfl) _ (sig_setmap hw hk _)
end
/-! keys -/
theorem str_key {kt : TypeId} (hk : P.underlying kt = some .string) : KeyE P kt (fun l : List UInt8 => Value.string (bs l)) (fun l => l.length ≤ 9223372036854775807) :=
  ⟨string_keyed hk, fun a b h => by injection h with h; exact bs_inj h, fun l hl => ⟨.string l, by
    have : (bs l).size ≤ maxLen := hl
    simp [keyOf, hk, mapKey, this, bs_data]⟩⟩
theorem int_key {kt : TypeId} (hk : P.underlying kt = some (.int .i64)) : KeyE P kt (fun n : Int => Value.int .i64 n) (fun n => -9223372036854775808 ≤ n ∧ n ≤ 9223372036854775807) :=
  ⟨int_keyed hk, fun a b h => by injection h, fun n hn => ⟨.int .i64 n, keyOf_int_mk hk (by
    have h1 : IntKind.i64.min = -9223372036854775808 := rfl
    have h2 : IntKind.i64.max = 9223372036854775807 := rfl
    simp [Lit.wf, h1, h2]
    exact hn)⟩⟩
end Go.Sx
