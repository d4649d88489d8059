/- Locks by names: what lies in memory, and the small methods. -/
import Derived.Test.YtlgfpoelhjlifaaTa
import Derived.Test.YtlgfpoelhjlifaaSx17
import Derived.Test.YtlgfpoelhjlifaaSx11
namespace Go.Proofs.Ytlgfpoelhjlifaa
open Go Go.Sx
set_option maxRecDepth 100000
set_option maxHeartbeats 4000000
set_option linter.unusedVariables false
set_option linter.unusedSimpArgs false
attribute [local irreducible] J JQ QS Con W opW
theorem sz3 : (Try.prog.info? 3).map (·.size) = some 1 := by kernel_rfl
theorem sz4 : (Try.prog.info? 4).map (·.size) = some 1 := by kernel_rfl
theorem sz95 : (Try.prog.info? 95).map (·.size) = some 1 := by kernel_rfl
theorem sz96 : (Try.prog.info? 96).map (·.size) = some 1 := by kernel_rfl
theorem sz103 : (Try.prog.info? 103).map (·.size) = some 1 := by kernel_rfl

open Go.MapKept Go.WideMaps Go.Maps
abbrev intEnc : Int → Value := fun n => .int .i64 n
abbrev intOk : Int → Prop := fun n => -9223372036854775808 ≤ n ∧ n ≤ 9223372036854775807
abbrev strEnc : List UInt8 → Value := fun l => .string (bs l)
abbrev strOk : List UInt8 → Prop := fun l => l.length ≤ 9223372036854775807
theorem intKey : KeyE Try.prog 3 intEnc intOk := int_key Try.underlying3
theorem strKey : KeyE Try.prog 9 strEnc strOk := str_key Try.underlying9
theorem zv4 : (Try.prog.info? 4).bind (·.zero) = some (.bool false) := by kernel_rfl
theorem zv9 : (Try.prog.info? 9).bind (·.zero) = some (.string (bs [])) := by kernel_rfl
theorem zv99 : (Try.prog.info? 99).bind (·.zero) = some (.pointer none) := by kernel_rfl
section
variable {κ α β : Type} [DecidableEq κ]
def alook (m : List (κ × α)) (k : κ) : Option α := (m.find? (fun p => decide (p.1 = k))).map (·.2)
def aset (m : List (κ × α)) (k : κ) (v : α) : List (κ × α) := if (alook m k).isSome then m.map (fun p => if p.1 = k then (p.1, v) else p) else m ++ [(k, v)]
theorem mlook_map (f : α → Value) (m : List (κ × α)) (k : κ) : mlook (m.map fun p => (p.1, f p.2)) k = (alook m k).map f := by
  unfold mlook alook
  rw [List.find?_map, Option.map_map, Option.map_map]
  rfl
theorem mset_map (f : α → Value) (m : List (κ × α)) (k : κ) (v : α) : mset (m.map fun p => (p.1, f p.2)) k (f v) = (aset m k v).map fun p => (p.1, f p.2) := by
  unfold mset aset mput
  rw [mlook_map]
  cases h : alook m k with
  | none => simp
  | some a =>
    simp only [Option.map_some, Option.isSome_some, if_true, List.map_map]
    refine List.map_congr_left fun p _ => ?_
    simp only [Function.comp]
    split <;> rfl
theorem mdel_map (f : α → β) (m : List (κ × α)) (k : κ) : mdel (m.map fun p => (p.1, f p.2)) k = (mdel m k).map fun p => (p.1, f p.2) := by
  unfold mdel
  rw [List.filter_map]
  rfl
theorem alook_split {m : List (κ × α)} {k : κ} {v : α} (h : alook m k = some v) : ∃ a b, m = a ++ (k, v) :: b ∧ ∀ q ∈ a, q.1 ≠ k := by
  unfold alook at h
  obtain ⟨p, hp, rfl⟩ := Option.map_eq_some_iff.1 h
  obtain ⟨h1, a, b, rfl, h2⟩ := List.find?_eq_some_iff_append.1 hp
  simp only [decide_eq_true_eq] at h1
  subst h1
  exact ⟨a, b, rfl, fun q hq => by simpa using h2 q hq⟩
theorem alook_none {m : List (κ × α)} {k : κ} : alook m k = none ↔ ∀ p ∈ m, p.1 ≠ k := by
  unfold alook
  rw [Option.map_eq_none_iff, List.find?_eq_none]
  simp
theorem alook_append_hit {a b : List (κ × α)} {k : κ} {v : α} (h : ∀ q ∈ a, q.1 ≠ k) : alook (a ++ (k, v) :: b) k = some v := by
  unfold alook
  rw [List.find?_append, List.find?_eq_none.2 (by simpa using h)]
  simp
theorem alook_app {a b : List (κ × α)} {k : κ} (h : (alook a k).isSome = true) : alook (a ++ b) k = alook a k := by
  obtain ⟨v, hv⟩ := Option.isSome_iff_exists.1 h
  obtain ⟨a1, a2, rfl, ha⟩ := alook_split hv
  rw [hv, List.append_assoc, List.cons_append, alook_append_hit ha]
theorem alook_aset (m : List (κ × α)) (k : κ) (v : α) (k' : κ) : alook (aset m k v) k' = if k = k' then some v else alook m k' := by
  unfold aset
  cases h : alook m k with
  | none =>
    rw [Option.isSome_none, if_neg (by decide)]
    by_cases hk : k = k'
    · subst hk
      rw [if_pos rfl]
      exact alook_append_hit (b := []) (alook_none.1 h)
    · rw [if_neg hk]
      unfold alook
      rw [List.find?_append, List.find?_cons_of_neg (by simpa using hk), List.find?_nil, Option.or_none]
  | some a =>
    rw [Option.isSome_some, if_pos rfl]
    have e : ∀ m : List (κ × α), alook (m.map fun p => if p.1 = k then (p.1, v) else p) k' = if k = k' then (alook m k').map fun _ => v else alook m k' := by
      intro m
      induction m with
      | nil => simp [alook]
      | cons p m ih =>
        unfold alook at ih ⊢
        rw [List.map_cons]
        by_cases hp : p.1 = k' 
        · rw [List.find?_cons_of_pos (by split <;> simpa using hp), List.find?_cons_of_pos (by simpa using hp)]
          by_cases hk : k = k'
          · rw [if_pos hk, if_pos (by rw [hp, hk])]
            rfl
          · rw [if_neg hk, if_neg (by rw [hp]; exact fun e => hk e.symm)]
        · rw [List.find?_cons_of_neg (by split <;> simpa using hp), List.find?_cons_of_neg (by simpa using hp)]
          exact ih
    rw [e]
    by_cases hk : k = k'
    · subst hk
      rw [if_pos rfl, if_pos rfl, h]
      rfl
    · rw [if_neg hk, if_neg hk]
theorem alook_mem {m : List (κ × α)} {k : κ} {v : α} (h : alook m k = some v) : (k, v) ∈ m := by
  obtain ⟨a, b, rfl, _⟩ := alook_split h
  simp
theorem alook_of_mem : ∀ {m : List (κ × α)} {k : κ} {v : α}, (m.map Prod.fst).Nodup → (k, v) ∈ m → alook m k = some v
  | p :: m, k, v, hn, h => by
    rw [List.map_cons, List.nodup_cons] at hn
    rcases List.mem_cons.1 h with rfl | h
    · simp [alook]
    · have hne : p.1 ≠ k := fun e => hn.1 (by rw [e]; exact List.mem_map_of_mem (f := Prod.fst) h)
      have := alook_of_mem hn.2 h
      unfold alook at this ⊢
      rw [List.find?_cons_of_neg (by simpa using hne)]
      exact this
theorem alook_mdel (m : List (κ × α)) (k k' : κ) : alook (mdel m k) k' = if k = k' then none else alook m k' := by
  unfold alook mdel
  induction m with
  | nil => simp
  | cons p m ih =>
    rw [List.filter_cons]
    by_cases hp : p.1 = k
    · rw [if_neg (by simpa using hp), ih]
      by_cases hk : k = k'
      · rw [if_pos hk, if_pos hk]
      · rw [if_neg hk, if_neg hk, List.find?_cons_of_neg (by rw [hp]; simpa using hk)]
    · rw [if_pos (by simpa using hp)]
      by_cases hpk : p.1 = k'
      · rw [List.find?_cons_of_pos (by simpa using hpk), List.find?_cons_of_pos (by simpa using hpk), if_neg (fun e => hp (by rw [hpk, e]))]
      · rw [List.find?_cons_of_neg (by simpa using hpk), ih, List.find?_cons_of_neg (by simpa using hpk)]
end
/-- tasks that wait, as cells -/
def askers (r : List (Int × Bool)) : List Value := (r.map fun p => [Value.int .i64 p.1, .bool p.2]).flatten
theorem askers_length (r : List (Int × Bool)) : (askers r).length = r.length * 2 := by
  induction r with
  | nil => rfl
  | cons p r ih => simp only [askers, List.map_cons, List.flatten_cons, List.length_append, List.length_cons, List.length_nil] at ih ⊢; omega
theorem askers_append (r s : List (Int × Bool)) : askers (r ++ s) = askers r ++ askers s := by simp [askers]
theorem askers_cons (x : Int × Bool) (r : List (Int × Bool)) : askers (x :: r) = [.int .i64 x.1, .bool x.2] ++ askers r := by simp [askers]
theorem askers_one {r : List (Int × Bool)} : ∀ u ∈ askers r, oneV u = true := by
  intro u hu
  simp only [askers, List.mem_flatten, List.mem_map] at hu
  obtain ⟨l, ⟨p, _, rfl⟩, hu⟩ := hu
  simp only [List.mem_cons, List.not_mem_nil, or_false] at hu
  rcases hu with rfl | rfl <;> rfl
theorem askers_get {r : List (Int × Bool)} {i : Nat} (h : i < r.length) : ((askers r).drop (i * 2)).take 2 = [.int .i64 (r.getD i (0, false)).1, .bool (r.getD i (0, false)).2] := by
  have e : r = r.take i ++ r.getD i (0, false) :: r.drop (i + 1) := by
    rw [List.getD_eq_getElem?_getD, List.getElem?_eq_getElem h, Option.getD_some, ← List.drop_eq_getElem_cons h, List.take_append_drop]
  conv => lhs; rw [e, askers_append, askers_cons]
  rw [List.drop_left' (by rw [askers_length, List.length_take, Nat.min_eq_left (by omega)])]
  rfl
/-- a lock in memory -/
structure PL where
  gl : Nat
  gh : Nat
  hes : Array MapEntry
  hck : Nat
  hm : List (Int × Bool)
  row : List (Int × Bool)
  rv : Value
  rc : SH
  sh : Bool
abbrev PL.obj (l : PL) : Obj := .cells [.map (some l.gh), l.rv, .bool l.sh].toArray 106 (0, 0)
abbrev PL.hobj (l : PL) : Obj := .map l.hes l.hck
def PL.heap (l : PL) : SH := [(l.gl, l.obj), (l.gh, l.hobj)] ++ l.rc
structure PL.Ok (B : Nat) (l : PL) : Prop where
  hm : MapOk intEnc intOk l.hes l.hck (l.hm.map fun p => (p.1, Value.bool p.2))
  row : OwnO 102 2 (askers l.row) l.rv l.rc
  rowOk : ∀ p ∈ l.row, intOk p.1
  hrB : l.hm.length + l.row.length ≤ B
/-- the locks in memory -/
structure PT where
  gt : Nat
  gL : Nat
  gW : Nat
  Les : Array MapEntry
  Lck : Nat
  Wes : Array MapEntry
  Wck : Nat
  lm : List (List UInt8 × PL)
  wm : List (Int × List UInt8)
abbrev PT.tobj (p : PT) : Obj := .cells [.map (some p.gL), .map (some p.gW)].toArray 98 (0, 0)
def PT.base (p : PT) : SH := [(p.gt, p.tobj), (p.gL, .map p.Les p.Lck), (p.gW, .map p.Wes p.Wck)]
def PT.heap (p : PT) : SH := p.base ++ (p.lm.map (·.2.heap)).flatten
def ptrL (l : PL) : Value := .pointer (some ⟨l.gl, 0, none⟩)
def nameV (n : List UInt8) : Value := .string (bs n)
structure PT.Ok (B : Nat) (p : PT) : Prop where
  L : MapOk strEnc strOk p.Les p.Lck (p.lm.map fun q => (q.1, ptrL q.2))
  W : MapOk intEnc intOk p.Wes p.Wck (p.wm.map fun q => (q.1, nameV q.2))
  each : ∀ q ∈ p.lm, q.2.Ok B
  lmB : p.lm.length ≤ B
  wl : ∀ q ∈ p.wm, (alook p.lm q.2).isSome = true
/-- the memory holds them -/
def In (w : World) (c : SH) : Prop := ∀ q ∈ c, w.heap[q.1]? = some q.2
theorem in_own {b : Base} {S : List SH} {w : World} {c : SH} (hw : Sig b S w) (k : Nat) (hk : S[k]? = some c) : In w c := fun q hq => hw.own q (mem_flatten_of hk hq)
theorem in_sub {w : World} {c c' : SH} (h : In w c) (hs : ∀ q ∈ c', q ∈ c) : In w c' := fun q hq => h q (hs q hq)
theorem in_keep {w w' : World} {c : SH} {S : List SH} (h : In w c) (hs : Sig ⟨w, dom []⟩ S w') : In w' c := fun q hq => (hs.frame q.1 (lt_of_get (h q hq)) (by simp)).trans (h q hq)
theorem PT.lock_sub {p : PT} {n : List UInt8} {l : PL} (h : (n, l) ∈ p.lm) : ∀ q ∈ l.heap, q ∈ p.heap := fun q hq => by
  unfold PT.heap
  exact List.mem_append_right _ (List.mem_flatten.2 ⟨l.heap, List.mem_map.2 ⟨(n, l), h, rfl⟩, hq⟩)
theorem PL.in_gl {l : PL} {w : World} (h : In w l.heap) : w.heap[l.gl]? = some l.obj := h (l.gl, l.obj) (by simp [PL.heap])
theorem PL.in_gh {l : PL} {w : World} (h : In w l.heap) : w.heap[l.gh]? = some l.hobj := h (l.gh, l.hobj) (by simp [PL.heap])
theorem PT.in_gt {p : PT} {w : World} (h : In w p.heap) : w.heap[p.gt]? = some p.tobj := h (p.gt, p.tobj) (by simp [PT.heap, PT.base])
theorem PT.in_gL {p : PT} {w : World} (h : In w p.heap) : w.heap[p.gL]? = some (.map p.Les p.Lck) := h (p.gL, .map p.Les p.Lck) (by simp [PT.heap, PT.base])
theorem PT.in_gW {p : PT} {w : World} (h : In w p.heap) : w.heap[p.gW]? = some (.map p.Wes p.Wck) := h (p.gW, .map p.Wes p.Wck) (by simp [PT.heap, PT.base])
theorem PT.in_lock {p : PT} {n : List UInt8} {l : PL} {w : World} (h : In w p.heap) (hl : alook p.lm n = some l) : In w l.heap := by
  obtain ⟨a, c, e, _⟩ := alook_split hl
  exact in_sub h (PT.lock_sub (n := n) (by rw [e]; simp))
theorem PT.Ok.lock {p : PT} {n : List UInt8} {l : PL} {B : Nat} (h : p.Ok B) (hl : alook p.lm n = some l) : l.Ok B := by
  obtain ⟨a, c, e, _⟩ := alook_split hl
  exact h.each (n, l) (by rw [e]; simp)
theorem getD_ptr {o : Option PL} : (o.map ptrL).getD (.pointer none) = .pointer (o.map fun l => ⟨l.gl, 0, none⟩) := by cases o <;> rfl
/-- (*pantry.locks.lock).free -/
theorem free_con (B : Nat) (l : PL) (s : Bool) (w : World) (h1 : w.heap[l.gl]? = some l.obj) (h2 : w.heap[l.gh]? = some l.hobj) (hok : l.Ok B) : Con Try.prog 45 [.pointer (some ⟨l.gl, 0, none⟩), .bool s] w [] fun v _ => v = .bool (l.hm.isEmpty || (l.sh && s)) := by
  refine con_of_tree mix Try.func45 T45_ok (by kernel_rfl) ?_
  unfold T45
  refine j_q (qs_ac) ?_
  refine j_q (qs_nil rfl) ?_
  refine j_q (qs_field Try.underlying106 rfl sz103 (by decide) rfl) ?_
  refine j_q (qs_loadO (rdo_base (o := PL.obj l) h1 (by simp)) Try.underlying103 rfl rfl rfl) ?_
  refine j_q (qs_maplen (rdo_base (o := PL.hobj l) h2 (by simp)) Try.underlying103 rfl hok.hm) ?_
  rw [List.length_map]
  refine j_q (qs_eql rfl rfl) ?_
  refine j_g rfl (fun hb => qs_mt rfl) ?_
  refine j_g rfl (fun hb => qs_nil (gd_eq hb)) ?_
  refine j_g rfl (fun hb => qs_field Try.underlying106 rfl sz4 (by decide) (gd_eq hb)) ?_
  refine j_g rfl (fun hb => qs_loadO (rdo_base (o := PL.obj l) h1 (by simp)) Try.underlying4 rfl (gd_eq hb) rfl) ?_
  refine j_g rfl (fun hb => qs_move (gd_eq hb)) ?_
  refine j_gg rfl (fun hb hb1 => qs_mt rfl) ?_
  refine j_g rfl (fun hb => qs_and (gd_eq hb) (gd_eq hb)) ?_
  refine j_q (qs_or rfl rfl) ?_
  refine j_ret_con (vs := [_]) (fun w' hw' => ⟨rfl, trivial⟩) ?_
  show Value.bool _ = _
  congr 1
  cases hh : l.hm <;> cases l.sh <;> cases s <;> simp [gd] <;> omega
/-- (*pantry.locks.lock).takes -/
theorem takes_con (B : Nat) (l : PL) (x : Int × Bool) (w : World) (hx : intOk x.1) (hok : l.Ok B) : Con Try.prog 46 [.pointer (some ⟨l.gl, 0, none⟩), .agg [.int .i64 x.1, .bool x.2].toArray] w [(l.gl, l.obj), (l.gh, l.hobj)] fun v S' => ∃ es ck, v = .tuple #[] ∧ S' = [[(l.gl, PL.obj { l with sh := x.2 }), (l.gh, .map es ck)]] ∧ MapOk intEnc intOk es ck ((aset l.hm x.1 x.2).map fun p => (p.1, Value.bool p.2)) := by
  refine con_of_tree mix Try.func46 T46_ok (by kernel_rfl) ?_
  unfold T46
  refine j_perm (S' := [[(l.gl, l.obj)], [(l.gh, l.hobj)]]) (by simp) ?_
  refine j_box (l := [.int .i64 x.1, .bool x.2]) rfl (fun g0 hg0 hs0 => ?_)
  refine j_q (qs_field Try.underlying102 rfl sz4 (by decide) rfl) ?_
  first
    | refine j_q (qs_load 0 Try.underlying4 rfl rfl rfl rfl) ?_
    | refine j_q (qs_load 1 Try.underlying4 rfl rfl rfl rfl) ?_
    | refine j_q (qs_load 2 Try.underlying4 rfl rfl rfl rfl) ?_
  refine j_q (qs_nil rfl) ?_
  refine j_q (qs_field Try.underlying106 rfl sz4 (by decide) rfl) ?_
  first
    | refine j_store 0 sz4 rfl rfl rfl rfl (by simp) (by first | omega | (simp only [Bool.and_eq_true, Bool.or_eq_true, Bool.and_eq_false_iff, Bool.or_eq_false_iff, Bool.not_eq_true', Bool.not_eq_false', decide_eq_true_eq, decide_eq_false_iff_not, beq_iff_eq, beq_eq_false_iff_ne, bne_iff_ne, bne_eq_false_iff_eq, ne_eq, Int.toNat_natCast] at *; omega)) ?_
    | refine j_store 1 sz4 rfl rfl rfl rfl (by simp) (by first | omega | (simp only [Bool.and_eq_true, Bool.or_eq_true, Bool.and_eq_false_iff, Bool.or_eq_false_iff, Bool.not_eq_true', Bool.not_eq_false', decide_eq_true_eq, decide_eq_false_iff_not, beq_iff_eq, beq_eq_false_iff_ne, bne_iff_ne, bne_eq_false_iff_eq, ne_eq, Int.toNat_natCast] at *; omega)) ?_
    | refine j_store 2 sz4 rfl rfl rfl rfl (by simp) (by first | omega | (simp only [Bool.and_eq_true, Bool.or_eq_true, Bool.and_eq_false_iff, Bool.or_eq_false_iff, Bool.not_eq_true', Bool.not_eq_false', decide_eq_true_eq, decide_eq_false_iff_not, beq_iff_eq, beq_eq_false_iff_ne, bne_iff_ne, bne_eq_false_iff_eq, ne_eq, Int.toNat_natCast] at *; omega)) ?_
  refine j_draw ?_
  refine jq_q (qs_nil rfl) ?_
  refine jq_q (qs_field Try.underlying106 rfl sz103 (by decide) rfl) ?_
  first
    | refine jq_q (qs_load 0 Try.underlying103 rfl rfl rfl rfl) ?_
    | refine jq_q (qs_load 1 Try.underlying103 rfl rfl rfl rfl) ?_
    | refine jq_q (qs_load 2 Try.underlying103 rfl rfl rfl rfl) ?_
  refine jq_q (qs_field Try.underlying102 rfl sz3 (by decide) rfl) ?_
  first
    | refine jq_q (qs_loadk 0 Try.underlying3 rfl rfl (by first | omega | (simp only [Bool.and_eq_true, Bool.or_eq_true, Bool.and_eq_false_iff, Bool.or_eq_false_iff, Bool.not_eq_true', Bool.not_eq_false', decide_eq_true_eq, decide_eq_false_iff_not, beq_iff_eq, beq_eq_false_iff_ne, bne_iff_ne, bne_eq_false_iff_eq, ne_eq, Int.toNat_natCast] at *; omega))) ?_
    | refine jq_q (qs_loadk 1 Try.underlying3 rfl rfl (by first | omega | (simp only [Bool.and_eq_true, Bool.or_eq_true, Bool.and_eq_false_iff, Bool.or_eq_false_iff, Bool.not_eq_true', Bool.not_eq_false', decide_eq_true_eq, decide_eq_false_iff_not, beq_iff_eq, beq_eq_false_iff_ne, bne_iff_ne, bne_eq_false_iff_eq, ne_eq, Int.toNat_natCast] at *; omega))) ?_
    | refine jq_q (qs_loadk 2 Try.underlying3 rfl rfl (by first | omega | (simp only [Bool.and_eq_true, Bool.or_eq_true, Bool.and_eq_false_iff, Bool.or_eq_false_iff, Bool.not_eq_true', Bool.not_eq_false', decide_eq_true_eq, decide_eq_false_iff_not, beq_iff_eq, beq_eq_false_iff_ne, bne_iff_ne, bne_eq_false_iff_eq, ne_eq, Int.toNat_natCast] at *; omega))) ?_
    | refine jq_q (qs_load 0 Try.underlying3 rfl rfl rfl rfl) ?_
    | refine jq_q (qs_load 1 Try.underlying3 rfl rfl rfl rfl) ?_
    | refine jq_q (qs_load 2 Try.underlying3 rfl rfl rfl rfl) ?_
  refine jq_q (qs_field Try.underlying102 rfl sz4 (by decide) rfl) ?_
  first
    | refine jq_q (qs_load 0 Try.underlying4 rfl rfl rfl rfl) ?_
    | refine jq_q (qs_load 1 Try.underlying4 rfl rfl rfl rfl) ?_
    | refine jq_q (qs_load 2 Try.underlying4 rfl rfl rfl rfl) ?_
  refine jq_nil ?_
  refine j_mapset (key := x.1) (val := .bool x.2) intKey 2 Try.underlying103 rfl rfl rfl rfl hok.hm hx (fun es ck hm' => ?_)
  rw [mset_map (fun b => Value.bool b)] at hm'
  refine j_perm (S' := [[(g0, .cells [Value.int .i64 x.1, .bool x.2].toArray 102 (0, 0))], [(l.gl, PL.obj { l with sh := x.2 }), (l.gh, .map es ck)]]) (List.Perm.of_eq rfl) ?_
  refine j_subl (S' := [[(l.gl, PL.obj { l with sh := x.2 }), (l.gh, .map es ck)]]) (by repeat first | exact List.Sublist.refl _ | exact List.nil_sublist _ | apply List.Sublist.cons_cons | apply List.Sublist.cons) ?_
  refine j_ret_con (vs := []) (fun w' hw' => trivial) ?_
  exact ⟨es, ck, rfl, rfl, hm'⟩
/-- (*pantry.locks.Table).Holds -/
theorem holds_con (B : Nat) (p : PT) (t : Int) (n : List UInt8) (w : World) (hin : In w p.heap) (hok : p.Ok B) (ht : intOk t) (hn : strOk n) : Con Try.prog 33 [.pointer (some ⟨p.gt, 0, none⟩), .int .i64 t, .string (bs n)] w [] fun v _ => v = .bool (match alook p.lm n with | none => false | some l => (alook l.hm t).isSome) := by
  refine con_of_tree mix Try.func33 T33_ok (by kernel_rfl) ?_
  unfold T33
  refine j_q (qs_ac) ?_
  refine j_q (qs_pnil Try.underlying45 rfl) ?_
  refine j_g rfl (fun hb => qs_mt rfl) ?_
  refine j_g rfl (fun hb => qs_nil (gd_eq hb)) ?_
  refine j_g rfl (fun hb => qs_field Try.underlying98 rfl sz95 (by decide) (gd_eq hb)) ?_
  refine j_g rfl (fun hb => qs_loadO (rdo_base (o := PT.tobj p) (PT.in_gt hin) (by simp)) Try.underlying95 rfl (gd_eq hb) rfl) ?_
  refine j_g rfl (fun hb => qs_mt rfl) ?_
  refine j_g rfl (fun hb => qs_lookupR (key := n) strKey (rdo_base (PT.in_gL hin) (by simp)) Try.underlying95 zv99 (gd_eq hb) rfl hok.L hn) ?_
  rw [mlook_map ptrL, getD_ptr]
  refine j_g rfl (fun hb => qs_pnil Try.underlying99 (gd_eq hb)) ?_
  refine j_q (qs_or rfl rfl) ?_
  refine j_cond rfl (fun hc0 => ?_) (fun hc0 => ?_)
  · skip
    have hno : alook p.lm n = none := by
      cases hl : alook p.lm n with
      | none => rfl
      | some l => simp [gd, hl] at hc0
    refine j_q (qs_ac) ?_
    refine j_ret_con (vs := [_]) (fun w' hw' => ⟨rfl, trivial⟩) ?_
    rw [hno]
    rfl
  · skip
    obtain ⟨l, hl⟩ : ∃ l, alook p.lm n = some l := by
      cases hl : alook p.lm n with
      | none => simp [gd, hl] at hc0
      | some l => exact ⟨l, rfl⟩
    refine j_q (qs_nil rfl) ?_
    refine j_q (qs_field Try.underlying98 rfl sz95 (by decide) rfl) ?_
    refine j_q (qs_loadO (rdo_base (o := PT.tobj p) (PT.in_gt hin) (by simp)) Try.underlying95 rfl rfl rfl) ?_
    refine j_q (qs_lookupR (key := n) strKey (rdo_base (PT.in_gL hin) (by simp)) Try.underlying95 zv99 rfl rfl hok.L hn) ?_
    rw [mlook_map ptrL, getD_ptr, hl]
    refine j_q (qs_nil rfl) ?_
    refine j_q (qs_field Try.underlying106 rfl sz103 (by decide) rfl) ?_
    refine j_q (qs_loadO (rdo_base (o := PL.obj l) (PL.in_gl (PT.in_lock hin hl)) (by simp)) Try.underlying103 rfl rfl rfl) ?_
    refine j_q (qs_lookup2R (key := t) intKey (rdo_base (PL.in_gh (PT.in_lock hin hl)) (by simp)) Try.underlying103 zv4 rfl rfl (hok.lock hl).hm ht) ?_
    rw [mlook_map (fun b => Value.bool b)]
    refine j_q (qs_ext (vs := [((alook l.hm t).map fun b => Value.bool b).getD (.bool false), .bool ((alook l.hm t).map fun b => Value.bool b).isSome]) rfl rfl) ?_
    refine j_q (qs_ext (vs := [((alook l.hm t).map fun b => Value.bool b).getD (.bool false), .bool ((alook l.hm t).map fun b => Value.bool b).isSome]) rfl rfl) ?_
    refine j_ret_con (vs := [_]) (fun w' hw' => ⟨rfl, trivial⟩) ?_
    show Value.bool _ = _
    congr 1
    show (Option.map _ (alook l.hm t)).isSome = (alook l.hm t).isSome
    rw [Option.isSome_map]
/-- (*pantry.locks.Table).Waits -/
theorem waits_con (B : Nat) (p : PT) (t : Int) (w : World) (hin : In w p.heap) (hok : p.Ok B) (ht : intOk t) : Con Try.prog 31 [.pointer (some ⟨p.gt, 0, none⟩), .int .i64 t] w [] fun v _ => v = .tuple #[.string (bs ((alook p.wm t).getD [])), .bool (alook p.wm t).isSome] := by
  refine con_of_tree mix Try.func31 T31_ok (by kernel_rfl) ?_
  unfold T31
  refine j_q (qs_ac) ?_
  refine j_q (qs_ac) ?_
  refine j_q (qs_pnil Try.underlying45 rfl) ?_
  refine j_cond rfl (fun hc0 => ?_) (fun hc0 => ?_)
  · skip
    simp at hc0
  · skip
    refine j_q (qs_nil rfl) ?_
    refine j_q (qs_field Try.underlying98 rfl sz96 (by decide) rfl) ?_
    refine j_q (qs_loadO (rdo_base (o := PT.tobj p) (PT.in_gt hin) (by simp)) Try.underlying96 rfl rfl rfl) ?_
    refine j_q (qs_lookup2R (key := t) intKey (rdo_base (PT.in_gW hin) (by simp)) Try.underlying96 zv9 rfl rfl hok.W ht) ?_
    rw [mlook_map nameV]
    refine j_q (qs_ext (vs := [((alook p.wm t).map nameV).getD (.string (bs [])), .bool ((alook p.wm t).map nameV).isSome]) rfl rfl) ?_
    refine j_q (qs_ext (vs := [((alook p.wm t).map nameV).getD (.string (bs [])), .bool ((alook p.wm t).map nameV).isSome]) rfl rfl) ?_
    refine j_ret_con (vs := [_, _]) (fun w' hw' => ⟨rfl, rfl, trivial⟩) ?_
    cases alook p.wm t <;> rfl
end Go.Proofs.Ytlgfpoelhjlifaa
