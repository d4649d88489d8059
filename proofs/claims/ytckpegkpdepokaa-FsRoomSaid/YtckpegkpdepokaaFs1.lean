/- Files that forget: names and files in memory. -/
import Derived.Test.YtckpegkpdepokaaTa
import Derived.Test.YtckpegkpdepokaaSx20
import Derived.Test.YtckpegkpdepokaaSx11
namespace Go.Proofs.Ytckpegkpdepokaa
open Go Go.Sx
set_option maxRecDepth 100000
set_option maxHeartbeats 4000000
set_option linter.unusedVariables false
set_option linter.unusedSimpArgs false
attribute [local irreducible] J JQ QS Con W opW
theorem ent68 : Sx.Enters Try.prog 68 := ⟨_, Try.func68, by kernel_rfl, by kernel_rfl⟩
theorem sz3 : (Try.prog.info? 3).map (·.size) = some 1 := by kernel_rfl
theorem sz5 : (Try.prog.info? 5).map (·.size) = some 1 := by kernel_rfl
theorem sz21 : (Try.prog.info? 21).map (·.size) = some 1 := by kernel_rfl
theorem sz23 : (Try.prog.info? 23).map (·.size) = some 1 := by kernel_rfl
theorem sz64 : (Try.prog.info? 64).map (·.size) = some 1 := by kernel_rfl
theorem sz71 : (Try.prog.info? 71).map (·.size) = some 1 := by kernel_rfl
theorem sz73 : (Try.prog.info? 73).map (·.size) = some 2 := by kernel_rfl

open Go.MapKept Go.WideMaps Go.Maps
abbrev strEnc : List UInt8 → Value := fun l => .string (bs l)
abbrev strOk : List UInt8 → Prop := fun l => l.length ≤ 9223372036854775807
theorem strKey : KeyE Try.prog 9 strEnc strOk := str_key Try.underlying9
theorem zv63 : (Try.prog.info? 63).bind (·.zero) = some (.pointer none) := by kernel_rfl
section
variable {κ α β : Type} [DecidableEq κ]
def alook (m : List (κ × α)) (k : κ) : Option α := (m.find? (fun p => decide (p.1 = k))).map (·.2)
def aset (m : List (κ × α)) (k : κ) (v : α) : List (κ × α) := if (alook m k).isSome then m.map (fun p => if p.1 = k then (p.1, v) else p) else m ++ [(k, v)]
theorem mlook_map (f : α → Value) (m : List (κ × α)) (k : κ) : mlook (m.map fun p => (p.1, f p.2)) k = (alook m k).map f := by
  unfold mlook alook
  rw [List.find?_map, Option.map_map, Option.map_map]
  rfl
theorem mset_map (f : α → Value) (m : List (κ × α)) (k : κ) (v : α) : mset (m.map fun p => (p.1, f p.2)) k (f v) = (aset m k v).map fun p => (p.1, f p.2) := by
  unfold mset aset mput
  rw [mlook_map]
  cases h : alook m k with
  | none => simp
  | some a =>
    simp only [Option.map_some, Option.isSome_some, if_true, List.map_map]
    refine List.map_congr_left fun p _ => ?_
    simp only [Function.comp]
    split <;> rfl
theorem mdel_map (f : α → β) (m : List (κ × α)) (k : κ) : mdel (m.map fun p => (p.1, f p.2)) k = (mdel m k).map fun p => (p.1, f p.2) := by
  unfold mdel
  rw [List.filter_map]
  rfl
theorem alook_split {m : List (κ × α)} {k : κ} {v : α} (h : alook m k = some v) : ∃ a b, m = a ++ (k, v) :: b ∧ ∀ q ∈ a, q.1 ≠ k := by
  unfold alook at h
  obtain ⟨p, hp, rfl⟩ := Option.map_eq_some_iff.1 h
  obtain ⟨h1, a, b, rfl, h2⟩ := List.find?_eq_some_iff_append.1 hp
  simp only [decide_eq_true_eq] at h1
  subst h1
  exact ⟨a, b, rfl, fun q hq => by simpa using h2 q hq⟩
theorem alook_none {m : List (κ × α)} {k : κ} : alook m k = none ↔ ∀ p ∈ m, p.1 ≠ k := by
  unfold alook
  rw [Option.map_eq_none_iff, List.find?_eq_none]
  simp
theorem alook_append_hit {a b : List (κ × α)} {k : κ} {v : α} (h : ∀ q ∈ a, q.1 ≠ k) : alook (a ++ (k, v) :: b) k = some v := by
  unfold alook
  rw [List.find?_append, List.find?_eq_none.2 (by simpa using h)]
  simp
theorem alook_app {a b : List (κ × α)} {k : κ} (h : (alook a k).isSome = true) : alook (a ++ b) k = alook a k := by
  obtain ⟨v, hv⟩ := Option.isSome_iff_exists.1 h
  obtain ⟨a1, a2, rfl, ha⟩ := alook_split hv
  rw [hv, List.append_assoc, List.cons_append, alook_append_hit ha]
theorem alook_aset (m : List (κ × α)) (k : κ) (v : α) (k' : κ) : alook (aset m k v) k' = if k = k' then some v else alook m k' := by
  unfold aset
  cases h : alook m k with
  | none =>
    rw [Option.isSome_none, if_neg (by decide)]
    by_cases hk : k = k'
    · subst hk
      rw [if_pos rfl]
      exact alook_append_hit (b := []) (alook_none.1 h)
    · rw [if_neg hk]
      unfold alook
      rw [List.find?_append, List.find?_cons_of_neg (by simpa using hk), List.find?_nil, Option.or_none]
  | some a =>
    rw [Option.isSome_some, if_pos rfl]
    have e : ∀ m : List (κ × α), alook (m.map fun p => if p.1 = k then (p.1, v) else p) k' = if k = k' then (alook m k').map fun _ => v else alook m k' := by
      intro m
      induction m with
      | nil => simp [alook]
      | cons p m ih =>
        unfold alook at ih ⊢
        rw [List.map_cons]
        by_cases hp : p.1 = k' 
        · rw [List.find?_cons_of_pos (by split <;> simpa using hp), List.find?_cons_of_pos (by simpa using hp)]
          by_cases hk : k = k'
          · rw [if_pos hk, if_pos (by rw [hp, hk])]
            rfl
          · rw [if_neg hk, if_neg (by rw [hp]; exact fun e => hk e.symm)]
        · rw [List.find?_cons_of_neg (by split <;> simpa using hp), List.find?_cons_of_neg (by simpa using hp)]
          exact ih
    rw [e]
    by_cases hk : k = k'
    · subst hk
      rw [if_pos rfl, if_pos rfl, h]
      rfl
    · rw [if_neg hk, if_neg hk]
theorem alook_mem {m : List (κ × α)} {k : κ} {v : α} (h : alook m k = some v) : (k, v) ∈ m := by
  obtain ⟨a, b, rfl, _⟩ := alook_split h
  simp
theorem alook_of_mem : ∀ {m : List (κ × α)} {k : κ} {v : α}, (m.map Prod.fst).Nodup → (k, v) ∈ m → alook m k = some v
  | p :: m, k, v, hn, h => by
    rw [List.map_cons, List.nodup_cons] at hn
    rcases List.mem_cons.1 h with rfl | h
    · simp [alook]
    · have hne : p.1 ≠ k := fun e => hn.1 (by rw [e]; exact List.mem_map_of_mem (f := Prod.fst) h)
      have := alook_of_mem hn.2 h
      unfold alook at this ⊢
      rw [List.find?_cons_of_neg (by simpa using hne)]
      exact this
theorem alook_mdel (m : List (κ × α)) (k k' : κ) : alook (mdel m k) k' = if k = k' then none else alook m k' := by
  unfold alook mdel
  induction m with
  | nil => simp
  | cons p m ih =>
    rw [List.filter_cons]
    by_cases hp : p.1 = k
    · rw [if_neg (by simpa using hp), ih]
      by_cases hk : k = k'
      · rw [if_pos hk, if_pos hk]
      · rw [if_neg hk, if_neg hk, List.find?_cons_of_neg (by rw [hp]; simpa using hk)]
    · rw [if_pos (by simpa using hp)]
      by_cases hpk : p.1 = k'
      · rw [List.find?_cons_of_pos (by simpa using hpk), List.find?_cons_of_pos (by simpa using hpk), if_neg (fun e => hp (by rw [hpk, e]))]
      · rw [List.find?_cons_of_neg (by simpa using hpk), ih, List.find?_cons_of_neg (by simpa using hpk)]
end

theorem aset_same {κ α : Type} [DecidableEq κ] {m : List (κ × α)} {k : κ} {v : α} (hn : (m.map Prod.fst).Nodup) (h : alook m k = some v) : aset m k v = m := by
  unfold aset
  rw [h, Option.isSome_some, if_pos rfl]
  conv => rhs; rw [← List.map_id m]
  refine List.map_congr_left fun p hp => ?_
  split
  · rename_i e
    have h2 := alook_of_mem hn hp
    rw [e, h] at h2
    injection h2 with h2
    rw [h2]
    rfl
  · rfl
theorem aset_fresh {κ α : Type} [DecidableEq κ] {m : List (κ × α)} {k : κ} {v : α} (h : alook m k = none) : aset m k v = m ++ [(k, v)] := by
  unfold aset
  rw [h]
  rfl
/-- the memory holds them -/
def In (w : World) (c : SH) : Prop := ∀ q ∈ c, w.heap[q.1]? = some q.2
theorem in_own {b : Base} {S : List SH} {w : World} {c : SH} (hw : Sig b S w) (k : Nat) (hk : S[k]? = some c) : In w c := fun q hq => hw.own q (mem_flatten_of hk hq)
theorem in_keep {w w' : World} {c : SH} {S : List SH} (h : In w c) (hs : Sig ⟨w, dom []⟩ S w') : In w' c := fun q hq => (hs.frame q.1 (lt_of_get (h q hq)) (by simp)).trans (h q hq)
theorem notFrozen {w : World} {g i : Nat} {l : List Value} {e : TypeId} (h : w.heap[g]? = some (.cells l.toArray e (0, 0))) : w.frozen? ⟨g, i, none⟩ = false := by
  unfold World.frozen?
  simp [h]
/-- a file's place, and its number -/
def fptr (p : Nat × Nat) : Value := .pointer (some ⟨p.1, 0, none⟩)
theorem getD_fptr {o : Option (Nat × Nat)} : (o.map fptr).getD (.pointer none) = .pointer (o.map fun p => ⟨p.1, 0, none⟩) := by cases o <;> rfl
/-- a file in memory -/
structure FL where
  g : Nat
  id : Nat
  v : Value
  xs : List UInt8
  k : Int
abbrev flcells (f : FL) : List Value := [f.v, .int .i32 f.k]
def FL.h (f : FL) : Nat × Obj := (f.g, .cells (flcells f).toArray 73 (0, 0))
/-- names with their files, in memory -/
structure SM where
  gs : Nat
  gm : Nat
  es : Array MapEntry
  ck : Nat
  ml : List (List UInt8 × (Nat × Nat))
  fs : List FL
  used : Int
abbrev smcells (s : SM) : List Value := [.map (some s.gm), .int .i64 s.used]
abbrev SM.sobj (s : SM) : Obj := .cells (smcells s).toArray 66 (0, 0)
def SM.heap (s : SM) : SH := [(s.gs, s.sobj)] ++ [(s.gm, .map s.es s.ck)] ++ s.fs.map FL.h
abbrev SM.ptr (s : SM) : Value := .pointer (some ⟨s.gs, 0, none⟩)
/-- names of a file -/
def cnt (ml : List (List UInt8 × (Nat × Nat))) (id : Nat) : Nat := (ml.filter fun q => decide (q.2.2 = id)).length
/-- bytes of all files -/
def tot (fs : List FL) : Nat := (fs.map fun f => f.xs.length).sum
theorem tot_split (a b : List FL) (f : FL) : tot (a ++ f :: b) = tot (a ++ b) + f.xs.length := by
  unfold tot
  simp only [List.map_append, List.map_cons, List.sum_append, List.sum_cons]
  omega
structure Raw (s : SM) : Prop where
  map : MapOk strEnc strOk s.es s.ck (s.ml.map fun q => (q.1, fptr q.2))
  nd : (s.ml.map Prod.fst).Nodup
  ids : (s.fs.map FL.id).Nodup
  gnd : (s.fs.map FL.g).Nodup
  has : ∀ q ∈ s.ml, ∃ f ∈ s.fs, f.g = q.2.1 ∧ f.id = q.2.2
  form : ∀ f ∈ s.fs, ∃ A cap, f.v = .slice A f.xs.length cap ∧ f.xs.length ≤ 1000000000
  le : ∀ f ∈ s.fs, (cnt s.ml f.id : Int) ≤ f.k ∧ f.k ≤ 1000000
  us : (tot s.fs : Int) ≤ s.used + 2000000000 ∧ s.used ≤ 1000000000000000
def bump (fs : List FL) (id : Nat) (d : Int) : List FL := fs.map fun f => if f.id = id then { f with k := f.k + d } else f
def getF (fs : List FL) (id : Nat) : Option FL := fs.find? fun f => decide (f.id = id)
/-- a name names nothing -/
def letsM (s : SM) (n : List UInt8) : SM :=
  match alook s.ml n with
  | none => s
  | some p => match getF s.fs p.2 with
    | none => s
    | some f => if f.k = 1 then { s with ml := mdel s.ml n, fs := s.fs.filter fun x => decide (x.id ≠ p.2), used := s.used - (f.xs.length : Int) } else { s with ml := mdel s.ml n, fs := bump s.fs p.2 (-1) }
def rest (a b : List FL) : SH := a.map FL.h ++ b.map FL.h
theorem SM.open_ {s : SM} {a b : List FL} {f : FL} (h : s.fs = a ++ f :: b) : s.heap.Perm ([[(s.gs, s.sobj)], [(s.gm, .map s.es s.ck)], [f.h], rest a b] : List SH).flatten := by
  classical
  refine List.perm_iff_count.2 fun x => ?_
  simp only [SM.heap, rest, h, List.map_append, List.map_cons, List.flatten_cons, List.flatten_nil, List.append_nil, List.nil_append, List.cons_append, List.count_append, List.count_cons, List.count_nil] <;> omega
theorem tot_bump (fs : List FL) (id : Nat) (d : Int) : tot (bump fs id d) = tot fs := by
  unfold tot bump
  rw [List.map_map]
  congr 1
  exact List.map_congr_left fun x _ => by simp only [Function.comp]; split <;> rfl
theorem off_ids {a b : List FL} {f : FL} (h : ((a ++ f :: b).map FL.id).Nodup) : (∀ x ∈ a, x.id ≠ f.id) ∧ ∀ x ∈ b, x.id ≠ f.id := by
  rw [List.map_append, List.map_cons, List.nodup_append, List.nodup_cons] at h
  exact ⟨fun x hx e => h.2.2 x.id (List.mem_map.2 ⟨x, hx, rfl⟩) f.id (by simp) e, fun x hx e => h.2.1.1 (by rw [← e]; exact List.mem_map.2 ⟨x, hx, rfl⟩)⟩
theorem bump_off {fs : List FL} {id : Nat} {d : Int} (h : ∀ x ∈ fs, x.id ≠ id) : bump fs id d = fs := by
  unfold bump
  conv => rhs; rw [← List.map_id fs]
  exact List.map_congr_left fun x hx => by rw [if_neg (h x hx)]; rfl
theorem bump_split {a b : List FL} {f : FL} {d : Int} (h : ((a ++ f :: b).map FL.id).Nodup) : bump (a ++ f :: b) f.id d = a ++ { f with k := f.k + d } :: b := by
  obtain ⟨h1, h2⟩ := off_ids h
  have e : bump (a ++ f :: b) f.id d = bump a f.id d ++ (if f.id = f.id then { f with k := f.k + d } else f) :: bump b f.id d := by simp [bump]
  rw [e, bump_off h1, bump_off h2, if_pos rfl]
theorem filter_split {a b : List FL} {f : FL} (h : ((a ++ f :: b).map FL.id).Nodup) : (a ++ f :: b).filter (fun x => decide (x.id ≠ f.id)) = a ++ b := by
  obtain ⟨h1, h2⟩ := off_ids h
  rw [List.filter_append, List.filter_cons_of_neg (by simp), List.filter_eq_self.2 (fun x hx => by simpa using h1 x hx), List.filter_eq_self.2 (fun x hx => by simpa using h2 x hx)]
theorem getF_split {a b : List FL} {f : FL} (h : ((a ++ f :: b).map FL.id).Nodup) : getF (a ++ f :: b) f.id = some f := by
  unfold getF
  rw [List.find?_append, List.find?_eq_none.2 (fun x hx => by simpa using (off_ids h).1 x hx), Option.none_or, List.find?_cons_of_pos (by simp)]
theorem cnt_pos {ml : List (List UInt8 × (Nat × Nat))} {n : List UInt8} {p : Nat × Nat} (h : (n, p) ∈ ml) : 1 ≤ cnt ml p.2 := by
  unfold cnt
  exact List.length_pos_of_mem (List.mem_filter.2 ⟨h, by simp⟩)
theorem cnt_del {ml : List (List UInt8 × (Nat × Nat))} {n : List UInt8} {p : Nat × Nat} (hn : (ml.map Prod.fst).Nodup) (h : alook ml n = some p) (id : Nat) : cnt (mdel ml n) id + (if p.2 = id then 1 else 0) = cnt ml id := by
  obtain ⟨a, b, rfl, ha⟩ := alook_split h
  rw [List.map_append, List.map_cons, List.nodup_append, List.nodup_cons] at hn
  have hb : ∀ q ∈ b, q.1 ≠ n := fun q hq e => hn.2.1.1 (by rw [← e]; exact List.mem_map.2 ⟨q, hq, rfl⟩)
  have e1 : mdel (a ++ (n, p) :: b) n = a ++ b := by
    unfold mdel
    rw [List.filter_append, List.filter_cons_of_neg (by simp), List.filter_eq_self.2 (fun q hq => by simpa using ha q hq), List.filter_eq_self.2 (fun q hq => by simpa using hb q hq)]
  rw [e1]
  unfold cnt
  rw [List.filter_append, List.filter_append, List.filter_cons]
  by_cases hp : p.2 = id
  · rw [if_pos hp, if_pos (by simpa using hp)]
    simp only [List.length_append, List.length_cons]
    omega
  · rw [if_neg hp, if_neg (by simpa using hp)]
    simp only [List.length_append]
    omega
theorem raw_lets {s : SM} (h : Raw s) {n : List UInt8} {es : Array MapEntry} (hm : MapOk strEnc strOk es s.ck ((letsM s n).ml.map fun q => (q.1, fptr q.2))) : Raw { letsM s n with es := es } := by
  unfold letsM at hm ⊢
  cases hl : alook s.ml n with
  | none =>
    rw [hl] at hm
    exact ⟨hm, h.nd, h.ids, h.gnd, h.has, h.form, h.le, h.us⟩
  | some p =>
    rw [hl] at hm
    simp only at hm ⊢
    obtain ⟨f, hf, hfg, hfi⟩ := h.has _ (alook_mem hl)
    obtain ⟨a, b, hab⟩ := List.append_of_mem hf
    have hids := h.ids
    rw [hab] at hids
    have hg : getF s.fs p.2 = some f := by rw [hab, ← hfi]; exact getF_split hids
    rw [hg] at hm ⊢
    simp only at hm ⊢
    have hnd : ((mdel s.ml n).map Prod.fst).Nodup := List.Nodup.sublist (List.Sublist.map _ List.filter_sublist) h.nd
    have hsub : ∀ q ∈ mdel s.ml n, q ∈ s.ml := fun q hq => (List.mem_filter.1 hq).1
    have hc := cnt_del h.nd hl
    have hlf := h.le f hf
    have hcf := hc f.id
    rw [if_pos hfi.symm] at hcf
    obtain ⟨A, cap, hv, hxl⟩ := h.form f hf
    have hus := h.us
    have hts := tot_split a b f
    rw [← hab] at hts
    by_cases hk : f.k = 1
    · rw [if_pos hk] at hm ⊢
      refine ⟨hm, hnd, List.Nodup.sublist (List.Sublist.map _ List.filter_sublist) h.ids, List.Nodup.sublist (List.Sublist.map _ List.filter_sublist) h.gnd, fun q hq => ?_, fun x hx => h.form x (List.mem_filter.1 hx).1, fun x hx => ?_, ?_⟩
      · obtain ⟨x, hx, hxg, hxi⟩ := h.has q (hsub q hq)
        refine ⟨x, List.mem_filter.2 ⟨hx, ?_⟩, hxg, hxi⟩
        simp only [decide_eq_true_eq]
        intro e
        have h1 : 1 ≤ cnt (mdel s.ml n) f.id := by
          have := cnt_pos (n := q.1) (p := q.2) hq
          rw [← hxi, e, ← hfi] at this
          exact this
        omega
      · have h1 := h.le x (List.mem_filter.1 hx).1
        have h2 := hc x.id
        simp only at h1 ⊢
        omega
      · have hfs : s.fs.filter (fun x => decide (x.id ≠ p.2)) = a ++ b := by rw [hab, ← hfi]; exact filter_split hids
        simp only
        rw [hfs]
        omega
    · rw [if_neg hk] at hm ⊢
      have hbm : ∀ x ∈ bump s.fs p.2 (-1), ∃ y ∈ s.fs, x.id = y.id ∧ x.g = y.g ∧ x.v = y.v ∧ x.xs = y.xs ∧ x.k = y.k + if y.id = p.2 then -1 else 0 := fun x hx => by
        obtain ⟨y, hy, rfl⟩ := List.mem_map.1 hx
        refine ⟨y, hy, ?_⟩
        split <;> simp_all
      have hids2 : (bump s.fs p.2 (-1)).map FL.id = s.fs.map FL.id := by
        unfold bump
        rw [List.map_map]
        exact List.map_congr_left fun x _ => by simp only [Function.comp]; split <;> rfl
      have hgs2 : (bump s.fs p.2 (-1)).map FL.g = s.fs.map FL.g := by
        unfold bump
        rw [List.map_map]
        exact List.map_congr_left fun x _ => by simp only [Function.comp]; split <;> rfl
      refine ⟨hm, hnd, by show (List.map FL.id (bump s.fs p.2 (-1))).Nodup; rw [hids2]; exact h.ids, by show (List.map FL.g (bump s.fs p.2 (-1))).Nodup; rw [hgs2]; exact h.gnd, fun q hq => ?_, fun x hx => ?_, fun x hx => ?_, by show (tot (bump s.fs p.2 (-1)) : Int) ≤ _ ∧ _; rw [tot_bump]; exact hus⟩
      · obtain ⟨x, hx, hxg, hxi⟩ := h.has q (hsub q hq)
        exact ⟨if x.id = p.2 then { x with k := x.k + -1 } else x, List.mem_map.2 ⟨x, hx, rfl⟩, by split <;> exact hxg, by split <;> exact hxi⟩
      · obtain ⟨y, hy, _, _, e3, e4, _⟩ := hbm x hx
        rw [e3, e4]
        exact h.form y hy
      · obtain ⟨y, hy, e1, _, _, _, e5⟩ := hbm x hx
        have h1 := h.le y hy
        have h2 := hc y.id
        rw [e1, e5]
        simp only at h1 ⊢
        by_cases hyp : y.id = p.2
        · rw [if_pos hyp]
          rw [if_pos hyp.symm] at h2
          omega
        · rw [if_neg hyp]
          rw [if_neg (fun e => hyp e.symm)] at h2
          omega
/-- (*sync.atomic.Int32).Load -/
theorem aload_con (g i : Nat) (l : List Value) (e : TypeId) (fz : Nat × Nat) (n : Int) (w : World) (hc : w.heap[g]? = some (.cells l.toArray e fz)) (hi : l[i]? = some (.int .i32 n)) : Con Try.prog 33 [.pointer (some ⟨g, i, none⟩)] w [] fun v _ => v = .int .i32 n := by
  refine con_of_tree mix Try.func33 T33_ok (by kernel_rfl) ?_
  unfold T33
  refine j_q (qs_ac) ?_
  refine j_q (qs_nil rfl) ?_
  refine j_q (qs_field Try.underlying71 rfl sz21 (by decide) rfl) ?_
  refine j_q (qs_extw (f := 67) (fn := Try.f67) (e := fun _ => pure .nilIface) rfl rfl rfl (fun w' hw' => run_call_load Try.func67 (by kernel_rfl) (by kernel_rfl) (by kernel_rfl) .i32 (by kernel_rfl) (by rw [cell_of ((hw'.frame g (lt_of_get hc) (by simp)).trans hc)]; exact hi))) ?_
  refine j_ret_con (vs := [_]) (fun w' hw' => ⟨rfl, trivial⟩) ?_
  rfl
/-- (*sync.atomic.Int32).Add -/
theorem aadd_con (g i : Nat) (l : List Value) (e : TypeId) (n d : Int) (w : World) (hi : l[i]? = some (.int .i32 n)) (hb : -2147483648 ≤ n + d ∧ n + d ≤ 2147483647) : Con Try.prog 68 [.pointer (some ⟨g, i, none⟩), .int .i32 d] w [(g, .cells l.toArray e (0, 0))] fun v S' => v = .int .i32 (n + d) ∧ S' = [[(g, .cells (l.set i (.int .i32 (n + d))).toArray e (0, 0))]] := by
  refine con_of_tree mix Try.func68 T68_ok (by kernel_rfl) ?_
  unfold T68
  refine j_q (qs_ac) ?_
  refine j_q (qs_nil rfl) ?_
  refine j_q (qs_field Try.underlying71 rfl sz21 (by decide) rfl) ?_
  refine j_extset (u := .int .i32 (n + d)) 0 rfl rfl rfl rfl (fun w' hw' => run_call_add Try.func85 (by kernel_rfl) (by kernel_rfl) (by kernel_rfl) .i32 (by kernel_rfl) (by rw [cell_of hw']; exact hi) (notFrozen hw') (by simp only [Op.intArith]; rw [IntWalk.i32_in _ hb]; rfl)) ?_
  refine j_ret_con (vs := [_]) (fun w' hw' => ⟨rfl, trivial⟩) ?_
  exact ⟨rfl, rfl⟩
/-- slices.Clip[[]byte,byte] -/
theorem clip_con (A : Option Addr) (n c : Nat) (hc : n ≤ c) (w : World) : Con Try.prog 37 [.slice A n c] w [] fun v _ => v = .slice (if n = 0 then A else A.map (fun a : Addr => a.add (0 * 1))) n n := by
  refine con_of_tree mix Try.func37 T37_ok (by kernel_rfl) ?_
  unfold T37
  refine j_q (qs_ac) ?_
  refine j_q (qs_lenl Try.underlying23 rfl) ?_
  refine j_q (qs_lenl Try.underlying23 rfl) ?_
  refine j_q (qs_cut3 (z := n) (m := n) Try.underlying23 sz5 rfl rfl rfl (Nat.le_refl _) hc) ?_
  refine j_ret_con (vs := [_]) (fun w' hw' => ⟨rfl, trivial⟩) ?_
  rfl
/-- (*pantry.fs.state).lets -/
theorem lets_con (s : SM) (n : List UInt8) (w : World) (h : Raw s) (hn : strOk n) : Con Try.prog 36 [s.ptr, .string (bs n)] w s.heap fun _ S' => ∃ es : Array MapEntry, S' = [SM.heap { letsM s n with es := es }] ∧ Raw { letsM s n with es := es } := by
  refine con_of_tree mix Try.func36 T36_ok (by kernel_rfl) ?_
  unfold T36
  refine j_perm (S' := [[(s.gs, s.sobj)], [(s.gm, .map s.es s.ck)], s.fs.map FL.h]) (by simp [SM.heap]) ?_
  refine j_q (qs_nil rfl) ?_
  refine j_q (qs_field Try.underlying66 rfl sz64 (by decide) rfl) ?_
  refine j_q (qs_load (l := smcells s) 0 Try.underlying64 rfl rfl rfl rfl) ?_
  refine j_q (qs_lookup (key := n) strKey 1 Try.underlying64 zv63 rfl rfl rfl h.map hn) ?_
  rw [mlook_map fptr, getD_fptr]
  refine j_q (qs_pnil Try.underlying63 rfl) ?_
  refine j_cond rfl (fun hc0 => ?_) (fun hc0 => ?_)
  · skip
    have hl : alook s.ml n = none := by
      cases hx : alook s.ml n with
      | none => rfl
      | some p => rw [hx] at hc0; simp at hc0
    refine j_perm (S' := [s.heap]) (by simp [SM.heap]) ?_
    refine j_ret_con (vs := []) (fun w' hw' => trivial) ?_
    refine ⟨s.es, ?_, ?_⟩
    · have e : letsM s n = s := by unfold letsM; rw [hl]
      rw [e]
    · refine raw_lets h ?_
      have e : letsM s n = s := by unfold letsM; rw [hl]
      rw [e]
      exact h.map
  · skip
    obtain ⟨p, hl⟩ : ∃ p, alook s.ml n = some p := by
      cases hx : alook s.ml n with
      | none => rw [hx] at hc0; simp at hc0
      | some p => exact ⟨p, rfl⟩
    rw [hl, Option.map_some]
    obtain ⟨f, hf, hfg, hfi⟩ := h.has _ (alook_mem hl)
    simp only at hfg hfi
    obtain ⟨a, b, hab⟩ := List.append_of_mem hf
    have hids := h.ids
    rw [hab] at hids
    have hgf : getF s.fs p.2 = some f := by rw [hab, ← hfi]; exact getF_split hids
    obtain ⟨A, cap, hv, hxl⟩ := h.form f hf
    have hlf := h.le f hf
    have hcp := cnt_pos (alook_mem hl)
    rw [← hfi] at hcp
    have hus := h.us
    have hts := tot_split a b f
    rw [← hab] at hts
    rw [← hfg]
    refine j_perm (S' := [[(s.gs, s.sobj)], [(s.gm, .map s.es s.ck)], [f.h], rest a b]) (by
      refine List.Perm.trans (List.Perm.of_eq ?_) (SM.open_ hab)
      simp [SM.heap]) ?_
    refine j_q (qs_nil rfl) ?_
    refine j_q (qs_field Try.underlying66 rfl sz64 (by decide) rfl) ?_
    refine j_q (qs_load (l := smcells s) 0 Try.underlying64 rfl rfl rfl rfl) ?_
    refine j_mapdel (key := n) strKey 1 Try.underlying64 rfl rfl rfl h.map hn (fun es1 hm1 => ?_)
    rw [mdel_map fptr] at hm1
    refine j_q (qs_nil rfl) ?_
    refine j_q (qs_field Try.underlying73 rfl sz71 (by decide) rfl) ?_
    refine j_call 2 ent68 rfl rfl rfl rfl (fun w' hw' => aadd_con f.g 1 (flcells f) 73 f.k (-1) w' rfl (by omega)) (fun u S2 hu => ?_)
    obtain ⟨rfl, rfl⟩ := hu
    refine j_perm (S' := [[(s.gs, s.sobj)], [(s.gm, .map es1 s.ck)], [FL.h ({ f with k := f.k + -1 } : FL)], rest a b]) (by
      classical
      refine List.perm_iff_count.2 fun x => ?_
      simp only [FL.h, flcells, SM.sobj, smcells, List.set, List.flatten_cons, List.flatten_nil, List.append_nil, List.nil_append, List.cons_append, List.count_append, List.count_cons, List.count_nil] <;> omega) ?_
    refine j_q (qs_eql rfl rfl) ?_
    refine j_cond rfl (fun hc1 => ?_) (fun hc1 => ?_)
    · skip
      have hk : f.k = 1 := by
        have h1 : f.k + -1 = 0 := by simpa using hc1
        omega
      have hM : letsM s n = { s with ml := mdel s.ml n, fs := a ++ b, used := s.used - (f.xs.length : Int) } := by
        unfold letsM
        rw [hl]
        simp only
        rw [hgf]
        simp only
        rw [if_pos hk, hab, ← hfi, filter_split hids]
      refine j_draw ?_
      refine jq_q (qs_nil rfl) ?_
      refine jq_q (qs_field Try.underlying66 rfl sz3 (by decide) rfl) ?_
      refine jq_q (qs_load (l := smcells s) 0 Try.underlying3 rfl rfl rfl rfl) ?_
      refine jq_q (qs_nil rfl) ?_
      refine jq_q (qs_field Try.underlying73 rfl sz23 (by decide) rfl) ?_
      refine jq_q (qs_load (l := flcells ({ f with k := f.k + -1 } : FL)) 2 Try.underlying23 rfl rfl rfl rfl) ?_
      refine jq_q (qs_lenl Try.underlying23 hv) ?_
      refine jq_q (qs_sub64 rfl rfl (by first | omega | (simp only [Bool.and_eq_true, Bool.or_eq_true, Bool.and_eq_false_iff, Bool.or_eq_false_iff, Bool.not_eq_true', Bool.not_eq_false', decide_eq_true_eq, decide_eq_false_iff_not, beq_iff_eq, beq_eq_false_iff_ne, bne_iff_ne, bne_eq_false_iff_eq, ne_eq, Int.toNat_natCast] at *; omega))) ?_
      refine jq_q (qs_nil rfl) ?_
      refine jq_q (qs_field Try.underlying66 rfl sz3 (by decide) rfl) ?_
      refine jq_nil ?_
      refine j_store (l := smcells s) 0 sz3 rfl rfl rfl rfl (by simp) (by simp) ?_
      refine j_subl (S' := [[(s.gs, .cells [.map (some s.gm), .int .i64 (s.used - (f.xs.length : Int))].toArray 66 (0, 0))], [(s.gm, .map es1 s.ck)], rest a b]) (by repeat first | exact List.Sublist.refl _ | exact List.nil_sublist _ | apply List.Sublist.cons_cons | apply List.Sublist.cons) ?_
      refine j_perm (S' := [SM.heap { letsM s n with es := es1 }]) (by rw [hM]; simp [SM.heap, rest]) ?_
      refine j_ret_con (vs := []) (fun w' hw' => trivial) ?_
      refine ⟨es1, rfl, raw_lets h ?_⟩
      rw [hM]
      exact hm1
    · skip
      have hk : f.k ≠ 1 := by
        have h1 : ¬ f.k + -1 = 0 := by simpa using hc1
        omega
      have hM : letsM s n = { s with ml := mdel s.ml n, fs := a ++ ({ f with k := f.k + -1 } : FL) :: b } := by
        unfold letsM
        rw [hl]
        simp only
        rw [hgf]
        simp only
        rw [if_neg hk, hab, ← hfi, bump_split hids]
      refine j_perm (S' := [SM.heap { letsM s n with es := es1 }]) (by
        rw [hM]
        classical
        refine List.perm_iff_count.2 fun x => ?_
        simp only [SM.heap, SM.sobj, smcells, rest, List.map_append, List.map_cons, List.flatten_cons, List.flatten_nil, List.append_nil, List.nil_append, List.cons_append, List.count_append, List.count_cons, List.count_nil] <;> omega) ?_
      refine j_ret_con (vs := []) (fun w' hw' => trivial) ?_
      refine ⟨es1, rfl, raw_lets h ?_⟩
      rw [hM]
      exact hm1
end Go.Proofs.Ytckpegkpdepokaa
