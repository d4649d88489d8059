/- Part 5. -/
import Derived.Test.YtfebkkmmagbnlaaGreatDoorPW3
import Derived.Test.YtfebkkmmagbnlaaGreatDoorPW4
import Derived.Shelf.SlIter.Nil
import Derived.Shelf.SortM.Plain
import Derived.Shelf.SortM.SortNone
import Derived.Ground.GgzProg
import Derived.Ground.SlgmProg
import Derived.Test.YtfebkkmmagbnlaaGreatDoorProg
import Derived.Maps.RangeRun
/-! Fs3 -/
namespace Go.Proofs.YtfebkkmmagbnlaaGreatDoor
open Go Go.Sx
set_option maxRecDepth 100000
set_option maxHeartbeats 4000000
set_option linter.unusedVariables false
set_option linter.unusedSimpArgs false
attribute [local irreducible] J JQ QS Con W opW
open Go.MapKept Go.WideMaps Go.Maps
theorem letsM_es (s : SM) (n : List UInt8) (e : Array MapEntry) (c : Nat) : letsM { s with es := e, ck := c } n = { letsM s n with es := e, ck := c } := by
 unfold letsM
 simp only
 cases alook s.ml n with
 | none => rfl
 | some p =>
  simp only
  cases getF s.fs p.2 with
  | none => rfl
  | some f =>
   simp only
   split <;> rfl
theorem givesM_es (s : SM) (n : List UInt8) (p : Nat × Nat) (e : Array MapEntry) (c : Nat) : givesM { s with es := e, ck := c } n p = { givesM s n p with es := e, ck := c } := by
 unfold givesM
 simp only
 split
 ·rfl
 ·rw [show ({ gs := s.gs, gm := s.gm, es := e, ck := c, ml := s.ml, fs := bump s.fs p.2 1, used := s.used } : SM) = { ({ s with fs := bump s.fs p.2 1 } : SM) with es := e, ck := c } from rfl, letsM_es]
theorem givesM_gs (s : SM) (n : List UInt8) (p : Nat × Nat) : (givesM s n p).gs = s.gs ∧ (givesM s n p).gm = s.gm := by
 unfold givesM
 split
 ·exact ⟨rfl, rfl⟩
 ·exact ⟨(letsM_gs _ _).1, (letsM_gs _ _).2.1⟩
theorem lets_tot {s : SM} (h : Raw s) (n : List UInt8) {d : Int} (ht : (tot s.fs : Int) + d ≤ s.used) : (tot (letsM s n).fs : Int) + d ≤ (letsM s n).used ∧ (letsM s n).used ≤ s.used := by
 unfold letsM
 cases hl : alook s.ml n with
 | none => exact ⟨ht, Int.le_refl _⟩
 | some p =>
  obtain ⟨f, hf, hfg, hfi⟩ := h.has _ (alook_mem hl)
  obtain ⟨a, b, hab⟩ := List.append_of_mem hf
  have hids := h.ids
  rw [hab] at hids
  have hg : getF s.fs p.2 = some f := by rw [hab, ← hfi]; exact getF_split hids
  have hts := tot_split a b f
  rw [← hab] at hts
  simp only
  rw [hg]
  simp only
  split
  ·have hfs : s.fs.filter (fun x => decide (x.id ≠ p.2)) = a ++ b := by rw [hab, ← hfi]; exact filter_split hids
   simp only
   rw [hfs]
   omega
  ·simp only
   rw [tot_bump]
   omega
theorem lets_sub {s : SM} {n : List UInt8} {x : FL} (hx : x ∈ (letsM s n).fs) : ∃ y ∈ s.fs, x.id = y.id ∧ x.g = y.g ∧ x.v = y.v ∧ x.xs = y.xs := by
 unfold letsM at hx
 cases hl : alook s.ml n with
 | none => rw [hl] at hx; exact ⟨x, hx, rfl, rfl, rfl, rfl⟩
 | some p =>
  rw [hl] at hx
  simp only at hx
  cases hg : getF s.fs p.2 with
  | none => rw [hg] at hx; exact ⟨x, hx, rfl, rfl, rfl, rfl⟩
  | some f =>
   rw [hg] at hx
   simp only at hx
   split at hx
   ·exact ⟨x, (List.mem_filter.1 hx).1, rfl, rfl, rfl, rfl⟩
   ·obtain ⟨y, hy, h1, h2, h3, h4, _⟩ := mem_bump hx
    exact ⟨y, hy, h1, h2, h3, h4⟩
theorem cnt_zero {s : SM} (h : Raw s) {id : Nat} (hid : ∀ f ∈ s.fs, f.id ≠ id) : cnt s.ml id = 0 := by
 unfold cnt
 rw [List.length_eq_zero_iff, List.filter_eq_nil_iff]
 intro q hq
 obtain ⟨f, hf, _, h2⟩ := h.has q hq
 simp only [decide_eq_true_eq]
 intro e
 exact hid f hf (h2.trans e)
def newM (s : SM) (id : Nat) (v : Value) (xs : List UInt8) (g : Nat) : SM := { s with fs := ⟨g, id, v, xs, 0⟩ :: s.fs }
theorem raw_new {s : SM} (h : Raw s) {id : Nat} {v : Value} {xs : List UInt8} {g : Nat} (hid : ∀ f ∈ s.fs, f.id ≠ id) (hg : ∀ f ∈ s.fs, f.g ≠ g) (hv : ∃ A cap, v = .slice A xs.length cap ∧ xs.length ≤ 1000000000) (ht : (tot s.fs : Int) ≤ s.used) : Raw (newM s id v xs g) := by
 obtain ⟨A, cap, hv1, hv2⟩ := hv
 have hus := h.us
 refine ⟨h.map, h.nd, ?_, ?_, fun q hq => ?_, fun f hf => ?_, fun f hf => ?_, ?_⟩
 ·show ((_ :: s.fs).map FL.id).Nodup
  rw [List.map_cons, List.nodup_cons]
  exact ⟨fun hm => by obtain ⟨f, hf, e⟩ := List.mem_map.1 hm; exact hid f hf e, h.ids⟩
 ·show ((_ :: s.fs).map FL.g).Nodup
  rw [List.map_cons, List.nodup_cons]
  exact ⟨fun hm => by obtain ⟨f, hf, e⟩ := List.mem_map.1 hm; exact hg f hf e, h.gnd⟩
 ·obtain ⟨f, hf, h1⟩ := h.has q hq
  exact ⟨f, List.mem_cons_of_mem _ hf, h1⟩
 ·rcases List.mem_cons.1 hf with rfl | hf
  ·exact ⟨A, cap, hv1, hv2⟩
  ·exact h.form f hf
 ·rcases List.mem_cons.1 hf with rfl | hf
  ·show ((cnt s.ml id : Nat) : Int) ≤ 0 ∧ (0 : Int) ≤ 1000000
   rw [cnt_zero h hid]
   exact ⟨Int.le_refl _, by decide⟩
  ·exact h.le f hf
 ·show (tot (_ :: s.fs) : Int) ≤ s.used + 2000000000 ∧ _
  have e : tot ((⟨g, id, v, xs, 0⟩ : FL) :: s.fs) = xs.length + tot s.fs := by simp [tot]
  rw [e]
  exact ⟨by omega, hus.2⟩
theorem SM.split (s : SM) : ([s.heap] : List SH).flatten.Perm ([[(s.gs, s.sobj)], [(s.gm, .map s.es s.ck)], s.fs.map FL.h] : List SH).flatten := List.Perm.of_eq (by simp [SM.heap])
def writeM (s : SM) (n : List UInt8) (id : Nat) (v : Value) (xs : List UInt8) (g : Nat) : SM :=
 { givesM (newM (letsM s n) id v xs g) n (g, id) with used := (givesM (newM (letsM s n) id v xs g) n (g, id)).used + (xs.length : Int) }
theorem gives_tot {s : SM} (h : Raw s) {n : List UInt8} {f : FL} (hf : f ∈ s.fs) (hk : f.k + 1 ≤ 1000000) {d : Int} (ht : (tot s.fs : Int) + d ≤ s.used) : (tot (givesM s n (f.g, f.id)).fs : Int) + d ≤ (givesM s n (f.g, f.id)).used ∧ (givesM s n (f.g, f.id)).used ≤ s.used := by
 unfold givesM
 split
 ·exact ⟨ht, Int.le_refl _⟩
 ·exact lets_tot (raw_bump h hf hk) n (d := d) (by show (tot (bump s.fs f.id 1) : Int) + d ≤ _; rw [tot_bump]; exact ht)
theorem raw_used {s : SM} (h : Raw s) (u : Int) (hu : (tot s.fs : Int) ≤ u + 2000000000 ∧ u ≤ 1000000000000000) : Raw { s with used := u } := ⟨h.map, h.nd, h.ids, h.gnd, h.has, h.form, h.le, hu⟩
theorem wr_con (s : SM) (P : List BK) (n : List UInt8) (bv : Value) (xs : List UInt8) (A : Option Addr) (c id g1 g2 : Nat) (w : World) (h : Raw s) (ht : (tot s.fs : Int) ≤ s.used) (hu : s.used ≤ 2000000000) (hid : ∀ f ∈ s.fs, f.id ≠ id) (hbv : bv = .slice A xs.length c) (hc : xs.length ≤ c) (hxl : xs.length ≤ 1000000000) (hn : strOk n) (h1 : w.heap[g1]? = some (.cells [.string (bs n)].toArray 9 (0, 0))) (hd1 : g1 ∉ dom (s.heap ++ ph P)) (h2 : w.heap[g2]? = some (.cells [bv].toArray 33 (0, 0))) (hd2 : g2 ∉ dom (s.heap ++ ph P)) : Con Tryz.prog 101 [s.ptr, .pointer (some ⟨g1, 0, none⟩), .pointer (some ⟨g2, 0, none⟩)] w (s.heap ++ ph P) fun _ S' => ∃ (es : Array MapEntry) (ck g : Nat), w.heap.size ≤ g ∧ S' = [SM.heap { writeM s n id (.slice (if xs.length = 0 then A else A.map (fun a : Addr => a.add (0 * 1))) xs.length xs.length) xs g with es := es, ck := ck }, ph P] ∧ Raw { writeM s n id (.slice (if xs.length = 0 then A else A.map (fun a : Addr => a.add (0 * 1))) xs.length xs.length) xs g with es := es, ck := ck } := by
 refine con_of_tree mix Tryz.func101 T101_ok (by kernel_rfl) ?_
 unfold T101
 obtain ⟨cv, hcv⟩ : ∃ v : Value, v = (.slice (if xs.length = 0 then A else A.map (fun a : Addr => a.add (0 * 1))) xs.length xs.length) := ⟨_, rfl⟩
 rw [← hcv]
 subst hbv
 refine j_perm (S' := [s.heap, ph P]) (by simp) ?_
 refine j_q (qs_loadO (rdo_base h1 hd1) U9 rfl rfl rfl) ?_
 refine j_call 0 ent99 rfl rfl rfl rfl (fun w' hw' => lets_con s n w' h hn) (fun u S2 hu1 => ?_)
 obtain ⟨es1, rfl, hr1⟩ := hu1
 refine j_subl (S' := [SM.heap ({ letsM s n with es := es1 } : SM), ph P]) (by repeat first | exact slR _ | exact slN _ | apply slC | apply slD) ?_
 have ht1 := lets_tot h n (d := 0) (by omega)
 refine j_q (qs_loadO (rdo_base h2 hd2) U33 rfl rfl rfl) ?_
 refine j_q (qs_call ent82 rfl rfl rfl (fun w' hw' => clip_con A xs.length c hc w')) ?_
 rw [← hcv]
 refine j_q (qs_build (places := [(0, 1), (1, 1)]) (offs := [(0, [cv])]) U114 zero114 (by kernel_rfl) rfl (by rintro (_ | j) p q hp hq <;> first | (simp at hp hq; subst hp hq; exact ⟨rfl, (by show cv.cells = #[cv]; rw [hcv]; rfl), by simp⟩) | (simp at hp))) ?_
 refine j_box (l := [cv, .int .i32 0]) rfl (fun g5 hg5 hs5 => ?_)
 refine j_q (qs_loadO (rdo_base h1 hd1) U9 rfl rfl rfl) ?_
 have hg5' : ∀ f ∈ (letsM s n).fs, f.g ≠ g5 := fun f hf e => hs5 (by
  rw [← e]
  exact List.mem_map.2 ⟨f.h, by simp only [List.flatten_cons, List.flatten_nil, List.append_nil, SM.heap]; exact List.mem_append_left _ (List.mem_append_right _ (List.mem_map.2 ⟨f, hf, rfl⟩)), rfl⟩)
 have hid1 : ∀ f ∈ (letsM s n).fs, f.id ≠ id := fun f hf e => by
  obtain ⟨y, hy, e1, _⟩ := lets_sub hf
  exact hid y hy (e1.symm.trans e)
 have hr2 : Raw (newM ({ letsM s n with es := es1 } : SM) id cv xs g5) := raw_new hr1 hid1 hg5' ⟨_, _, hcv, hxl⟩ (by have := ht1.1; show (tot (letsM s n).fs : Int) ≤ (letsM s n).used; omega)
 refine j_perm (S' := [SM.heap (newM ({ letsM s n with es := es1 } : SM) id cv xs g5), ph P]) (by
  classical
  refine List.perm_iff_count.2 fun x => ?_
  simp only [SM.heap, newM, rest, FL.h, flcells, SM.sobj, smcells, List.set, List.map_append, List.map_cons, List.flatten_cons, List.flatten_nil, List.append_nil, List.nil_append, List.cons_append, List.count_append, List.count_cons, List.count_nil] <;> omega) ?_
 have hp2 : SM.ptr (newM ({ letsM s n with es := es1 } : SM) id cv xs g5) = s.ptr := by simp only [SM.ptr, newM, (letsM_gs s n).1]
 refine j_call 0 ent102 rfl rfl (by rw [hp2]; rfl) rfl (fun w' hw' => gives_con (newM ({ letsM s n with es := es1 } : SM) id cv xs g5) n (⟨g5, id, cv, xs, 0⟩ : FL) w' hr2 hn (by simp [newM]) (by show (0 : Int) + 1 ≤ _; decide)) (fun u S2 hu1 => ?_)
 obtain ⟨es3, ck3, rfl, hr3⟩ := hu1
 have hg3t := gives_tot hr2 (f := (⟨g5, id, cv, xs, 0⟩ : FL)) (n := n) (by simp [newM]) (by show (0 : Int) + 1 ≤ _; decide) (d := -(xs.length : Int)) (by
  show (tot (_ :: (letsM s n).fs) : Int) + _ ≤ (letsM s n).used
  have e : tot ((⟨g5, id, cv, xs, 0⟩ : FL) :: (letsM s n).fs) = xs.length + tot (letsM s n).fs := by simp [tot]
  rw [e]
  have := ht1.1
  omega)
 have hlu := ht1.2
 obtain ⟨s3, hs3⟩ : ∃ x : SM, x = ({ givesM (newM ({ letsM s n with es := es1 } : SM) id cv xs g5) n (g5, id) with es := es3, ck := ck3 } : SM) := ⟨_, rfl⟩
 have hgs3 : s3.gs = s.gs := by
  rw [hs3]
  show (givesM (newM ({ letsM s n with es := es1 } : SM) id cv xs g5) n (g5, id)).gs = s.gs
  rw [(givesM_gs _ _ _).1]
  exact (letsM_gs s n).1
 have hr3' : Raw s3 := by rw [hs3]; exact hr3
 have hg3a : (tot s3.fs : Int) + -(xs.length : Int) ≤ s3.used := by rw [hs3]; exact hg3t.1
 have hg3u : s3.used ≤ (letsM s n).used := by rw [hs3]; exact hg3t.2
 have hfin : ({ writeM s n id cv xs g5 with es := es3, ck := ck3 } : SM) = { s3 with used := s3.used + (xs.length : Int) } := by
  have e1 : givesM (newM ({ letsM s n with es := es1 } : SM) id cv xs g5) n (g5, id) = { givesM (newM (letsM s n) id cv xs g5) n (g5, id) with es := es1, ck := (letsM s n).ck } := by
   rw [show (newM ({ letsM s n with es := es1 } : SM) id cv xs g5) = { newM (letsM s n) id cv xs g5 with es := es1, ck := (letsM s n).ck } from rfl, givesM_es]
  rw [hs3, e1]
  rfl
 refine j_perm (S' := [s3.heap, ph P]) (by rw [hs3]; exact List.Perm.refl _) ?_
 clear hs3 hr3 hr2 hg3t
 refine j_perm (S' := [[(s.gs, .cells (smcells s3).toArray 109 (0, 0))], [(s3.gm, .map s3.es s3.ck)], s3.fs.map FL.h, ph P]) (by
  rw [← hgs3]
  have h0 := s3.split.append_right (ph P)
  simpa using h0) ?_
 refine j_draw ?_
 refine jq_q (qs_nil rfl) ?_
 refine jq_q (qs_field U109 rfl sz3 (by decide) rfl) ?_
 refine jq_q (qs_load (l := smcells s3) 0 U3 rfl rfl rfl rfl) ?_
 refine jq_q (qs_loadO (rdo_base h2 hd2) U33 rfl rfl rfl) ?_
 refine jq_q (qs_lenl U33 rfl) ?_
 refine jq_q (qs_add64 rfl rfl (by first | omega | (simp only [bnA] at *; omega))) ?_
 refine jq_q (qs_nil rfl) ?_
 refine jq_q (qs_field U109 rfl sz3 (by decide) rfl) ?_
 refine jq_nil ?_
 refine j_store (l := smcells s3) 0 sz3 rfl rfl rfl rfl (by simp) (by simp) ?_
 refine j_perm (S' := [SM.heap { s3 with used := s3.used + (xs.length : Int) }, ph P]) (by
  rw [← hgs3]
  have h0 := (SM.split { s3 with used := s3.used + (xs.length : Int) }).symm.append_right (ph P)
  refine List.Perm.trans (List.Perm.of_eq ?_) (List.Perm.trans h0 (List.Perm.of_eq (by simp)))
  simp [List.set]
  rfl) ?_
 refine j_ret_con (vs := []) (fun w' hw' => trivial) ?_
 refine ⟨es3, ck3, g5, hg5, ?_, ?_⟩
 ·rw [hfin]
 ·rw [hfin]
  exact raw_used hr3' _ ⟨by omega, by omega⟩
end Go.Proofs.YtfebkkmmagbnlaaGreatDoor
/-! Fs4 -/
namespace Go.Proofs.YtfebkkmmagbnlaaGreatDoor
open Go Go.Sx
set_option maxRecDepth 100000
set_option maxHeartbeats 4000000
set_option linter.unusedVariables false
set_option linter.unusedSimpArgs false
attribute [local irreducible] J JQ QS Con W opW
open Go.MapKept Go.WideMaps Go.Maps
def app1 (id : Nat) (v : Value) (xs : List UInt8) (f : FL) : FL := if f.id = id then { f with v := v, xs := f.xs ++ xs } else f
def appM (s : SM) (id : Nat) (v : Value) (xs : List UInt8) : SM := { s with fs := s.fs.map (app1 id v xs), used := s.used + (xs.length : Int) }
theorem app_split {a b : List FL} {f : FL} {v : Value} {xs : List UInt8} (h : ((a ++ f :: b).map FL.id).Nodup) : (a ++ f :: b).map (app1 f.id v xs) = a ++ { f with v := v, xs := f.xs ++ xs } :: b := by
 obtain ⟨h1, h2⟩ := off_ids h
 have off : ∀ {c : List FL}, (∀ x ∈ c, x.id ≠ f.id) → c.map (app1 f.id v xs) = c := fun {c} hc => by
  conv => rhs; rw [← List.map_id c]
  exact List.map_congr_left fun x hx => by unfold app1; rw [if_neg (hc x hx)]; rfl
 rw [List.map_append, List.map_cons, off h1, off h2]
 congr 2
 unfold app1
 rw [if_pos rfl]
theorem app_id (id : Nat) (v : Value) (xs : List UInt8) (f : FL) : (app1 id v xs f).id = f.id ∧ (app1 id v xs f).g = f.g ∧ (app1 id v xs f).k = f.k := by
 unfold app1
 split <;> exact ⟨rfl, rfl, rfl⟩
theorem raw_app {s : SM} (h : Raw s) {f : FL} (hf : f ∈ s.fs) {v : Value} {xs : List UInt8} (hv : ∃ A cap, v = .slice A (f.xs ++ xs).length cap) (hl : (f.xs ++ xs).length ≤ 1000000000) (hu : s.used + (xs.length : Int) ≤ 1000000000000000) : Raw (appM s f.id v xs) := by
 obtain ⟨a, b, hab⟩ := List.append_of_mem hf
 have hids := h.ids
 rw [hab] at hids
 have hfs : s.fs.map (app1 f.id v xs) = a ++ { f with v := v, xs := f.xs ++ xs } :: b := by rw [hab]; exact app_split hids
 have hus := h.us
 refine ⟨h.map, h.nd, ?_, ?_, fun q hq => ?_, fun x hx => ?_, fun x hx => ?_, ?_⟩
 ·show ((s.fs.map (app1 f.id v xs)).map FL.id).Nodup
  rw [List.map_map]
  have e : s.fs.map (FL.id ∘ app1 f.id v xs) = s.fs.map FL.id := List.map_congr_left fun x _ => (app_id _ _ _ x).1
  rw [e]
  exact h.ids
 ·show ((s.fs.map (app1 f.id v xs)).map FL.g).Nodup
  rw [List.map_map]
  have e : s.fs.map (FL.g ∘ app1 f.id v xs) = s.fs.map FL.g := List.map_congr_left fun x _ => (app_id _ _ _ x).2.1
  rw [e]
  exact h.gnd
 ·obtain ⟨x, hx, h1, h2⟩ := h.has q hq
  exact ⟨app1 f.id v xs x, List.mem_map.2 ⟨x, hx, rfl⟩, (app_id _ _ _ x).2.1.trans h1, (app_id _ _ _ x).1.trans h2⟩
 ·have hx' : x ∈ a ++ { f with v := v, xs := f.xs ++ xs } :: b := by rw [← hfs]; exact hx
  rcases List.mem_append.1 hx' with hx' | hx'
  ·exact h.form x (by rw [hab]; exact List.mem_append_left _ hx')
  ·rcases List.mem_cons.1 hx' with rfl | hx'
   ·obtain ⟨A, cap, e⟩ := hv
    exact ⟨A, cap, e, hl⟩
   ·exact h.form x (by rw [hab]; exact List.mem_append_right _ (List.mem_cons_of_mem _ hx'))
 ·obtain ⟨y, hy, rfl⟩ := List.mem_map.1 hx
  rw [(app_id _ _ _ y).1, (app_id _ _ _ y).2.2]
  exact h.le y hy
 ·show (tot (s.fs.map (app1 f.id v xs)) : Int) ≤ s.used + (xs.length : Int) + 2000000000 ∧ s.used + (xs.length : Int) ≤ 1000000000000000
  have t1 := tot_split a b f
  have t2 := tot_split a b { f with v := v, xs := f.xs ++ xs }
  rw [← hab] at t1
  rw [hfs, t2]
  simp only [List.length_append]
  exact ⟨by omega, hu⟩
def BR (w : World) (v : Value) (xs : List UInt8) : Prop := (v = .slice none 0 0 ∧ xs = []) ∨ ∃ a cap, v = .slice (some a) xs.length cap ∧ xs.length ≤ cap ∧ (0 < xs.length → a.block < w.heap.size) ∧ Cells w a (ints xs)
theorem br_form {w : World} {v : Value} {xs : List UInt8} (h : BR w v xs) : ∃ A cap, v = .slice A xs.length cap ∧ xs.length ≤ cap := by
 rcases h with ⟨rfl, rfl⟩ | ⟨a, cap, rfl, h, _⟩
 ·exact ⟨none, 0, rfl, Nat.le_refl _⟩
 ·exact ⟨_, cap, rfl, h⟩
theorem br_rsl {w : World} {v : Value} {xs : List UInt8} (h : RSl w v (ints xs)) : BR w v xs := by
 rcases h with ⟨rfl, h⟩ | ⟨g, off, cap, rfl, h1, h2, h3⟩
 ·refine .inl ⟨rfl, ?_⟩
  have := congrArg List.length h
  rw [ints_length] at this
  exact List.eq_nil_of_length_eq_zero this
 ·rw [ints_length] at h2 ⊢
  exact .inr ⟨_, cap, rfl, h2, fun _ => h1, h3⟩
theorem br_rv {w : World} {P : List BK} {v : Value} {xs : List UInt8} (h : RV P v xs) (hin : In w (ph P)) : BR w v xs := by
 rcases h with h | ⟨b, hb, cap, rfl, h2, h3⟩
 ·exact .inl h
 ·have hg : w.heap[b.g]? = some (.cells (ints b.xs ++ b.rest).toArray 5 b.fz) := hin b.h (List.mem_map.2 ⟨b, hb, rfl⟩)
  refine .inr ⟨_, cap, rfl, h3, fun _ => lt_of_get hg, fun j u hu => ?_⟩
  rw [add_off, Nat.zero_add, cell_of hg]
  obtain ⟨t, ht⟩ := h2
  rw [← ht, ints_append, List.append_assoc]
  rw [List.getElem?_append_left (List.getElem?_eq_some_iff.1 hu).1]
  exact hu
theorem own_pool {xs : List UInt8} {v : Value} {c : SH} (h : Sx.Own 5 1 (ints xs) v c) : ∃ Q : List BK, c = ph Q ∧ RV Q v xs := by
 rcases h with ⟨rfl, h, rfl⟩ | ⟨g, n, cap, rest, fz, rfl, rfl, h1, h2, h3, h4⟩
 ·refine ⟨[], rfl, .inl ⟨rfl, ?_⟩⟩
  have := congrArg List.length h
  rw [ints_length] at this
  exact List.eq_nil_of_length_eq_zero this
 ·rw [ints_length, Nat.mul_one] at h1
  subst h1
  exact ⟨[⟨g, xs, rest, fz, 0⟩], rfl, .inr ⟨⟨g, xs, rest, fz, 0⟩, by simp, cap, rfl, List.prefix_refl _, h3⟩⟩
theorem clone_con (v : Value) (xs : List UInt8) (w : World) (h : BR w v xs) (hl : xs.length ≤ 1000000000) : Con Tryz.prog 39 [v] w [] fun u S' => ∃ Q : List BK, S' = [ph Q] ∧ RV Q u xs := by
 refine con_of_tree mix Tryz.func39 T39_ok (by kernel_rfl) ?_
 unfold T39
 have hf := br_form h
 obtain ⟨A, cap, hv, hcap⟩ := hf
 subst hv
 refine j_q (qs_ac) ?_
 refine j_q (qs_slnil U33 rfl) ?_
 refine j_cond rfl (fun hc0 => ?_) (fun hc0 => ?_)
 ·skip
  have h0 : A = none := by cases A with
   | none => rfl
   | some a => simp at hc0
  subst h0
  have hx0 : xs = [] := by
   rcases h with ⟨_, h⟩ | ⟨a, c, e, _⟩
   ·exact h
   ·cases e
  subst hx0
  refine j_q (qs_ac) ?_
  refine j_perm (S' := [ph []]) (by simp [ph]) ?_
  refine j_ret_con (vs := [_]) (fun w' hw' => ⟨rfl, trivial⟩) ?_
  exact ⟨[], rfl, .inl ⟨rfl, rfl⟩⟩
 ·skip
  obtain ⟨a, rfl⟩ : ∃ a, A = some a := by
   cases A with
   | none => simp at hc0
   | some a => exact ⟨a, rfl⟩
  have hcl : Cells w a (ints xs) := by
   rcases h with ⟨e, _⟩ | ⟨a', c, e, _, _, h⟩
   ·cases e
   ·injection e with e1 e2 e3
    injection e1 with e1
    rw [e1]
    exact h
  refine j_lit (vs := []) U33 sz5 zero5 rfl (by simp [oneV]) ⟨rfl, by decide⟩ (fun g3 v3 c3 hv3 hc3 ho3 => ?_)
  subst hv3 hc3
  refine j_append 0 U33 U33 (.inr ⟨_, rfl⟩) sb5 zero5 rfl ho3 rfl (src_sl (rd_cells hcl (by simp)) (by rw [ints_length, Nat.mul_one])) ints_one ⟨(by rw [ints_length]; simp only [List.length_nil]; omega), (by decide)⟩ (fun v4 c4 ho4 => ?_)
  rw [List.nil_append] at ho4
  obtain ⟨Q, hQ, hrv⟩ := own_pool ho4
  refine j_subl (S' := [c4]) (by repeat first | exact slR _ | exact slN _ | apply slC | apply slD) ?_
  refine j_ret_con (vs := [_]) (fun w' hw' => ⟨rfl, trivial⟩) ?_
  exact ⟨Q, by rw [hQ], hrv⟩
theorem ap_con (s : SM) (P : List BK) (n : List UInt8) (f : FL) (bv : Value) (xs : List UInt8) (g1 g2 : Nat) (w : World) (h : Raw s) (hf : f ∈ s.fs) (hl : alook s.ml n = some (f.g, f.id)) (hvw : Vw P f.g f.v f.xs) (hrv : RV P bv xs) (hxl : (f.xs ++ xs).length ≤ 1000000000) (hu : -1000000000000000 ≤ s.used ∧ s.used + (xs.length : Int) ≤ 1000000000000000) (hn : strOk n) (h1 : w.heap[g1]? = some (.cells [.string (bs n)].toArray 9 (0, 0))) (hd1 : g1 ∉ dom (s.heap ++ ph P)) (h2 : w.heap[g2]? = some (.cells [bv].toArray 33 (0, 0))) (hd2 : g2 ∉ dom (s.heap ++ ph P)) : Con Tryz.prog 119 [s.ptr, .pointer (some ⟨g1, 0, none⟩), .pointer (some ⟨g2, 0, none⟩)] w (s.heap ++ ph P) fun _ S' => ∃ (v' : Value) (P' : List BK), S' = [SM.heap (appM s f.id v' xs), ph P'] ∧ Vw P' f.g v' (f.xs ++ xs) ∧ PLe f.g P P' ∧ Raw (appM s f.id v' xs) := by
 refine con_of_tree mix Tryz.func119 T119_ok (by kernel_rfl) ?_
 unfold T119
 obtain ⟨a, b, hab⟩ := List.append_of_mem hf
 have hids := h.ids
 rw [hab] at hids
 obtain ⟨bA, bc, hbv, hbc, _⟩ := hrv.form
 subst hbv
 rw [List.length_append] at hxl
 refine j_perm (S' := [[(s.gs, s.sobj)], [(s.gm, .map s.es s.ck)], [f.h], rest a b, ph P]) (by
  have h0 := (SM.open_ hab).append_right (ph P)
  simpa using h0) ?_
 refine j_draw ?_
 refine jq_q (qs_nil rfl) ?_
 refine jq_q (qs_field U109 rfl sz107 (by decide) rfl) ?_
 refine jq_q (qs_load (l := smcells s) 0 U107 rfl rfl rfl rfl) ?_
 refine jq_q (qs_loadO (rdo_base h1 hd1) U9 rfl rfl rfl) ?_
 refine jq_q (qs_lookup (key := n) strKey 1 U107 zv63 rfl rfl rfl h.map hn) ?_
 rw [mlook_map fptr, getD_fptr, hl, Option.map_some]
 refine jq_nil ?_
 refine j_mix [[f.h]] (Le.of_sub (by repeat first | exact slR _ | exact slN _ | apply slC | apply slD)) ?_
 refine j_mq (qs_nil rfl) ?_
 refine j_mq (qs_field U114 rfl sz33 (by decide) rfl) ?_
 refine j_mq (qs_load (l := flcells f) 0 U33 rfl rfl rfl rfl) ?_
 refine j_mq (qs_loadO (rdo_base h2 hd2) U33 rfl rfl rfl) ?_
 refine j_appendP (xs := f.xs) (news := xs) (P := P) (o := f.g) 4 rfl hvw (src_rv hrv (fun k hk => mem_flatten_of (k := 4) rfl (List.mem_map.2 ⟨k, hk, rfl⟩))) (by omega) (fun v9 P9 hv9 hp9 => ?_)
 refine j_mD0 (Le.of_sub (by repeat first | exact slR _ | exact slN _ | apply slC | apply slD)) ?_
 refine j_mq (qs_nil rfl) ?_
 refine j_mq (qs_field U114 rfl sz33 (by decide) rfl) ?_
 refine j_store (l := flcells f) 2 sz33 rfl rfl (by obtain ⟨A', c', e', _⟩ := hv9.rv.form; show oneV v9 = true; rw [e']; rfl) rfl (by simp) (by simp) ?_
 refine j_mR _ (.refl _) ?_
 refine j_mend ?_
 refine j_draw ?_
 refine jq_q (qs_nil rfl) ?_
 refine jq_q (qs_field U109 rfl sz3 (by decide) rfl) ?_
 refine jq_q (qs_load (l := smcells s) 0 U3 rfl rfl rfl rfl) ?_
 refine jq_q (qs_loadO (rdo_base h2 hd2) U33 rfl rfl rfl) ?_
 refine jq_q (qs_lenl U33 rfl) ?_
 refine jq_q (qs_add64 rfl rfl (by first | omega | (simp only [bnA] at *; omega))) ?_
 refine jq_q (qs_nil rfl) ?_
 refine jq_q (qs_field U109 rfl sz3 (by decide) rfl) ?_
 refine jq_nil ?_
 refine j_store (l := smcells s) 0 sz3 rfl rfl rfl rfl (by simp) (by simp) ?_
 refine j_perm (S' := [SM.heap (appM s f.id v9 xs), ph P9]) (by
  have e : (appM s f.id v9 xs).fs = a ++ ({ f with v := v9, xs := f.xs ++ xs } : FL) :: b := by
   show s.fs.map (app1 f.id v9 xs) = _
   rw [hab]
   exact app_split hids
  have h0 := (SM.open_ e).append_right (ph P9)
  refine List.Perm.trans ?_ (List.Perm.trans h0.symm (List.Perm.of_eq (by simp)))
  refine List.Perm.of_eq ?_
  simp [appM, FL.h, smcells, flcells, SM.sobj, List.set]
  exact ⟨rfl, rfl⟩) ?_
 refine j_ret_con (vs := []) (fun w' hw' => trivial) ?_
 obtain ⟨A', c', e', _⟩ := hv9.rv.form
 exact ⟨v9, P9, rfl, hv9, hp9, raw_app h hf ⟨A', c', e'⟩ (by rw [List.length_append]; omega) hu.2⟩
end Go.Proofs.YtfebkkmmagbnlaaGreatDoor
/-! Fs5 -/
namespace Go.Proofs.YtfebkkmmagbnlaaGreatDoor
open Go Go.Sx
set_option maxRecDepth 100000
set_option maxHeartbeats 4000000
set_option linter.unusedVariables false
set_option linter.unusedSimpArgs false
attribute [local irreducible] J JQ QS Con W opW
open Go.MapKept Go.WideMaps Go.Maps
structure FM where
 gf : Nat
 room : Int
 lp : Value
 now : SM
 ts : List Value
 tv : Value
 tc : SH
 fused : Bool
 left : Int
 more : SH
 P : List BK
abbrev fmcells (f : FM) : List Value := [.int .i64 f.room, f.lp, f.now.ptr, f.tv, .bool f.fused, .int .i64 f.left]
abbrev FM.obj (f : FM) : Obj := .cells (fmcells f).toArray 63 (0, 0)
def FM.heap (f : FM) : SH := [(f.gf, f.obj)] ++ f.now.heap ++ f.tc ++ f.more ++ ph f.P
abbrev FM.ptr (f : FM) : Value := .pointer (some ⟨f.gf, 0, none⟩)
abbrev FM.parts (f : FM) : List SH := [[(f.gf, f.obj)], f.now.heap ++ ph f.P, f.tc, f.more]
theorem FM.split (f : FM) : ([f.heap] : List SH).flatten.Perm (f.parts).flatten := by
 classical
 refine List.perm_iff_count.2 fun x => ?_
 simp only [FM.heap, FM.parts, List.flatten_cons, List.flatten_nil, List.append_nil, List.nil_append, List.cons_append, List.count_append, List.count_cons, List.count_nil] <;> omega
structure FM.Ok (B : Nat) (f : FM) : Prop where
 row : Sx.Own 153 1 f.ts f.tv f.tc
 lt : f.ts.length ≤ B
 raw : Raw f.now
 vw : ∀ x ∈ f.now.fs, Vw f.P x.g x.v x.xs
 lpv : oneV f.lp = true
theorem FM.in_gf {f : FM} {w : World} (h : In w f.heap) : w.heap[f.gf]? = some f.obj := h (f.gf, f.obj) (by simp [FM.heap])
theorem FM.in_now {f : FM} {w : World} (h : In w f.heap) : In w f.now.heap := fun q hq => h q (by simp [FM.heap, hq])
theorem FM.in_P {f : FM} {w : World} (h : In w f.heap) : In w (ph f.P) := fun q hq => h q (by simp [FM.heap, hq])
theorem SM.in_gs {s : SM} {w : World} (h : In w s.heap) : w.heap[s.gs]? = some s.sobj := h (s.gs, s.sobj) (by simp [SM.heap])
theorem SM.in_gm {s : SM} {w : World} (h : In w s.heap) : w.heap[s.gm]? = some (.map s.es s.ck) := h (s.gm, .map s.es s.ck) (by simp [SM.heap])
theorem SM.in_f {s : SM} {w : World} (h : In w s.heap) {x : FL} (hx : x ∈ s.fs) : w.heap[x.g]? = some (.cells (flcells x).toArray 114 (0, 0)) := h x.h (by
 unfold SM.heap
 exact List.mem_append_right _ (List.mem_map.2 ⟨x, hx, rfl⟩))
def nameOk (n : List UInt8) : Bool := decide (1 ≤ n.length) && decide (n.length ≤ 300)
def mayE (fused : Bool) (left : Int) (ns : List (List UInt8)) : Int := if fused && decide (left = 0) then 26 else if ns.all nameOk then 0 else 9
theorem strs_len (ss : List (List UInt8)) : (strs ss).length = ss.length := by simp [strs]
theorem str_get {ss : List (List UInt8)} {i : Nat} (h : i < ss.length) : (strs ss)[i]? = some (.string (bs (ss.getD i []))) := by
 unfold strs
 rw [List.getElem?_map, List.getD_eq_getElem?_getD, List.getElem?_eq_getElem h]
 rfl
theorem in_keep0 {w w' : World} {c : SH} {S : List SH} (h : In w c) (hs : Sig ⟨w, dom []⟩ S w') : In w' c := in_keep h hs
theorem rsl_keep {w w' : World} {v : Value} {vs : List Value} (h : RSl w v vs) {S : List SH} (hs : Sig ⟨w, dom []⟩ S w') : RSl w' v vs := by
 rcases h with h | ⟨g, off, cap, h1, h2, h3, h4⟩
 ·exact .inl h
 ·exact .inr ⟨g, off, cap, h1, Nat.lt_of_lt_of_le h2 hs.size, h3, rd_w (rd_cells h4 (by simp)) hs⟩
theorem isName_con (n : List UInt8) (w : World) : Con Tryz.prog 123 [.string (bs n)] w [] fun v _ => v = .bool (nameOk n) := by
 refine con_of_tree mix Tryz.func123 T123_ok (by kernel_rfl) ?_
 unfold T123
 refine j_q (qs_ac) ?_
 refine j_q (qs_lens U9 rfl) ?_
 refine j_q (qs_geq rfl rfl) ?_
 refine j_g rfl (fun hb => qs_mt rfl) ?_
 refine j_g rfl (fun hb => qs_lens U9 (gd_eq hb)) ?_
 refine j_g rfl (fun hb => qs_leq (gd_eq hb) rfl) ?_
 refine j_q (qs_and rfl rfl) ?_
 refine j_ret_con (vs := [_]) (fun w' hw' => ⟨rfl, trivial⟩) ?_
 show Value.bool _ = _
 unfold nameOk
 congr 1
 by_cases h1 : 1 ≤ n.length <;> by_cases h2 : n.length ≤ 300 <;> simp [gd, h1, h2] <;> omega
theorem may1_con (n : List UInt8) (w : World) : Con Tryz.prog 122 [.string (bs n)] w [] fun v _ => v = .bool (!nameOk n) := by
 refine con_of_tree mix Tryz.func122 T122_ok (by kernel_rfl) ?_
 unfold T122
 refine j_q (qs_ac) ?_
 refine j_q (qs_call ent123 rfl rfl rfl (fun w' hw' => isName_con n w')) ?_
 refine j_q (qs_not rfl) ?_
 refine j_ret_con (vs := [_]) (fun w' hw' => ⟨rfl, trivial⟩) ?_
 rfl
theorem index_con (ns : List (List UInt8)) (v : Value) (w : World) (h : RSl w v (strs ns)) (hl : ns.length ≤ 1000) : Con Tryz.prog 138 [v, .func (.func 122) #[] #[]] w [] fun u _ => ∃ k : Int, u = .int .i64 k ∧ ((k = -1 ∧ ns.all nameOk = true) ∨ (0 ≤ k ∧ ns.all nameOk = false)) := by
 refine con_of_tree mix Tryz.func138 T138_ok (by kernel_rfl) ?_
 unfold T138
 obtain ⟨A, c, rfl, hc'⟩ := rsl_form h
 rw [strs_len] at h hc' ⊢
 refine j_q (qs_ac) ?_
 refine j_q (qs_lenl U142 rfl) ?_
 refine j_q (qs_mc) ?_
 refine j_loop (fun m vs S' => ∃ i : Nat, vs = [.int .i64 (i : Int)] ∧ S' = [[]] ∧ (∀ j, j < i → nameOk (ns.getD j []) = true) ∧ i ≤ ns.length ∧ m = ns.length - i) ⟨_, 0, rfl, rfl, (fun j hj => by omega), Nat.zero_le _, rfl⟩ ?_
 rintro m vs S' hlen ⟨i, rfl, rfl, hall, hi, rfl⟩
 refine j_q (qs_lss rfl rfl) ?_
 refine j_cond rfl (fun hc0 => ?_) (fun hc0 => ?_)
 ·skip
  have hi1 : i < ns.length := by
   simp only [bnA] at *
   omega
  obtain ⟨g1, o1, rfl, _, hcells1⟩ := rsl_addr h (by rw [strs_len]; omega)
  refine j_q (qs_ixn (i := i) U142 sz9 rfl rfl hi1) ?_
  refine j_q (qs_loadR (v := .string (bs (ns.getD i []))) (a := ⟨g1, o1, none⟩) (i := i) (rd_cells hcells1 (by simp)) U9 rfl (by rw [add_off]; show Value.pointer (some ⟨g1, o1 + i * 1, none⟩) = _; rw [Nat.mul_one]) (str_get hi1)) ?_
  refine j_q (qs_callf ent122 rfl rfl rfl (fun w' hw' => may1_con (ns.getD i []) w')) ?_
  refine j_cond rfl (fun hc1 => ?_) (fun hc1 => ?_)
  ·skip
   have hd : nameOk (ns.getD i []) = false := by simpa using hc1
   refine j_ret_con (vs := [_]) (fun w' hw' => ⟨rfl, trivial⟩) ?_
   refine ⟨_, rfl, .inr ⟨by omega, ?_⟩⟩
   rw [List.all_eq_false]
   exact ⟨ns.getD i [], by rw [List.getD_eq_getElem?_getD, List.getElem?_eq_getElem hi1]; exact List.getElem_mem hi1, by rw [hd]; decide⟩
  ·skip
   have hd : nameOk (ns.getD i []) = true := by simpa using hc1
   refine j_q (qs_add64 rfl rfl (by first | omega | (simp only [bnA] at *; omega))) ?_
   refine j_back rfl ?_
   exact ⟨ns.length - (i + 1), by omega, i + 1, rfl, rfl, fun j hj => by
    rcases Nat.lt_or_ge j i with h | h
    ·exact hall j h
    ·obtain rfl : j = i := by omega
     exact hd, by omega, rfl⟩
 ·skip
  have hi1 : i = ns.length := by
   simp only [bnA] at *
   omega
  refine j_q (qs_ac) ?_
  refine j_ret_con (vs := [_]) (fun w' hw' => ⟨rfl, trivial⟩) ?_
  refine ⟨_, rfl, .inl ⟨rfl, ?_⟩⟩
  rw [List.all_eq_true]
  intro x hx
  obtain ⟨j, hj, rfl⟩ := List.getElem_of_mem hx
  have := hall j (by omega)
  rwa [List.getD_eq_getElem?_getD, List.getElem?_eq_getElem hj, Option.getD_some] at this
theorem contains_con (ns : List (List UInt8)) (v : Value) (w : World) (h : RSl w v (strs ns)) (hl : ns.length ≤ 1000) : Con Tryz.prog 121 [v, .func (.func 122) #[] #[]] w [] fun u _ => u = .bool (!ns.all nameOk) := by
 refine con_of_tree mix Tryz.func121 T121_ok (by kernel_rfl) ?_
 unfold T121
 refine j_q (qs_ac) ?_
 refine j_call0 ent138 rfl rfl rfl (fun w' hw' => index_con ns v w' (rsl_keep h hw') hl) (fun u S2 hu => ?_)
 obtain ⟨k, rfl, hk⟩ := hu
 refine j_subl (S' := [[]]) (by simp) ?_
 refine j_q (qs_geq rfl rfl) ?_
 refine j_ret_con (vs := [_]) (fun w' hw' => ⟨rfl, trivial⟩) ?_
 show Value.bool _ = _
 congr 1
 rcases hk with ⟨rfl, h⟩ | ⟨h0, h⟩
 ·rw [h]
  rfl
 ·rw [h]
  simpa using h0
theorem ready_con (f : FM) (w : World) (hin : In w f.heap) : Con Tryz.prog 54 [f.ptr] w [] fun _ _ => True := by
 refine con_of_tree mix Tryz.func54 T54_ok (by kernel_rfl) ?_
 unfold T54
 refine j_q (qs_nil rfl) ?_
 refine j_q (qs_field U63 rfl sz59 (by decide) rfl) ?_
 refine j_q (qs_loadO (rdo_base (FM.in_gf hin) (by simp)) U59 rfl rfl rfl) ?_
 refine j_q (qs_pnil U59 rfl) ?_
 refine j_cond rfl (fun hc0 => ?_) (fun hc0 => ?_)
 ·skip
  simp at hc0
 ·skip
  refine j_ret_con (vs := []) (fun w' hw' => trivial) ?_
  trivial
theorem may_con (f : FM) (ns : List (List UInt8)) (v : Value) (w : World) (hin : In w f.heap) (h : RSl w v (strs ns)) (hl : ns.length ≤ 1000) : Con Tryz.prog 96 [f.ptr, v] w [] fun u _ => u = .int .i64 (mayE f.fused f.left ns) := by
 refine con_of_tree mix Tryz.func96 T96_ok (by kernel_rfl) ?_
 unfold T96
 refine j_q (qs_ac) ?_
 refine j_q (qs_pnil U23 rfl) ?_
 refine j_cond rfl (fun hc0 => ?_) (fun hc0 => ?_)
 ·skip
  simp at hc0
 ·skip
  refine j_call0 ent54 rfl rfl rfl (fun w' hw' => ready_con f w' (in_keep0 hin hw')) (fun u S2 hu => ?_)
  refine j_subl (S' := [[]]) (by simp) ?_
  refine j_q (qs_nil rfl) ?_
  refine j_q (qs_field U63 rfl sz4 (by decide) rfl) ?_
  refine j_q (qs_loadO (rdo_base (FM.in_gf hin) (by simp)) U4 rfl rfl rfl) ?_
  refine j_g rfl (fun hb => qs_mt rfl) ?_
  refine j_g rfl (fun hb => qs_nil (gd_eq hb)) ?_
  refine j_g rfl (fun hb => qs_field U63 rfl sz3 (by decide) (gd_eq hb)) ?_
  refine j_g rfl (fun hb => qs_loadO (rdo_base (FM.in_gf hin) (by simp)) U3 rfl (gd_eq hb) rfl) ?_
  refine j_g rfl (fun hb => qs_eql (gd_eq hb) rfl) ?_
  refine j_q (qs_and rfl rfl) ?_
  refine j_cond rfl (fun hc1 => ?_) (fun hc1 => ?_)
  ·skip
   have hd : (f.fused && decide (f.left = 0)) = true := by
    cases hf : f.fused <;> simp [gd, hf] at hc1 ⊢
    exact hc1
   refine j_q (qs_ac) ?_
   refine j_ret_con (vs := [_]) (fun w' hw' => ⟨rfl, trivial⟩) ?_
   unfold mayE
   rw [hd]
   rfl
  ·skip
   have hd : (f.fused && decide (f.left = 0)) = false := by
    cases hf : f.fused <;> simp [gd, hf] at hc1 ⊢
    exact hc1
   refine j_q (qs_call ent121 rfl rfl rfl (fun w' hw' => contains_con ns v w' (rsl_keep h hw') hl)) ?_
   refine j_cond rfl (fun hc2 => ?_) (fun hc2 => ?_)
   ·skip
    refine j_q (qs_ac) ?_
    refine j_ret_con (vs := [_]) (fun w' hw' => ⟨rfl, trivial⟩) ?_
    unfold mayE
    rw [hd]
    have h2 : ns.all nameOk = false := by simpa using hc2
    rw [h2]
    rfl
   ·skip
    refine j_q (qs_ac) ?_
    refine j_ret_con (vs := [_]) (fun w' hw' => ⟨rfl, trivial⟩) ?_
    unfold mayE
    rw [hd]
    have h2 : ns.all nameOk = true := by simpa using hc2
    rw [h2]
    rfl
theorem burns_con (f : FM) (w : World) (hl : -1000000000 ≤ f.left ∧ f.left ≤ 9223372036854775807) : Con Tryz.prog 105 [f.ptr] w [(f.gf, f.obj)] fun _ S' => S' = [[(f.gf, FM.obj ({ f with left := if f.fused then f.left - 1 else f.left } : FM))]] := by
 refine con_of_tree mix Tryz.func105 T105_ok (by kernel_rfl) ?_
 unfold T105
 refine j_q (qs_nil rfl) ?_
 refine j_q (qs_field U63 rfl sz4 (by decide) rfl) ?_
 refine j_q (qs_load (l := fmcells f) 0 U4 rfl rfl rfl rfl) ?_
 refine j_cond rfl (fun hc0 => ?_) (fun hc0 => ?_)
 ·skip
  have hf : f.fused = true := hc0
  refine j_q (qs_nil rfl) ?_
  refine j_q (qs_field U63 rfl sz3 (by decide) rfl) ?_
  refine j_q (qs_load (l := fmcells f) 0 U3 rfl rfl rfl rfl) ?_
  refine j_q (qs_sub64 rfl rfl (by first | omega | (simp only [bnA] at *; omega))) ?_
  refine j_q (qs_nil rfl) ?_
  refine j_q (qs_field U63 rfl sz3 (by decide) rfl) ?_
  refine j_store (l := fmcells f) 0 sz3 rfl rfl rfl rfl (by simp) (by simp) ?_
  refine j_ret_con (vs := []) (fun w' hw' => trivial) ?_
  rw [FM.obj, fmcells, hf]
  rfl
 ·skip
  have hf : f.fused = false := hc0
  refine j_ret_con (vs := []) (fun w' hw' => trivial) ?_
  rw [FM.obj, fmcells, hf]
  rfl
end Go.Proofs.YtfebkkmmagbnlaaGreatDoor
/-! Fs6 -/
namespace Go.Proofs.YtfebkkmmagbnlaaGreatDoor
open Go Go.Sx
set_option maxRecDepth 100000
set_option maxHeartbeats 4000000
set_option linter.unusedVariables false
set_option linter.unusedSimpArgs false
attribute [local irreducible] J JQ QS Con W opW
open Go.MapKept Go.WideMaps Go.Maps
abbrev SM0 (gs gm : Nat) : SM := ⟨gs, gm, #[], 0, [], [], 0⟩
theorem raw0 (gs gm : Nat) : Raw (SM0 gs gm) := ⟨mapOk_nil, List.nodup_nil, List.nodup_nil, List.nodup_nil, (fun q h => by cases h), (fun f h => by cases h), (fun f h => by cases h), by simp [tot]⟩
theorem nodup_disj {α : Type} {A B C D : List α} (h : (A ++ (B ++ (C ++ D))).Nodup) : ∀ x ∈ D, x ∉ B := fun x hx hb => by
 rw [List.nodup_append, List.nodup_append] at h
 exact h.2.1.2.2 x hb x (List.mem_append_right _ hx) rfl
theorem parts_disj {b : Base} {f : FM} {w : World} (hw : Sig b f.parts w) : ∀ g ∈ dom f.more, g ∉ dom (f.now.heap ++ ph f.P) := by
 have h := hw.nodup
 simp only [FM.parts, dom, List.flatten_cons, List.flatten_nil, List.append_nil, List.map_append] at h
 rw [← List.map_append] at h
 exact nodup_disj h
abbrev doneF (f : FM) (s : SM) (P : List BK) (t tv : Value) (tc : SH) : FM := { f with now := s, P := P, ts := f.ts ++ [t], tv := tv, tc := tc, left := if f.fused then f.left - 1 else f.left }
theorem begun_con (w : World) : Con Tryz.prog 26 [] w [] fun v S' => ∃ gs gm : Nat, S' = [(SM0 gs gm).heap] ∧ v = (SM0 gs gm).ptr := by
 refine con_of_tree mix Tryz.func26 T26_ok (by kernel_rfl) ?_
 unfold T26
 refine j_q (qs_ac) ?_
 refine j_mkmap (fun g1 hg1 => ?_)
 refine j_q (qs_build (places := [(0, 1), (1, 1)]) (offs := [(0, [.map (some g1)])]) U109 zero109 (by kernel_rfl) rfl (by rintro (_ | _ | _ | j) p q hp hq <;> first | (simp at hp hq; subst hp hq; exact ⟨rfl, rfl, by simp⟩) | (simp at hp))) ?_
 refine j_box (l := [.map (some g1), .int .i64 0]) rfl (fun g3 hg3 hs3 => ?_)
 refine j_perm (S' := [(SM0 g3 g1).heap]) (List.Perm.of_eq (by simp [SM.heap])) ?_
 refine j_ret_con (vs := [_]) (fun w' hw' => ⟨rfl, trivial⟩) ?_
 exact ⟨g3, g1, rfl, rfl⟩
theorem does_con (f : FM) (B : Nat) (hB : B < 16384) (fid : FuncId) (caps : Array Value) (Q : SM → List BK → Prop) (w : World) (hok : f.Ok B) (hl : -100000000 ≤ f.left ∧ f.left ≤ 9223372036854775807) (he : Sx.Enters Tryz.prog fid) (hT : ∀ w', In w' f.more → (∀ g ∈ dom f.more, g ∉ dom (f.now.heap ++ ph f.P)) → Con Tryz.prog fid (f.now.ptr :: caps.toList) w' (f.now.heap ++ ph f.P) (fun _ S' => ∃ (s' : SM) (P' : List BK), S' = [s'.heap, ph P'] ∧ s'.gs = f.now.gs ∧ Q s' P')) : Con Tryz.prog 97 [f.ptr, .func (.func fid) #[] caps] w f.heap fun v S' => v = .int .i64 0 ∧ ∃ (s' : SM) (P' : List BK) (tv : Value) (tc : SH), S' = [FM.heap (doneF f s' P' (.func (.func fid) #[] caps) tv tc)] ∧ Sx.Own 153 1 (f.ts ++ [.func (.func fid) #[] caps]) tv tc ∧ s'.gs = f.now.gs ∧ Q s' P' := by
 refine con_of_tree mix Tryz.func97 T97_ok (by kernel_rfl) ?_
 unfold T97
 obtain ⟨n1, A1, cap1, htv, hn1⟩ := own_form hok.row (by decide)
 rw [Nat.mul_one] at hn1
 subst hn1
 have hlt := hok.lt
 refine j_perm (S' := f.parts) (by simpa using f.split) ?_
 refine j_q (qs_ac) ?_
 refine j_q (qs_nil rfl) ?_
 refine j_q (qs_field U63 rfl sz61 (by decide) rfl) ?_
 refine j_q (qs_load (l := fmcells f) 0 U61 rfl rfl rfl rfl) ?_
 refine j_q (qs_lenl (n := f.ts.length) (A := A1) (c := cap1) U61 htv) ?_
 refine j_q (qs_geq rfl rfl) ?_
 refine j_cond rfl (fun hc0 => ?_) (fun hc0 => ?_)
 ·skip
  simp at hc0
  omega
 ·skip
  refine j_q (qs_nil rfl) ?_
  refine j_q (qs_field U63 rfl sz59 (by decide) rfl) ?_
  refine j_q (qs_load (l := fmcells f) 0 U59 rfl rfl rfl rfl) ?_
  refine j_callf 1 he rfl rfl rfl rfl (fun w' hw' => hT w' (in_own hw' 3 rfl) (parts_disj hw')) (fun u S2 hu => ?_)
  obtain ⟨s', P', rfl, hgs, hQ⟩ := hu
  refine j_q (qs_nil rfl) ?_
  refine j_q (qs_field U63 rfl sz61 (by decide) rfl) ?_
  refine j_q (qs_load (l := fmcells f) 2 U61 rfl rfl rfl rfl) ?_
  refine j_lit (vs := [.func (.func fid) #[] caps]) U61 sz153 zero153 rfl (by simp [oneV]) ⟨rfl, by decide⟩ (fun g32 v32 c32 hv32 hc32 ho32 => ?_)
  subst hv32 hc32
  refine j_append 5 U61 U61 (.inr ⟨_, rfl⟩) sb153 zero153 rfl hok.row rfl (.inl ⟨_, _, rfl, own_rd ho32 0 rfl, rfl⟩) (by intro u hu; rw [List.mem_singleton] at hu; rw [hu]; rfl) ⟨(by simp only [List.length_singleton]; omega), (by decide)⟩ (fun v33 c33 ho33 => ?_)
  refine j_q (qs_nil rfl) ?_
  refine j_q (qs_field U63 rfl sz61 (by decide) rfl) ?_
  refine j_store (l := fmcells f) 3 sz61 rfl rfl (by obtain ⟨n', A', cap', e', _⟩ := own_form ho33 (by decide); show oneV v33 = true; rw [e']; rfl) rfl (by simp) (by simp) ?_
  refine j_call 3 ent105 rfl rfl rfl rfl (fun w' hw' => burns_con ({ f with tv := v33 } : FM) w' (by show _ ≤ f.left ∧ f.left ≤ _; omega)) (fun u S2 hu => ?_)
  subst hu
  refine j_q (qs_ac) ?_
  refine j_subl (S' := [[(f.gf, FM.obj { ({ f with tv := v33 } : FM) with left := if f.fused then f.left - 1 else f.left })], s'.heap, ph P', c33, f.more]) (by repeat first | exact slR _ | exact slN _ | apply slC | apply slD) ?_
  have hp : s'.ptr = f.now.ptr := by simp only [SM.ptr, hgs]
  refine j_perm (S' := [FM.heap (doneF f s' P' (.func (.func fid) #[] caps) v33 c33)]) (by
   have e : FM.obj { ({ f with tv := v33 } : FM) with left := if f.fused then f.left - 1 else f.left } = FM.obj (doneF f s' P' (.func (.func fid) #[] caps) v33 c33) := by
    simp only [FM.obj, fmcells, hp]
   rw [e]
   exact (by
   classical
   refine List.perm_iff_count.2 fun x => ?_
   simp only [FM.heap, FM.obj, fmcells, SM.ptr, List.set, List.flatten_cons, List.flatten_nil, List.append_nil, List.nil_append, List.cons_append, List.count_append, List.count_cons, List.count_nil] <;> omega)) ?_
  refine j_ret_con (vs := [_]) (fun w' hw' => ⟨rfl, trivial⟩) ?_
  exact ⟨rfl, s', P', v33, c33, rfl, ho33, hgs, hQ⟩
end Go.Proofs.YtfebkkmmagbnlaaGreatDoor
/-! Fs7 -/
namespace Go.Proofs.YtfebkkmmagbnlaaGreatDoor
open Go Go.Sx
set_option maxRecDepth 100000
set_option maxHeartbeats 4000000
set_option linter.unusedVariables false
set_option linter.unusedSimpArgs false
attribute [local irreducible] J JQ QS Con W opW
open Go.MapKept Go.WideMaps Go.Maps
abbrev FM.parts2 (f : FM) : List SH := [[(f.gf, f.obj)], [(f.now.gs, f.now.sobj)], [(f.now.gm, .map f.now.es f.now.ck)], f.now.fs.map FL.h, f.tc ++ f.more ++ ph f.P]
theorem FM.split2 (f : FM) : ([f.heap] : List SH).flatten.Perm (f.parts2).flatten := by
 classical
 refine List.perm_iff_count.2 fun x => ?_
 simp only [FM.heap, SM.heap, FM.parts2, List.flatten_cons, List.flatten_nil, List.append_nil, List.nil_append, List.cons_append, List.count_append, List.count_cons, List.count_nil] <;> omega
theorem RV.more {P P' : List BK} {v : Value} {xs : List UInt8} (hs : ∀ b ∈ P, b ∈ P') (h : RV P v xs) : RV P' v xs := by
 rcases h with h | ⟨b, hb, h⟩
 ·exact .inl h
 ·exact .inr ⟨b, hs b hb, h⟩
theorem Vw.more {P P' : List BK} {o : Nat} {v : Value} {xs : List UInt8} (hs : ∀ b ∈ P, b ∈ P') (h : Vw P o v xs) : Vw P' o v xs := by
 rcases h with h | ⟨b, hb, h⟩
 ·exact .inl h
 ·exact .inr ⟨b, hs b hb, h⟩
theorem br_keep {w w' : World} {v : Value} {xs : List UInt8} {Fp : SH} {S : List SH} (h : BR w v xs) (hd : ∀ a n c, v = .slice (some a) n c → 0 < n → a.block ∉ dom Fp) (hs : Sig ⟨w, dom Fp⟩ S w') : BR w' v xs := by
 rcases h with h | ⟨a, cap, h1, h2, h3, h4⟩
 ·exact .inl h
 ·refine .inr ⟨a, cap, h1, h2, fun h0 => Nat.lt_of_lt_of_le (h3 h0) hs.size, ?_⟩
  rcases Nat.eq_zero_or_pos xs.length with h0 | h0
  ·rw [List.eq_nil_of_length_eq_zero h0]
   intro j u hu
   simp [ints] at hu
  ·exact rd_w (rd_cells h4 (hd _ _ _ h1 h0)) hs
theorem writeM_gs (s : SM) (n : List UInt8) (id : Nat) (v : Value) (xs : List UInt8) (g : Nat) : (writeM s n id v xs g).gs = s.gs ∧ (writeM s n id v xs g).gm = s.gm := by
 unfold writeM
 have h := givesM_gs (newM (letsM s n) id v xs g) n (g, id)
 exact ⟨h.1.trans (letsM_gs s n).1, h.2.trans (letsM_gs s n).2.1⟩
end Go.Proofs.YtfebkkmmagbnlaaGreatDoor
/-! Fs8 -/
namespace Go.Proofs.YtfebkkmmagbnlaaGreatDoor
open Go Go.Sx
set_option maxRecDepth 100000
set_option maxHeartbeats 4000000
set_option linter.unusedVariables false
set_option linter.unusedSimpArgs false
attribute [local irreducible] J JQ QS Con W opW
open Go.MapKept Go.WideMaps Go.Maps
end Go.Proofs.YtfebkkmmagbnlaaGreatDoor
/-! Fs9 -/
namespace Go.Proofs.YtfebkkmmagbnlaaGreatDoor
open Go Go.Sx
set_option maxRecDepth 100000
set_option maxHeartbeats 4000000
set_option linter.unusedVariables false
set_option linter.unusedSimpArgs false
attribute [local irreducible] J JQ QS Con W opW
theorem same_con (xs ys : List UInt8) (v1 v2 : Value) (w : World) (h1 : BR w v1 xs) (h2 : BR w v2 ys) (hl : xs.length ≤ 1000000000) : Con Tryz.prog 25 [v1, v2] w [] fun u _ => u = .bool (xs == ys) := by
 refine con_of_tree mix Tryz.func25 T25_ok (by kernel_rfl) ?_
 unfold T25
 obtain ⟨A1, c1, hv1, hc1'⟩ := br_form h1
 obtain ⟨A2, c2, hv2, hc2'⟩ := br_form h2
 subst hv1 hv2
 refine j_q (qs_ac) ?_
 refine j_q (qs_lenl U33 rfl) ?_
 refine j_q (qs_lenl U33 rfl) ?_
 refine j_q (qs_neq rfl rfl) ?_
 refine j_cond rfl (fun hc0 => ?_) (fun hc0 => ?_)
 ·skip
  have hne : xs.length ≠ ys.length := by
   simp only [bnA] at *
   omega
  refine j_q (qs_ac) ?_
  refine j_ret_con (vs := [_]) (fun w' hw' => ⟨rfl, trivial⟩) ?_
  show Value.bool _ = _
  congr 1
  symm
  rw [beq_eq_false_iff_ne]
  exact fun e => hne (by rw [e])
 ·skip
  have heq : xs.length = ys.length := by
   simp only [bnA] at *
   omega
  refine j_q (qs_ac) ?_
  refine j_loop (fun m vs S' => ∃ i : Nat, vs = [.int .i64 (i : Int)] ∧ S' = [[]] ∧ (∀ j, j < i → xs.getD j 0 = ys.getD j 0) ∧ i ≤ xs.length ∧ m = xs.length - i) ⟨_, 0, rfl, rfl, (fun j hj => by omega), Nat.zero_le _, rfl⟩ ?_
  rintro m vs S' hlen ⟨i, rfl, rfl, hall, hin, rfl⟩
  refine j_q (qs_lenl U33 rfl) ?_
  refine j_q (qs_lss rfl rfl) ?_
  refine j_cond rfl (fun hc1 => ?_) (fun hc1 => ?_)
  ·skip
   have hi : i < xs.length := by
    simp only [bnA] at *
    omega
   have hi2 : i < ys.length := by omega
   obtain ⟨a1, rfl, hcl1⟩ : ∃ a, A1 = some a ∧ Cells w a (ints xs) := by
    rcases h1 with ⟨_, e⟩ | ⟨a, c, e, _, _, hcc⟩
    ·rw [e] at hi; simp at hi
    ·injection e with e1
     exact ⟨a, e1, hcc⟩
   obtain ⟨a2, rfl, hcl2⟩ : ∃ a, A2 = some a ∧ Cells w a (ints ys) := by
    rcases h2 with ⟨_, e⟩ | ⟨a, c, e, _, _, hcc⟩
    ·rw [e] at hi2; simp at hi2
    ·injection e with e1
     exact ⟨a, e1, hcc⟩
   refine j_draw ?_
   refine jq_q (qs_ixl0 U33 sz5 rfl rfl ⟨(by first | omega | (simp only [bnA] at *; omega)), (by first | omega | (simp only [bnA] at *; omega))⟩) ?_
   refine jq_q (qs_loadR (v := .int .u8 ((xs.getD i 0).toNat : Int)) (a := a1) (i := i) (rd_cells hcl1 (by simp)) U5 rfl (by show Value.pointer (some (Addr.add a1 (i : Int).toNat)) = _; rw [Int.toNat_natCast]) (ints_get_lt hi)) ?_
   refine jq_q (qs_ixl0 U33 sz5 rfl rfl ⟨(by first | omega | (simp only [bnA] at *; omega)), (by first | omega | (simp only [bnA] at *; omega))⟩) ?_
   refine jq_q (qs_loadR (v := .int .u8 ((ys.getD i 0).toNat : Int)) (a := a2) (i := i) (rd_cells hcl2 (by simp)) U5 rfl (by show Value.pointer (some (Addr.add a2 (i : Int).toNat)) = _; rw [Int.toNat_natCast]) (ints_get_lt hi2)) ?_
   refine jq_q (qs_neq rfl rfl) ?_
   refine jq_nil ?_
   refine j_cond rfl (fun hc2 => ?_) (fun hc2 => ?_)
   ·skip
    have hd : xs.getD i 0 ≠ ys.getD i 0 := fun e => by rw [e] at hc2; simp at hc2
    refine j_q (qs_ac) ?_
    refine j_ret_con (vs := [_]) (fun w' hw' => ⟨rfl, trivial⟩) ?_
    show Value.bool _ = _
    congr 1
    symm
    rw [beq_eq_false_iff_ne]
    exact fun e => hd (by rw [e])
   ·skip
    have hd : xs.getD i 0 = ys.getD i 0 := by
     have h3 : ((xs.getD i 0).toNat : Int) = ((ys.getD i 0).toNat : Int) := by simpa using hc2
     exact UInt8.toNat_inj.1 (by omega)
    refine j_q (qs_add64 rfl rfl (by first | omega | (simp only [bnA] at *; omega))) ?_
    refine j_back rfl ?_
    exact ⟨xs.length - (i + 1), by omega, i + 1, rfl, rfl, fun j hj => by
     rcases Nat.lt_or_ge j i with h | h
     ·exact hall j h
     ·obtain rfl : j = i := by omega
      exact hd, by omega, rfl⟩
  ·skip
   have hi : i = xs.length := by
    simp only [bnA] at *
    omega
   refine j_q (qs_ac) ?_
   refine j_ret_con (vs := [_]) (fun w' hw' => ⟨rfl, trivial⟩) ?_
   show Value.bool _ = _
   congr 1
   symm
   rw [beq_iff_eq]
   apply List.ext_getElem heq
   intro j h3 h4
   have h5 := hall j (by omega)
   rw [List.getD_eq_getElem?_getD, List.getD_eq_getElem?_getD, List.getElem?_eq_getElem h3, List.getElem?_eq_getElem h4] at h5
   simpa using h5
end Go.Proofs.YtfebkkmmagbnlaaGreatDoor
/-! Iter -/
namespace Go.Proofs
open Go.RowKit Go.Maps Go.Sort Go.Shelf
end Go.Proofs
/-! Srk7 -/
namespace Go.Proofs.YtfebkkmmagbnlaaGreatDoor
open Go Go.Sx
set_option maxRecDepth 100000
set_option maxHeartbeats 4000000
set_option linter.unusedVariables false
set_option linter.unusedSimpArgs false
attribute [local irreducible] J JQ QS Con W opW
open Go.MapKept Go.WideMaps Go.Maps Go.RowKit Go.Shelf Go.Sort
end Go.Proofs.YtfebkkmmagbnlaaGreatDoor
/-! Fs10 -/
namespace Go.Proofs.YtfebkkmmagbnlaaGreatDoor
open Go Go.Sx
set_option maxRecDepth 100000
set_option maxHeartbeats 4000000
set_option linter.unusedVariables false
set_option linter.unusedSimpArgs false
attribute [local irreducible] J JQ QS Con W opW
open Go.MapKept Go.WideMaps Go.Maps
end Go.Proofs.YtfebkkmmagbnlaaGreatDoor
/-! Fs11 -/
namespace Go.Proofs.YtfebkkmmagbnlaaGreatDoor
open Go Go.Sx
set_option maxRecDepth 100000
set_option maxHeartbeats 4000000
set_option linter.unusedVariables false
set_option linter.unusedSimpArgs false
attribute [local irreducible] J JQ QS Con W opW
open Go.MapKept Go.WideMaps Go.Maps
end Go.Proofs.YtfebkkmmagbnlaaGreatDoor
/-! Fs12 -/
namespace Go.Proofs.YtfebkkmmagbnlaaGreatDoor
open Go Go.Sx
set_option maxRecDepth 100000
set_option maxHeartbeats 4000000
set_option linter.unusedVariables false
set_option linter.unusedSimpArgs false
attribute [local irreducible] J JQ QS Con W opW
open Go.MapKept Go.WideMaps Go.Maps
theorem base_sep {w w' : World} {v : Value} {xs : List UInt8} {S : List SH} (h : BR w v xs) (hs : Sig ⟨w, dom []⟩ S w') {H : SH} (k : Nat) (hk : S[k]? = some H) : ∀ (a : Addr) (m c : Nat), v = .slice (some a) m c → 0 < m → a.block ∉ dom H := fun a m c e h0 hm => by
 rcases h with ⟨h1, _⟩ | ⟨a', cap, h1, _, h3, _⟩
 ·rw [h1] at e; cases e
 ·rw [h1] at e
  injection e with e1 e0
  injection e1 with e1
  obtain ⟨q, hq, e2⟩ := List.mem_map.1 hm
  rcases hs.dom_ a.block (List.mem_map.2 ⟨q, mem_flatten_of hk hq, e2⟩) with h | h
  ·simp [dom] at h
  ·have h4 := h3 (by rw [e0]; exact h0)
   rw [e1] at h4
   exact absurd h (Nat.not_le.2 h4)
theorem br_src {w : World} {S : List SH} {v : Value} {xs : List UInt8} (h : BR w v xs) : Src (⟨w, dom []⟩ : Base) S 1 v xs.length (ints xs) := by
 rcases h with ⟨rfl, rfl⟩ | ⟨a, cap, rfl, _, _, h⟩
 ·exact .inr (.inl ⟨0, rfl, rfl, rfl⟩)
 ·exact .inl ⟨a, cap, rfl, rd_cells h (by simp [dom]), by rw [ints_length, Nat.mul_one]⟩
theorem br0 {w w' : World} {v : Value} {xs : List UInt8} {S : List SH} (h : BR w v xs) (hs : Sig ⟨w, dom []⟩ S w') : BR w' v xs := br_keep h (fun a m c e _ => by simp [dom]) hs
theorem own_br {b : Base} {S : List SH} {w : World} {v : Value} {c : SH} {xs : List UInt8} (h : Sx.Own 5 1 (ints xs) v c) (k : Nat) (hk : S[k]? = some c) (hw : Sig b S w) : BR w v xs := br_rsl (rsl_own h k hk hw)
end Go.Proofs.YtfebkkmmagbnlaaGreatDoor
/-! Fs13 -/
namespace Go.Proofs.YtfebkkmmagbnlaaGreatDoor
open Go Go.Sx
set_option maxRecDepth 100000
set_option maxHeartbeats 4000000
set_option linter.unusedVariables false
set_option linter.unusedSimpArgs false
attribute [local irreducible] J JQ QS Con W opW
open Go.MapKept Go.WideMaps Go.Maps
end Go.Proofs.YtfebkkmmagbnlaaGreatDoor
/-! Fs14 -/
namespace Go.Proofs.YtfebkkmmagbnlaaGreatDoor
open Go Go.Sx
set_option maxRecDepth 100000
set_option maxHeartbeats 4000000
set_option linter.unusedVariables false
set_option linter.unusedSimpArgs false
attribute [local irreducible] J JQ QS Con W opW
open Go.MapKept Go.WideMaps Go.Maps
theorem letsM_none {s : SM} {n : List UInt8} (hl : alook s.ml n = none) : letsM s n = s := by
 unfold letsM
 rw [hl]
theorem gives_fresh {s : SM} {n : List UInt8} {id : Nat} {v : Value} {xs : List UInt8} {g : Nat} (hl : alook s.ml n = none) (hid : ∀ f ∈ s.fs, f.id ≠ id) : givesM (newM s id v xs g) n (g, id) = { s with ml := s.ml ++ [(n, (g, id))], fs := ⟨g, id, v, xs, 1⟩ :: s.fs } := by
 have hb : bump ((⟨g, id, v, xs, 0⟩ : FL) :: s.fs) id 1 = ⟨g, id, v, xs, 1⟩ :: s.fs := by
  have e : bump ((⟨g, id, v, xs, 0⟩ : FL) :: s.fs) id 1 = (if id = id then (⟨g, id, v, xs, 0 + 1⟩ : FL) else ⟨g, id, v, xs, 0⟩) :: bump s.fs id 1 := rfl
  rw [e, if_pos rfl, bump_off hid]
  rfl
 have h1 : alook (newM s id v xs g).ml n ≠ some (g, id) := by
  show alook s.ml n ≠ _
  rw [hl]
  exact fun e => by cases e
 unfold givesM
 rw [if_neg h1, letsM_none (by exact hl)]
 show ({ s with ml := s.ml ++ [(n, (g, id))], fs := bump ((⟨g, id, v, xs, 0⟩ : FL) :: s.fs) id 1 } : SM) = _
 rw [hb]
theorem tot_cons (x : FL) (fs : List FL) : tot (x :: fs) = x.xs.length + tot fs := by simp [tot]
theorem tot_filter {s : SM} (h : Raw s) {x : FL} (hx : x ∈ s.fs) : tot (s.fs.filter fun y => decide (y.id ≠ x.id)) + x.xs.length = tot s.fs := by
 obtain ⟨a, b, hab⟩ := List.append_of_mem hx
 have hids := h.ids
 rw [hab] at hids ⊢
 rw [filter_split hids, tot_split]
theorem readZ_con (f : FM) (B : Nat) (n : List UInt8) (w : World) (hin : In w f.heap) (hok : f.Ok B) (hn : strOk n) (hlk : alook f.now.ml n = none) : Con Tryz.prog 27 [f.ptr, .string (bs n)] w [] fun u S' => u = .tuple #[.slice none 0 0, .int .i64 7] ∧ S' = [[]] := by
 refine con_of_tree mix Tryz.func27 T27_ok (by kernel_rfl) ?_
 unfold T27
 refine j_q (qs_ac) ?_
 refine j_q (qs_ac) ?_
 refine j_q (qs_pnil U23 rfl) ?_
 refine j_g rfl (fun hb => qs_mt rfl) ?_
 refine j_g rfl (fun hb => qs_nil (gd_eq hb)) ?_
 refine j_g rfl (fun hb => qs_field U63 rfl sz59 (by decide) (gd_eq hb)) ?_
 refine j_g rfl (fun hb => qs_loadO (rdo_base (FM.in_gf hin) (by simp)) U59 rfl (gd_eq hb) rfl) ?_
 refine j_g rfl (fun hb => qs_pnil U59 (gd_eq hb)) ?_
 refine j_q (qs_or rfl rfl) ?_
 refine j_g rfl (fun hb => qs_mt rfl) ?_
 refine j_g rfl (fun hb => qs_nil (gd_eq hb)) ?_
 refine j_g rfl (fun hb => qs_field U63 rfl sz59 (by decide) (gd_eq hb)) ?_
 refine j_g rfl (fun hb => qs_loadO (rdo_base (FM.in_gf hin) (by simp)) U59 rfl (gd_eq hb) rfl) ?_
 refine j_g rfl (fun hb => qs_nil (gd_eq hb)) ?_
 refine j_g rfl (fun hb => qs_field U109 rfl sz107 (by decide) (gd_eq hb)) ?_
 refine j_g rfl (fun hb => qs_loadO (rdo_base (SM.in_gs (FM.in_now hin)) (by simp)) U107 rfl (gd_eq hb) rfl) ?_
 refine j_g rfl (fun hb => qs_mt rfl) ?_
 refine j_g rfl (fun hb => qs_lookupR (key := n) strKey (rdo_base (SM.in_gm (FM.in_now hin)) (by simp)) U107 zv63 (gd_eq hb) (gd_eq hb) hok.raw.map hn) ?_
 rw [mlook_map fptr, getD_fptr, hlk, Option.map_none]
 refine j_g rfl (fun hb => qs_pnil U110 (gd_eq hb)) ?_
 refine j_q (qs_or rfl rfl) ?_
 refine j_cond rfl (fun hc0 => ?_) (fun hc0 => ?_)
 ·skip
  refine j_q (qs_ac) ?_
  refine j_q (qs_ac) ?_
  refine j_ret_con (vs := [_, _]) (fun w' hw' => ⟨rfl, rfl, trivial⟩) ?_
  exact ⟨rfl, rfl⟩
 ·skip
  simp [gd] at hc0
end Go.Proofs.YtfebkkmmagbnlaaGreatDoor
/-! Ft0 -/
namespace Go.Proofs.YtfebkkmmagbnlaaGreatDoor
open Go Go.Sx Go.MapKept Go.WideMaps Go.Maps
set_option maxRecDepth 100000
set_option linter.unusedVariables false
set_option linter.unusedSimpArgs false
set_option linter.unusedSectionVars false
structure AS where
 nm : List (List UInt8 × Nat)
 dt : Nat → List UInt8
 used : Int
def cntA (nm : List (List UInt8 × Nat)) (i : Nat) : Nat := (nm.filter fun q => decide (q.2 = i)).length
def updA (d : Nat → List UInt8) (i : Nat) (xs : List UInt8) : Nat → List UInt8 := fun j => if j = i then xs else d j
def letsA (a : AS) (n : List UInt8) : AS :=
 match alook a.nm n with
 | none => a
 | some i => { a with nm := mdel a.nm n, used := if cntA a.nm i = 1 then a.used - ((a.dt i).length : Int) else a.used }
def givesA (a : AS) (n : List UInt8) (i : Nat) : AS := if alook a.nm n = some i then a else { letsA a n with nm := (letsA a n).nm ++ [(n, i)] }
def writeA (a : AS) (n xs : List UInt8) (i : Nat) : AS := let b := givesA { letsA a n with dt := updA (letsA a n).dt i xs } n i; { b with used := b.used + (xs.length : Int) }
def appA (a : AS) (n xs : List UInt8) : AS :=
 match alook a.nm n with
 | none => a
 | some i => { a with dt := updA a.dt i (a.dt i ++ xs), used := a.used + (xs.length : Int) }
inductive AT where
 | wr (n xs : List UInt8) (i : Nat)
 | ap (n xs : List UInt8)
 | li (old n : List UInt8)
 | rn (old n : List UInt8)
 | rm (n : List UInt8)
def doA (a : AS) : AT → AS
 | .wr n xs i => writeA a n xs i
 | .ap n xs => appA a n xs
 | .li old n => match alook a.nm old with | none => a | some i => givesA a n i
 | .rn old n => if old = n then a else match alook a.nm old with | none => a | some i => letsA (givesA a n i) old
 | .rm n => letsA a n
def limA (a : AS) : Prop := a.used ≤ 1073741824 ∧ a.nm.length ≤ 16384
def canA (a : AS) : AT → Prop
 | .wr n xs i => ∀ q ∈ a.nm, q.2 ≠ i
 | .ap n xs => ∃ i, alook a.nm n = some i ∧ (a.dt i).length + xs.length ≤ 1048576
 | .li old n => (alook a.nm old).isSome = true
 | .rn old n => (alook a.nm old).isSome = true
 | .rm n => True
def runA (a : AS) (l : List AT) : AS := l.foldl doA a
def okA (a : AS) : List AT → Prop
 | [] => limA a
 | t :: l => limA a ∧ canA a t ∧ okA (doA a t) l
theorem okA_append {a : AS} {l : List AT} {t : AT} (h : okA a l) (ht : canA (runA a l) t) (hl : limA (doA (runA a l) t)) : okA a (l ++ [t]) := by
 induction l generalizing a with
 | nil => exact ⟨h, ht, hl⟩
 | cons x l ih => exact ⟨h.1, h.2.1, ih h.2.2 ht hl⟩
theorem okA_run {a : AS} {l : List AT} (h : okA a l) (k : Nat) : limA (runA a (l.take k)) := by
 induction l generalizing a k with
 | nil =>
  rw [List.take_nil]
  exact h
 | cons x l ih =>
  cases k with
  | zero => exact h.1
  | succ k => exact ih h.2.2 k
theorem okA_end {a : AS} {l : List AT} (h : okA a l) : limA (runA a l) := by
 have := okA_run h l.length
 rwa [List.take_length] at this
theorem okA_nth {a : AS} {l : List AT} (h : okA a l) {k : Nat} {t : AT} (hk : l[k]? = some t) : canA (runA a (l.take k)) t := by
 induction l generalizing a k with
 | nil => simp at hk
 | cons x l ih =>
  cases k with
  | zero => simp at hk; subst hk; exact h.2.1
  | succ k => exact ih h.2.2 (by simpa using hk)
theorem runA_succ {a : AS} {l : List AT} {k : Nat} {t : AT} (hk : l[k]? = some t) : runA a (l.take (k + 1)) = doA (runA a (l.take k)) t := by
 unfold runA
 rw [List.take_add_one, hk, Option.toList_some, List.foldl_append]
 rfl
theorem runA_snoc {a : AS} {l : List AT} {t : AT} : runA a (l ++ [t]) = doA (runA a l) t := by
 unfold runA
 rw [List.foldl_append]
 rfl
section
variable {κ α β : Type} [DecidableEq κ]
theorem alook_map (f : α → β) (m : List (κ × α)) (k : κ) : alook (m.map fun p => (p.1, f p.2)) k = (alook m k).map f := by
 unfold alook
 induction m with
 | nil => rfl
 | cons p m ih =>
  rw [List.map_cons, List.find?_cons, List.find?_cons]
  split
  ·rename_i h1
   simp only at h1
   rw [h1]
   rfl
  ·rename_i h1
   simp only at h1
   rw [h1]
   exact ih
theorem alook_perm {m m' : List (κ × α)} (hp : m.Perm m') (hn : (m.map Prod.fst).Nodup) (k : κ) : alook m k = alook m' k := by
 have hn' : (m'.map Prod.fst).Nodup := (hp.map Prod.fst).nodup_iff.1 hn
 cases h : alook m k with
 | some v => exact (alook_of_mem hn' (hp.mem_iff.1 (alook_mem h))).symm
 | none => exact (alook_none.2 fun p hq => alook_none.1 h p (hp.mem_iff.2 hq)).symm
end
structure RepS (s : SM) (a : AS) : Prop where
 nm : (s.ml.map fun p => (p.1, Prod.snd p.2)).Perm a.nm
 dt : ∀ f ∈ s.fs, a.dt f.id = f.xs
 us : s.used = a.used
structure Ex (s : SM) (e : Nat → Int) (z : Nat → Prop) (d : Int) : Prop where
 kc : ∀ f ∈ s.fs, f.k = (cnt s.ml f.id : Int) + e f.id
 pos : ∀ f ∈ s.fs, ¬ z f.id → 1 ≤ f.k
 ut : s.used + d = (tot s.fs : Int)
theorem RepS.look {s : SM} {a : AS} (h : RepS s a) (hr : Raw s) (n : List UInt8) : (alook s.ml n).map Prod.snd = alook a.nm n := by
 rw [← alook_map Prod.snd]
 refine alook_perm h.nm ?_ n
 rw [List.map_map]
 exact hr.nd
theorem RepS.nd {s : SM} {a : AS} (h : RepS s a) (hr : Raw s) : (a.nm.map Prod.fst).Nodup := by
 refine (h.nm.map Prod.fst).nodup_iff.1 ?_
 rw [List.map_map]
 exact hr.nd
theorem RepS.cnt {s : SM} {a : AS} (h : RepS s a) (i : Nat) : cnt s.ml i = cntA a.nm i := by
 unfold Go.Proofs.YtfebkkmmagbnlaaGreatDoor.cnt cntA
 rw [← (h.nm.filter _).length_eq, List.filter_map, List.length_map]
 rfl
theorem RepS.len {s : SM} {a : AS} (h : RepS s a) : s.ml.length = a.nm.length := by
 rw [← h.nm.length_eq, List.length_map]
theorem RepS.fresh {s : SM} {a : AS} (h : RepS s a) {i : Nat} (hr : Raw s) {e z d} (he : Ex s e z d) (h0 : ∀ j, e j = 0) (hz : ∀ j, ¬ z j) (hf : ∀ q ∈ a.nm, q.2 ≠ i) : ∀ f ∈ s.fs, f.id ≠ i := fun f hf2 hfi => by
 have h1 := he.kc f hf2
 have h2 := he.pos f hf2 (hz _)
 rw [h0] at h1
 have h3 : 0 < Go.Proofs.YtfebkkmmagbnlaaGreatDoor.cnt s.ml f.id := by omega
 unfold Go.Proofs.YtfebkkmmagbnlaaGreatDoor.cnt at h3
 obtain ⟨q, hq⟩ := List.exists_mem_of_length_pos h3
 obtain ⟨hq1, hq2⟩ := List.mem_filter.1 hq
 have := hf (q.1, q.2.2) (h.nm.mem_iff.1 (List.mem_map.2 ⟨q, hq1, rfl⟩))
 simp only [decide_eq_true_eq] at hq2
 exact this (hq2.trans hfi)
theorem look_fs {s : SM} (h : Raw s) {n : List UInt8} {p : Nat × Nat} (hl : alook s.ml n = some p) : ∃ f ∈ s.fs, f.g = p.1 ∧ f.id = p.2 ∧ getF s.fs p.2 = some f := by
 obtain ⟨f, hf, hfg, hfi⟩ := h.has _ (alook_mem hl)
 obtain ⟨a, b, hab⟩ := List.append_of_mem hf
 have hids := h.ids
 rw [hab] at hids
 exact ⟨f, hf, hfg, hfi, by rw [hab]; simp only at hfi; rw [← hfi]; exact getF_split hids⟩
theorem look_rep {s : SM} {a : AS} (h : Raw s) (hr : RepS s a) {n : List UInt8} {i : Nat} (hl : alook a.nm n = some i) : ∃ f ∈ s.fs, alook s.ml n = some (f.g, f.id) ∧ f.id = i ∧ f.xs = a.dt i := by
 rw [← hr.look h n] at hl
 obtain ⟨p, hp, rfl⟩ := Option.map_eq_some_iff.1 hl
 obtain ⟨f, hf, h1, h2, _⟩ := look_fs h hp
 exact ⟨f, hf, by rw [hp, h1, h2], h2, by rw [← h2, hr.dt f hf]⟩
theorem look_rep0 {s : SM} {a : AS} (h : Raw s) (hr : RepS s a) {n : List UInt8} (hl : alook a.nm n = none) : alook s.ml n = none := by
 rw [← hr.look h n] at hl
 exact Option.map_eq_none_iff.1 hl
theorem tot_filt {s : SM} (h : Raw s) {x : FL} (hx : x ∈ s.fs) : tot (s.fs.filter fun y => decide (y.id ≠ x.id)) + x.xs.length = tot s.fs := tot_filter h hx
theorem ex_lets {s : SM} (h : Raw s) {e z d} (he : Ex s e z d) (n : List UInt8) : Ex (letsM s n) e z d := by
 unfold letsM
 cases hl : alook s.ml n with
 | none => exact he
 | some p =>
  obtain ⟨f, hf, hfg, hfi, hg⟩ := look_fs h hl
  simp only
  rw [hg]
  simp only
  have hc := cnt_del h.nd hl
  split
  ·refine ⟨fun x hx => ?_, fun x hx hz => he.pos x (List.mem_filter.1 hx).1 hz, ?_⟩
   ·obtain ⟨hx1, hx2⟩ := List.mem_filter.1 hx
    simp only [decide_eq_true_eq] at hx2
    have h1 := he.kc x hx1
    have h2 := hc x.id
    rw [if_neg (fun e => hx2 e.symm)] at h2
    simp only at h2 ⊢
    omega
   ·have h1 := tot_filt h hf
    have h2 := he.ut
    rw [hfi] at h1
    simp only
    omega
  ·rename_i hk
   refine ⟨fun x hx => ?_, fun x hx hz => ?_, ?_⟩
   ·obtain ⟨y, hy, e1, _, _, _, e5⟩ := mem_bump hx
    have h1 := he.kc y hy
    have h2 := hc y.id
    rw [e1, e5]
    simp only
    by_cases hyp : y.id = p.2
    ·rw [if_pos hyp]
     rw [if_pos hyp.symm] at h2
     omega
    ·rw [if_neg hyp]
     rw [if_neg (fun e => hyp e.symm)] at h2
     omega
   ·obtain ⟨y, hy, e1, _, _, _, e5⟩ := mem_bump hx
    rw [e1] at hz
    have h1 := he.pos y hy hz
    rw [e5]
    by_cases hyp : y.id = p.2
    ·rw [if_pos hyp]
     have : y = f := by
      obtain ⟨a, b, hab⟩ := List.append_of_mem hf
      have hids := h.ids
      rw [hab] at hids hy
      rcases List.mem_append.1 hy with hy | hy
      ·exact absurd (hyp.trans hfi.symm) ((off_ids hids).1 y hy)
      ·rcases List.mem_cons.1 hy with hy | hy
       ·exact hy
       ·exact absurd (hyp.trans hfi.symm) ((off_ids hids).2 y hy)
     rw [this] at h1 ⊢
     omega
    ·rw [if_neg hyp]
     omega
   ·show s.used + d = (tot (bump s.fs p.2 (-1)) : Int)
    rw [tot_bump]
    exact he.ut
theorem rep_lets {s : SM} (h : Raw s) {e z d} (he : Ex s e z d) {a : AS} (hr : RepS s a) {n : List UInt8} (h0 : ∀ p, alook s.ml n = some p → e p.2 = 0) : RepS (letsM s n) (letsA a n) := by
 unfold letsM letsA
 rw [← hr.look h n]
 cases hl : alook s.ml n with
 | none => exact hr
 | some p =>
  obtain ⟨f, hf, hfg, hfi, hg⟩ := look_fs h hl
  rw [Option.map_some]
  simp only
  rw [hg]
  simp only
  have hk := he.kc f hf
  rw [hfi, h0 p hl, hr.cnt] at hk
  have hnm : ((mdel s.ml n).map fun p => (p.1, Prod.snd p.2)).Perm (mdel a.nm n) := by
   rw [← mdel_map]
   exact hr.nm.filter _
  have hdt := hr.dt f hf
  rw [hfi] at hdt
  have hus := hr.us
  split
  ·rename_i h1
   rw [if_pos (by omega)]
   exact ⟨hnm, fun x hx => hr.dt x (List.mem_filter.1 hx).1, by show s.used - _ = a.used - _; rw [hdt, hus]⟩
  ·rename_i h1
   rw [if_neg (by omega)]
   refine ⟨hnm, fun x hx => ?_, hus⟩
   obtain ⟨y, hy, e1, _, _, e4, _⟩ := mem_bump hx
   show a.dt x.id = x.xs
   rw [e1, e4]
   exact hr.dt y hy
theorem id_uniq {s : SM} (h : Raw s) {f x : FL} (hf : f ∈ s.fs) (hx : x ∈ s.fs) (hi : x.id = f.id) : x = f := by
 obtain ⟨a, b, hab⟩ := List.append_of_mem hf
 have hids := h.ids
 rw [hab] at hids hx
 rcases List.mem_append.1 hx with hx | hx
 ·exact absurd hi ((off_ids hids).1 x hx)
 ·rcases List.mem_cons.1 hx with hx | hx
  ·exact hx
  ·exact absurd hi ((off_ids hids).2 x hx)
theorem ex_bump {s : SM} (h : Raw s) {e z d} (he : Ex s e z d) {f : FL} (hf : f ∈ s.fs) (h0 : 0 ≤ f.k) : Ex { s with fs := bump s.fs f.id 1 } (fun j => e j + if j = f.id then 1 else 0) (fun j => z j ∧ j ≠ f.id) d := by
 refine ⟨fun x hx => ?_, fun x hx hz => ?_, by show s.used + d = (tot (bump s.fs f.id 1) : Int); rw [tot_bump]; exact he.ut⟩
 ·obtain ⟨y, hy, e1, _, _, _, e5⟩ := mem_bump hx
  have h1 := he.kc y hy
  rw [e1, e5]
  simp only
  omega
 ·obtain ⟨y, hy, e1, _, _, _, e5⟩ := mem_bump hx
  rw [e5]
  by_cases hyf : y.id = f.id
  ·rw [if_pos hyf, id_uniq h hf hy hyf]
   omega
  ·rw [if_neg hyf]
   rw [e1] at hz
   have h1 := he.pos y hy (fun hzz => hz ⟨hzz, hyf⟩)
   omega
theorem rep_bump {s : SM} {a : AS} (hr : RepS s a) (i : Nat) (c : Int) : RepS { s with fs := bump s.fs i c } a := by
 refine ⟨hr.nm, fun x hx => ?_, hr.us⟩
 obtain ⟨y, hy, e1, _, _, e4, _⟩ := mem_bump hx
 rw [e1, e4]
 exact hr.dt y hy
theorem cnt_snoc (ml : List (List UInt8 × (Nat × Nat))) (n : List UInt8) (p : Nat × Nat) (i : Nat) : cnt (ml ++ [(n, p)]) i = cnt ml i + if p.2 = i then 1 else 0 := by
 unfold cnt
 rw [List.filter_append, List.length_append, List.filter_cons, List.filter_nil]
 by_cases hx2 : p.2 = i
 ·rw [if_pos hx2, if_pos (by simpa using hx2)]; rfl
 ·rw [if_neg hx2, if_neg (by simpa using hx2)]; rfl
theorem ex_gives {s : SM} (h : Raw s) {e z d} (he : Ex s e z d) {f : FL} (hf : f ∈ s.fs) (h0 : 0 ≤ f.k) (hk : f.k + 1 ≤ 1000000) (he0 : ∀ j, e j = 0) (n : List UInt8) : Ex (givesM s n (f.g, f.id)) e (fun j => z j ∧ j ≠ f.id) d := by
 unfold givesM
 split
 ·rename_i hl
  refine ⟨he.kc, fun x hx hz => ?_, he.ut⟩
  by_cases hxf : x.id = f.id
  ·have h1 := he.kc x hx
   have h2 := cnt_pos (alook_mem hl)
   rw [he0, hxf] at h1
   simp only at h2
   omega
  ·exact he.pos x hx (fun hzz => hz ⟨hzz, hxf⟩)
 ·have h1 := ex_lets (raw_bump h hf hk) (ex_bump h he hf h0) n
  refine ⟨fun x hx => ?_, fun x hx hz => h1.pos x hx hz, h1.ut⟩
  have h2 := h1.kc x hx
  show x.k = ((cnt ((letsM { s with fs := bump s.fs f.id 1 } n).ml ++ [(n, (f.g, f.id))]) x.id : Nat) : Int) + e x.id
  rw [cnt_snoc, h2]
  simp only
  by_cases hxf : x.id = f.id
  ·rw [if_pos hxf, if_pos hxf.symm]
   omega
  ·rw [if_neg hxf, if_neg (fun q => hxf q.symm)]
   omega
theorem rep_gives {s : SM} (h : Raw s) {e z d} (he : Ex s e z d) {a : AS} (hr : RepS s a) {f : FL} (hf : f ∈ s.fs) (h0 : 0 ≤ f.k) (hk : f.k + 1 ≤ 1000000) (he0 : ∀ j, e j = 0) (n : List UInt8) : RepS (givesM s n (f.g, f.id)) (givesA a n f.id) := by
 have hlk := hr.look h n
 unfold givesM givesA
 by_cases hl : alook s.ml n = some (f.g, f.id)
 ·rw [if_pos hl, if_pos (by rw [← hlk, hl]; rfl)]
  exact hr
 ·have hne : alook a.nm n ≠ some f.id := fun e2 => by
   rw [← hlk] at e2
   obtain ⟨p, hp, hp2⟩ := Option.map_eq_some_iff.1 e2
   obtain ⟨x, hx, h1, h2, _⟩ := look_fs h hp
   have := id_uniq h hf hx (h2.trans hp2)
   subst this
   exact hl (by rw [hp]; exact congrArg some (Prod.ext h1.symm h2.symm))
  rw [if_neg hl, if_neg hne]
  have h1 := rep_lets (raw_bump h hf hk) (ex_bump h he hf h0) (rep_bump hr f.id 1) (n := n) (fun p hp => by
   have hpf : p.2 ≠ f.id := fun q => hne (by rw [← hlk]; show (alook s.ml n).map Prod.snd = _; rw [show alook s.ml n = some p from hp, Option.map_some, q])
   show e p.2 + (if p.2 = f.id then 1 else 0) = 0
   rw [he0, if_neg hpf]
   rfl)
  refine ⟨?_, h1.dt, h1.us⟩
  show (((letsM { s with fs := bump s.fs f.id 1 } n).ml ++ [(n, (f.g, f.id))]).map fun p => (p.1, Prod.snd p.2)).Perm ((letsA a n).nm ++ [(n, f.id)])
  rw [List.map_append]
  exact h1.nm.append_right _
abbrev E0 : Nat → Int := fun _ => 0
abbrev Z0 : Nat → Prop := fun _ => False
structure Sx' (s : SM) (a : AS) : Prop where
 raw : Raw s
 ex : Ex s E0 Z0 0
 rep : RepS s a
theorem ex_new {s : SM} (h : Raw s) (he : Ex s E0 Z0 0) {id : Nat} {v : Value} {xs : List UInt8} {g : Nat} (hid : ∀ f ∈ s.fs, f.id ≠ id) : Ex (newM s id v xs g) E0 (fun j => j = id) (xs.length : Int) := by
 refine ⟨fun f hf => ?_, fun f hf hz => ?_, ?_⟩
 ·rcases List.mem_cons.1 hf with rfl | hf
  ·show (0 : Int) = ((cnt s.ml id : Nat) : Int) + 0
   rw [cnt_zero h hid]
   rfl
  ·exact he.kc f hf
 ·rcases List.mem_cons.1 hf with rfl | hf
  ·exact absurd rfl hz
  ·exact he.pos f hf (fun q => q)
 ·have h1 := he.ut
  show s.used + (xs.length : Int) = (tot ((⟨g, id, v, xs, 0⟩ : FL) :: s.fs) : Int)
  rw [tot_cons]
  show _ = ((xs.length + tot s.fs : Nat) : Int)
  omega
theorem rep_new {s : SM} {a : AS} (hr : RepS s a) {id : Nat} {v : Value} {xs : List UInt8} {g : Nat} (hid : ∀ f ∈ s.fs, f.id ≠ id) : RepS (newM s id v xs g) { a with dt := updA a.dt id xs } := by
 refine ⟨hr.nm, fun f hf => ?_, hr.us⟩
 rcases List.mem_cons.1 hf with rfl | hf
 ·exact if_pos rfl
 ·show updA a.dt id xs f.id = f.xs
  unfold updA
  rw [if_neg (hid f hf)]
  exact hr.dt f hf
theorem lets_ids {s : SM} {n : List UInt8} {id : Nat} (hid : ∀ f ∈ s.fs, f.id ≠ id) : ∀ f ∈ (letsM s n).fs, f.id ≠ id := fun f hf => by
 obtain ⟨y, hy, e, _⟩ := lets_sub hf
 rw [e]
 exact hid y hy
theorem raw_letsE {s : SM} (h : Raw s) (n : List UInt8) : ∃ es, Raw { letsM s n with es := es } := by
 have key : ∃ es, MapOk strEnc strOk es s.ck ((letsM s n).ml.map fun q => (q.1, fptr q.2)) := by
  unfold letsM
  cases hl : alook s.ml n with
  | none => exact ⟨s.es, h.map⟩
  | some p =>
   obtain ⟨f, hf, hfg, hfi, hg⟩ := look_fs h hl
   simp only
   rw [hg]
   simp only
   obtain ⟨i, hi, he⟩ := List.getElem_of_mem (alook_mem hl)
   have := h.map.erase (k := n) (j := i) (v := fptr p) (by rw [List.getElem?_map, List.getElem?_eq_getElem hi, he]; rfl)
   rw [mdel_map] at this
   split <;> exact ⟨_, this⟩
 obtain ⟨es, hm⟩ := key
 exact ⟨es, raw_lets h hm⟩
theorem writeM_fs {s : SM} (h : Raw s) {n : List UInt8} {id : Nat} {v : Value} {xs : List UInt8} {g : Nat} (hid : ∀ f ∈ s.fs, f.id ≠ id) : (writeM s n id v xs g).fs = ⟨g, id, v, xs, 1⟩ :: (letsM s n).fs := by
 unfold writeM
 rw [gives_fresh (letsM_free h n) (lets_ids hid)]
theorem full_write {s : SM} {a : AS} (h : Sx' s a) {n : List UInt8} {id : Nat} {v : Value} {xs : List UInt8} {g : Nat} (hid : ∀ q ∈ a.nm, q.2 ≠ id) {es2 : Array MapEntry} {ck2 : Nat} (hr : Raw { writeM s n id v xs g with es := es2, ck := ck2 }) (hv : ∃ A cap, v = .slice A xs.length cap ∧ xs.length ≤ 1000000000) : Sx' { writeM s n id v xs g with es := es2, ck := ck2 } (writeA a n xs id) := by
 obtain ⟨es, hr0⟩ := raw_letsE h.raw n
 have hid1 := h.rep.fresh h.raw h.ex (fun _ => rfl) (fun _ q => q) hid
 have hid2 := lets_ids (n := n) hid1
 have e1 := ex_lets h.raw h.ex n
 have hgn := hr.gnd
 simp only at hgn
 rw [writeM_fs h.raw hid1, List.map_cons, List.nodup_cons] at hgn
 have hr1 : Raw (newM { letsM s n with es := es } id v xs g) := raw_new hr0 hid2 (fun f hf e => hgn.1 (List.mem_map.2 ⟨f, hf, e⟩)) hv (by
  have := e1.ut
  show (tot (letsM s n).fs : Int) ≤ (letsM s n).used
  omega)
 have r1 := rep_lets h.raw h.ex h.rep (n := n) (fun _ _ => rfl)
 have e2 := ex_new (s := { letsM s n with es := es }) hr0 ⟨e1.kc, e1.pos, e1.ut⟩ (v := v) (xs := xs) (g := g) hid2
 have r2 := rep_new (s := { letsM s n with es := es }) ⟨r1.nm, r1.dt, r1.us⟩ (v := v) (xs := xs) (g := g) hid2
 have e3 := ex_gives hr1 e2 (f := ⟨g, id, v, xs, 0⟩) (List.mem_cons_self ..) (Int.le_refl _) (by show (0 : Int) + 1 ≤ _; decide) (fun _ => rfl) n
 have r3 := rep_gives hr1 e2 r2 (f := ⟨g, id, v, xs, 0⟩) (List.mem_cons_self ..) (Int.le_refl _) (by show (0 : Int) + 1 ≤ _; decide) (fun _ => rfl) n
 have hes : givesM (newM { letsM s n with es := es } id v xs g) n (g, id) = { givesM (newM (letsM s n) id v xs g) n (g, id) with es := es, ck := (letsM s n).ck } := givesM_es (newM (letsM s n) id v xs g) n (g, id) es (letsM s n).ck
 simp only at e3 r3
 rw [hes] at e3 r3
 unfold writeM writeA
 unfold writeM at hr
 refine ⟨hr, ⟨e3.kc, fun f hf hz => e3.pos f hf (fun q => q.2 q.1), ?_⟩, r3.nm, r3.dt, ?_⟩
 ·have := e3.ut
  show (givesM (newM (letsM s n) id v xs g) n (g, id)).used + (xs.length : Int) + 0 = (tot (givesM (newM (letsM s n) id v xs g) n (g, id)).fs : Int)
  simp only at this
  omega
 ·have := r3.us
  show _ + (xs.length : Int) = _ + (xs.length : Int)
  rw [← this]
theorem full_app {s : SM} {a : AS} (h : Sx' s a) {n : List UInt8} {f : FL} {v : Value} {xs : List UInt8} (hf : f ∈ s.fs) (hl : alook s.ml n = some (f.g, f.id)) (hr1 : Raw (appM s f.id v xs)) : Sx' (appM s f.id v xs) (appA a n xs) := by
 have hla : alook a.nm n = some f.id := by rw [← h.rep.look h.raw n, hl]; rfl
 unfold appA
 rw [hla]
 simp only
 refine ⟨hr1, ⟨fun x hx => ?_, fun x hx hz => ?_, ?_⟩, h.rep.nm, fun x hx => ?_, ?_⟩
 ·obtain ⟨y, hy, rfl⟩ := List.mem_map.1 hx
  rw [(app_id _ _ _ y).2.2, (app_id _ _ _ y).1]
  exact h.ex.kc y hy
 ·obtain ⟨y, hy, rfl⟩ := List.mem_map.1 hx
  rw [(app_id _ _ _ y).2.2]
  exact h.ex.pos y hy (fun q => q)
 ·obtain ⟨p, q, hab⟩ := List.append_of_mem hf
  have hids := h.raw.ids
  rw [hab] at hids
  have hfs : s.fs.map (app1 f.id v xs) = p ++ { f with v := v, xs := f.xs ++ xs } :: q := by rw [hab]; exact app_split hids
  have t1 := tot_split p q f
  have t2 := tot_split p q { f with v := v, xs := f.xs ++ xs }
  rw [← hab] at t1
  have := h.ex.ut
  show s.used + (xs.length : Int) + 0 = (tot (s.fs.map (app1 f.id v xs)) : Int)
  rw [hfs, t2]
  simp only [List.length_append]
  omega
 ·obtain ⟨y, hy, rfl⟩ := List.mem_map.1 hx
  have hd := h.rep.dt y hy
  show updA a.dt f.id (a.dt f.id ++ xs) (app1 f.id v xs y).id = _
  rw [(app_id _ _ _ y).1]
  unfold updA app1
  by_cases hyf : y.id = f.id
  ·rw [if_pos hyf, if_pos hyf, ← hyf, hd]
  ·rw [if_neg hyf, if_neg hyf]
   exact hd
 ·show s.used + _ = a.used + _
  rw [h.rep.us]
theorem full_lets {s : SM} {a : AS} (h : Sx' s a) (n : List UInt8) : Ex (letsM s n) E0 Z0 0 ∧ RepS (letsM s n) (letsA a n) := ⟨ex_lets h.raw h.ex n, rep_lets h.raw h.ex h.rep (fun _ _ => rfl)⟩
theorem Sx'.es {s : SM} {a : AS} {es : Array MapEntry} {ck : Nat} (hr : Raw { s with es := es, ck := ck }) (h : Ex s E0 Z0 0 ∧ RepS s a) : Sx' { s with es := es, ck := ck } a := ⟨hr, ⟨h.1.kc, h.1.pos, h.1.ut⟩, h.2.nm, h.2.dt, h.2.us⟩
end Go.Proofs.YtfebkkmmagbnlaaGreatDoor
/-! Ft1 -/
namespace Go.Proofs.YtfebkkmmagbnlaaGreatDoor
open Go Go.Sx
set_option maxRecDepth 100000
set_option maxHeartbeats 4000000
set_option linter.unusedVariables false
set_option linter.unusedSimpArgs false
attribute [local irreducible] J JQ QS Con W opW
open Go.MapKept Go.WideMaps Go.Maps
theorem rm_con (s : SM) (P : List BK) (n : List UInt8) (g1 : Nat) (w : World) (h : Raw s) (hn : strOk n) (h1 : w.heap[g1]? = some (.cells [.string (bs n)].toArray 9 (0, 0))) (hd1 : g1 ∉ dom (s.heap ++ ph P)) : Con Tryz.prog 98 [s.ptr, .pointer (some ⟨g1, 0, none⟩)] w (s.heap ++ ph P) fun _ S' => ∃ es : Array MapEntry, S' = [SM.heap { letsM s n with es := es }, ph P] ∧ Raw { letsM s n with es := es } := by
 refine con_of_tree mix Tryz.func98 T98_ok (by kernel_rfl) ?_
 unfold T98
 refine j_perm (S' := [s.heap, ph P]) (by simp) ?_
 refine j_q (qs_loadO (rdo_base h1 hd1) U9 rfl rfl rfl) ?_
 refine j_call 0 ent99 rfl rfl rfl rfl (fun w' hw' => lets_con s n w' h hn) (fun u S2 hu => ?_)
 obtain ⟨es1, rfl, hr1⟩ := hu
 refine j_subl (S' := [SM.heap { letsM s n with es := es1 }, ph P]) (by repeat first | exact slR _ | exact slN _ | apply slC | apply slD) ?_
 refine j_ret_con (vs := []) (fun w' hw' => trivial) ?_
 exact ⟨es1, rfl, hr1⟩
inductive MT where
 | wr (n xs : List UInt8) (id g0 g1 : Nat) (A : Option Addr) (c : Nat)
 | ap (n xs : List UInt8) (g0 g1 : Nat) (A : Option Addr) (c : Nat)
 | li (old n : List UInt8) (g0 g1 : Nat)
 | rn (old n : List UInt8) (g0 g1 : Nat)
 | rm (n : List UInt8) (g0 : Nat)
def MT.abs : MT → AT
 | .wr n xs id _ _ _ _ => .wr n xs id
 | .ap n xs _ _ _ _ => .ap n xs
 | .li old n _ _ => .li old n
 | .rn old n _ _ => .rn old n
 | .rm n _ => .rm n
def MT.fid : MT → FuncId
 | .wr .. => 101
 | .ap .. => 119
 | .li .. => 98
 | .rn .. => 98
 | .rm .. => 98
abbrev gp (g : Nat) : Value := .pointer (some ⟨g, 0, none⟩)
def MT.caps : MT → List Value
 | .wr _ _ _ g0 g1 _ _ => [gp g0, gp g1]
 | .ap _ _ g0 g1 _ _ => [gp g0, gp g1]
 | .li _ _ g0 g1 => [gp g1, gp g0]
 | .rn _ _ g0 g1 => [gp g0, gp g1]
 | .rm _ g0 => [gp g0]
abbrev MT.val (m : MT) : Value := .func (.func m.fid) #[] m.caps.toArray
def MT.h : MT → SH
 | .wr n xs _ g0 g1 A c => [(g0, .cells [.string (bs n)].toArray 9 (0, 0)), (g1, .cells [.slice A xs.length c].toArray 33 (0, 0))]
 | .ap n xs g0 g1 A c => [(g0, .cells [.string (bs n)].toArray 9 (0, 0)), (g1, .cells [.slice A xs.length c].toArray 33 (0, 0))]
 | .li old n g0 g1 => [(g0, .cells [.string (bs old)].toArray 9 (0, 0)), (g1, .cells [.string (bs n)].toArray 9 (0, 0))]
 | .rn old n g0 g1 => [(g0, .cells [.string (bs old)].toArray 9 (0, 0)), (g1, .cells [.string (bs n)].toArray 9 (0, 0))]
 | .rm n g0 => [(g0, .cells [.string (bs n)].toArray 9 (0, 0))]
def MT.ok (P : List BK) : MT → Prop
 | .wr n xs _ _ _ A c => strOk n ∧ RV P (.slice A xs.length c) xs ∧ xs.length ≤ c ∧ xs.length ≤ 1048576
 | .ap n xs _ _ A c => strOk n ∧ RV P (.slice A xs.length c) xs ∧ xs.length ≤ c ∧ xs.length ≤ 1048576
 | .li .. => False
 | .rn .. => False
 | .rm n _ => strOk n
theorem MT.ent (m : MT) : Sx.Enters Tryz.prog m.fid := by
 cases m
 ·exact ent101
 ·exact ent119
 ·exact ent98
 ·exact ent98
 ·exact ent98
def VwA (P : List BK) (s : SM) : Prop := ∀ x ∈ s.fs, Vw P x.g x.v x.xs
theorem VwA.sub {P : List BK} {s t : SM} (h : VwA P s) (hs : ∀ x ∈ t.fs, ∃ y ∈ s.fs, x.id = y.id ∧ x.g = y.g ∧ x.v = y.v ∧ x.xs = y.xs) : VwA P t := fun x hx => by
 obtain ⟨y, hy, _, h2, h3, h4⟩ := hs x hx
 rw [h2, h3, h4]
 exact h y hy
theorem thing_con (s : SM) (P : List BK) (a : AS) (m : MT) (w : World) (h : Sx' s a) (hv : VwA P s) (hl : limA a) (hm : m.ok P) (hc : canA a m.abs) (hb : In w m.h) (hd : ∀ g ∈ dom m.h, g ∉ dom (s.heap ++ ph P)) :
  Con Tryz.prog m.fid (s.ptr :: m.caps) w (s.heap ++ ph P) fun _ S' => ∃ (s' : SM) (P' : List BK), S' = [s'.heap, ph P'] ∧ s'.gs = s.gs ∧ Sx' s' (doA a m.abs) ∧ VwA P' s' ∧ (P' = P ∨ ∃ f ∈ s.fs, PLe f.g P P') := by
 have hut := h.ex.ut
 have hus := h.rep.us
 have hl1 := hl.1
 cases m with
 | wr n xs id g0 g1 A c =>
  obtain ⟨hn, hrv, hxc, hxl⟩ := hm
  have hid := h.rep.fresh h.raw h.ex (fun _ => rfl) (fun _ q => q) hc
  refine (wr_con s P n _ xs A c id g0 g1 w h.raw (by omega) (by omega) hid rfl hxc (by omega) hn (hb (g0, _) (by simp [MT.h])) (hd g0 (by simp [MT.h, dom])) (hb (g1, .cells [.slice A xs.length c].toArray 33 (0, 0)) (by simp [MT.h])) (hd g1 (by simp [MT.h, dom]))).mono (fun u S' hu => ?_)
  obtain ⟨es, ck, g, hg, rfl, hraw⟩ := hu
  refine ⟨_, P, rfl, (writeM_gs _ _ _ _ _ _).1, full_write h hc hraw ⟨_, _, rfl, by omega⟩, ?_, .inl rfl⟩
  intro x hx
  have hx' : x ∈ (writeM s n id (.slice (if xs.length = 0 then A else A.map (fun a : Addr => a.add (0 * 1))) xs.length xs.length) xs g).fs := hx
  rw [writeM_fs h.raw hid] at hx'
  rcases List.mem_cons.1 hx' with rfl | hx'
  ·exact Vw.clip g hrv rfl
  ·obtain ⟨y, hy, _, e2, e3, e4⟩ := lets_sub hx'
   rw [e2, e3, e4]
   exact hv y hy
 | ap n xs g0 g1 A c =>
  obtain ⟨hn, hrv, hxc, hxl⟩ := hm
  obtain ⟨i, hi, hlen⟩ := hc
  obtain ⟨f, hf, hlk, hfi, hfx⟩ := look_rep h.raw h.rep hi
  refine (ap_con s P n f _ xs g0 g1 w h.raw hf hlk (hv f hf) hrv (by rw [List.length_append, hfx]; omega) (by omega) hn (hb (g0, _) (by simp [MT.h])) (hd g0 (by simp [MT.h, dom])) (hb (g1, .cells [.slice A xs.length c].toArray 33 (0, 0)) (by simp [MT.h])) (hd g1 (by simp [MT.h, dom]))).mono (fun u S' hu => ?_)
  obtain ⟨v', P', rfl, hvw2, hple, hraw⟩ := hu
  refine ⟨_, P', rfl, rfl, full_app h hf hlk hraw, ?_, .inr ⟨f, hf, hple⟩⟩
  intro y hy
  obtain ⟨z, hz, rfl⟩ := List.mem_map.1 hy
  unfold app1
  split
  ·rename_i he
   rw [id_uniq h.raw hf hz he]
   exact hvw2
  ·rename_i he
   have hg : z.g ≠ f.g := fun e => he (by rw [fs_uniq h.raw hf hz e])
   exact (hv z hz).mono hple hg
 | li old n g0 g1 => exact hm.elim
 | rn old n g0 g1 => exact hm.elim
 | rm n g0 =>
  refine (rm_con s P n g0 w h.raw hm (hb (g0, _) (by simp [MT.h])) (hd g0 (by simp [MT.h, dom]))).mono (fun u S' hu => ?_)
  obtain ⟨es, rfl, hraw⟩ := hu
  exact ⟨_, P, rfl, (letsM_gs _ _).1, Sx'.es hraw (full_lets h n), hv.sub (fun x hx => lets_sub hx), .inl rfl⟩
end Go.Proofs.YtfebkkmmagbnlaaGreatDoor
/-! Ft2 -/
namespace Go.Proofs.YtfebkkmmagbnlaaGreatDoor
open Go Go.Sx
set_option maxRecDepth 100000
set_option maxHeartbeats 4000000
set_option linter.unusedVariables false
set_option linter.unusedSimpArgs false
attribute [local irreducible] J JQ QS Con W opW
open Go.MapKept Go.WideMaps Go.Maps
structure AF where
 room : Int
 base : AS
 pend : List AT
 fused : Bool
 left : Int
abbrev AF.now (a : AF) : AS := runA a.base a.pend
structure FR where
 gf : Nat
 room : Int
 ls : SM
 now : SM
 ms : List MT
 tv : Value
 tc : SH
 fused : Bool
 left : Int
 X : SH
 P : List BK
abbrev FR.fm (r : FR) : FM := ⟨r.gf, r.room, r.ls.ptr, r.now, r.ms.map MT.val, r.tv, r.tc, r.fused, r.left, r.ls.heap ++ r.X, r.P⟩
abbrev FR.heap (r : FR) : SH := r.fm.heap
abbrev FR.ptr (r : FR) : Value := .pointer (some ⟨r.gf, 0, none⟩)
structure FR.Ok (r : FR) (a : AF) : Prop where
 rm : r.room = a.room
 fu : r.fused = a.fused
 le : r.left = a.left
 l0 : 0 ≤ r.left ∧ r.left ≤ 9223372036854775807
 pd : r.ms.map MT.abs = a.pend
 row : Sx.Own 153 1 (r.ms.map MT.val) r.tv r.tc
 lt : r.ms.length ≤ 16384
 bx : ∀ m ∈ r.ms, ∀ q ∈ m.h, q ∈ r.X
 mo : ∀ m ∈ r.ms, m.ok r.P
 ok : okA a.base a.pend
 ls : Sx' r.ls a.base
 lv : VwA r.P r.ls
 now : Sx' r.now a.now
 nv : VwA r.P r.now
def Gr (w : World) (Fp : SH) (P P' : List BK) : Prop := (∀ v xs, RV P v xs → RV P' v xs) ∧ ∀ o, o < w.heap.size → o ∉ dom Fp → ∀ v xs, Vw P o v xs → Vw P' o v xs
theorem Gr.refl (w : World) (Fp : SH) (P : List BK) : Gr w Fp P P := ⟨fun _ _ h => h, fun _ _ _ _ _ h => h⟩
theorem Gr.trans {w : World} {Fp : SH} {P Q R : List BK} (h1 : Gr w Fp P Q) (h2 : Gr w Fp Q R) : Gr w Fp P R := ⟨fun v xs h => h2.1 v xs (h1.1 v xs h), fun o a b v xs h => h2.2 o a b v xs (h1.2 o a b v xs h)⟩
theorem Gr.old {w w' : World} {Fp : SH} {P P' : List BK} (h : Gr w' Fp P P') (hs : w.heap.size ≤ w'.heap.size) : Gr w Fp P P' := ⟨h.1, fun o ho hd v xs hv => h.2 o (Nat.lt_of_lt_of_le ho hs) hd v xs hv⟩
theorem MT.ok_mono {P P' : List BK} {m : MT} (h : m.ok P) (hr : ∀ v xs, RV P v xs → RV P' v xs) : m.ok P' := by
 cases m with
 | wr n xs id g0 g1 A c => exact ⟨h.1, hr _ _ h.2.1, h.2.2⟩
 | ap n xs g0 g1 A c => exact ⟨h.1, hr _ _ h.2.1, h.2.2⟩
 | li old n g0 g1 => exact h
 | rn old n g0 g1 => exact h
 | rm n g0 => exact h
abbrev FR.parts (r : FR) : List SH := [[(r.gf, r.fm.obj)], r.ls.heap ++ ph r.P, r.tc, r.now.heap, r.X]
theorem FR.split (r : FR) : ([r.heap] : List SH).flatten.Perm (r.parts).flatten := by
 classical
 refine List.perm_iff_count.2 fun x => ?_
 simp only [FM.heap, FR.parts, List.flatten_cons, List.flatten_nil, List.append_nil, List.nil_append, List.cons_append, List.count_append, List.count_cons, List.count_nil] <;> omega
theorem cut_addr {A : Option Addr} {n cap : Nat} {e : TypeId} {xs : List Value} {c : SH} (ho : Sx.Own e 1 xs (.slice A n cap) c) (h : 0 < xs.length) : ∃ g, A = some ⟨g, 0, none⟩ ∧ (if cap = 0 then A else A.map (·.add (0 * 1))) = some ⟨g, 0, none⟩ := by
 obtain ⟨g, rfl⟩ := own_addr ho h
 refine ⟨g, rfl, ?_⟩
 split <;> simp [Addr.add]
theorem dom_gs {s : SM} {x : FL} (hx : x ∈ s.fs) : x.g ∈ dom s.heap := List.mem_map.2 ⟨x.h, by unfold SM.heap; exact List.mem_append_right _ (List.mem_map.2 ⟨x, hx, rfl⟩), rfl⟩
theorem nodup_two {H1 H2 : SH} {S : List SH} (h : (dom S.flatten).Nodup) {i j : Nat} (hij : i < j) (hi : S[i]? = some H1) (hj : S[j]? = some H2) : ∀ g ∈ dom H1, g ∉ dom H2 := fun g h1 h2 => by
 induction S generalizing i j with
 | nil => simp at hi
 | cons c S ih =>
  rw [List.flatten_cons, dom, List.map_append, List.nodup_append] at h
  cases j with
  | zero => omega
  | succ j =>
   cases i with
   | zero =>
    simp at hi hj
    subst hi
    obtain ⟨q, hq, e⟩ := List.mem_map.1 h2
    exact h.2.2 g h1 g (List.mem_map.2 ⟨q, mem_flatten_of hj hq, e⟩) rfl
   | succ i => exact ih h.2.1 (by omega) hi hj
theorem last_con (r : FR) (a : AF) (k : Nat) (w : World) (hok : r.Ok a) (hk : k ≤ r.ms.length) : Con Tryz.prog 55 [r.ptr, .int .i64 (k : Int)] w r.heap fun _ S' => ∃ (ls : SM) (P : List BK), S' = [FR.heap ({ r with ls := ls, P := P, ms := [], tv := .slice none 0 0, tc := [] } : FR)] ∧ ls.gs = r.ls.gs ∧ Sx' ls (runA a.base (a.pend.take k)) ∧ VwA P ls ∧ VwA P r.now ∧ Gr w r.heap r.P P := by
 refine con_of_tree mix Tryz.func55 T55_ok (by kernel_rfl) ?_
 unfold T55
 obtain ⟨n1, A1, cap1, htv, hn1⟩ := own_form hok.row (by decide)
 rw [Nat.mul_one, List.length_map] at hn1
 subst hn1
 have hrow := hok.row
 rw [htv] at hrow
 have hcap := own_cap hrow
 have hlt := hok.lt
 refine j_perm (S' := r.parts) r.split ?_
 refine j_q (qs_nil rfl) ?_
 refine j_q (qs_field U63 rfl sz61 (by decide) rfl) ?_
 refine j_q (qs_load (l := fmcells r.fm) 0 U61 rfl rfl rfl rfl) ?_
 refine j_q (qs_cutl (a := 0) (z := k) (n := r.ms.length) (c := cap1) (A := A1) U61 sz153 htv rfl ⟨_, rfl⟩ (by omega) (by omega)) ?_
 obtain ⟨A2, hA2⟩ : ∃ A2, A2 = (if cap1 = 0 then A1 else A1.map (·.add (0 * 1))) := ⟨_, rfl⟩
 rw [← hA2, Nat.sub_zero, Nat.sub_zero]
 refine j_q (qs_lenl U61 rfl) ?_
 refine j_q (qs_mc) ?_
 refine j_loop (fun m vs S' => ∃ (i : Nat) (ls : SM) (P : List BK), vs = [.int .i64 (i : Int)] ∧ i ≤ k ∧ S' = [[(r.gf, r.fm.obj)], ls.heap ++ ph P, r.tc, r.now.heap, r.X] ∧ ls.gs = r.ls.gs ∧ Sx' ls (runA a.base (a.pend.take i)) ∧ VwA P ls ∧ VwA P r.now ∧ Gr w r.heap r.P P ∧ m = k - i) ⟨_, 0, r.ls, r.P, rfl, Nat.zero_le _, rfl, rfl, hok.ls, hok.lv, hok.nv, Gr.refl _ _ _, rfl⟩ ?_
 rintro m vs S' hlen ⟨i, ls, P, rfl, hik, rfl, hgs, hls, hlv, hnv, hgr, rfl⟩
 refine j_q (qs_lss rfl rfl) ?_
 refine j_cond rfl (fun hc0 => ?_) (fun hc0 => ?_)
 ·skip
  have hi : i < k := by
   have h5 : (i : Int) < (k : Int) := by simpa using hc0
   omega
  obtain ⟨mt, hmt⟩ : ∃ mt, r.ms[i]? = some mt := ⟨_, List.getElem?_eq_getElem (show i < r.ms.length by omega)⟩
  have hmem : mt ∈ r.ms := List.mem_of_getElem? hmt
  have hpd : a.pend[i]? = some mt.abs := by rw [← hok.pd, List.getElem?_map, hmt]; rfl
  obtain ⟨g1, rfl, hA3⟩ := cut_addr hrow (by rw [List.length_map]; omega)
  rw [hA3] at hA2
  subst hA2
  refine j_q (qs_ixn (i := i) U61 sz153 rfl rfl hi) ?_
  refine j_q (qs_loadR (v := mt.val) (a := ⟨g1, 0, none⟩) (i := i) (own_rd hrow 2 rfl) U153 rfl (by rw [add_off]; show Value.pointer (some ⟨g1, 0 + i * 1, none⟩) = _; rw [Nat.mul_one]) (by rw [List.getElem?_map, hmt]; rfl)) ?_
  refine j_q (qs_nil rfl) ?_
  refine j_q (qs_field U63 rfl sz59 (by decide) rfl) ?_
  refine j_q (qs_load (l := fmcells r.fm) 0 U59 rfl rfl rfl rfl) ?_
  refine j_callf 1 mt.ent rfl rfl (by simp only [List.nil_append, List.map_cons, List.map_nil]; show r.ls.ptr :: mt.caps = ls.ptr :: mt.caps; simp only [SM.ptr, hgs]) rfl (fun w' hw' => (thing_con ls P (runA a.base (a.pend.take i)) mt w' hls hlv (okA_run hok.ok i) (MT.ok_mono (hok.mo mt hmem) hgr.1) (okA_nth hok.ok hpd) (fun q hq => in_own hw' 4 rfl q (hok.bx mt hmem q hq)) (fun g hg hg2 => nodup_two hw'.nodup (i := 1) (j := 4) (by decide) rfl rfl g hg2 (List.mem_map.2 (by obtain ⟨q, hq, e⟩ := List.mem_map.1 hg; exact ⟨q, hok.bx mt hmem q hq, e⟩)))).mono (fun u S3 hu3 => (⟨hu3, fun f hf => ⟨fun hfn => nodup_two hw'.nodup (i := 1) (j := 3) (by decide) rfl rfl f.g (by rw [dom, List.map_append]; exact List.mem_append_left _ (dom_gs hf)) hfn, fun o ho hod e => by
   have h9 := hw'.dom_ f.g (by
    rw [dom, show ∀ l : List SH, l.flatten = l.flatten from fun _ => rfl]
    exact List.mem_map.2 ⟨f.h, mem_flatten_of (k := 1) rfl (by
     refine List.mem_append_left _ ?_
     unfold SM.heap
     exact List.mem_append_right _ (List.mem_map.2 ⟨f, hf, rfl⟩)), rfl⟩)
   rw [← e] at h9
   rcases h9 with h9 | h9
   ·exact hod h9
   ·exact absurd ho (Nat.not_lt.2 h9)⟩⟩ : _ ∧ ∀ f ∈ ls.fs, f.g ∉ dom r.now.heap ∧ ∀ o, o < w.heap.size → o ∉ dom r.heap → o ≠ f.g))) (fun u S2 hu2 => ?_)
  obtain ⟨⟨ls2, P2, rfl, hgs2, hls2, hlv2, hple⟩, hsep⟩ := hu2
  refine j_perm (S' := [[(r.gf, r.fm.obj)], ls2.heap ++ ph P2, r.tc, r.now.heap, r.X]) (by
   classical
   refine List.perm_iff_count.2 fun x => ?_
   simp only [List.set, List.flatten_cons, List.flatten_nil, List.append_nil, List.nil_append, List.cons_append, List.count_append, List.count_cons, List.count_nil] <;> omega) ?_
  refine j_q (qs_add64 rfl rfl (by first | omega | (simp only [bnA] at *; omega))) ?_
  refine j_back rfl ?_
  refine ⟨k - (i + 1), by omega, i + 1, ls2, P2, rfl, hi, rfl, hgs2.trans hgs, by rw [runA_succ hpd]; exact hls2, hlv2, ?_, ?_, rfl⟩
  ·rcases hple with rfl | ⟨f, hf, hple⟩
   ·exact hnv
   ·exact fun x hx => (hnv x hx).mono hple (fun e => (hsep f hf).1 (e ▸ dom_gs hx))
  ·rcases hple with rfl | ⟨f, hf, hple⟩
   ·exact hgr
   ·exact hgr.trans ⟨fun v xs h => h.mono hple, fun o ho hod v xs h => h.mono hple ((hsep f hf).2 o ho hod)⟩
 ·skip
  have hi : i = k := by
   have h5 : ¬ (i : Int) < (k : Int) := by simpa using hc0
   omega
  subst hi
  refine j_q (qs_nil rfl) ?_
  refine j_q (qs_field U63 rfl sz61 (by decide) rfl) ?_
  refine j_store (l := fmcells r.fm) 0 sz61 rfl rfl rfl rfl (by simp) (by simp) ?_
  have hp : ls.ptr = r.ls.ptr := by simp only [SM.ptr, hgs]
  refine j_subl (S' := [[(r.gf, FM.obj (FR.fm ({ r with ls := ls, P := P, ms := [], tv := .slice none 0 0, tc := [] } : FR)))], ls.heap ++ ph P, r.now.heap, r.X]) (by
   have e : FM.obj (FR.fm ({ r with ls := ls, P := P, ms := [], tv := .slice none 0 0, tc := [] } : FR)) = .cells [.int .i64 r.room, r.ls.ptr, r.now.ptr, .slice none 0 0, .bool r.fused, .int .i64 r.left].toArray 63 (0, 0) := by
    simp only [FM.obj, fmcells, hp]
   rw [e]
   exact (by repeat first | exact slR _ | exact slN _ | apply slC | apply slD)) ?_
  refine j_perm (S' := [FR.heap ({ r with ls := ls, P := P, ms := [], tv := .slice none 0 0, tc := [] } : FR)]) (by
   classical
   refine List.perm_iff_count.2 fun x => ?_
   simp only [FM.heap, List.set, List.flatten_cons, List.flatten_nil, List.append_nil, List.nil_append, List.cons_append, List.count_append, List.count_cons, List.count_nil] <;> omega) ?_
  refine j_ret_con (vs := []) (fun w' hw' => trivial) ?_
  exact ⟨ls, P, rfl, hgs, hls, hlv, hnv, hgr⟩
end Go.Proofs.YtfebkkmmagbnlaaGreatDoor
/-! Sx23 -/
namespace Go.Sx
open Go
set_option linter.unusedVariables false
variable {P : Program} {R : Ending → World → Prop} {env : Env} {b : Base} {S : List SH} {B : JB} {T : Tree} {v : Value} {ty : TypeId}
end Go.Sx
/-! Sx24 -/
namespace Go.Sx
open Go
set_option linter.unusedVariables false
variable {P : Program} {R : Ending → World → Prop} {env : Env} {b : Base} {S : List SH} {B : JB} {T : Tree} {v : Value} {ty : TypeId}
end Go.Sx
/-! Sx26 -/
namespace Go.Sx
open Go Go.MapKept Go.WideMaps Go.Maps
set_option linter.unusedVariables false
set_option linter.unusedSimpArgs false
set_option linter.unusedSectionVars false
variable {P : Program} {R : Ending → World → Prop} {env : Env} {b : Base} {S : List SH} {B : JB} {T : Tree} {v : Value} {ty : TypeId}
theorem flat_set {α : Type} {encA : α → List Value} {n : Nat} (hl : ∀ a, (encA a).length = n) {fo : Nat} (hfo : fo < n) (v : Value) (a' d : α) : ∀ (rs : List α) (i : Nat), i < rs.length → encA a' = (encA (rs.getD i d)).set fo v → ((rs.map encA).flatten).set (i * n + fo) v = ((rs.set i a').map encA).flatten
 | [], _, h, _ => by simp at h
 | a :: rs, 0, _, ha => by
  simp only [List.getD_cons_zero] at ha
  simp only [List.map_cons, List.flatten_cons, List.set_cons_zero, Nat.zero_mul, Nat.zero_add]
  rw [List.set_append_left _ _ (by rw [hl]; exact hfo), ha]
 | a :: rs, i + 1, h, ha => by
  simp only [List.getD_cons_succ] at ha
  simp only [List.map_cons, List.flatten_cons, List.set_cons_succ]
  rw [List.set_append_right _ _ (by rw [hl, Nat.add_mul]; omega), hl, ← flat_set hl hfo v a' d rs i (by simpa using h) ha]
  congr 2
  rw [Nat.add_mul]
  omega
theorem flat_setw {α : Type} {encA : α → List Value} {n : Nat} (hl : ∀ a, (encA a).length = n) (a' : α) : ∀ (rs : List α) (i : Nat), i < rs.length → ((rs.map encA).flatten).take (i * n) ++ encA a' ++ ((rs.map encA).flatten).drop (i * n + n) = ((rs.set i a').map encA).flatten
 | [], _, h => by simp at h
 | a :: rs, 0, _ => by
  simp only [List.map_cons, List.flatten_cons, List.set_cons_zero, Nat.zero_mul, Nat.zero_add, List.take_zero, List.nil_append]
  rw [List.drop_append_of_le_length (by rw [hl]; exact Nat.le_refl _), List.drop_of_length_le (by rw [hl]; exact Nat.le_refl _), List.nil_append]
 | a :: rs, i + 1, h => by
  simp only [List.map_cons, List.flatten_cons, List.set_cons_succ]
  have e1 : (i + 1) * n = n + i * n := by rw [Nat.add_mul]; omega
  rw [← flat_setw hl a' rs i (by simpa using h), e1, List.take_append, hl, List.take_of_length_le (by rw [hl]; omega), List.drop_append, hl, List.drop_of_length_le (by rw [hl]; omega)]
  simp only [List.append_assoc, List.nil_append]
  rw [Nat.add_sub_cancel_left, show n + i * n + n - n = i * n + n by omega]
theorem own_mk {e : TypeId} {sz n cap g : Nat} {xs rest : List Value} {fz : Nat × Nat} (h1 : xs.length = n * sz) (h2 : (xs ++ rest).length = cap * sz) (h3 : n ≤ cap) (h4 : ∀ j, j < (xs ++ rest).length → ¬ (fz.1 ≤ j ∧ j < fz.2)) : Own e sz xs (.slice (some ⟨g, 0, none⟩) n cap) [(g, .cells (xs ++ rest).toArray e fz)] := .inr ⟨g, n, cap, rest, fz, rfl, rfl, h1, h2, h3, h4⟩
theorem j_storerec {α : Type} {encA : α → List Value} {n : Nat} {rs : List α} {d : α} {t : TypeId} {x y : Operand} {g i fo len cap : Nat} {c : SH} {e : TypeId} (a' : α) (k : Nat) (hl : ∀ a, (encA a).length = n) (ho : Own e n ((rs.map encA).flatten) (.slice (some ⟨g, 0, none⟩) len cap) c) (hk : S[k]? = some c) (hi : i < rs.length) (hz : (P.info? t).map (·.size) = some 1)
  (hx : ev env x = .pointer (some ⟨g, 0 + i * n + fo, none⟩)) (hy : ev env y = v) (hv : oneV v = true) (hfo : fo < n) (ha : encA a' = (encA (rs.getD i d)).set fo v)
  (h : ∀ c', Own e n (((rs.set i a').map encA).flatten) (.slice (some ⟨g, 0, none⟩) len cap) c' → J P R T (undef :: env) (S.set k c') b B) : J P R (.op (O (.store t x y) ty) T) env S b B := by
 obtain ⟨rest, fz, rfl, h1, h2, h3, h4⟩ := own_row ho
 have hlen : ((rs.map encA).flatten).length = rs.length * n := by
  clear h hi hx ha ho hk h1 h2 h4
  induction rs with
  | nil => simp
  | cons a rs ih => simp only [List.map_cons, List.flatten_cons, List.length_append, hl, List.length_cons, Nat.add_mul, Nat.one_mul, ih]; omega
 have hlt : i * n + fo < ((rs.map encA).flatten).length := by
  rw [hlen]
  have : (i + 1) * n ≤ rs.length * n := Nat.mul_le_mul_right _ hi
  rw [Nat.add_mul] at this
  omega
 refine j_store k hz (by rw [hx, Nat.zero_add]) hy hv hk (by rw [List.length_append]; omega) (h4 _ (by rw [List.length_append]; omega)) ?_
 rw [List.set_append_left _ _ hlt, flat_set hl hfo v a' d rs i hi ha]
 have he : (((rs.set i a').map encA).flatten).length = ((rs.map encA).flatten).length := by
  rw [← flat_set hl hfo v a' d rs i hi ha, List.length_set]
 refine h _ (own_mk (by rw [he]; exact h1) (by rw [List.length_append, he, ← List.length_append]; exact h2) h3 (fun j hj => h4 j (by rw [List.length_append, he, ← List.length_append] at hj; exact hj)))
theorem j_storerecw {α : Type} {encA : α → List Value} {n : Nat} {rs : List α} {t : TypeId} {x y : Operand} {g i len cap : Nat} {c : SH} {e : TypeId} (a' : α) (k : Nat) (hl : ∀ a, (encA a).length = n) (ho : Own e n ((rs.map encA).flatten) (.slice (some ⟨g, 0, none⟩) len cap) c) (hk : S[k]? = some c) (hi : i < rs.length) (hz : (P.info? t).map (·.size) = some n)
  (hx : ev env x = .pointer (some ⟨g, 0 + i * n, none⟩)) (hy : ev env y = .agg (encA a').toArray) (hv : ∀ u ∈ encA a', oneV u = true)
  (h : ∀ c', Own e n (((rs.set i a').map encA).flatten) (.slice (some ⟨g, 0, none⟩) len cap) c' → J P R T (undef :: env) (S.set k c') b B) : J P R (.op (O (.store t x y) ty) T) env S b B := by
 obtain ⟨rest, fz, rfl, h1, h2, h3, h4⟩ := own_row ho
 have hlen : ∀ rs : List α, ((rs.map encA).flatten).length = rs.length * n := fun rs => by
  induction rs with
  | nil => simp
  | cons a rs ih => simp only [List.map_cons, List.flatten_cons, List.length_append, hl, List.length_cons, Nat.add_mul, Nat.one_mul, ih]; omega
 have hlt : i * n + n ≤ ((rs.map encA).flatten).length := by
  rw [hlen]
  have : (i + 1) * n ≤ rs.length * n := Nat.mul_le_mul_right _ hi
  rw [Nat.add_mul] at this
  omega
 refine j_storea k hz (by rw [hx, Nat.zero_add]) hy (hl _) hv hk (by rw [List.length_append]; omega) (fun j h5 h6 => h4 j (by rw [List.length_append]; omega)) ?_
 have he : (((rs.set i a').map encA).flatten).length = ((rs.map encA).flatten).length := by rw [hlen, hlen, List.length_set]
 have hE : ((rs.map encA).flatten ++ rest).take (i * n) ++ encA a' ++ ((rs.map encA).flatten ++ rest).drop (i * n + n) = ((rs.set i a').map encA).flatten ++ rest := by
  rw [List.take_append_of_le_length (by omega), List.drop_append_of_le_length hlt, ← List.append_assoc, flat_setw hl a' rs i hi]
 rw [hE]
 refine h _ (own_mk (by rw [he]; exact h1) (by rw [List.length_append, he, ← List.length_append]; exact h2) h3 (fun j hj => h4 j (by rw [List.length_append, he, ← List.length_append] at hj; exact hj)))
end Go.Sx
/-! Sx27 -/
namespace Go.Sx
open Go Go.MapKept Go.WideMaps Go.Maps
set_option linter.unusedVariables false
set_option linter.unusedSimpArgs false
set_option linter.unusedSectionVars false
variable {P : Program} {R : Ending → World → Prop} {env : Env} {b : Base} {S : List SH} {B : JB} {T : Tree} {v : Value} {ty : TypeId}
variable {κ : Type} [DecidableEq κ] {enc : κ → Value} {ok : κ → Prop} {m : List (κ × Value)} {kt : TypeId}
end Go.Sx
/-! Sx28 -/
namespace Go.Sx
open Go Go.MapKept Go.WideMaps Go.Maps
set_option linter.unusedVariables false
set_option linter.unusedSimpArgs false
set_option linter.unusedSectionVars false
variable {P : Program} {R : Ending → World → Prop} {env : Env} {b : Base} {S : List SH} {B : JB} {T : Tree} {v : Value} {ty : TypeId}
variable {κ : Type} [DecidableEq κ] {enc : κ → Value} {ok : κ → Prop} {es : Array MapEntry} {clock : Nat} {m done : List (κ × Value)}
structure ItOk (enc : κ → Value) (es : Array MapEntry) (seen : Array Nat) (done : List (κ × Value)) : Prop where
 nd : (done.map Prod.fst).Nodup
 sub : ∀ p ∈ done, ∃ e ∈ es.toList, e.key = enc p.1 ∧ e.val = p.2 ∧ e.born ∈ seen.toList
 all : ∀ e ∈ es.toList, e.born ∈ seen.toList → ∃ p ∈ done, e.key = enc p.1 ∧ e.val = p.2
theorem itok_nil : ItOk enc es #[] ([] : List (κ × Value)) := ⟨List.nodup_nil, (fun p h => by cases h), fun e _ h => by simp at h⟩
theorem MapOk.mem (h : MapOk enc ok es clock m) {e : MapEntry} (he : e ∈ es.toList) : ∃ p ∈ m, e.key = enc p.1 ∧ e.val = p.2 := by
 have : (e.key, e.val) ∈ m.map (fun p => (enc p.1, p.2)) := by rw [← h.ents]; exact List.mem_map_of_mem (f := fun e : MapEntry => (e.key, e.val)) he
 obtain ⟨p, hp, e1⟩ := List.mem_map.1 this
 injection e1 with e1 e2
 exact ⟨p, hp, e1.symm, e2.symm⟩
theorem MapOk.mem' (h : MapOk enc ok es clock m) {p : κ × Value} (hp : p ∈ m) : ∃ e ∈ es.toList, e.key = enc p.1 ∧ e.val = p.2 := by
 have : (enc p.1, p.2) ∈ es.toList.map (fun e => (e.key, e.val)) := by rw [h.ents]; exact List.mem_map_of_mem (f := fun p : κ × Value => (enc p.1, p.2)) hp
 obtain ⟨e, he, e1⟩ := List.mem_map.1 this
 injection e1 with e1 e2
 exact ⟨e, he, e1, e2⟩
theorem MapOk.uniq (h : MapOk enc ok es clock m) {e e' : MapEntry} (he : e ∈ es.toList) (he' : e' ∈ es.toList) (hk : e.key = e'.key) : e = e' := by
 have hn := h.stamped.2.2
 obtain ⟨i, hi, rfl⟩ := List.getElem_of_mem he
 obtain ⟨j, hj, rfl⟩ := List.getElem_of_mem he'
 have : i = j := nodup_inj hn (i := i) (j := j) (a := es.toList[i].key) (by rw [List.getElem?_map, List.getElem?_eq_getElem hi]; rfl) (by rw [List.getElem?_map, List.getElem?_eq_getElem hj, Option.map_some, hk])
 subst this
 rfl
theorem itok_push (hinj : ∀ a b, enc a = enc b → a = b) (h : MapOk enc ok es clock m) {seen : Array Nat} (hit : ItOk enc es seen done) {e : MapEntry} (he : e ∈ es.toList) (hns : e.born ∉ seen.toList) {p : κ × Value} (hk : e.key = enc p.1) (hv : e.val = p.2) : p ∉ done ∧ ItOk enc es (seen.push e.born) (done ++ [p]) := by
 have hno : ∀ q ∈ done, q.1 ≠ p.1 := fun q hq hqp => by
  obtain ⟨e', he', h1, h2, h3⟩ := hit.sub q hq
  have := h.uniq he he' (by rw [hk, h1, hqp])
  subst this
  exact hns h3
 refine ⟨fun hp => hno p hp rfl, ?_, fun q hq => ?_, fun e' he' hs => ?_⟩
 ·rw [List.map_append, List.nodup_append]
  refine ⟨hit.nd, by simp, fun a ha c hc hac => ?_⟩
  obtain ⟨q, hq, rfl⟩ := List.mem_map.1 ha
  simp only [List.map_cons, List.map_nil, List.mem_singleton] at hc
  exact hno q hq (by rw [hac, hc])
 ·rcases List.mem_append.1 hq with hq | hq
  ·obtain ⟨e', he', h1, h2, h3⟩ := hit.sub q hq
   exact ⟨e', he', h1, h2, by simp [h3]⟩
  ·rw [List.mem_singleton] at hq
   subst hq
   exact ⟨e, he, hk, hv, by simp⟩
 ·rw [Array.toList_push, List.mem_append, List.mem_singleton] at hs
  rcases hs with hs | hs
  ·obtain ⟨q, hq, h1⟩ := hit.all e' he' hs
   exact ⟨q, by simp [hq], h1⟩
  ·have : e' = e := by
    have hn := h.stamped.2.1
    obtain ⟨i, hi, rfl⟩ := List.getElem_of_mem he
    obtain ⟨j, hj, rfl⟩ := List.getElem_of_mem he'
    have : j = i := nodup_inj hn (i := j) (j := i) (a := es.toList[j].born) (by rw [List.getElem?_map, List.getElem?_eq_getElem hj]; rfl) (by rw [List.getElem?_map, List.getElem?_eq_getElem hi, Option.map_some, hs])
    subst this
    rfl
   subst this
   exact ⟨p, by simp, hk, hv⟩
theorem itok_done (h : MapOk enc ok es clock m) (hinj : ∀ a b, enc a = enc b → a = b) {seen : Array Nat} (hit : ItOk enc es seen done) (h0 : (leftOf es seen).size = 0) : ∀ p ∈ m, p ∈ done := fun p hp => by
 obtain ⟨e, he, h1, h2⟩ := h.mem' hp
 have hs : e.born ∈ seen.toList := by
  by_cases hx : e.born ∈ seen.toList
  ·exact hx
  ·exfalso
   have : e ∈ (leftOf es seen).toList := by
    unfold leftOf
    rw [Array.toList_filter, List.mem_filter]
    refine ⟨he, ?_⟩
    simpa using hx
   have h3 := List.length_pos_of_mem this
   rw [Array.length_toList, h0] at h3
   omega
 obtain ⟨q, hq, h3, h4⟩ := hit.all e he hs
 have : p = q := by
  obtain ⟨a, x⟩ := p
  obtain ⟨c, y⟩ := q
  have e1 : a = c := hinj _ _ (h1.symm.trans h3)
  have e2 : x = y := h2.symm.trans h4
  rw [e1, e2]
 rw [this]
 exact hq
theorem sig_setobj {w : World} (hw : Sig b S w) {k g : Nat} {o : Obj} (hk : S[k]? = some [(g, o)]) (o' : Obj) : Sig b (S.set k [(g, o')]) (Go.ChangeMaps.setBlock w g o') := by
 have hg : w.heap[g]? = some o := hw.own (g, o) (mem_flatten_of hk (by simp))
 have hlt := lt_of_get hg
 exact hw.set hk rfl rfl rfl (by simp [Go.ChangeMaps.setBlock]) (by simp [Go.ChangeMaps.setBlock, hlt]) fun j hj => by simp [Go.ChangeMaps.setBlock, Ne.symm hj]
theorem j_rangemap {t kt vt : TypeId} {x : Operand} {bm : Nat} (ht : P.underlying t = some (.map kt vt)) (hx : ev env x = .map (some bm)) (hm : RdO b S bm (.map es clock)) (h : ∀ r, r ∉ dom S.flatten → J P R T (.pointer (some ⟨r, 0, none⟩) :: env) ([(r, .mapIter (some bm) clock #[] clock)] :: S) b B) : J P R (.op (O (.range t x) ty) T) env S b B := fun w hw => by
 have hrun : (execOp (ev env) (O (.range t x) ty)).run P w = .ok (.value (.pointer (some ⟨w.heap.size, 0, none⟩))) (w.alloc (.mapIter (some bm) clock #[] clock)) := by
  simp only [O, execOp, hx, Sem.run_bind, run_range_map w t kt vt bm es clock ht (hm w hw), Result.andThen_ok, Sem.run_pure]
 show opW _ _ _ _ _ _
 unfold opW
 rw [hrun]
 obtain ⟨h1, h2, h3⟩ := hw.new (o := .mapIter (some bm) clock #[] clock) (w' := w.alloc (.mapIter (some bm) clock #[] clock)) rfl rfl rfl rfl
 exact h _ h2 _ h1
theorem j_nextmap {x : Operand} {r bm since c0 : Nat} {seen : Array Nat} (k : Nat) (hinj : ∀ a b, enc a = enc b → a = b) (hx : ev env x = .pointer (some ⟨r, 0, none⟩)) (hk : S[k]? = some [(r, .mapIter (some bm) since seen c0)]) (hm : RdO b S bm (.map es clock)) (hok : MapOk enc ok es clock m) (hit : ItOk enc es seen done) (hold : clock ≤ since) (hsc : since ≤ c0)
  (h0 : (∀ p ∈ m, p ∈ done) → J P R T (.tuple #[.bool false] :: env) S b B)
  (h1 : ∀ p e, p ∈ m → p ∉ done → e ∈ es.toList → e.key = enc p.1 → e.val = p.2 → ItOk enc es (seen.push e.born) (done ++ [p]) → J P R T (.tuple #[.bool true, enc p.1, p.2] :: env) (S.set k [(r, .mapIter (some bm) since (seen.push e.born) clock)]) b B) :
  J P R (.op (O (.next x false) ty) T) env S b B := fun w hw => by
 have hr : w.heap[r]? = some (.mapIter (some bm) since seen c0) := hw.own (r, _) (mem_flatten_of hk (by simp))
 have hb := hm w hw
 have hborn : ∀ e ∈ es.toList, e.born < since := fun e he => Nat.lt_of_lt_of_le (hok.stamped.1 e he) hold
 show opW _ _ _ _ _ _
 unfold opW
 rcases run_next_at (P := P) w ty r bm since c0 seen es clock hr hb hborn hsc with ⟨hl, hrun⟩ | ⟨e, he, w1, hw1, hrun⟩
 ·have e1 : (execOp (ev env) (O (.next x false) ty)).run P w = .ok (.value (.tuple #[.bool false])) w := by
   simp only [O, execOp, hx, Sem.run_bind, hrun, Result.andThen_ok, Sem.run_pure]
  rw [e1]
  exact h0 (itok_done hok hinj hit hl) _ hw
 ·have e1 : (execOp (ev env) (O (.next x false) ty)).run P w = .ok (.value (.tuple #[.bool true, e.key, e.val])) (Go.ChangeMaps.setBlock w1 r (.mapIter (some bm) since (seen.push e.born) clock)) := by
   simp only [O, execOp, hx, Sem.run_bind, hrun, Result.andThen_ok, Sem.run_pure]
  rw [e1]
  unfold leftOf at he
  rw [Array.toList_filter, List.mem_filter] at he
  obtain ⟨he, hns⟩ := he
  have hns' : e.born ∉ seen.toList := by simpa using hns
  obtain ⟨p, hp, h2, h3⟩ := hok.mem he
  obtain ⟨h4, h5⟩ := itok_push hinj hok hit he hns' h2 h3
  have hs1 : Sig b S w1 := by
   rcases hw1 with rfl | rfl
   ·exact hw
   ·exact hw.drew
  have := h1 p e hp h4 he h2 h3 h5 _ (sig_setobj hs1 hk (.mapIter (some bm) since (seen.push e.born) clock))
  rw [h2, h3]
  exact this
theorem j_nextm {x : Operand} {r bm since c0 : Nat} {seen : Array Nat} (k : Nat) (hinj : ∀ a b, enc a = enc b → a = b) (hx : ev env x = .pointer (some ⟨r, 0, none⟩)) (hk : S[k]? = some [(r, .mapIter (some bm) since seen c0)]) (hm : RdO b S bm (.map es clock)) (hok : MapOk enc ok es clock m) (hit : ItOk enc es seen done) (hold : clock ≤ since) (hsc : since ≤ c0)
  (h : ∀ (c : Bool) (vs : List Value) (S2 : List SH), vs[0]? = some (.bool c) → ((c = false ∧ S2 = S ∧ ∀ p ∈ m, p ∈ done) ∨ (c = true ∧ ∃ p e, p ∈ m ∧ p ∉ done ∧ e ∈ es.toList ∧ e.key = enc p.1 ∧ e.val = p.2 ∧ ItOk enc es (seen.push e.born) (done ++ [p]) ∧ S2 = S.set k [(r, .mapIter (some bm) since (seen.push e.born) clock)])) → J P R T (.tuple vs.toArray :: env) S2 b B) :
  J P R (.op (O (.next x false) ty) T) env S b B :=
 j_nextmap k hinj hx hk hm hok hit hold hsc (fun h0 => h false [.bool false] S rfl (.inl ⟨rfl, rfl, h0⟩)) (fun p e h1 h2 h3 h4 h5 h6 => h true [.bool true, enc p.1, p.2] _ rfl (.inr ⟨rfl, p, e, h1, h2, h3, h4, h5, h6, rfl⟩))
theorem qs_entry {x : Operand} {r bm since : Nat} {seen : Array Nat} {e : MapEntry} {p : κ × Value} (hx : ev env x = .pointer (some ⟨r, 0, none⟩)) (hr : RdO b S r (.mapIter (some bm) since (seen.push e.born) clock)) (hm : RdO b S bm (.map es clock)) (hok : MapOk enc ok es clock m) (he : e ∈ es.toList) (h2 : e.key = enc p.1) (h3 : e.val = p.2) : QS P (O (.entry x) ty) env b S (.tuple #[enc p.1, p.2]) := qs_val fun w hw => by
 simp only [O, execOp, hx, Sem.run_bind, run_entry_at (P := P) w r bm since seen es clock e (hr w hw) (hm w hw) he hok.stamped.2.1, Result.andThen_ok, Sem.run_pure]
 rw [h2, h3]
end Go.Sx
/-! Sx29 -/
namespace Go.Sx
open Go Go.MapKept Go.WideMaps Go.Maps
set_option linter.unusedVariables false
set_option linter.unusedSimpArgs false
set_option linter.unusedSectionVars false
variable {P : Program} {R : Ending → World → Prop} {env : Env} {b : Base} {S : List SH} {B : JB} {T : Tree} {ty : TypeId}
variable {es : Array MapEntry} {clock : Nat} {m : List (Nat × Value)}
abbrev pEnc (g : Nat) : Value := .pointer (some ⟨g, 0, none⟩)
abbrev pOk (g : Nat) : Prop := True
theorem pEnc_inj : ∀ a b : Nat, pEnc a = pEnc b → a = b := fun a b h => by
 injection h with h
 injection h with h
 injection h
def IsC (w : World) (g : Nat) : Prop := ∃ l ty, w.heap[g]? = some (.cells l ty (0, 0))
theorem asking {kt e : TypeId} {n : Nat} {w : World} (ht : P.underlying kt = some (.pointer e)) (hz : (P.info? e).map (·.size) = some n) (hn : n ≠ 0) {k : Nat} (hk : IsC w k) : ∀ (l : List MapEntry) (i : Nat), (∀ x ∈ l, ∃ g, x.key = pEnc g ∧ IsC w g) → ((Instr.findAsking kt (pEnc k) l i).run P w = .ok none w ∧ ∀ x ∈ l, x.key ≠ pEnc k) ∨ ∃ j x, (Instr.findAsking kt (pEnc k) l i).run P w = .ok (some (j, x.val)) w ∧ x ∈ l ∧ x.key = pEnc k
 | [], i, _ => .inl ⟨rfl, fun x h => by cases h⟩
 | x :: l, i, h => by
  obtain ⟨g, hg, hc⟩ := h x (List.mem_cons_self ..)
  have he : (Op.equal kt (pEnc k) x.key).run P w = .ok (decide ((some ⟨k, 0, none⟩ : Option Addr) = some ⟨g, 0, none⟩)) w := by
   rw [hg]
   exact run_ptr_eq (A := some ⟨k, 0, none⟩) (a := ⟨g, 0, none⟩) ht hz hn (fun a' h' => by injection h' with h'; subst h'; exact hk) hc 9999
  by_cases hkg : k = g
  ·refine .inr ⟨i, x, ?_, List.mem_cons_self .., by rw [hg, hkg]⟩
   simp only [Instr.findAsking, Sem.run_bind, he, Result.andThen_ok]
   rw [hkg]
   simp only [decide_true, if_true, Sem.run_pure]
  ·have hd : decide ((some ⟨k, 0, none⟩ : Option Addr) = some ⟨g, 0, none⟩) = false := by simp [hkg]
   rcases asking ht hz hn hk l (i + 1) (fun y hy => h y (List.mem_cons_of_mem _ hy)) with ⟨h1, h2⟩ | ⟨j, y, h1, h2, h3⟩
   ·refine .inl ⟨?_, fun y hy => ?_⟩
    ·simp only [Instr.findAsking, Sem.run_bind, he, Result.andThen_ok, hd, Bool.false_eq_true, if_false]
     exact h1
    ·rcases List.mem_cons.1 hy with rfl | hy
     ·rw [hg]
      exact fun q => hkg (pEnc_inj _ _ q).symm
     ·exact h2 y hy
   ·refine .inr ⟨j, y, ?_, List.mem_cons_of_mem _ h2, h3⟩
    simp only [Instr.findAsking, Sem.run_bind, he, Result.andThen_ok, hd, Bool.false_eq_true, if_false]
    exact h1
theorem find_ptr {kt e : TypeId} {n : Nat} {w : World} (ht : P.underlying kt = some (.pointer e)) (hz : (P.info? e).map (·.size) = some n) (hn : n ≠ 0) (h : MapOk pEnc pOk es clock m) {k : Nat} (hk : IsC w k) (hall : ∀ p ∈ m, IsC w p.1) :
  ((Instr.findKey kt (pEnc k) es.toList).run P w = .ok none w ∧ mlook m k = none) ∨ ∃ j v, (Instr.findKey kt (pEnc k) es.toList).run P w = .ok (some (j, v)) w ∧ mlook m k = some v := by
 have hf : (Instr.findKey kt (pEnc k) es.toList).run P w = (Instr.findAsking kt (pEnc k) es.toList 0).run P w := by
  simp only [Instr.findKey, Sem.run_bind, run_underlying_ok ht, Result.andThen_ok]
  cases es.toList with
  | nil => rfl
  | cons x l => rfl
 rw [hf]
 have hes : ∀ x ∈ es.toList, ∃ g, x.key = pEnc g ∧ IsC w g := fun x hx => by
  obtain ⟨p, hp, h1, h2⟩ := h.mem hx
  exact ⟨p.1, h1, hall p hp⟩
 rcases asking ht hz hn hk es.toList 0 hes with ⟨h1, h2⟩ | ⟨j, x, h1, h2, h3⟩
 ·refine .inl ⟨h1, mlook_none.2 fun p hp e => ?_⟩
  obtain ⟨x, hx, h5, h6⟩ := h.mem' hp
  exact h2 x hx (by rw [h5, e])
 ·obtain ⟨p, hp, h5, h6⟩ := h.mem h2
  have : p.1 = k := pEnc_inj _ _ (h5.symm.trans h3)
  refine .inr ⟨j, x.val, h1, mlook_mem h.nodup ?_⟩
  rw [← this, h6]
  exact hp
theorem run_check_ptr0 {kt e : TypeId} {w : World} (ht : P.underlying kt = some (.pointer e)) (em : Bool) (A : Option Addr) (n : Nat) : (Instr.checkKey em (n + 1) kt (.pointer A)).run P w = .ok () w := by
 simp only [Instr.checkKey, Sem.run_bind, run_underlying_ok ht, Result.andThen_ok, Sem.run_pure]
theorem run_check_ptr {kt e : TypeId} {w : World} (ht : P.underlying kt = some (.pointer e)) (em : Bool) (A : Option Addr) : (Instr.checkKey em 10000 kt (.pointer A)).run P w = .ok () w := run_check_ptr0 ht em A 9999
theorem qs_lookupP {kt e t vt : TypeId} {n : Nat} {x y : Operand} {g key : Nat} {z : Value} (k : Nat) (hp : P.underlying kt = some (.pointer e)) (hpz : (P.info? e).map (·.size) = some n) (hn : n ≠ 0) (ht : P.underlying t = some (.map kt vt)) (hz : (P.info? vt).bind (·.zero) = some z) (hx : ev env x = .map (some g)) (hy : ev env y = pEnc key) (hk : S[k]? = some [(g, .map es clock)]) (hm : MapOk pEnc pOk es clock m) (hkey : ∀ w, Sig b S w → IsC w key) (hall : ∀ w, Sig b S w → ∀ p ∈ m, IsC w p.1) :
  QS P (O (.lookup t x y false) ty) env b S ((mlook m key).getD z) := qs_val fun w hw => by
 have hg := hw.map_at hk
 have hrun : (Instr.lookup t (.map (some g)) (pEnc key) false).run P w = .ok ((mlook m key).getD z) w := by
  rcases find_ptr hp hpz hn hm (hkey w hw) (hall w hw) with ⟨h1, h2⟩ | ⟨j, v, h1, h2⟩
  ·simp only [Instr.lookup, Sem.run_bind, run_underlying_ok ht, Result.andThen_ok, getObj_map hg, Sem.run_pure, run_check_ptr hp, h1, run_zeroV hz, h2]
   rfl
  ·simp only [Instr.lookup, Sem.run_bind, run_underlying_ok ht, Result.andThen_ok, getObj_map hg, Sem.run_pure, run_check_ptr hp, h1, h2]
   rfl
 simp only [O, execOp, hx, hy, Sem.run_bind, hrun, Result.andThen_ok, Sem.run_pure]
theorem j_mappushP {kt e t vt : TypeId} {n : Nat} {x y z : Operand} {g key : Nat} {val : Value} (k : Nat) (hp : P.underlying kt = some (.pointer e)) (hpz : (P.info? e).map (·.size) = some n) (hn : n ≠ 0) (ht : P.underlying t = some (.map kt vt)) (hx : ev env x = .map (some g)) (hy : ev env y = pEnc key) (hv : ev env z = val) (hk : S[k]? = some [(g, .map es clock)]) (hm : MapOk pEnc pOk es clock m) (hkey : ∀ w, Sig b S w → IsC w key) (hall : ∀ w, Sig b S w → ∀ p ∈ m, IsC w p.1) (hno : mlook m key = none)
  (h : ∀ es' clock', MapOk pEnc pOk es' clock' (m ++ [(key, val)]) → J P R T (undef :: env) (S.set k [(g, .map es' clock')]) b B) : J P R (.op (O (.mapUpdate t x y z) ty) T) env S b B := fun w hw => by
 have hg := hw.map_at hk
 show opW _ _ _ _ _ _
 unfold opW
 rcases find_ptr hp hpz hn hm (hkey w hw) (hall w hw) with ⟨h1, h2⟩ | ⟨j, v, h1, h2⟩
 ·have hrun : (execOp (ev env) (O (.mapUpdate t x y z) ty)).run P w = .ok .skip { w with heap := w.heap.setIfInBounds g (.map (es.push ⟨pEnc key, val, clock⟩) (clock + 1)) } := by
   simp only [O, execOp, hx, hy, hv, Instr.mapUpdate, Sem.run_bind, run_underlying_ok ht, Result.andThen_ok, getObj_map hg, run_check_ptr hp, h1, setObj_map _ hg, Sem.run_pure]
  rw [hrun]
  exact h _ _ (hm.push pEnc_inj trivial h2 val) _ (sig_setmap hw hk _)
 ·rw [hno] at h2
  cases h2
end Go.Sx
/-! Ft3p -/
namespace Go.Proofs.YtfebkkmmagbnlaaGreatDoor
open Go Go.Sx Go.MapKept Go.WideMaps Go.Maps
set_option maxRecDepth 100000
set_option linter.unusedVariables false
set_option linter.unusedSimpArgs false
set_option linter.unusedSectionVars false
theorem nodup_of_map {α β : Type} {f : α → β} : ∀ {l : List α}, (l.map f).Nodup → l.Nodup
 | [], _ => List.nodup_nil
 | x :: l, h => by
  rw [List.map_cons, List.nodup_cons] at h
  exact List.nodup_cons.2 ⟨fun hx => h.1 (List.mem_map.2 ⟨x, hx, rfl⟩), nodup_of_map h.2⟩
theorem sub_len {α : Type} [DecidableEq α] : ∀ {l L : List α}, l.Nodup → (∀ x ∈ l, x ∈ L) → l.length ≤ L.length
 | [], L, _, _ => Nat.zero_le _
 | x :: l, L, hn, hs => by
  obtain ⟨A, B, rfl⟩ := List.append_of_mem (hs x (List.mem_cons_self ..))
  rw [List.nodup_cons] at hn
  have h1 := sub_len (L := A ++ B) hn.2 (fun y hy => by
   have h2 := hs y (List.mem_cons_of_mem _ hy)
   rcases List.mem_append.1 h2 with h2 | h2
   ·exact List.mem_append_left _ h2
   ·rcases List.mem_cons.1 h2 with h2 | h2
    ·subst h2
     exact absurd hy hn.1
    ·exact List.mem_append_right _ h2)
  simp only [List.length_append, List.length_cons] at h1 ⊢
  omega
theorem sub_perm {α : Type} [DecidableEq α] : ∀ {l L : List α}, l.Nodup → L.Nodup → (∀ x ∈ l, x ∈ L) → (∀ x ∈ L, x ∈ l) → l.Perm L
 | [], L, _, _, _, h2 => by
  cases L with
  | nil => exact .nil
  | cons y L => exact absurd (h2 y (List.mem_cons_self ..)) (by simp)
 | x :: l, L, hn, hN, hs, h2 => by
  obtain ⟨A, B, rfl⟩ := List.append_of_mem (hs x (List.mem_cons_self ..))
  rw [List.nodup_cons] at hn
  rw [List.nodup_append, List.nodup_cons] at hN
  refine List.Perm.trans (List.Perm.cons x (sub_perm (L := A ++ B) hn.2 ?_ (fun y hy => ?_) (fun y hy => ?_))) List.perm_middle.symm
  ·rw [List.nodup_append]
   exact ⟨hN.1, hN.2.1.2, fun a ha b hb => hN.2.2 a ha b (List.mem_cons_of_mem _ hb)⟩
  ·have h3 := hs y (List.mem_cons_of_mem _ hy)
   rcases List.mem_append.1 h3 with h3 | h3
   ·exact List.mem_append_left _ h3
   ·rcases List.mem_cons.1 h3 with h3 | h3
    ·subst h3
     exact absurd hy hn.1
    ·exact List.mem_append_right _ h3
  ·have h3 : y ∈ x :: l := h2 y (by
    rcases List.mem_append.1 hy with h | h
    ·exact List.mem_append_left _ h
    ·exact List.mem_append_right _ (List.mem_cons_of_mem _ h))
   rcases List.mem_cons.1 h3 with rfl | h3
   ·exfalso
    rcases List.mem_append.1 hy with h | h
    ·exact hN.2.2 y h y (List.mem_cons_self ..) rfl
    ·exact hN.2.1.1 h
   ·exact h3
theorem tot_sub : ∀ {l L : List FL}, (l.map FL.id).Nodup → (∀ f ∈ l, ∃ y ∈ L, y.id = f.id ∧ y.xs = f.xs) → tot l ≤ tot L
 | [], L, _, _ => Nat.zero_le _
 | f :: l, L, hn, hs => by
  obtain ⟨y, hy, h1, h2⟩ := hs f (List.mem_cons_self ..)
  obtain ⟨A, B, rfl⟩ := List.append_of_mem hy
  rw [List.map_cons, List.nodup_cons] at hn
  have h3 := tot_sub (L := A ++ B) hn.2 (fun x hx => by
   obtain ⟨z, hz, k1, k2⟩ := hs x (List.mem_cons_of_mem _ hx)
   refine ⟨z, ?_, k1, k2⟩
   rcases List.mem_append.1 hz with h | h
   ·exact List.mem_append_left _ h
   ·rcases List.mem_cons.1 h with rfl | h
    ·exact absurd (List.mem_map.2 ⟨x, hx, k1.symm.trans h1⟩) hn.1
    ·exact List.mem_append_right _ h)
  rw [tot_cons, tot_split, ← h2]
  omega
structure Cp (s o : SM) (done : List (List UInt8 × (Nat × Nat))) (tw : List (Nat × Value)) : Prop where
 raw : Raw o
 nm : o.ml.map (fun p => (p.1, Prod.snd p.2)) = done.map (fun p => (p.1, Prod.snd p.2))
 kc : ∀ f ∈ o.fs, f.k = (cnt o.ml f.id : Int)
 pos : ∀ f ∈ o.fs, 1 ≤ f.k
 fs : ∀ f ∈ o.fs, ∃ y ∈ s.fs, y.id = f.id ∧ y.xs = f.xs
 us : o.used = s.used
 tl : ∀ y ∈ s.fs, mlook tw y.g = (getF o.fs y.id).map fun f => pEnc f.g
 ts : ∀ p ∈ tw, ∃ y ∈ s.fs, p.1 = y.g
theorem getF_some {fs : List FL} {i : Nat} {f : FL} (h : getF fs i = some f) : f ∈ fs ∧ f.id = i := by
 unfold getF at h
 exact ⟨List.mem_of_find?_eq_some h, by simpa using List.find?_some h⟩
theorem getF_none {fs : List FL} {i : Nat} (h : getF fs i = none) : ∀ f ∈ fs, f.id ≠ i := fun f hf => by
 unfold getF at h
 simpa using List.find?_eq_none.1 h f hf
theorem getF_bump (fs : List FL) (i j : Nat) (d : Int) : (getF (bump fs i d) j).map FL.g = (getF fs j).map FL.g := by
 unfold getF bump
 induction fs with
 | nil => rfl
 | cons f fs ih =>
  rw [List.map_cons, List.find?_cons, List.find?_cons]
  have e : (if f.id = i then { f with k := f.k + d } else f).id = f.id := by split <;> rfl
  rw [e]
  split
  ·rw [Option.map_some, Option.map_some]
   congr 1
   split <;> rfl
  ·exact ih
theorem raw_name {s : SM} (h : Raw s) {f : FL} (hf : f ∈ s.fs) {n : List UInt8} (hfree : alook s.ml n = none) (hk : (cnt s.ml f.id : Int) + 1 ≤ f.k) {es : Array MapEntry} {ck : Nat} (hm : MapOk strEnc strOk es ck ((s.ml ++ [(n, (f.g, f.id))]).map fun q => (q.1, fptr q.2))) : Raw { s with ml := s.ml ++ [(n, (f.g, f.id))], es := es, ck := ck } := by
 refine ⟨hm, ?_, h.ids, h.gnd, fun q hq => ?_, h.form, fun x hx => ?_, h.us⟩
 ·show ((s.ml ++ [(n, (f.g, f.id))]).map Prod.fst).Nodup
  rw [List.map_append, List.nodup_append]
  refine ⟨h.nd, by simp, fun x hx y hy e => ?_⟩
  simp only [List.map_cons, List.map_nil, List.mem_singleton] at hy
  subst hy
  obtain ⟨q, hq, e2⟩ := List.mem_map.1 hx
  exact alook_none.1 hfree q hq (e2.trans e)
 ·rcases List.mem_append.1 hq with hq | hq
  ·exact h.has q hq
  ·rw [List.mem_singleton] at hq
   subst hq
   exact ⟨f, hf, rfl, rfl⟩
 ·have h3 := h.le x hx
  show ((cnt (s.ml ++ [(n, (f.g, f.id))]) x.id : Nat) : Int) ≤ x.k ∧ x.k ≤ 1000000
  rw [cnt_snoc]
  by_cases hx2 : f.id = x.id
  ·have hxf := id_uniq h hf hx hx2.symm
   have e : (if ((f.g, f.id) : Nat × Nat).2 = x.id then 1 else 0) = 1 := if_pos hx2
   rw [e, hxf]
   rw [hxf] at h3
   omega
  ·simp only
   rw [if_neg hx2]
   exact h3
theorem bump_bump {s : SM} (h : Raw s) {f : FL} (hf : f ∈ s.fs) : ({ f with k := f.k + 1 } : FL) ∈ bump s.fs f.id 1 := List.mem_map.2 ⟨f, hf, by rw [if_pos rfl]⟩
theorem cp_name {s o : SM} {done : List (List UInt8 × (Nat × Nat))} {tw : List (Nat × Value)} {n : List UInt8} {f : FL} {q : List UInt8 × (Nat × Nat)} (hr : Raw o) (hnm : o.ml.map (fun p => (p.1, Prod.snd p.2)) = done.map (fun p => (p.1, Prod.snd p.2))) (hkc : ∀ x ∈ o.fs, x.k = (cnt o.ml x.id : Int)) (hpos : ∀ x ∈ o.fs, x.id ≠ f.id → 1 ≤ x.k) (hfs : ∀ x ∈ o.fs, ∃ y ∈ s.fs, y.id = x.id ∧ y.xs = x.xs) (hus : o.used = s.used)
  (htl : ∀ y ∈ s.fs, mlook tw y.g = (getF o.fs y.id).map fun f => pEnc f.g) (hts : ∀ p ∈ tw, ∃ y ∈ s.fs, p.1 = y.g) (hf : f ∈ o.fs) (hk : f.k + 1 ≤ 1000000) (hq : q.1 = n ∧ q.2.2 = f.id) (hfree : alook o.ml n = none) {es : Array MapEntry} {ck : Nat} (hm : MapOk strEnc strOk es ck ((o.ml ++ [(n, (f.g, f.id))]).map fun q => (q.1, fptr q.2))) :
  Cp s { o with ml := o.ml ++ [(n, (f.g, f.id))], fs := bump o.fs f.id 1, es := es, ck := ck } (done ++ [q]) tw := by
 have hkf := hkc f hf
 refine ⟨raw_name (s := { o with fs := bump o.fs f.id 1 }) (raw_bump hr hf hk) (f := { f with k := f.k + 1 }) (bump_bump hr hf) hfree (by show ((cnt o.ml f.id : Nat) : Int) + 1 ≤ f.k + 1; omega) hm, ?_, fun x hx => ?_, fun x hx => ?_, fun x hx => ?_, hus, fun y hy => ?_, hts⟩
 ·show (o.ml ++ [(n, (f.g, f.id))]).map (fun p => (p.1, Prod.snd p.2)) = _
  rw [List.map_append, List.map_append, hnm, List.map_singleton, List.map_singleton]
  simp only
  rw [← hq.1, ← hq.2]
 ·obtain ⟨y, hy, e1, _, _, _, e5⟩ := mem_bump hx
  have h1 := hkc y hy
  show x.k = ((cnt (o.ml ++ [(n, (f.g, f.id))]) x.id : Nat) : Int)
  rw [cnt_snoc, e1, e5]
  simp only
  by_cases hyf : y.id = f.id
  ·rw [if_pos hyf, if_pos hyf.symm]
   omega
  ·rw [if_neg hyf, if_neg (fun e => hyf e.symm)]
   omega
 ·obtain ⟨y, hy, e1, _, _, _, e5⟩ := mem_bump hx
  have h1 := hkc y hy
  rw [e5]
  by_cases hyf : y.id = f.id
  ·rw [if_pos hyf]
   omega
  ·rw [if_neg hyf]
   have := hpos y hy hyf
   omega
 ·obtain ⟨y, hy, e1, _, _, e4, _⟩ := mem_bump hx
  rw [e1, e4]
  exact hfs y hy
 ·rw [htl y hy]
  have h1 := getF_bump o.fs f.id y.id 1
  show _ = (getF (bump o.fs f.id 1) y.id).map fun f => pEnc f.g
  have e : ∀ u : Option FL, u.map (fun f => pEnc f.g) = (u.map FL.g).map pEnc := fun u => by cases u <;> rfl
  rw [e, e, h1]
theorem mlook_snoc {tw : List (Nat × Value)} {k j : Nat} {v : Value} (h : mlook tw k = none) : mlook (tw ++ [(k, v)]) j = if k = j then some v else mlook tw j := by
 unfold mlook at h ⊢
 rw [List.find?_append]
 by_cases hkj : k = j
 ·subst hkj
  rw [if_pos rfl]
  rw [Option.map_eq_none_iff.1 h]
  simp
 ·rw [if_neg hkj]
  rw [List.find?_cons_of_neg (by simpa using hkj)]
  simp
theorem cp_end {s o : SM} {a : AS} {done : List (List UInt8 × (Nat × Nat))} {tw : List (Nat × Value)} (h : Sx' s a) (hc : Cp s o done tw) (hn : (done.map Prod.fst).Nodup) (hs : ∀ p ∈ done, p ∈ s.ml) (ha : ∀ p ∈ s.ml, p ∈ done) : Sx' o a := by
 classical
 have hp : done.Perm s.ml := sub_perm (nodup_of_map hn) (nodup_of_map h.raw.nd) hs ha
 have hnm : (o.ml.map fun p => (p.1, Prod.snd p.2)).Perm a.nm := by
  rw [hc.nm]
  exact (hp.map _).trans h.rep.nm
 have hcn : ∀ i, cnt o.ml i = cnt s.ml i := fun i => by
  have e : ∀ ml : List (List UInt8 × (Nat × Nat)), cnt ml i = cntA (ml.map fun p => (p.1, Prod.snd p.2)) i := fun ml => by
   unfold cnt cntA
   rw [List.filter_map, List.length_map]
   rfl
  rw [e, e, hc.nm]
  unfold cntA
  exact ((hp.map _).filter _).length_eq
 have hall : ∀ y ∈ s.fs, ∃ f ∈ o.fs, f.id = y.id := fun y hy => by
  have h1 := h.ex.pos y hy (fun q => q)
  have h2 := h.ex.kc y hy
  have h3 : 0 < cnt o.ml y.id := by
   rw [hcn]
   have h5 : y.k = (cnt s.ml y.id : Int) + 0 := h2
   omega
  unfold cnt at h3
  obtain ⟨q, hq⟩ := List.exists_mem_of_length_pos h3
  obtain ⟨hq1, hq2⟩ := List.mem_filter.1 hq
  obtain ⟨f, hf, _, hfi⟩ := hc.raw.has q hq1
  exact ⟨f, hf, hfi.trans (by simpa using hq2)⟩
 have ht1 := tot_sub hc.raw.ids hc.fs
 have ht2 := tot_sub h.raw.ids (fun y hy => by
  obtain ⟨f, hf, hfi⟩ := hall y hy
  obtain ⟨z, hz, h1, h2⟩ := hc.fs f hf
  refine ⟨f, hf, hfi, ?_⟩
  rw [← h2, id_uniq h.raw hy hz (h1.trans hfi)])
 have hut := h.ex.ut
 refine ⟨hc.raw, ⟨fun f hf => by rw [hc.kc f hf]; exact (Int.add_zero _).symm, fun f hf _ => hc.pos f hf, ?_⟩, hnm, fun f hf => ?_, hc.us.trans h.rep.us⟩
 ·rw [hc.us]
  omega
 ·obtain ⟨y, hy, h1, h2⟩ := hc.fs f hf
  rw [← h1, ← h2]
  exact h.rep.dt y hy
end Go.Proofs.YtfebkkmmagbnlaaGreatDoor
