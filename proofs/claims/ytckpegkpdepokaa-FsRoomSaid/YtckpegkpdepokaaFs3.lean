/- Files that forget: the things that are done. -/
import Derived.Test.YtckpegkpdepokaaTa
import Derived.Test.YtckpegkpdepokaaPool
namespace Go.Proofs.Ytckpegkpdepokaa
open Go Go.Sx
set_option maxRecDepth 100000
set_option maxHeartbeats 4000000
set_option linter.unusedVariables false
set_option linter.unusedSimpArgs false
attribute [local irreducible] J JQ QS Con W opW
theorem ent37 : Sx.Enters Try.prog 37 := ⟨_, Try.func37, by kernel_rfl, by kernel_rfl⟩
theorem ent38 : Sx.Enters Try.prog 38 := ⟨_, Try.func38, by kernel_rfl, by kernel_rfl⟩
theorem sz9 : (Try.prog.info? 9).map (·.size) = some 1 := by kernel_rfl
theorem sz58 : (Try.prog.info? 58).map (·.size) = some 1 := by kernel_rfl
theorem zero73 : zeroL Try.prog 73 = some ([.slice none 0 0, .int .i32 0]) := by kernel_rfl

open Go.MapKept Go.WideMaps Go.Maps
theorem letsM_es (s : SM) (n : List UInt8) (e : Array MapEntry) (c : Nat) : letsM { s with es := e, ck := c } n = { letsM s n with es := e, ck := c } := by
  unfold letsM
  simp only
  cases alook s.ml n with
  | none => rfl
  | some p =>
    simp only
    cases getF s.fs p.2 with
    | none => rfl
    | some f =>
      simp only
      split <;> rfl
theorem givesM_es (s : SM) (n : List UInt8) (p : Nat × Nat) (e : Array MapEntry) (c : Nat) : givesM { s with es := e, ck := c } n p = { givesM s n p with es := e, ck := c } := by
  unfold givesM
  simp only
  split
  · rfl
  · rw [show ({ gs := s.gs, gm := s.gm, es := e, ck := c, ml := s.ml, fs := bump s.fs p.2 1, used := s.used } : SM) = { ({ s with fs := bump s.fs p.2 1 } : SM) with es := e, ck := c } from rfl, letsM_es]
theorem givesM_gs (s : SM) (n : List UInt8) (p : Nat × Nat) : (givesM s n p).gs = s.gs ∧ (givesM s n p).gm = s.gm := by
  unfold givesM
  split
  · exact ⟨rfl, rfl⟩
  · exact ⟨(letsM_gs _ _).1, (letsM_gs _ _).2.1⟩
theorem lets_tot {s : SM} (h : Raw s) (n : List UInt8) {d : Int} (ht : (tot s.fs : Int) + d ≤ s.used) : (tot (letsM s n).fs : Int) + d ≤ (letsM s n).used ∧ (letsM s n).used ≤ s.used := by
  unfold letsM
  cases hl : alook s.ml n with
  | none => exact ⟨ht, Int.le_refl _⟩
  | some p =>
    obtain ⟨f, hf, hfg, hfi⟩ := h.has _ (alook_mem hl)
    obtain ⟨a, b, hab⟩ := List.append_of_mem hf
    have hids := h.ids
    rw [hab] at hids
    have hg : getF s.fs p.2 = some f := by rw [hab, ← hfi]; exact getF_split hids
    have hts := tot_split a b f
    rw [← hab] at hts
    simp only
    rw [hg]
    simp only
    split
    · have hfs : s.fs.filter (fun x => decide (x.id ≠ p.2)) = a ++ b := by rw [hab, ← hfi]; exact filter_split hids
      simp only
      rw [hfs]
      omega
    · simp only
      rw [tot_bump]
      omega
theorem lets_sub {s : SM} {n : List UInt8} {x : FL} (hx : x ∈ (letsM s n).fs) : ∃ y ∈ s.fs, x.id = y.id ∧ x.g = y.g ∧ x.v = y.v ∧ x.xs = y.xs := by
  unfold letsM at hx
  cases hl : alook s.ml n with
  | none => rw [hl] at hx; exact ⟨x, hx, rfl, rfl, rfl, rfl⟩
  | some p =>
    rw [hl] at hx
    simp only at hx
    cases hg : getF s.fs p.2 with
    | none => rw [hg] at hx; exact ⟨x, hx, rfl, rfl, rfl, rfl⟩
    | some f =>
      rw [hg] at hx
      simp only at hx
      split at hx
      · exact ⟨x, (List.mem_filter.1 hx).1, rfl, rfl, rfl, rfl⟩
      · obtain ⟨y, hy, h1, h2, h3, h4, _⟩ := mem_bump hx
        exact ⟨y, hy, h1, h2, h3, h4⟩
theorem cnt_zero {s : SM} (h : Raw s) {id : Nat} (hid : ∀ f ∈ s.fs, f.id ≠ id) : cnt s.ml id = 0 := by
  unfold cnt
  rw [List.length_eq_zero_iff, List.filter_eq_nil_iff]
  intro q hq
  obtain ⟨f, hf, _, h2⟩ := h.has q hq
  simp only [decide_eq_true_eq]
  intro e
  exact hid f hf (h2.trans e)
/-- a file that is made anew -/
def newM (s : SM) (id : Nat) (v : Value) (xs : List UInt8) (g : Nat) : SM := { s with fs := ⟨g, id, v, xs, 0⟩ :: s.fs }
theorem raw_new {s : SM} (h : Raw s) {id : Nat} {v : Value} {xs : List UInt8} {g : Nat} (hid : ∀ f ∈ s.fs, f.id ≠ id) (hg : ∀ f ∈ s.fs, f.g ≠ g) (hv : ∃ A cap, v = .slice A xs.length cap ∧ xs.length ≤ 1000000000) (ht : (tot s.fs : Int) ≤ s.used) : Raw (newM s id v xs g) := by
  obtain ⟨A, cap, hv1, hv2⟩ := hv
  have hus := h.us
  refine ⟨h.map, h.nd, ?_, ?_, fun q hq => ?_, fun f hf => ?_, fun f hf => ?_, ?_⟩
  · show ((_ :: s.fs).map FL.id).Nodup
    rw [List.map_cons, List.nodup_cons]
    exact ⟨fun hm => by obtain ⟨f, hf, e⟩ := List.mem_map.1 hm; exact hid f hf e, h.ids⟩
  · show ((_ :: s.fs).map FL.g).Nodup
    rw [List.map_cons, List.nodup_cons]
    exact ⟨fun hm => by obtain ⟨f, hf, e⟩ := List.mem_map.1 hm; exact hg f hf e, h.gnd⟩
  · obtain ⟨f, hf, h1⟩ := h.has q hq
    exact ⟨f, List.mem_cons_of_mem _ hf, h1⟩
  · rcases List.mem_cons.1 hf with rfl | hf
    · exact ⟨A, cap, hv1, hv2⟩
    · exact h.form f hf
  · rcases List.mem_cons.1 hf with rfl | hf
    · show ((cnt s.ml id : Nat) : Int) ≤ 0 ∧ (0 : Int) ≤ 1000000
      rw [cnt_zero h hid]
      exact ⟨Int.le_refl _, by decide⟩
    · exact h.le f hf
  · show (tot (_ :: s.fs) : Int) ≤ s.used + 2000000000 ∧ _
    have e : tot ((⟨g, id, v, xs, 0⟩ : FL) :: s.fs) = xs.length + tot s.fs := by simp [tot]
    rw [e]
    exact ⟨by omega, hus.2⟩
theorem SM.split (s : SM) : ([s.heap] : List SH).flatten.Perm ([[(s.gs, s.sobj)], [(s.gm, .map s.es s.ck)], s.fs.map FL.h] : List SH).flatten := List.Perm.of_eq (by simp [SM.heap])
/-- Write's thing -/
def writeM (s : SM) (n : List UInt8) (id : Nat) (v : Value) (xs : List UInt8) (g : Nat) : SM :=
  { givesM (newM (letsM s n) id v xs g) n (g, id) with used := (givesM (newM (letsM s n) id v xs g) n (g, id)).used + (xs.length : Int) }
theorem raw_es {s : SM} (h : Raw s) : Raw s := h
theorem gives_tot {s : SM} (h : Raw s) {n : List UInt8} {f : FL} (hf : f ∈ s.fs) (hk : f.k + 1 ≤ 1000000) {d : Int} (ht : (tot s.fs : Int) + d ≤ s.used) : (tot (givesM s n (f.g, f.id)).fs : Int) + d ≤ (givesM s n (f.g, f.id)).used ∧ (givesM s n (f.g, f.id)).used ≤ s.used := by
  unfold givesM
  split
  · exact ⟨ht, Int.le_refl _⟩
  · exact lets_tot (raw_bump h hf hk) n (d := d) (by show (tot (bump s.fs f.id 1) : Int) + d ≤ _; rw [tot_bump]; exact ht)
theorem raw_used {s : SM} (h : Raw s) (u : Int) (hu : (tot s.fs : Int) ≤ u + 2000000000 ∧ u ≤ 1000000000000000) : Raw { s with used := u } := ⟨h.map, h.nd, h.ids, h.gnd, h.has, h.form, h.le, hu⟩
/-- (*pantry.fs.FS).Write$1 -/
theorem wr_con (s : SM) (P : List BK) (n : List UInt8) (bv : Value) (xs : List UInt8) (A : Option Addr) (c id g1 g2 : Nat) (w : World) (h : Raw s) (ht : (tot s.fs : Int) ≤ s.used) (hu : s.used ≤ 2000000000) (hid : ∀ f ∈ s.fs, f.id ≠ id) (hbv : bv = .slice A xs.length c) (hc : xs.length ≤ c) (hxl : xs.length ≤ 1000000000) (hn : strOk n) (h1 : w.heap[g1]? = some (.cells [.string (bs n)].toArray 9 (0, 0))) (hd1 : g1 ∉ dom (s.heap ++ ph P)) (h2 : w.heap[g2]? = some (.cells [bv].toArray 23 (0, 0))) (hd2 : g2 ∉ dom (s.heap ++ ph P)) : Con Try.prog 35 [s.ptr, .pointer (some ⟨g1, 0, none⟩), .pointer (some ⟨g2, 0, none⟩)] w (s.heap ++ ph P) fun _ S' => ∃ (es : Array MapEntry) (ck g : Nat), w.heap.size ≤ g ∧ S' = [SM.heap { writeM s n id (.slice (if xs.length = 0 then A else A.map (fun a : Addr => a.add (0 * 1))) xs.length xs.length) xs g with es := es, ck := ck }, ph P] ∧ Raw { writeM s n id (.slice (if xs.length = 0 then A else A.map (fun a : Addr => a.add (0 * 1))) xs.length xs.length) xs g with es := es, ck := ck } := by
  refine con_of_tree mix Try.func35 T35_ok (by kernel_rfl) ?_
  unfold T35
  obtain ⟨cv, hcv⟩ : ∃ v : Value, v = (.slice (if xs.length = 0 then A else A.map (fun a : Addr => a.add (0 * 1))) xs.length xs.length) := ⟨_, rfl⟩
  rw [← hcv]
  subst hbv
  refine j_perm (S' := [s.heap, ph P]) (by simp) ?_
  refine j_q (qs_loadO (rdo_base h1 hd1) Try.underlying9 rfl rfl rfl) ?_
  refine j_call 0 ent36 rfl rfl rfl rfl (fun w' hw' => lets_con s n w' h hn) (fun u S2 hu1 => ?_)
  obtain ⟨es1, rfl, hr1⟩ := hu1
  refine j_subl (S' := [SM.heap ({ letsM s n with es := es1 } : SM), ph P]) (by repeat first | exact List.Sublist.refl _ | exact List.nil_sublist _ | apply List.Sublist.cons_cons | apply List.Sublist.cons) ?_
  have ht1 := lets_tot h n (d := 0) (by omega)
  refine j_q (qs_loadO (rdo_base h2 hd2) Try.underlying23 rfl rfl rfl) ?_
  refine j_q (qs_call ent37 rfl rfl rfl (fun w' hw' => clip_con A xs.length c hc w')) ?_
  rw [← hcv]
  refine j_q (qs_build (places := [(0, 1), (1, 1)]) (offs := [(0, [cv])]) Try.underlying73 zero73 (by kernel_rfl) rfl (by rintro (_ | j) p q hp hq <;> first | (simp at hp hq; subst hp hq; exact ⟨rfl, (by show cv.cells = #[cv]; rw [hcv]; rfl), by simp⟩) | (simp at hp))) ?_
  refine j_box (l := [cv, .int .i32 0]) rfl (fun g5 hg5 hs5 => ?_)
  refine j_q (qs_loadO (rdo_base h1 hd1) Try.underlying9 rfl rfl rfl) ?_
  have hg5' : ∀ f ∈ (letsM s n).fs, f.g ≠ g5 := fun f hf e => hs5 (by
    rw [← e]
    exact List.mem_map.2 ⟨f.h, by simp only [List.flatten_cons, List.flatten_nil, List.append_nil, SM.heap]; exact List.mem_append_left _ (List.mem_append_right _ (List.mem_map.2 ⟨f, hf, rfl⟩)), rfl⟩)
  have hid1 : ∀ f ∈ (letsM s n).fs, f.id ≠ id := fun f hf e => by
    obtain ⟨y, hy, e1, _⟩ := lets_sub hf
    exact hid y hy (e1.symm.trans e)
  have hr2 : Raw (newM ({ letsM s n with es := es1 } : SM) id cv xs g5) := raw_new hr1 hid1 hg5' ⟨_, _, hcv, hxl⟩ (by have := ht1.1; show (tot (letsM s n).fs : Int) ≤ (letsM s n).used; omega)
  refine j_perm (S' := [SM.heap (newM ({ letsM s n with es := es1 } : SM) id cv xs g5), ph P]) (by
    classical
    refine List.perm_iff_count.2 fun x => ?_
    simp only [SM.heap, newM, rest, FL.h, flcells, SM.sobj, smcells, List.set, List.map_append, List.map_cons, List.flatten_cons, List.flatten_nil, List.append_nil, List.nil_append, List.cons_append, List.count_append, List.count_cons, List.count_nil] <;> omega) ?_
  have hp2 : SM.ptr (newM ({ letsM s n with es := es1 } : SM) id cv xs g5) = s.ptr := by simp only [SM.ptr, newM, (letsM_gs s n).1]
  refine j_call 0 ent38 rfl rfl (by rw [hp2]; rfl) rfl (fun w' hw' => gives_con (newM ({ letsM s n with es := es1 } : SM) id cv xs g5) n (⟨g5, id, cv, xs, 0⟩ : FL) w' hr2 hn (by simp [newM]) (by show (0 : Int) + 1 ≤ _; decide)) (fun u S2 hu1 => ?_)
  obtain ⟨es3, ck3, rfl, hr3⟩ := hu1
  have hg3t := gives_tot hr2 (f := (⟨g5, id, cv, xs, 0⟩ : FL)) (n := n) (by simp [newM]) (by show (0 : Int) + 1 ≤ _; decide) (d := -(xs.length : Int)) (by
    show (tot (_ :: (letsM s n).fs) : Int) + _ ≤ (letsM s n).used
    have e : tot ((⟨g5, id, cv, xs, 0⟩ : FL) :: (letsM s n).fs) = xs.length + tot (letsM s n).fs := by simp [tot]
    rw [e]
    have := ht1.1
    omega)
  have hlu := ht1.2
  obtain ⟨s3, hs3⟩ : ∃ x : SM, x = ({ givesM (newM ({ letsM s n with es := es1 } : SM) id cv xs g5) n (g5, id) with es := es3, ck := ck3 } : SM) := ⟨_, rfl⟩
  have hgs3 : s3.gs = s.gs := by
    rw [hs3]
    show (givesM (newM ({ letsM s n with es := es1 } : SM) id cv xs g5) n (g5, id)).gs = s.gs
    rw [(givesM_gs _ _ _).1]
    exact (letsM_gs s n).1
  have hr3' : Raw s3 := by rw [hs3]; exact hr3
  have hg3a : (tot s3.fs : Int) + -(xs.length : Int) ≤ s3.used := by rw [hs3]; exact hg3t.1
  have hg3u : s3.used ≤ (letsM s n).used := by rw [hs3]; exact hg3t.2
  have hfin : ({ writeM s n id cv xs g5 with es := es3, ck := ck3 } : SM) = { s3 with used := s3.used + (xs.length : Int) } := by
    have e1 : givesM (newM ({ letsM s n with es := es1 } : SM) id cv xs g5) n (g5, id) = { givesM (newM (letsM s n) id cv xs g5) n (g5, id) with es := es1, ck := (letsM s n).ck } := by
      rw [show (newM ({ letsM s n with es := es1 } : SM) id cv xs g5) = { newM (letsM s n) id cv xs g5 with es := es1, ck := (letsM s n).ck } from rfl, givesM_es]
    rw [hs3, e1]
    rfl
  refine j_perm (S' := [s3.heap, ph P]) (by rw [hs3]; exact List.Perm.refl _) ?_
  clear hs3 hr3 hr2 hg3t
  refine j_perm (S' := [[(s.gs, .cells (smcells s3).toArray 66 (0, 0))], [(s3.gm, .map s3.es s3.ck)], s3.fs.map FL.h, ph P]) (by
    rw [← hgs3]
    have h0 := s3.split.append_right (ph P)
    simpa using h0) ?_
  refine j_draw ?_
  refine jq_q (qs_nil rfl) ?_
  refine jq_q (qs_field Try.underlying66 rfl sz3 (by decide) rfl) ?_
  refine jq_q (qs_load (l := smcells s3) 0 Try.underlying3 rfl rfl rfl rfl) ?_
  refine jq_q (qs_loadO (rdo_base h2 hd2) Try.underlying23 rfl rfl rfl) ?_
  refine jq_q (qs_lenl Try.underlying23 rfl) ?_
  refine jq_q (qs_add64 rfl rfl (by first | omega | (simp only [Bool.and_eq_true, Bool.or_eq_true, Bool.and_eq_false_iff, Bool.or_eq_false_iff, Bool.not_eq_true', Bool.not_eq_false', decide_eq_true_eq, decide_eq_false_iff_not, beq_iff_eq, beq_eq_false_iff_ne, bne_iff_ne, bne_eq_false_iff_eq, ne_eq, Int.toNat_natCast] at *; omega))) ?_
  refine jq_q (qs_nil rfl) ?_
  refine jq_q (qs_field Try.underlying66 rfl sz3 (by decide) rfl) ?_
  refine jq_nil ?_
  refine j_store (l := smcells s3) 0 sz3 rfl rfl rfl rfl (by simp) (by simp) ?_
  refine j_perm (S' := [SM.heap { s3 with used := s3.used + (xs.length : Int) }, ph P]) (by
    rw [← hgs3]
    have h0 := (SM.split { s3 with used := s3.used + (xs.length : Int) }).symm.append_right (ph P)
    refine List.Perm.trans (List.Perm.of_eq ?_) (List.Perm.trans h0 (List.Perm.of_eq (by simp)))
    simp [List.set]
    rfl) ?_
  refine j_ret_con (vs := []) (fun w' hw' => trivial) ?_
  refine ⟨es3, ck3, g5, hg5, ?_, ?_⟩
  · rw [hfin]
  · rw [hfin]
    exact raw_used hr3' _ ⟨by omega, by omega⟩
end Go.Proofs.Ytckpegkpdepokaa
