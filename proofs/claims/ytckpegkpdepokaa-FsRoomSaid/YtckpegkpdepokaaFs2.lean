/- Files that forget: a file gets a name. -/
import Derived.Test.YtckpegkpdepokaaTa
import Derived.Test.YtckpegkpdepokaaFs1
namespace Go.Proofs.Ytckpegkpdepokaa
open Go Go.Sx
set_option maxRecDepth 100000
set_option maxHeartbeats 4000000
set_option linter.unusedVariables false
set_option linter.unusedSimpArgs false
attribute [local irreducible] J JQ QS Con W opW
theorem ent36 : Sx.Enters Try.prog 36 := ⟨_, Try.func36, by kernel_rfl, by kernel_rfl⟩

open Go.MapKept Go.WideMaps Go.Maps
theorem letsM_gs (s : SM) (n : List UInt8) : (letsM s n).gs = s.gs ∧ (letsM s n).gm = s.gm ∧ (letsM s n).ck = s.ck := by
  unfold letsM
  split
  · exact ⟨rfl, rfl, rfl⟩
  · split
    · exact ⟨rfl, rfl, rfl⟩
    · split <;> exact ⟨rfl, rfl, rfl⟩
theorem letsM_free {s : SM} (h : Raw s) (n : List UInt8) : alook (letsM s n).ml n = none := by
  unfold letsM
  cases hl : alook s.ml n with
  | none => exact hl
  | some p =>
    obtain ⟨f, hf, hfg, hfi⟩ := h.has _ (alook_mem hl)
    obtain ⟨a, b, hab⟩ := List.append_of_mem hf
    have hids := h.ids
    rw [hab] at hids
    have hg : getF s.fs p.2 = some f := by rw [hab, ← hfi]; exact getF_split hids
    simp only
    rw [hg]
    simp only
    split <;> (show alook (mdel s.ml n) n = none; rw [alook_mdel, if_pos rfl])
theorem lets_keep {s : SM} {n : List UInt8} {f : FL} (hf : f ∈ s.fs) (ho : ∀ p, alook s.ml n = some p → p.2 ≠ f.id) : f ∈ (letsM s n).fs := by
  unfold letsM
  cases hl : alook s.ml n with
  | none => exact hf
  | some p =>
    simp only
    cases hg : getF s.fs p.2 with
    | none => exact hf
    | some f2 =>
      simp only
      have hne := ho p hl
      split
      · exact List.mem_filter.2 ⟨hf, by simpa using fun e => hne e.symm⟩
      · exact List.mem_map.2 ⟨f, hf, by rw [if_neg (fun e => hne e.symm)]⟩
theorem lets_cnt {s : SM} (h : Raw s) {n : List UInt8} {id : Nat} (ho : ∀ p, alook s.ml n = some p → p.2 ≠ id) : cnt (letsM s n).ml id = cnt s.ml id := by
  unfold letsM
  cases hl : alook s.ml n with
  | none => rfl
  | some p =>
    simp only
    have hc := cnt_del h.nd hl id
    rw [if_neg (ho p hl)] at hc
    cases hg : getF s.fs p.2 with
    | none => rfl
    | some f2 =>
      simp only
      split <;> exact hc
theorem mem_bump {fs : List FL} {id : Nat} {d : Int} {x : FL} (hx : x ∈ bump fs id d) : ∃ y ∈ fs, x.id = y.id ∧ x.g = y.g ∧ x.v = y.v ∧ x.xs = y.xs ∧ x.k = y.k + if y.id = id then d else 0 := by
  obtain ⟨y, hy, rfl⟩ := List.mem_map.1 hx
  refine ⟨y, hy, ?_⟩
  split <;> simp_all
theorem bump_ids (fs : List FL) (id : Nat) (d : Int) : (bump fs id d).map FL.id = fs.map FL.id ∧ (bump fs id d).map FL.g = fs.map FL.g := by
  unfold bump
  rw [List.map_map, List.map_map]
  exact ⟨List.map_congr_left fun x _ => by simp only [Function.comp]; split <;> rfl, List.map_congr_left fun x _ => by simp only [Function.comp]; split <;> rfl⟩
theorem bump_mem {fs : List FL} (id : Nat) (d : Int) {x : FL} (hx : x ∈ fs) : ∃ y ∈ bump fs id d, y.g = x.g ∧ y.id = x.id :=
  ⟨_, List.mem_map.2 ⟨x, hx, rfl⟩, by split <;> rfl, by split <;> rfl⟩
theorem raw_bump {s : SM} (h : Raw s) {f : FL} (hf : f ∈ s.fs) (hk : f.k + 1 ≤ 1000000) : Raw { s with fs := bump s.fs f.id 1 } := by
  obtain ⟨a, b, hab⟩ := List.append_of_mem hf
  have hids := h.ids
  rw [hab] at hids
  refine ⟨h.map, h.nd, by show ((bump s.fs f.id 1).map FL.id).Nodup; rw [(bump_ids _ _ _).1]; exact h.ids, by show ((bump s.fs f.id 1).map FL.g).Nodup; rw [(bump_ids _ _ _).2]; exact h.gnd, fun q hq => ?_, fun x hx => ?_, fun x hx => ?_, by show (tot (bump s.fs f.id 1) : Int) ≤ _ ∧ _; rw [tot_bump]; exact h.us⟩
  · obtain ⟨x, hx, h1, h2⟩ := h.has q hq
    obtain ⟨y, hy, h3, h4⟩ := bump_mem f.id 1 hx
    exact ⟨y, hy, h3.trans h1, h4.trans h2⟩
  · obtain ⟨y, hy, _, _, e3, e4, _⟩ := mem_bump hx
    rw [e3, e4]
    exact h.form y hy
  · obtain ⟨y, hy, e1, _, _, _, e5⟩ := mem_bump hx
    have h1 := h.le y hy
    rw [e1, e5]
    by_cases hyp : y.id = f.id
    · rw [if_pos hyp]
      have : y = f := by
        rw [hab] at hy
        rcases List.mem_append.1 hy with hy | hy
        · exact absurd hyp ((off_ids hids).1 y hy)
        · rcases List.mem_cons.1 hy with hy | hy
          · exact hy
          · exact absurd hyp ((off_ids hids).2 y hy)
      rw [this] at h1 ⊢
      simp only at h1 ⊢
      omega
    · rw [if_neg hyp]
      simp only at h1 ⊢
      omega
/-- a file gets a name -/
def givesM (s : SM) (n : List UInt8) (p : Nat × Nat) : SM :=
  if alook s.ml n = some p then s
  else { letsM { s with fs := bump s.fs p.2 1 } n with ml := (letsM { s with fs := bump s.fs p.2 1 } n).ml ++ [(n, p)] }
theorem raw_gives {s : SM} (h : Raw s) {n : List UInt8} {f : FL} (hf : f ∈ s.fs) (hk : f.k + 1 ≤ 1000000) {es es0 : Array MapEntry} {ck : Nat} (hne : alook s.ml n ≠ some (f.g, f.id)) (h2 : Raw { letsM { s with fs := bump s.fs f.id 1 } n with es := es0 })
    (hm : MapOk strEnc strOk es ck ((givesM s n (f.g, f.id)).ml.map fun q => (q.1, fptr q.2))) : Raw { givesM s n (f.g, f.id) with es := es, ck := ck } := by
  have hr1 := raw_bump h hf hk
  unfold givesM at hm ⊢
  rw [if_neg hne] at hm ⊢
  have hfree := letsM_free hr1 n
  have ho : ∀ p, alook s.ml n = some p → p.2 ≠ f.id := fun p hp e => by
    obtain ⟨x, hx, h4, h3⟩ := h.has _ (alook_mem hp)
    simp only at h4 h3
    obtain ⟨a, b, hab⟩ := List.append_of_mem hf
    have hids := h.ids
    rw [hab] at hids
    have : x = f := by
      rw [hab] at hx
      rcases List.mem_append.1 hx with hx | hx
      · exact absurd (h3.trans e) ((off_ids hids).1 x hx)
      · rcases List.mem_cons.1 hx with hx | hx
        · exact hx
        · exact absurd (h3.trans e) ((off_ids hids).2 x hx)
    subst this
    exact hne (by rw [hp]; congr 1; exact Prod.ext h4.symm h3.symm)
  have hf1 : ({ f with k := f.k + 1 } : FL) ∈ bump s.fs f.id 1 := List.mem_map.2 ⟨f, hf, by rw [if_pos rfl]⟩
  have hkeep := lets_keep (s := { s with fs := bump s.fs f.id 1 }) (n := n) hf1 ho
  have hcn := lets_cnt hr1 (id := f.id) ho
  have hlf := h.le f hf
  refine ⟨hm, ?_, h2.ids, h2.gnd, fun q hq => ?_, h2.form, fun x hx => ?_, h2.us⟩
  · show (((letsM { s with fs := bump s.fs f.id 1 } n).ml ++ [(n, (f.g, f.id))]).map Prod.fst).Nodup
    rw [List.map_append, List.nodup_append]
    refine ⟨h2.nd, by simp, fun x hx y hy e => ?_⟩
    simp only [List.map_cons, List.map_nil, List.mem_singleton] at hy
    subst hy
    obtain ⟨q, hq, e2⟩ := List.mem_map.1 hx
    exact alook_none.1 hfree q hq (e2.trans e)
  · rcases List.mem_append.1 hq with hq | hq
    · exact h2.has q hq
    · rw [List.mem_singleton] at hq
      subst hq
      exact ⟨_, hkeep, rfl, rfl⟩
  · have h3 := h2.le x hx
    have e : cnt ((letsM { s with fs := bump s.fs f.id 1 } n).ml ++ [(n, (f.g, f.id))]) x.id = cnt (letsM { s with fs := bump s.fs f.id 1 } n).ml x.id + if f.id = x.id then 1 else 0 := by
      unfold cnt
      rw [List.filter_append, List.length_append, List.filter_cons, List.filter_nil]
      by_cases hx2 : f.id = x.id
      · rw [if_pos hx2, if_pos (by simpa using hx2)]; rfl
      · rw [if_neg hx2, if_neg (by simpa using hx2)]; rfl
    show ((cnt ((letsM { s with fs := bump s.fs f.id 1 } n).ml ++ [(n, (f.g, f.id))]) x.id : Nat) : Int) ≤ x.k ∧ x.k ≤ 1000000
    rw [e]
    by_cases hx2 : f.id = x.id
    · have hxe : x = { f with k := f.k + 1 } := by
        have hids2 : ((letsM { s with fs := bump s.fs f.id 1 } n).fs.map FL.id).Nodup := h2.ids
        obtain ⟨a, b, hab⟩ := List.append_of_mem hkeep
        rw [hab] at hids2
        have hx' : x ∈ a ++ { f with k := f.k + 1 } :: b := by rw [← hab]; exact hx
        rcases List.mem_append.1 hx' with hx' | hx'
        · exact absurd hx2.symm ((off_ids hids2).1 x hx')
        · rcases List.mem_cons.1 hx' with hx' | hx'
          · exact hx'
          · exact absurd hx2.symm ((off_ids hids2).2 x hx')
      rw [if_pos hx2, ← hx2, hcn, hxe]
      simp only at h3 ⊢
      omega
    · rw [if_neg hx2]
      exact h3
theorem fs_uniq {s : SM} (h : Raw s) {f x : FL} (hf : f ∈ s.fs) (hx : x ∈ s.fs) (hg : x.g = f.g) : x = f := by
  obtain ⟨a, b, hab⟩ := List.append_of_mem hf
  have hn := h.gnd
  rw [hab, List.map_append, List.map_cons, List.nodup_append, List.nodup_cons] at hn
  rw [hab] at hx
  rcases List.mem_append.1 hx with hx | hx
  · exact absurd hg (fun e => hn.2.2 x.g (List.mem_map.2 ⟨x, hx, rfl⟩) f.g (by simp) e)
  · rcases List.mem_cons.1 hx with hx | hx
    · exact hx
    · exact absurd (List.mem_map.2 ⟨x, hx, hg⟩) hn.2.1.1
/-- (*pantry.fs.state).gives -/
theorem gives_con (s : SM) (n : List UInt8) (f : FL) (w : World) (h : Raw s) (hn : strOk n) (hf : f ∈ s.fs) (hk : f.k + 1 ≤ 1000000) : Con Try.prog 38 [s.ptr, .string (bs n), .pointer (some ⟨f.g, 0, none⟩)] w s.heap fun _ S' => ∃ (es : Array MapEntry) (ck : Nat), S' = [SM.heap { givesM s n (f.g, f.id) with es := es, ck := ck }] ∧ Raw { givesM s n (f.g, f.id) with es := es, ck := ck } := by
  refine con_of_tree mix Try.func38 T38_ok (by kernel_rfl) ?_
  unfold T38
  obtain ⟨a, b, hab⟩ := List.append_of_mem hf
  have hids := h.ids
  rw [hab] at hids
  have hr1 := raw_bump h hf hk
  have hlf := h.le f hf
  have hb1 : bump s.fs f.id 1 = a ++ ({ f with k := f.k + 1 } : FL) :: b := by rw [hab]; exact bump_split hids
  refine j_perm (S' := [[(s.gs, s.sobj)], [(s.gm, .map s.es s.ck)], [f.h], rest a b]) (by
    refine List.Perm.trans (List.Perm.of_eq ?_) (SM.open_ hab)
    simp [SM.heap]) ?_
  refine j_q (qs_nil rfl) ?_
  refine j_q (qs_field Try.underlying73 rfl sz71 (by decide) rfl) ?_
  refine j_call 2 ent68 rfl rfl rfl rfl (fun w' hw' => aadd_con f.g 1 (flcells f) 73 f.k 1 w' rfl (by omega)) (fun u S2 hu => ?_)
  obtain ⟨rfl, rfl⟩ := hu
  refine j_perm (S' := [[(s.gs, s.sobj)], [(s.gm, .map s.es s.ck)], (bump s.fs f.id 1).map FL.h]) (by
    rw [hb1]
    exact (by
    classical
    refine List.perm_iff_count.2 fun x => ?_
    simp only [SM.heap, rest, FL.h, flcells, SM.sobj, smcells, List.set, List.map_append, List.map_cons, List.flatten_cons, List.flatten_nil, List.append_nil, List.nil_append, List.cons_append, List.count_append, List.count_cons, List.count_nil] <;> omega)) ?_
  refine j_q (qs_nil rfl) ?_
  refine j_q (qs_field Try.underlying66 rfl sz64 (by decide) rfl) ?_
  refine j_q (qs_load (l := smcells s) 0 Try.underlying64 rfl rfl rfl rfl) ?_
  refine j_q (qs_lookup (key := n) strKey 1 Try.underlying64 zv63 rfl rfl rfl h.map hn) ?_
  rw [mlook_map fptr, getD_fptr]
  refine j_q (qs_pne Try.underlying63 sz73 (by decide) rfl rfl (fun a' ha' => by
    obtain ⟨p, hp, rfl⟩ := Option.map_eq_some_iff.1 ha'
    obtain ⟨x, hx, h1, h2⟩ := h.has _ (alook_mem hp)
    obtain ⟨y, hy, h3, h4⟩ := bump_mem f.id 1 hx
    exact ⟨_, _, rdo_mem (o := (FL.h y).2) 2 rfl (List.mem_map.2 ⟨y, hy, Prod.ext (h3.trans h1) rfl⟩)⟩) ⟨_, _, rdo_mem (o := (FL.h ({ f with k := f.k + 1 } : FL)).2) 2 rfl (List.mem_map.2 ⟨({ f with k := f.k + 1 } : FL), by rw [hb1]; simp, rfl⟩)⟩) ?_
  refine j_cond rfl (fun hc0 => ?_) (fun hc0 => ?_)
  · skip
    have hne : alook s.ml n ≠ some (f.g, f.id) := fun e => by
      rw [e] at hc0
      simp at hc0
    refine j_perm (S' := [SM.heap ({ s with fs := bump s.fs f.id 1 } : SM)]) (by simp [SM.heap]) ?_
    refine j_call 0 ent36 rfl rfl rfl rfl (fun w' hw' => lets_con ({ s with fs := bump s.fs f.id 1 } : SM) n w' hr1 hn) (fun u S2 hu => ?_)
    obtain ⟨es1, rfl, hr2⟩ := hu
    refine j_perm (S' := [[(s.gs, .cells (smcells (letsM ({ s with fs := bump s.fs f.id 1 } : SM) n)).toArray 66 (0, 0))], [(s.gm, .map es1 (letsM ({ s with fs := bump s.fs f.id 1 } : SM) n).ck)], (letsM ({ s with fs := bump s.fs f.id 1 } : SM) n).fs.map FL.h]) (by
      simp only [SM.heap, SM.sobj, smcells, (letsM_gs ({ s with fs := bump s.fs f.id 1 } : SM) n).1, (letsM_gs ({ s with fs := bump s.fs f.id 1 } : SM) n).2.1]
      simp) ?_
    refine j_q (qs_nil rfl) ?_
    refine j_q (qs_field Try.underlying66 rfl sz64 (by decide) rfl) ?_
    refine j_q (qs_load (l := smcells (letsM ({ s with fs := bump s.fs f.id 1 } : SM) n)) 0 Try.underlying64 rfl rfl rfl rfl) ?_
    refine j_mapset (key := n) (val := fptr (f.g, f.id)) strKey 1 Try.underlying64 (by show Value.map (some (letsM ({ s with fs := bump s.fs f.id 1 } : SM) n).gm) = _; rw [(letsM_gs _ _).2.1]) rfl rfl rfl hr2.map hn (fun es2 ck2 hm2 => ?_)
    rw [mset_map fptr, aset_fresh (letsM_free hr1 n)] at hm2
    refine j_perm (S' := [SM.heap { givesM s n (f.g, f.id) with es := es2, ck := ck2 }]) (by
      unfold givesM
      rw [if_neg hne]
      simp only [SM.heap, SM.sobj, smcells, (letsM_gs ({ s with fs := bump s.fs f.id 1 } : SM) n).1, (letsM_gs ({ s with fs := bump s.fs f.id 1 } : SM) n).2.1]
      simp) ?_
    refine j_ret_con (vs := []) (fun w' hw' => trivial) ?_
    refine ⟨es2, ck2, rfl, raw_gives h hf hk hne hr2 ?_⟩
    unfold givesM
    rw [if_neg hne]
    exact hm2
  · skip
    have hlk : alook s.ml n = some (f.g, f.id) := by
      cases hx : alook s.ml n with
      | none => rw [hx] at hc0; simp at hc0
      | some p =>
        rw [hx] at hc0
        have h1 : p.1 = f.g := by simpa using hc0
        obtain ⟨x, hx2, h2, h3⟩ := h.has _ (alook_mem hx)
        have h4 := fs_uniq h hf hx2 (h2.trans h1)
        rw [h4] at h3
        exact congrArg some (Prod.ext h1 h3.symm)
    rw [hb1]
    refine j_perm (S' := [[(s.gs, s.sobj)], [(s.gm, .map s.es s.ck)], [FL.h ({ f with k := f.k + 1 } : FL)], rest a b]) (by
      classical
      refine List.perm_iff_count.2 fun x => ?_
      simp only [SM.heap, rest, FL.h, flcells, SM.sobj, smcells, List.set, List.map_append, List.map_cons, List.flatten_cons, List.flatten_nil, List.append_nil, List.nil_append, List.cons_append, List.count_append, List.count_cons, List.count_nil] <;> omega) ?_
    refine j_q (qs_nil rfl) ?_
    refine j_q (qs_field Try.underlying73 rfl sz71 (by decide) rfl) ?_
    refine j_call 2 ent68 rfl rfl rfl rfl (fun w' hw' => aadd_con f.g 1 (flcells ({ f with k := f.k + 1 } : FL)) 73 (f.k + 1) (-1) w' rfl (by omega)) (fun u S2 hu => ?_)
    obtain ⟨rfl, rfl⟩ := hu
    have hff : ({ f with k := f.k + 1 + -1 } : FL) = f := by
      have e : f.k + 1 + -1 = f.k := by omega
      rw [e]
    refine j_perm (S' := [[(s.gs, s.sobj)], [(s.gm, .map s.es s.ck)], [FL.h { f with k := f.k + 1 + -1 }], rest a b]) (by
      classical
      refine List.perm_iff_count.2 fun x => ?_
      simp only [SM.heap, rest, FL.h, flcells, SM.sobj, smcells, List.set, List.map_append, List.map_cons, List.flatten_cons, List.flatten_nil, List.append_nil, List.nil_append, List.cons_append, List.count_append, List.count_cons, List.count_nil] <;> omega) ?_
    rw [hff]
    refine j_q (qs_nil rfl) ?_
    refine j_q (qs_field Try.underlying66 rfl sz64 (by decide) rfl) ?_
    refine j_q (qs_load (l := smcells s) 0 Try.underlying64 rfl rfl rfl rfl) ?_
    refine j_mapset (key := n) (val := fptr (f.g, f.id)) strKey 1 Try.underlying64 rfl rfl rfl rfl h.map hn (fun es2 ck2 hm2 => ?_)
    rw [mset_map fptr, aset_same h.nd hlk] at hm2
    have hgM : givesM s n (f.g, f.id) = s := by unfold givesM; rw [if_pos hlk]
    refine j_perm (S' := [SM.heap { givesM s n (f.g, f.id) with es := es2, ck := ck2 }]) (by
      rw [hgM]
      classical
      refine List.perm_iff_count.2 fun x => ?_
      simp only [SM.heap, SM.sobj, smcells, rest, hab, List.set, List.map_append, List.map_cons, List.flatten_cons, List.flatten_nil, List.append_nil, List.nil_append, List.cons_append, List.count_append, List.count_cons, List.count_nil] <;> omega) ?_
    refine j_ret_con (vs := []) (fun w' hw' => trivial) ?_
    refine ⟨es2, ck2, rfl, ?_⟩
    rw [hgM]
    exact ⟨hm2, h.nd, h.ids, h.gnd, h.has, h.form, h.le, h.us⟩
end Go.Proofs.Ytckpegkpdepokaa
