/- Part 5. -/
import Derived.Test.YtckpegkpdepokaaPA2
import Derived.Test.YtckpegkpdepokaaPA4
import Derived.Test.YtckpegkpdepokaaPA3
import Derived.SliceStrings
import Derived.Test.YtckpegkpdepokaaRows
import Derived.ProofKit
import Derived.Carry
import Derived.SizedLaws
/-! Ft3 -/
namespace Go.Proofs.Ytckpegkpdepokaa
open Go Go.Sx
set_option maxRecDepth 100000
set_option maxHeartbeats 4000000
set_option linter.unusedVariables false
set_option linter.unusedSimpArgs false
attribute [local irreducible] J JQ QS Con W opW
open Go.MapKept Go.WideMaps Go.Maps
abbrev mlv (ml : List (List UInt8 × (Nat × Nat))) : List (List UInt8 × Value) := ml.map fun q => (q.1, fptr q.2)
theorem getD_pEnc {o : Option FL} : (o.map fun f => pEnc f.g).getD (.pointer none) = .pointer (o.map fun f => ⟨f.g, 0, none⟩) := by cases o <;> rfl
theorem cp0 {s : SM} {gs gm : Nat} (h : Raw s) (hu : s.used ≤ 1000000000000000) (h0 : 0 ≤ s.used) : Cp s { SM0 gs gm with used := s.used } [] [] := by
  refine ⟨⟨mapOk_nil, List.nodup_nil, List.nodup_nil, List.nodup_nil, (fun q h => by cases h), (fun f h => by cases h), (fun f h => by cases h), ?_⟩, rfl, (fun f h => by cases h), (fun f h => by cases h), (fun f h => by cases h), rfl, (fun y hy => rfl), (fun p h => by cases h)⟩
  show ((tot ([] : List FL) : Nat) : Int) ≤ s.used + 2000000000 ∧ s.used ≤ _
  exact ⟨by simp [tot]; omega, hu⟩
theorem done_mem {ml done : List (List UInt8 × (Nat × Nat))} {q : List UInt8 × (Nat × Nat)} (hn : (((mlv done) ++ [(q.1, fptr q.2)]).map Prod.fst).Nodup) : ∀ x ∈ done, x.1 ≠ q.1 := fun x hx e => by
  rw [List.map_append, List.nodup_append] at hn
  exact hn.2.2 x.1 (List.mem_map.2 ⟨(x.1, fptr x.2), List.mem_map.2 ⟨x, hx, rfl⟩, rfl⟩) q.1 (by simp) e
theorem names_eq {o : SM} {done : List (List UInt8 × (Nat × Nat))} (h : o.ml.map (fun p => (p.1, Prod.snd p.2)) = done.map (fun p => (p.1, Prod.snd p.2))) {n : List UInt8} (hn : ∀ x ∈ done, x.1 ≠ n) : alook o.ml n = none := by
  refine alook_none.2 fun p hp e => ?_
  have : (p.1, p.2.2) ∈ done.map (fun p => (p.1, Prod.snd p.2)) := by
    rw [← h]
    exact List.mem_map.2 ⟨p, hp, rfl⟩
  obtain ⟨x, hx, e2⟩ := List.mem_map.1 this
  injection e2 with e2 e3
  exact hn x hx (e2.trans e)
theorem copied_con (s : SM) (a : AS) (P : List BK) (w : World) (h : Sx' s a) (hv : VwA P s) (hl : limA a) (hin : In w s.heap) : Con Try.prog 48 [s.ptr] w [] fun v S' => ∃ o : SM, S' = [o.heap] ∧ v = o.ptr ∧ Sx' o a ∧ VwA P o := by
  refine con_of_tree mix Try.func48 T48_ok (by kernel_rfl) ?_
  unfold T48
  have hut := h.ex.ut
  have hus := h.rep.us
  have hl1 := hl.1
  refine j_q (qs_ac) ?_
  refine j_call0 ent30 rfl rfl rfl (fun w' hw' => begun_con w') (fun u S2 hu => ?_)
  obtain ⟨gs, gm, rfl, rfl⟩ := hu
  refine j_perm (S' := [[(gs, (SM0 gs gm).sobj)], [(gm, .map #[] 0)], []]) (List.Perm.of_eq (by simp [SM.heap])) ?_
  refine j_q (qs_nil rfl) ?_
  refine j_q (qs_field Try.underlying66 rfl sz3 (by decide) rfl) ?_
  refine j_q (qs_loadO (rdo_base (SM.in_gs hin) (by simp)) Try.underlying3 rfl rfl rfl) ?_
  refine j_q (qs_nil rfl) ?_
  refine j_q (qs_field Try.underlying66 rfl sz3 (by decide) rfl) ?_
  refine j_store (l := smcells (SM0 gs gm)) 0 sz3 rfl rfl rfl rfl (by simp) (by simp) ?_
  refine j_mkmap (fun g8 hg8 => ?_)
  refine j_q (qs_nil rfl) ?_
  refine j_q (qs_field Try.underlying66 rfl sz64 (by decide) rfl) ?_
  refine j_q (qs_loadO (rdo_base (SM.in_gs hin) (by simp)) Try.underlying64 rfl rfl rfl) ?_
  refine j_rangemap Try.underlying64 rfl (rdo_base (SM.in_gm hin) (by simp)) (fun g12 hg12 => ?_)
  refine j_loop (fun m vs S' => ∃ (o : SM) (done : List (List UInt8 × (Nat × Nat))) (seen : Array Nat) (c0 : Nat) (tes : Array MapEntry) (tck : Nat) (tw : List (Nat × Value)), vs = [] ∧ S' = [[(g12, .mapIter (some s.gm) s.ck seen c0)], [(g8, .map tes tck)], [(o.gs, SM.sobj o)], [(o.gm, .map o.es o.ck)], o.fs.map FL.h] ∧ o.gs = gs ∧ o.gm = gm ∧ Cp s o done tw ∧ ItOk strEnc s.es seen (mlv done) ∧ (∀ q ∈ done, q ∈ s.ml) ∧ MapOk pEnc pOk tes tck tw ∧ VwA P o ∧ s.ck ≤ c0 ∧ m = s.ml.length - done.length) ⟨_, ({ SM0 gs gm with used := s.used } : SM), [], #[], s.ck, #[], 0, [], rfl, rfl, rfl, rfl, cp0 h.raw (by omega) (by omega), itok_nil, (fun q hq => by cases hq), mapOk_nil, (fun x hx => by cases hx), Nat.le_refl _, rfl⟩ ?_
  rintro m vs S' hlen ⟨o, done, seen, c0, tes, tck, tw, rfl, rfl, rfl, rfl, hcp, hit, hsub, hmt, hvo, hc0', rfl⟩
  refine j_nextm 0 strKey.inj rfl rfl (rdo_base (SM.in_gm hin) (by simp)) h.raw.map hit (Nat.le_refl _) hc0' (fun c nvs S2 hnv hcase => ?_)
  refine j_q (qs_ext rfl hnv) ?_
  refine j_cond rfl (fun hc0 => ?_) (fun hc0 => ?_)
  · skip
    subst hc0
    rcases hcase with ⟨hcf, _⟩ | ⟨_, p, e, hp, hnd, he, hek, hev, hit2, rfl⟩
    · cases hcf
    obtain ⟨⟨n, g, id⟩, hq, rfl⟩ := List.mem_map.1 hp
    obtain ⟨y, hy, hyg, hyi⟩ := h.raw.has _ hq
    simp only at hyg hyi
    subst hyg hyi
    have hsn : strOk n := h.raw.map.keys _ hp
    have hdm := done_mem (ml := s.ml) (q := (n, (y.g, y.id))) hit2.nd
    have hfree : alook o.ml n = none := names_eq hcp.nm hdm
    obtain ⟨yA, yc, hyv, hyc, _⟩ := (hv y hy).rv.form
    have hdn : (done ++ [(n, (y.g, y.id))]).Nodup := by
      have e9 : mlv (done ++ [(n, (y.g, y.id))]) = mlv done ++ [(n, fptr (y.g, y.id))] := by rw [mlv, List.map_append]; rfl
      have h9 := hit2.nd
      simp only at h9
      rw [← e9] at h9
      exact nodup_of_map (nodup_of_map h9)
    simp only [List.set]
    refine j_q (qs_entry (es := s.es) (m := mlv s.ml) (p := (n, fptr (y.g, y.id))) (e := e) (seen := seen) (since := s.ck) (bm := s.gm) (r := g12) rfl (rdo_mem 0 rfl (by simp)) (rdo_base (SM.in_gm hin) (by simp)) h.raw.map he hek hev) ?_
    refine j_q (qs_ext (vs := [.string (bs n), fptr (y.g, y.id)]) rfl rfl) ?_
    refine j_q (qs_ext (vs := [.string (bs n), fptr (y.g, y.id)]) rfl rfl) ?_
    refine j_q (qs_lookupP (key := y.g) 1 Try.underlying63 sz73 (by decide) Try.underlying109 zv63 rfl rfl rfl hmt (fun w' hw' => ⟨_, _, rdo_base (SM.in_f hin hy) (by simp) w' hw'⟩) (fun w' hw' p hp => by
      obtain ⟨z, hz, e⟩ := hcp.ts p hp
      rw [e]
      exact ⟨_, _, rdo_base (SM.in_f hin hz) (by simp) w' hw'⟩)) ?_
    rw [hcp.tl y hy, getD_pEnc]
    refine j_q (qs_pnil Try.underlying63 rfl) ?_
    refine j_cond rfl (fun hc1 => ?_) (fun hc1 => ?_)
    · skip
      have hl0 : getF o.fs y.id = none := by
        cases hx : getF o.fs y.id with
        | none => rfl
        | some p => rw [hx] at hc1; simp at hc1
      refine j_q (qs_nil rfl) ?_
      refine j_q (qs_field Try.underlying73 rfl sz23 (by decide) rfl) ?_
      refine j_q (qs_loadO (rdo_base (SM.in_f hin hy) (by simp)) Try.underlying23 rfl rfl rfl) ?_
      rw [hyv]
      refine j_q (qs_call ent37 rfl rfl rfl (fun w' hw' => clip_con yA y.xs.length yc hyc w')) ?_
      obtain ⟨cv, hcv⟩ : ∃ v : Value, v = .slice (if y.xs.length = 0 then yA else yA.map (fun a : Addr => a.add (0 * 1))) y.xs.length y.xs.length := ⟨_, rfl⟩
      rw [← hcv]
      refine j_q (qs_build (places := [(0, 1), (1, 1)]) (offs := [(0, [cv])]) Try.underlying73 zero73 (by kernel_rfl) rfl (by rintro (_ | j) p q hp hq <;> first | (simp at hp hq; subst hp hq; exact ⟨rfl, (by show cv.cells = #[cv]; rw [hcv]; rfl), by simp⟩) | (simp at hp))) ?_
      refine j_box (l := [cv, .int .i32 0]) rfl (fun g25 hg25 hs25 => ?_)
      have hno : mlook tw y.g = none := by rw [hcp.tl y hy, hl0]; rfl
      refine j_mappushP (key := y.g) (val := pEnc g25) 2 Try.underlying63 sz73 (by decide) Try.underlying109 rfl rfl rfl rfl hmt (fun w' hw' => ⟨_, _, rdo_base (SM.in_f hin hy) (by simp) w' hw'⟩) (fun w' hw' p hp => by
        obtain ⟨z, hz, e⟩ := hcp.ts p hp
        rw [e]
        exact ⟨_, _, rdo_base (SM.in_f hin hz) (by simp) w' hw'⟩) hno (fun tes2 tck2 hmt2 => ?_)
      have hg25' : ∀ f ∈ o.fs, f.g ≠ g25 := fun f hf e => hs25 (by
        rw [← e]
        exact List.mem_map.2 ⟨f.h, mem_flatten_of (k := 4) rfl (List.mem_map.2 ⟨f, hf, rfl⟩), rfl⟩)
      have hidn := getF_none hl0
      have hto := tot_sub hcp.raw.ids hcp.fs
      have hcu := hcp.us
      obtain ⟨_, _, _, hyl⟩ := h.raw.form y hy
      have hrn : Raw (newM o y.id cv y.xs g25) := raw_new hcp.raw hidn hg25' ⟨_, _, hcv, hyl⟩ (by omega)
      refine j_q (qs_nil rfl) ?_
      refine j_q (qs_field Try.underlying73 rfl sz71 (by decide) rfl) ?_
      refine j_call 0 ent68 rfl rfl rfl rfl (fun w' hw' => aadd_con g25 1 [cv, .int .i32 0] 73 0 1 w' rfl (by omega)) (fun u S2 hu => ?_)
      obtain ⟨rfl, rfl⟩ := hu
      refine j_perm (S' := [[(g12, .mapIter (some s.gm) s.ck (seen.push e.born) s.ck)], [(g8, .map tes2 tck2)], [(o.gs, o.sobj)], [(o.gm, .map o.es o.ck)], (bump (newM o y.id cv y.xs g25).fs y.id 1).map FL.h]) (by
        have e : bump (newM o y.id cv y.xs g25).fs y.id 1 = ⟨g25, y.id, cv, y.xs, 0 + 1⟩ :: o.fs := bump_split (a := []) (f := ⟨g25, y.id, cv, y.xs, 0⟩) hrn.ids
        rw [e]
        exact (by
        classical
        refine List.perm_iff_count.2 fun x => ?_
        simp only [SM.heap, rest, FL.h, flcells, SM.sobj, smcells, List.set, List.map_append, List.map_cons, List.map_nil, List.flatten_cons, List.flatten_nil, List.append_nil, List.nil_append, List.cons_append, List.count_append, List.count_cons, List.count_nil] <;> omega)) ?_
      refine j_q (qs_nil rfl) ?_
      refine j_q (qs_field Try.underlying66 rfl sz64 (by decide) rfl) ?_
      refine j_q (qs_load (l := smcells o) 2 Try.underlying64 rfl rfl rfl rfl) ?_
      refine j_mapset (key := n) (val := fptr (g25, y.id)) strKey 3 Try.underlying64 rfl rfl rfl rfl hcp.raw.map hsn (fun es2 ck2 hm2 => ?_)
      rw [mset_map fptr, aset_fresh hfree] at hm2
      refine j_back rfl ?_
      refine ⟨s.ml.length - (done ++ [(n, (y.g, y.id))]).length, (by
        have h1 := sub_len (l := done ++ [(n, (y.g, y.id))]) (L := s.ml) hdn (fun x hx => by
          rcases List.mem_append.1 hx with hx | hx
          · exact hsub x hx
          · rw [List.mem_singleton] at hx
            rw [hx]
            exact hq)
        rw [List.length_append, List.length_singleton] at h1
        have e9 : (done ++ [(n, (y.g, y.id))]).length = done.length + 1 := by rw [List.length_append, List.length_singleton]
        omega), ({ (newM o y.id cv y.xs g25) with ml := (newM o y.id cv y.xs g25).ml ++ [(n, (g25, y.id))], fs := bump (newM o y.id cv y.xs g25).fs y.id 1, es := es2, ck := ck2 } : SM), done ++ [(n, (y.g, y.id))], seen.push e.born, s.ck, tes2, tck2, _, rfl, rfl, rfl, rfl, cp_name (n := n) (q := (n, (y.g, y.id))) (o := (newM o y.id cv y.xs g25)) (f := ⟨g25, y.id, cv, y.xs, 0⟩) hrn hcp.nm (fun x hx => ?_) (fun x hx hne => ?_) (fun x hx => ?_) hcp.us (fun z hz => ?_) (fun p hp => ?_) (List.mem_cons_self ..) (by show (0 : Int) + 1 ≤ _; decide) ⟨rfl, rfl⟩ hfree hm2, (by
        have e9 : mlv (done ++ [(n, (y.g, y.id))]) = mlv done ++ [(n, fptr (y.g, y.id))] := by rw [mlv, List.map_append]; rfl
        rw [e9]
        exact hit2), (fun x hx => by
        rcases List.mem_append.1 hx with hx | hx
        · exact hsub x hx
        · rw [List.mem_singleton] at hx
          rw [hx]
          exact hq), hmt2, fun x hx => ?_, Nat.le_refl _, rfl⟩
      · rcases List.mem_cons.1 hx with rfl | hx
        · show (0 : Int) = ((cnt o.ml y.id : Nat) : Int)
          rw [cnt_zero hcp.raw hidn]
          rfl
        · exact hcp.kc x hx
      · rcases List.mem_cons.1 hx with rfl | hx
        · exact absurd rfl hne
        · exact hcp.pos x hx
      · rcases List.mem_cons.1 hx with rfl | hx
        · exact ⟨y, hy, rfl, rfl⟩
        · exact hcp.fs x hx
      · rw [mlook_snoc hno]
        show _ = (getF ((⟨g25, y.id, cv, y.xs, 0⟩ : FL) :: o.fs) z.id).map _
        by_cases hyz : y.g = z.g
        · have := fs_uniq h.raw hz hy hyz
          rw [if_pos hyz, this]
          unfold getF
          rw [List.find?_cons_of_pos (by simp)]
          rfl
        · rw [if_neg hyz, hcp.tl z hz]
          unfold getF
          rw [List.find?_cons_of_neg (by simpa using fun e => hyz (by rw [id_uniq h.raw hz hy e]))]
      · rcases List.mem_append.1 hp with hp | hp
        · exact hcp.ts p hp
        · rw [List.mem_singleton] at hp
          rw [hp]
          exact ⟨y, hy, rfl⟩
      · obtain ⟨z, hz, _, k2, k3, k4, _⟩ := mem_bump hx
        rw [k2, k3, k4]
        rcases List.mem_cons.1 hz with rfl | hz
        · exact hcv ▸ Vw.clip g25 (hyv ▸ (hv y hy).rv) rfl
        · exact hvo z hz
    · skip
      obtain ⟨f, hl0⟩ : ∃ f, getF o.fs y.id = some f := by
        cases hx : getF o.fs y.id with
        | none => rw [hx] at hc1; simp at hc1
        | some p => exact ⟨p, rfl⟩
      rw [hl0, Option.map_some]
      obtain ⟨hf, hfi⟩ := getF_some hl0
      obtain ⟨fa, fb, hab⟩ := List.append_of_mem hf
      have hids := hcp.raw.ids
      rw [hab] at hids
      have hkf := hcp.kc f hf
      have hck : cnt o.ml f.id ≤ o.ml.length := List.length_filter_le _ _
      have hol : o.ml.length = done.length := by
        have := congrArg List.length hcp.nm
        simpa using this
      have hdn0 : done.Nodup := nodup_of_map (nodup_of_map hit.nd)
      have hdl := sub_len hdn0 hsub
      have hsl := h.rep.len
      have hl2 := hl.2
      have hbm : bump o.fs f.id 1 = fa ++ ({ f with k := f.k + 1 } : FL) :: fb := by rw [hab]; exact bump_split hids
      refine j_perm (S' := [[(g12, .mapIter (some s.gm) s.ck (seen.push e.born) s.ck)], [(g8, .map tes tck)], [(o.gs, o.sobj)], [(o.gm, .map o.es o.ck)], rest fa fb, [f.h]]) (by
        rw [hab]
        exact (by
        classical
        refine List.perm_iff_count.2 fun x => ?_
        simp only [SM.heap, rest, FL.h, flcells, SM.sobj, smcells, List.set, List.map_append, List.map_cons, List.map_nil, List.flatten_cons, List.flatten_nil, List.append_nil, List.nil_append, List.cons_append, List.count_append, List.count_cons, List.count_nil] <;> omega)) ?_
      refine j_q (qs_nil rfl) ?_
      refine j_q (qs_field Try.underlying73 rfl sz71 (by decide) rfl) ?_
      refine j_call 5 ent68 rfl rfl rfl rfl (fun w' hw' => aadd_con f.g 1 (flcells f) 73 f.k 1 w' rfl (by omega)) (fun u S2 hu => ?_)
      obtain ⟨rfl, rfl⟩ := hu
      refine j_perm (S' := [[(g12, .mapIter (some s.gm) s.ck (seen.push e.born) s.ck)], [(g8, .map tes tck)], [(o.gs, o.sobj)], [(o.gm, .map o.es o.ck)], (bump o.fs f.id 1).map FL.h]) (by
        rw [hbm]
        exact (by
        classical
        refine List.perm_iff_count.2 fun x => ?_
        simp only [SM.heap, rest, FL.h, flcells, SM.sobj, smcells, List.set, List.map_append, List.map_cons, List.map_nil, List.flatten_cons, List.flatten_nil, List.append_nil, List.nil_append, List.cons_append, List.count_append, List.count_cons, List.count_nil] <;> omega)) ?_
      refine j_q (qs_nil rfl) ?_
      refine j_q (qs_field Try.underlying66 rfl sz64 (by decide) rfl) ?_
      refine j_q (qs_load (l := smcells o) 2 Try.underlying64 rfl rfl rfl rfl) ?_
      refine j_mapset (key := n) (val := fptr (f.g, f.id)) strKey 3 Try.underlying64 rfl rfl rfl rfl hcp.raw.map hsn (fun es2 ck2 hm2 => ?_)
      rw [mset_map fptr, aset_fresh hfree] at hm2
      refine j_back rfl ?_
      refine ⟨s.ml.length - (done ++ [(n, (y.g, y.id))]).length, (by
        have h1 := sub_len (l := done ++ [(n, (y.g, y.id))]) (L := s.ml) hdn (fun x hx => by
          rcases List.mem_append.1 hx with hx | hx
          · exact hsub x hx
          · rw [List.mem_singleton] at hx
            rw [hx]
            exact hq)
        rw [List.length_append, List.length_singleton] at h1
        have e9 : (done ++ [(n, (y.g, y.id))]).length = done.length + 1 := by rw [List.length_append, List.length_singleton]
        omega), ({ o with ml := o.ml ++ [(n, (f.g, f.id))], fs := bump o.fs f.id 1, es := es2, ck := ck2 } : SM), done ++ [(n, (y.g, y.id))], seen.push e.born, s.ck, tes, tck, tw, rfl, rfl, rfl, rfl, cp_name (n := n) (q := (n, (y.g, y.id))) (o := o) (f := f) hcp.raw hcp.nm hcp.kc (fun x hx _ => hcp.pos x hx) hcp.fs hcp.us hcp.tl hcp.ts hf (by omega) ⟨rfl, hfi.symm⟩ hfree hm2, (by
        have e9 : mlv (done ++ [(n, (y.g, y.id))]) = mlv done ++ [(n, fptr (y.g, y.id))] := by rw [mlv, List.map_append]; rfl
        rw [e9]
        exact hit2), (fun x hx => by
        rcases List.mem_append.1 hx with hx | hx
        · exact hsub x hx
        · rw [List.mem_singleton] at hx
          rw [hx]
          exact hq), hmt, fun x hx => ?_, Nat.le_refl _, rfl⟩
      obtain ⟨z, hz, _, k2, k3, k4, _⟩ := mem_bump hx
      rw [k2, k3, k4]
      exact hvo z hz
  · skip
    have hcf : c = false := by simpa using hc0
    subst hcf
    rcases hcase with ⟨_, rfl, hend⟩ | ⟨hcf, _⟩
    rotate_left
    · cases hcf
    refine j_subl (S' := [[(o.gs, o.sobj)], [(o.gm, .map o.es o.ck)], o.fs.map FL.h]) (by repeat first | exact slR _ | exact slN _ | apply slC | apply slD) ?_
    refine j_perm (S' := [o.heap]) (List.Perm.of_eq (by simp [SM.heap])) ?_
    refine j_ret_con (vs := [_]) (fun w' hw' => ⟨rfl, trivial⟩) ?_
    refine ⟨o, rfl, rfl, cp_end h hcp ?_ hsub (fun q hq => ?_), hvo⟩
    · have := hit.nd
      rwa [List.map_map] at this
    · have := hend (q.1, fptr q.2) (List.mem_map.2 ⟨q, hq, rfl⟩)
      obtain ⟨x, hx, e⟩ := List.mem_map.1 this
      have h1 := alook_of_mem h.raw.nd (hsub x hx)
      have h2 := alook_of_mem h.raw.nd hq
      injection e with e1 e2
      rw [e1] at h1
      rw [h1] at h2
      injection h2 with h2
      have : x = q := Prod.ext e1 h2
      rw [← this]
      exact hx
end Go.Proofs.Ytckpegkpdepokaa
/-! Ft4 -/
namespace Go.Proofs.Ytckpegkpdepokaa
open Go Go.Sx
set_option maxRecDepth 100000
set_option maxHeartbeats 4000000
set_option linter.unusedVariables false
set_option linter.unusedSimpArgs false
attribute [local irreducible] J JQ QS Con W opW
open Go.MapKept Go.WideMaps Go.Maps
def keepN (len : Nat) (keep : Int) : Nat := (max 0 (min (len : Int) keep)).toNat
def crashF (a : AF) (keep : Int) : AF := { a with base := runA a.base (a.pend.take (keepN a.pend.length keep)), pend := [], fused := false }
def fuseF (a : AF) (n : Int) : AF := { a with fused := decide (0 ≤ n), left := max 0 n }
def burnL (a : AF) : Int := if a.fused then a.left - 1 else a.left
def syncF (a : AF) : AF := { a with base := a.now, pend := [], left := burnL a }
structure FR.To (w : World) (r r' : FR) : Prop where
  gf : r'.gf = r.gf
  gr : Gr w r.heap r.P r'.P
  xs : ∀ q ∈ r.X, q ∈ r'.X
theorem FR.To.refl (w : World) (r : FR) : FR.To w r r := ⟨rfl, Gr.refl _ _ _, fun q h => h⟩
theorem FR.Ok.len {r : FR} {a : AF} (h : r.Ok a) : r.ms.length = a.pend.length := by rw [← h.pd, List.length_map]
abbrev lastR (r : FR) (ls : SM) (P : List BK) : FR := { r with ls := ls, P := P, ms := [], tv := .slice none 0 0, tc := [] }
theorem FR.hgf {r : FR} {w : World} (h : In w r.heap) : w.heap[r.gf]? = some r.fm.obj := FM.in_gf h
theorem fuse_con (r : FR) (a : AF) (n : Int) (w : World) (hok : r.Ok a) (hn : -9223372036854775808 ≤ n ∧ n ≤ 9223372036854775807) : Con Try.prog 18 [r.ptr, .int .i64 n] w r.heap fun _ S' => ∃ r' : FR, S' = [r'.heap] ∧ r'.Ok (fuseF a n) ∧ FR.To w r r' := by
  refine con_of_tree mix Try.func18 T18_ok (by kernel_rfl) ?_
  unfold T18
  refine j_perm (S' := r.parts) r.split ?_
  refine j_q (qs_pnnil Try.underlying25 rfl) ?_
  refine j_cond rfl (fun hc0 => ?_) (fun hc0 => ?_)
  · skip
    refine j_q (qs_geq rfl rfl) ?_
    refine j_q (qs_max rfl rfl) ?_
    refine j_q (qs_nil rfl) ?_
    refine j_q (qs_field Try.underlying62 rfl sz4 (by decide) rfl) ?_
    refine j_store (l := fmcells r.fm) 0 sz4 rfl rfl rfl rfl (by simp) (by simp) ?_
    refine j_q (qs_nil rfl) ?_
    refine j_q (qs_field Try.underlying62 rfl sz3 (by decide) rfl) ?_
    refine j_store (l := fmcells ({ r with fused := decide (0 ≤ n) } : FR).fm) 0 sz3 rfl rfl rfl rfl (by simp) (by simp) ?_
    refine j_perm (S' := FR.parts ({ r with fused := decide (0 ≤ n), left := max 0 n } : FR)) (.refl _) ?_
    refine j_perm (S' := [FR.heap ({ r with fused := decide (0 ≤ n), left := max 0 n } : FR)]) (FR.split ({ r with fused := decide (0 ≤ n), left := max 0 n } : FR)).symm ?_
    refine j_ret_con (vs := []) (fun w' hw' => trivial) ?_
    exact ⟨_, rfl, ⟨hok.rm, rfl, rfl, ⟨Int.le_max_left 0 n, by show max 0 n ≤ 9223372036854775807; omega⟩, hok.pd, hok.row, hok.lt, hok.bx, hok.mo, hok.ok, hok.ls, hok.lv, hok.now, hok.nv⟩, rfl, Gr.refl _ _ _, fun q h => h⟩
  · skip
    simp at hc0
theorem sync_con (r : FR) (a : AF) (w : World) (hok : r.Ok a) : Con Try.prog 20 [r.ptr] w r.heap fun v S' => v = .int .i64 (mayE a.fused a.left []) ∧ ∃ r' : FR, S' = [r'.heap] ∧ r'.Ok (if mayE a.fused a.left [] = 0 then syncF a else a) ∧ FR.To w r r' := by
  refine con_of_tree mix Try.func20 T20_ok (by kernel_rfl) ?_
  unfold T20
  obtain ⟨n1, A1, cap1, htv, hn1⟩ := own_form hok.row (by decide)
  rw [Nat.mul_one, List.length_map] at hn1
  subst hn1
  have hmay : mayE r.fused r.left [] = mayE a.fused a.left [] := by rw [hok.fu, hok.le]
  refine j_q (qs_ac) ?_
  refine j_q (qs_call ent32 rfl rfl rfl (fun w' hw' => may_con r.fm [] _ w' (in_own hw' 0 rfl) (.inl ⟨rfl, rfl⟩) (by simp))) ?_
  refine j_q (qs_neq rfl rfl) ?_
  refine j_cond rfl (fun hc0 => ?_) (fun hc0 => ?_)
  · skip
    have hm : mayE a.fused a.left [] ≠ 0 := by
      rw [← hmay]
      simpa using hc0
    refine j_ret_con (vs := [_]) (fun w' hw' => ⟨rfl, trivial⟩) ?_
    rw [if_neg hm]
    exact ⟨congrArg (Value.int .i64) hmay, r, rfl, hok, FR.To.refl _ _⟩
  · skip
    have hm : mayE a.fused a.left [] = 0 := by
      rw [← hmay]
      simpa using hc0
    refine j_perm (S' := r.parts) r.split ?_
    refine j_q (qs_nil rfl) ?_
    refine j_q (qs_field Try.underlying62 rfl sz60 (by decide) rfl) ?_
    refine j_q (qs_load (l := fmcells r.fm) 0 Try.underlying60 rfl rfl rfl rfl) ?_
    refine j_q (qs_lenl (n := r.ms.length) (A := A1) (c := cap1) Try.underlying60 htv) ?_
    refine j_perm (S' := [r.heap]) r.split.symm ?_
    refine j_call 0 ent45 rfl rfl rfl rfl (fun w' hw' => (last_con r a r.ms.length w' hok (Nat.le_refl _)).mono (fun u S3 h3 => by
      obtain ⟨ls, P, h1, h2, h3, h4, h5, h6⟩ := h3
      exact (⟨ls, P, h1, h2, h3, h4, h5, h6.old hw'.size⟩ : ∃ (ls : SM) (P : List BK), S3 = [FR.heap (lastR r ls P)] ∧ ls.gs = r.ls.gs ∧ Sx' ls (runA a.base (a.pend.take r.ms.length)) ∧ VwA P ls ∧ VwA P r.now ∧ Gr w r.heap r.P P))) (fun u S2 hu => ?_)
    obtain ⟨ls, P, rfl, hgs, hls, hlv, hnv, hgr⟩ := hu
    refine j_perm (S' := FR.parts (lastR r ls P)) (by
      classical
      refine List.perm_iff_count.2 fun x => ?_
      simp only [FM.heap, FR.parts, List.set, List.flatten_cons, List.flatten_nil, List.append_nil, List.nil_append, List.cons_append, List.count_append, List.count_cons, List.count_nil] <;> omega) ?_
    refine j_call 0 ent46 rfl rfl rfl rfl (fun w' hw' => burns_con (lastR r ls P).fm w' (by have := hok.l0; show _ ≤ r.left ∧ r.left ≤ _; omega)) (fun u S2 hu => ?_)
    subst hu
    refine j_q (qs_ac) ?_
    refine j_perm (S' := [[(r.gf, FM.obj (FR.fm { lastR r ls P with left := if r.fused then r.left - 1 else r.left }))], [], ls.heap ++ ph P, [], r.now.heap, r.X]) (.refl _) ?_
    refine j_perm (S' := [FR.heap { lastR r ls P with left := if r.fused then r.left - 1 else r.left }]) (by
      classical
      refine List.perm_iff_count.2 fun x => ?_
      simp only [FM.heap, FR.parts, List.set, List.flatten_cons, List.flatten_nil, List.append_nil, List.nil_append, List.cons_append, List.count_append, List.count_cons, List.count_nil] <;> omega) ?_
    refine j_ret_con (vs := [_]) (fun w' hw' => ⟨rfl, trivial⟩) ?_
    rw [if_pos hm]
    refine ⟨by rw [hm]; rfl, _, rfl, ?_, rfl, ?_, fun q h => h⟩
    · rw [hok.len, List.take_length] at hls
      have hb : (if r.fused = true then r.left - 1 else r.left) = burnL a := by
        unfold burnL
        rw [hok.fu, hok.le]
      refine ⟨hok.rm, hok.fu, hb, ?_, rfl, own_nil, Nat.zero_le _, (fun m hm => by cases hm), (fun m hm => by cases hm), okA_end hok.ok, hls, hlv, hok.now, hnv⟩
      have h0 := hok.l0
      show 0 ≤ (if r.fused = true then r.left - 1 else r.left) ∧ (if r.fused = true then r.left - 1 else r.left) ≤ _
      have hz : r.fused = true → r.left ≠ 0 := fun hf hl => by
        unfold mayE at hm
        rw [← hok.fu, ← hok.le, hf, hl] at hm
        simp at hm
      split
      · rename_i hf
        have := hz hf
        omega
      · exact h0
    · exact hgr
theorem crash_con (r : FR) (a : AF) (keep : Int) (w : World) (hok : r.Ok a) : Con Try.prog 21 [r.ptr, .int .i64 keep] w r.heap fun _ S' => ∃ r' : FR, S' = [r'.heap] ∧ r'.Ok (crashF a keep) ∧ FR.To w r r' := by
  refine con_of_tree mix Try.func21 T21_ok (by kernel_rfl) ?_
  unfold T21
  obtain ⟨n1, A1, cap1, htv, hn1⟩ := own_form hok.row (by decide)
  rw [Nat.mul_one, List.length_map] at hn1
  subst hn1
  refine j_q (qs_pnil Try.underlying25 rfl) ?_
  refine j_cond rfl (fun hc0 => ?_) (fun hc0 => ?_)
  · skip
    simp at hc0
  · skip
    refine j_call0 ent47 rfl rfl rfl (fun w' hw' => ready_con r.fm w' (in_own hw' 0 rfl)) (fun u S2 hu => ?_)
    refine j_subl (S' := [r.heap]) (by simp) ?_
    refine j_perm (S' := r.parts) r.split ?_
    refine j_q (qs_nil rfl) ?_
    refine j_q (qs_field Try.underlying62 rfl sz60 (by decide) rfl) ?_
    refine j_q (qs_load (l := fmcells r.fm) 0 Try.underlying60 rfl rfl rfl rfl) ?_
    refine j_q (qs_lenl (n := r.ms.length) (A := A1) (c := cap1) Try.underlying60 htv) ?_
    refine j_q (qs_min rfl rfl) ?_
    refine j_q (qs_max rfl rfl) ?_
    obtain ⟨k, hk⟩ : ∃ k, k = keepN r.ms.length keep := ⟨_, rfl⟩
    have hk2 : max 0 (min (r.ms.length : Int) keep) = (k : Int) := by rw [hk]; unfold keepN; omega
    rw [hk2]
    refine j_perm (S' := [r.heap]) r.split.symm ?_
    refine j_call 0 ent45 rfl rfl rfl rfl (fun w' hw' => (last_con r a k w' hok (by rw [hk]; unfold keepN; omega)).mono (fun u S3 h3 => by
      obtain ⟨ls, P, h1, h2, h3, h4, h5, h6⟩ := h3
      exact (⟨ls, P, h1, h2, h3, h4, h5, h6.old hw'.size⟩ : ∃ (ls : SM) (P : List BK), S3 = [FR.heap (lastR r ls P)] ∧ ls.gs = r.ls.gs ∧ Sx' ls (runA a.base (a.pend.take k)) ∧ VwA P ls ∧ VwA P r.now ∧ Gr w r.heap r.P P))) (fun u S2 hu => ?_)
    obtain ⟨ls, P, rfl, hgs, hls, hlv, hnv, hgr⟩ := hu
    refine j_perm (S' := FR.parts (lastR r ls P)) (by
      classical
      refine List.perm_iff_count.2 fun x => ?_
      simp only [FM.heap, FR.parts, List.set, List.flatten_cons, List.flatten_nil, List.append_nil, List.nil_append, List.cons_append, List.count_append, List.count_cons, List.count_nil] <;> omega) ?_
    refine j_q (qs_nil rfl) ?_
    refine j_q (qs_field Try.underlying62 rfl sz58 (by decide) rfl) ?_
    refine j_q (qs_load (l := fmcells (lastR r ls P).fm) 0 Try.underlying58 rfl rfl rfl rfl) ?_
    refine j_call0 ent48 rfl rfl rfl (fun w' hw' => copied_con ls (runA a.base (a.pend.take k)) P w' hls hlv (okA_run hok.ok k) (fun q hq => in_own hw' 1 rfl q (List.mem_append_left _ hq))) (fun u S2 hu => ?_)
    obtain ⟨o, rfl, rfl, ho, hvo⟩ := hu
    refine j_q (qs_nil rfl) ?_
    refine j_q (qs_field Try.underlying62 rfl sz58 (by decide) rfl) ?_
    refine j_store (l := fmcells (lastR r ls P).fm) 1 sz58 rfl rfl rfl rfl (by simp) (by simp) ?_
    refine j_q (qs_nil rfl) ?_
    refine j_q (qs_field Try.underlying62 rfl sz4 (by decide) rfl) ?_
    refine j_store (l := fmcells ({ lastR r ls P with now := o } : FR).fm) 1 sz4 rfl rfl rfl rfl (by simp) (by simp) ?_
    refine j_perm (S' := [o.heap, [(r.gf, FM.obj (FR.fm ({ lastR r ls P with now := o, fused := false } : FR)))], ls.heap ++ ph P, [], r.now.heap, r.X]) (.refl _) ?_
    refine j_subl (S' := [o.heap, [(r.gf, FM.obj (FR.fm ({ lastR r ls P with now := o, fused := false } : FR)))], ls.heap ++ ph P, r.X]) (by repeat first | exact slR _ | exact slN _ | apply slC | apply slD) ?_
    refine j_perm (S' := [FR.heap ({ lastR r ls P with now := o, fused := false } : FR)]) (by
      classical
      refine List.perm_iff_count.2 fun x => ?_
      simp only [FM.heap, FR.parts, List.set, List.flatten_cons, List.flatten_nil, List.append_nil, List.nil_append, List.cons_append, List.count_append, List.count_cons, List.count_nil] <;> omega) ?_
    refine j_ret_con (vs := []) (fun w' hw' => trivial) ?_
    rw [hok.len] at hk
    subst hk
    exact ⟨_, rfl, ⟨hok.rm, rfl, hok.le, hok.l0, rfl, own_nil, Nat.zero_le _, (fun m hm => by cases hm), (fun m hm => by cases hm), okA_run hok.ok _, hls, hlv, ho, hvo⟩, rfl, hgr, fun q h => h⟩
end Go.Proofs.Ytckpegkpdepokaa
/-! Ft5 -/
namespace Go.Proofs.Ytckpegkpdepokaa
open Go Go.Sx
set_option maxRecDepth 100000
set_option maxHeartbeats 4000000
set_option linter.unusedVariables false
set_option linter.unusedSimpArgs false
attribute [local irreducible] J JQ QS Con W opW
open Go.MapKept Go.WideMaps Go.Maps
theorem FR.Ok.fm {r : FR} {a : AF} (h : r.Ok a) {B : Nat} (hB : a.pend.length ≤ B) : FM.Ok B r.fm := ⟨h.row, by show (r.ms.map MT.val).length ≤ B; rw [List.length_map, h.len]; exact hB, h.now.raw, h.nv, rfl⟩
theorem VwA.more {P P' : List BK} {s : SM} (hs : ∀ b ∈ P, b ∈ P') (h : VwA P s) : VwA P' s := fun x hx => (h x hx).more hs
theorem FR.Ok.more {r : FR} {a : AF} (h : r.Ok a) (X : SH) (Q : List BK) : FR.Ok { r with X := X ++ r.X, P := Q ++ r.P } a := by
  have hs : ∀ b ∈ r.P, b ∈ Q ++ r.P := fun b hb => List.mem_append_right _ hb
  exact ⟨h.rm, h.fu, h.le, h.l0, h.pd, h.row, h.lt, fun m hm q hq => List.mem_append_right _ (h.bx m hm q hq), fun m hm => MT.ok_mono (h.mo m hm) (fun v xs hv => hv.more hs), h.ok, h.ls, h.lv.more hs, h.now, h.nv.more hs⟩
theorem Gr.more (w : World) (Fp : SH) (Q P : List BK) : Gr w Fp P (Q ++ P) := ⟨fun v xs h => h.more (fun b hb => List.mem_append_right _ hb), fun o _ _ v xs h => h.more (fun b hb => List.mem_append_right _ hb)⟩
def stepF (a : AF) (t : AT) : AF := { a with pend := a.pend ++ [t], left := burnL a }
theorem doesR_con (r : FR) (a : AF) (mt : MT) (w : World) (hok : r.Ok a) (hB : a.pend.length < 16384) (hz : a.fused = true → a.left ≠ 0) (hmo : mt.ok r.P) (hbx : ∀ q ∈ mt.h, q ∈ r.X) (hcan : canA a.now mt.abs) (hlim : limA (doA a.now mt.abs)) :
    Con Try.prog 34 [r.ptr, mt.val] w r.heap fun v S' => v = .int .i64 0 ∧ ∃ r' : FR, S' = [r'.heap] ∧ r'.Ok (stepF a mt.abs) ∧ FR.To w r r' := by
  have hl0 := hok.l0
  have hsub : ∀ q ∈ mt.h, q ∈ r.fm.more := fun q hq => List.mem_append_right _ (hbx q hq)
  refine (does_con r.fm a.pend.length (by omega) mt.fid mt.caps.toArray (fun s' P' => Sx' s' (doA a.now mt.abs) ∧ VwA P' s' ∧ (P' = r.P ∨ ∃ f ∈ r.now.fs, PLe f.g r.P P' ∧ f.g ∉ dom (r.ls.heap))) w (hok.fm (Nat.le_refl _)) (by show _ ≤ r.left ∧ r.left ≤ _; omega) mt.ent (fun w2 hin hdj => (thing_con r.now r.P a.now mt w2 hok.now hok.nv (okA_end hok.ok) hmo hcan (fun q hq => hin q (hsub q hq)) (fun g hg => by
    obtain ⟨q, hq, e⟩ := List.mem_map.1 hg
    exact hdj g (List.mem_map.2 ⟨q, hsub q hq, e⟩))).mono (fun u S3 h3 => by
      obtain ⟨s', P', h1, h2, h4, h5, h6⟩ := h3
      refine ⟨s', P', h1, h2, h4, h5, ?_⟩
      rcases h6 with h6 | ⟨f, hf, h6⟩
      · exact .inl h6
      · exact .inr ⟨f, hf, h6, fun hx => hdj f.g (by
          obtain ⟨q, hq, e⟩ := List.mem_map.1 hx
          exact List.mem_map.2 ⟨q, List.mem_append_left _ hq, e⟩) (by
          rw [dom, List.map_append]
          exact List.mem_append_left _ (dom_gs hf))⟩))).mono (fun u S4 h4 => ?_)
  obtain ⟨rfl, s', P', tv, tc, rfl, hrow, hgs, hs', hv', hP⟩ := h4
  have hrv : ∀ v xs, RV r.P v xs → RV P' v xs := fun v xs h => by
    rcases hP with rfl | ⟨f, hf, h6, _⟩
    · exact h
    · exact h.mono h6
  have hb : (if r.fused = true then r.left - 1 else r.left) = burnL a := by
    unfold burnL
    rw [hok.fu, hok.le]
  have hb0 : 0 ≤ burnL a ∧ burnL a ≤ 9223372036854775807 := by
    unfold burnL
    rw [hok.le] at hl0
    split
    · rename_i hf
      have := hz hf
      omega
    · exact hl0
  refine ⟨rfl, { r with now := s', P := P', ms := r.ms ++ [mt], tv := tv, tc := tc, left := if r.fused then r.left - 1 else r.left }, ?_, ⟨hok.rm, hok.fu, hb, by show 0 ≤ (if r.fused = true then r.left - 1 else r.left) ∧ _; rw [hb]; exact hb0, by show (r.ms ++ [mt]).map MT.abs = a.pend ++ [mt.abs]; rw [List.map_append, hok.pd]; rfl, ?_, ?_, ?_, ?_, okA_append hok.ok hcan hlim, hok.ls, ?_, by show Sx' s' (runA a.base (a.pend ++ [mt.abs])); rw [runA_snoc]; exact hs', hv'⟩, rfl, ⟨hrv, fun o ho hod v xs h => ?_⟩, fun q hq => hq⟩
  · rfl
  · show Sx.Own 100 1 ((r.ms ++ [mt]).map MT.val) tv tc
    rw [List.map_append]
    exact hrow
  · show (r.ms ++ [mt]).length ≤ 16384
    rw [List.length_append, hok.len]
    simp only [List.length_singleton]
    omega
  · intro m hm q hq
    rcases List.mem_append.1 hm with hm | hm
    · exact hok.bx m hm q hq
    · rw [List.mem_singleton] at hm
      subst hm
      exact hbx q hq
  · intro m hm
    rcases List.mem_append.1 hm with hm | hm
    · exact MT.ok_mono (hok.mo m hm) hrv
    · rw [List.mem_singleton] at hm
      subst hm
      exact MT.ok_mono hmo hrv
  · rcases hP with rfl | ⟨f, hf, h6, h7⟩
    · exact hok.lv
    · exact fun x hx => (hok.lv x hx).mono h6 (fun e => h7 (e ▸ dom_gs hx))
  · rcases hP with rfl | ⟨f, hf, h6, h7⟩
    · exact h
    · exact h.mono h6 (fun e => hod (by
        rw [e]
        obtain ⟨q, hq, e2⟩ := List.mem_map.1 (dom_gs hf)
        exact List.mem_map.2 ⟨q, by simp only [FM.heap]; simp [hq], e2⟩))
end Go.Proofs.Ytckpegkpdepokaa
/-! Ft6 -/
namespace Go.Proofs.Ytckpegkpdepokaa
open Go Go.Sx
set_option maxRecDepth 100000
set_option maxHeartbeats 4000000
set_option linter.unusedVariables false
set_option linter.unusedSimpArgs false
attribute [local irreducible] J JQ QS Con W opW
open Go.MapKept Go.WideMaps Go.Maps
def freesA (s : AS) (n : List UInt8) : Nat :=
  match alook s.nm n with
  | none => 0
  | some i => if cntA s.nm i = 1 then (s.dt i).length else 0
def fullA (a : AF) (n xs : List UInt8) : Prop := (alook a.now.nm n = none ∧ 16384 ≤ a.now.nm.length) ∨ a.room < a.now.used - (freesA a.now n : Int) + (xs.length : Int)
instance (a : AF) (n xs : List UInt8) : Decidable (fullA a n xs) := by unfold fullA; infer_instance
def wrE (a : AF) (n xs : List UInt8) : Int := if mayE a.fused a.left [n] ≠ 0 then mayE a.fused a.left [n] else if 1048576 < xs.length then 5 else if fullA a n xs then 6 else 0
theorem letsA_free (s : AS) (n : List UInt8) : alook (letsA s n).nm n = none := by
  unfold letsA
  split
  · rename_i h
    exact h
  · show alook (mdel s.nm n) n = none
    rw [alook_mdel, if_pos rfl]
theorem letsA_none {s : AS} {n : List UInt8} (h : alook s.nm n = none) : letsA s n = s := by
  unfold letsA
  rw [h]
theorem letsA_used (s : AS) (n : List UInt8) : (letsA s n).used = s.used - (freesA s n : Int) := by
  cases h : alook s.nm n with
  | none =>
    rw [letsA_none h]
    simp only [freesA, h]
    omega
  | some i =>
    simp only [letsA, freesA, h]
    split
    · rfl
    · omega
theorem writeA_eq (s : AS) (n xs : List UInt8) (i : Nat) : writeA s n xs i = ⟨(letsA s n).nm ++ [(n, i)], updA (letsA s n).dt i xs, (letsA s n).used + (xs.length : Int)⟩ := by
  have h := letsA_free s n
  unfold writeA givesA
  simp only
  rw [if_neg (by rw [h]; simp)]
  have e : letsA { letsA s n with dt := updA (letsA s n).dt i xs } n = { letsA s n with dt := updA (letsA s n).dt i xs } := letsA_none h
  rw [e]
theorem mdel_len {s : AS} {n : List UInt8} {i : Nat} (hn : (s.nm.map Prod.fst).Nodup) (hl : alook s.nm n = some i) : (mdel s.nm n).length + 1 = s.nm.length := by
  obtain ⟨A, B, e, hA⟩ := alook_split hl
  rw [e] at hn ⊢
  rw [List.map_append, List.map_cons, List.nodup_append, List.nodup_cons] at hn
  have hb : ∀ q ∈ B, q.1 ≠ n := fun q hq e => hn.2.1.1 (by rw [← e]; exact List.mem_map.2 ⟨q, hq, rfl⟩)
  have e1 : mdel (A ++ (n, i) :: B) n = A ++ B := by
    unfold mdel
    rw [List.filter_append, List.filter_cons_of_neg (by simp), List.filter_eq_self.2 (fun q hq => by simpa using hA q hq), List.filter_eq_self.2 (fun q hq => by simpa using hb q hq)]
  rw [e1]
  simp only [List.length_append, List.length_cons]
  omega
theorem write_lim {a : AF} {n xs : List UInt8} {i : Nat} (hn : (a.now.nm.map Prod.fst).Nodup) (hl : limA a.now) (hr : a.room ≤ 1073741824) (hf : ¬ fullA a n xs) : limA (writeA a.now n xs i) := by
  unfold fullA at hf
  rw [not_or] at hf
  rw [writeA_eq]
  refine ⟨?_, ?_⟩
  · show (letsA a.now n).used + (xs.length : Int) ≤ _
    rw [letsA_used]
    have := hf.2
    omega
  · show ((letsA a.now n).nm ++ [(n, i)]).length ≤ _
    rw [List.length_append, List.length_singleton]
    cases h : alook a.now.nm n with
    | none =>
      have e : letsA a.now n = a.now := by unfold letsA; rw [h]
      rw [e]
      have h1 := hf.1
      rw [not_and] at h1
      have := h1 h
      omega
    | some j =>
      have e : (letsA a.now n).nm = mdel a.now.nm n := by unfold letsA; rw [h]
      rw [e]
      have := mdel_len hn h
      have := hl.2
      omega
theorem FR.To.old {w w' : World} {r R1 r' : FR} {S : List SH} (h : FR.To w' R1 r') (hw' : Sig ⟨w, dom r.heap⟩ S w') (k : Nat) (hk : S[k]? = some R1.heap) (hg : R1.gf = r.gf) (hx : ∀ q ∈ r.X, q ∈ R1.X) (hp : ∀ b ∈ r.P, b ∈ R1.P) : FR.To w r r' := by
  refine ⟨h.gf.trans hg, ⟨fun v xs hv => h.gr.1 v xs (hv.more hp), fun o ho hod v xs hv => h.gr.2 o (Nat.lt_of_lt_of_le ho hw'.size) (fun hd => ?_) v xs (hv.more hp)⟩, fun q hq => h.xs q (hx q hq)⟩
  obtain ⟨q, hq, e⟩ := List.mem_map.1 hd
  rcases hw'.dom_ o (List.mem_map.2 ⟨q, mem_flatten_of hk hq, e⟩) with h1 | h1
  · exact hod h1
  · exact absurd ho (Nat.not_lt.2 h1)
theorem write0_con (r : FR) (a : AF) (n : List UInt8) (bv : Value) (xs : List UInt8) (id : Nat) (w : World) (hok : r.Ok a) (hn : strOk n) (hbr : BR w bv xs) (hbd : ∀ (a : Addr) (m c : Nat), bv = .slice (some a) m c → 0 < m → a.block ∉ dom r.heap) (hxl : xs.length ≤ 1000000000) (hB : a.pend.length < 16384) (hrm : a.room ≤ 1073741824) (hid : ∀ q ∈ a.now.nm, q.2 ≠ id) (hlk : alook r.now.ml n = none) : Con Try.prog 13 [r.ptr, .string (bs n), bv] w r.heap fun v S' => v = .int .i64 (wrE a n xs) ∧ ∃ r' : FR, S' = [r'.heap] ∧ r'.Ok (if wrE a n xs = 0 then stepF a (.wr n xs id) else a) ∧ FR.To w r r' := by
  refine con_of_tree mix Try.func13 T13_ok (by kernel_rfl) ?_
  unfold T13
  obtain ⟨A, cap, hbv, hcap⟩ := br_form hbr
  have hone : oneV bv = true := by rw [hbv]; rfl
  have hmay : mayE r.fused r.left [n] = mayE a.fused a.left [n] := by rw [hok.fu, hok.le]
  have hlim := okA_end hok.ok
  have hu1 : a.now.used ≤ 1073741824 := hlim.1
  have hl2 : a.now.nm.length ≤ 16384 := hlim.2
  have hut : r.now.used + 0 = (tot r.now.fs : Int) := hok.now.ex.ut
  have hus : r.now.used = a.now.used := hok.now.rep.us
  have hlen : r.now.ml.length = a.now.nm.length := hok.now.rep.len
  have hrm2 := hok.rm
  refine j_box (l := [.string (bs n)]) rfl (fun g0 hg0 hs0 => ?_)
  refine j_box (l := [bv]) (by show bv.cells = #[bv]; rw [hbv]; rfl) (fun g1 hg1 hs1 => ?_)
  refine j_q (qs_ac) ?_
  refine j_q (qs_load (l := [.string (bs n)]) 1 Try.underlying9 rfl rfl rfl rfl) ?_
  refine j_lit (vs := [.string (bs _)]) Try.underlying41 sz9 zero9 rfl (by simp [oneV]) ⟨rfl, by decide⟩ (fun g4 v4 c4 hv4 hc4 ho4 => ?_)
  subst hv4 hc4
  refine j_q (qs_call ent32 rfl rfl rfl (fun w' hw' => may_con r.fm [n] _ w' (in_own hw' 3 rfl) (rsl_own ho4 0 rfl hw') (by simp))) ?_
  refine j_q (qs_neq rfl rfl) ?_
  refine j_cond rfl (fun hc0 => ?_) (fun hc0 => ?_)
  · skip
    have hm : mayE a.fused a.left [n] ≠ 0 := by
      rw [← hmay]
      simpa using hc0
    refine j_subl (S' := [r.heap]) (by repeat first | exact slR _ | exact slN _ | apply slC | apply slD) ?_
    have hwe : wrE a n xs = mayE a.fused a.left [n] := by
      unfold wrE
      rw [if_pos hm]
    refine j_ret_con (vs := [_]) (fun w' hw' => ⟨rfl, trivial⟩) ?_
    rw [hwe]
    refine ⟨congrArg (Value.int .i64) hmay, r, rfl, ?_, FR.To.refl _ _⟩
    rw [if_neg hm]
    exact hok
  · skip
    have hm : mayE a.fused a.left [n] = 0 := by
      rw [← hmay]
      simpa using hc0
    have hz : a.fused = true → a.left ≠ 0 := fun hf hl => by
      unfold mayE at hm
      rw [hf, hl] at hm
      simp at hm
    refine j_q (qs_load (l := [bv]) 1 Try.underlying23 rfl rfl rfl rfl) ?_
    refine j_q (qs_lenl (n := xs.length) (A := A) (c := cap) Try.underlying23 hbv) ?_
    refine j_q (qs_gtr rfl rfl) ?_
    refine j_cond rfl (fun hc1 => ?_) (fun hc1 => ?_)
    · skip
      have hlong : 1048576 < xs.length := by
        have h5 : (xs.length : Int) > 1048576 := by simpa using hc1
        omega
      refine j_q (qs_ac) ?_
      refine j_subl (S' := [r.heap]) (by repeat first | exact slR _ | exact slN _ | apply slC | apply slD) ?_
      have hwe : wrE a n xs = 5 := by
        unfold wrE
        rw [if_neg (by rw [hm]; simp), if_pos (by omega)]
      refine j_ret_con (vs := [_]) (fun w' hw' => ⟨rfl, trivial⟩) ?_
      rw [hwe]
      refine ⟨rfl, r, rfl, ?_, FR.To.refl _ _⟩
      rw [if_neg (by decide)]
      exact hok
    · skip
      have hlong : ¬ 1048576 < xs.length := by
        have h5 : ¬ (xs.length : Int) > 1048576 := by simpa using hc1
        omega
      refine j_perm (S' := [[(g4, .cells [Value.string (bs n)].toArray 9 (0, 0))], [(g1, .cells [bv].toArray 23 (0, 0))], [(g0, .cells [.string (bs n)].toArray 9 (0, 0))], [(r.gf, r.fm.obj)], [(r.now.gs, r.now.sobj)], [(r.now.gm, .map r.now.es r.now.ck)], r.now.fs.map FL.h, r.tc ++ (r.ls.heap ++ r.X) ++ ph r.P]) (by
        classical
        refine List.perm_iff_count.2 fun x => ?_
        simp only [FM.heap, FM.obj, fmcells, SM.heap, ph, List.map_append, List.set, List.flatten_cons, List.flatten_nil, List.append_nil, List.nil_append, List.cons_append, List.count_append, List.count_cons, List.count_nil] <;> omega) ?_
      refine j_draw ?_
      refine jq_q (qs_nil rfl) ?_
      refine jq_q (qs_field Try.underlying62 rfl sz58 (by decide) rfl) ?_
      refine jq_q (qs_load (l := fmcells r.fm) 3 Try.underlying58 rfl rfl rfl rfl) ?_
      refine jq_q (qs_nil rfl) ?_
      refine jq_q (qs_field Try.underlying66 rfl sz64 (by decide) rfl) ?_
      refine jq_q (qs_load (l := smcells r.now) 4 Try.underlying64 rfl rfl rfl rfl) ?_
      refine jq_q (qs_load (l := [.string (bs n)]) 2 Try.underlying9 rfl rfl rfl rfl) ?_
      refine jq_q (qs_lookup (key := n) strKey 5 Try.underlying64 zv63 rfl rfl rfl hok.now.raw.map hn) ?_
      rw [mlook_map fptr, getD_fptr, hlk]
      refine jq_nil ?_
      refine j_q (qs_ac) ?_
      refine j_q (qs_pnnil Try.underlying63 rfl) ?_
      refine j_gf rfl (by simp) ?_
      refine j_gf rfl (by simp) ?_
      refine j_gf rfl (by simp) ?_
      refine j_gf rfl (by simp) ?_
      refine j_gf rfl (by simp) ?_
      refine j_q (qs_and (b0 := false) (b1 := false) rfl rfl) ?_
      refine j_cond rfl (fun hc2 => ?_) (fun hc2 => ?_)
      · skip
        simp [gd] at hc2
      · skip
        refine j_draw ?_
        refine jq_q (qs_pnil Try.underlying63 rfl) ?_
        refine jq_g rfl (fun hb => qs_mt rfl) ?_
        refine jq_g rfl (fun hb => qs_nil (gd_eq hb)) ?_
        refine jq_g rfl (fun hb => qs_field Try.underlying62 rfl sz58 (by decide) (gd_eq hb)) ?_
        refine jq_g rfl (fun hb => qs_load (l := fmcells r.fm) 3 Try.underlying58 rfl (gd_eq hb) rfl rfl) ?_
        refine jq_g rfl (fun hb => qs_nil (gd_eq hb)) ?_
        refine jq_g rfl (fun hb => qs_field Try.underlying66 rfl sz64 (by decide) (gd_eq hb)) ?_
        refine jq_g rfl (fun hb => qs_load (l := smcells r.now) 4 Try.underlying64 rfl (gd_eq hb) rfl rfl) ?_
        refine jq_g rfl (fun hb => qs_maplen (rdo_mem (o := .map r.now.es r.now.ck) 5 rfl (by simp)) Try.underlying64 (gd_eq hb) hok.now.raw.map) ?_
        refine jq_g rfl (fun hb => qs_geq (gd_eq hb) rfl) ?_
        refine jq_q (qs_and rfl rfl) ?_
        refine jq_g rfl (fun hb => qs_mt rfl) ?_
        refine jq_g rfl (fun hb => qs_nil (gd_eq hb)) ?_
        refine jq_g rfl (fun hb => qs_field Try.underlying62 rfl sz58 (by decide) (gd_eq hb)) ?_
        refine jq_g rfl (fun hb => qs_load (l := fmcells r.fm) 3 Try.underlying58 rfl (gd_eq hb) rfl rfl) ?_
        refine jq_g rfl (fun hb => qs_nil (gd_eq hb)) ?_
        refine jq_g rfl (fun hb => qs_field Try.underlying66 rfl sz3 (by decide) (gd_eq hb)) ?_
        refine jq_g rfl (fun hb => qs_load (l := smcells r.now) 4 Try.underlying3 rfl (gd_eq hb) rfl rfl) ?_
        refine jq_g rfl (fun hb => qs_mt rfl) ?_
        refine jq_g rfl (fun hb => qs_sub64 (gd_eq hb) (gd_eq hb) (by first | omega | (simp only [bnA] at *; omega))) ?_
        refine jq_g rfl (fun hb => qs_load (l := [bv]) 1 Try.underlying23 rfl rfl rfl rfl) ?_
        refine jq_g rfl (fun hb => qs_lenl (n := xs.length) (A := A) (c := cap) Try.underlying23 ((gd_eq hb).trans hbv)) ?_
        refine jq_g rfl (fun hb => qs_add64 (gd_eq hb) (gd_eq hb) (by first | omega | (simp only [bnA] at *; omega))) ?_
        refine jq_g rfl (fun hb => qs_mt rfl) ?_
        refine jq_g rfl (fun hb => qs_nil (gd_eq hb)) ?_
        refine jq_g rfl (fun hb => qs_field Try.underlying62 rfl sz3 (by decide) (gd_eq hb)) ?_
        refine jq_g rfl (fun hb => qs_load (l := fmcells r.fm) 3 Try.underlying3 rfl (gd_eq hb) rfl rfl) ?_
        refine jq_g rfl (fun hb => qs_gtr (gd_eq hb) (gd_eq hb)) ?_
        refine jq_q (qs_or rfl rfl) ?_
        refine jq_nil ?_
        refine j_cond rfl (fun hc4 => ?_) (fun hc4 => ?_)
        · skip
          have hla : alook a.now.nm n = none := by
            rw [← hok.now.rep.look hok.now.raw n, hlk]
            rfl
          have hfr : freesA a.now n = 0 := by unfold freesA; rw [hla]
          have hnf : fullA a n xs := by
            unfold fullA
            rw [hfr]
            simp [gd] at hc4
            rcases hc4 with h6 | h6
            · exact .inl ⟨hla, by omega⟩
            · exact .inr (by rw [← hok.rm, ← hus]; omega)
          refine j_q (qs_ac) ?_
          refine j_subl (S' := r.fm.parts2) (by repeat first | exact slR _ | exact slN _ | apply slC | apply slD) ?_
          refine j_perm (S' := [r.heap]) r.fm.split2.symm ?_
          have hwe : wrE a n xs = 6 := by
            unfold wrE
            rw [if_neg (by rw [hm]; simp), if_neg (by omega), if_pos hnf]
          refine j_ret_con (vs := [_]) (fun w' hw' => ⟨rfl, trivial⟩) ?_
          rw [hwe]
          refine ⟨rfl, r, rfl, ?_, FR.To.refl _ _⟩
          rw [if_neg (by decide)]
          exact hok
        · skip
          have hla : alook a.now.nm n = none := by
            rw [← hok.now.rep.look hok.now.raw n, hlk]
            rfl
          have hfr : freesA a.now n = 0 := by unfold freesA; rw [hla]
          have hnf : ¬ fullA a n xs := by
            unfold fullA
            rw [hfr]
            simp [gd] at hc4
            obtain ⟨h6, h7⟩ := hc4
            rintro (⟨_, h8⟩ | h8)
            · omega
            · rw [← hok.rm, ← hus] at h8
              omega
          refine j_q (qs_load (l := [bv]) 1 Try.underlying23 rfl rfl rfl rfl) ?_
          refine j_call0 ent31 rfl rfl rfl (fun w' hw' => clone_con bv xs w' (br_keep hbr hbd hw') hxl) (fun u S2 hu1 => ?_)
          obtain ⟨Q, rfl, hrv⟩ := hu1
          obtain ⟨bv2, hbv2⟩ : ∃ y, y = u := ⟨_, rfl⟩
          rw [← hbv2] at hrv ⊢
          refine j_subl (S' := [ph Q, [(g4, .cells [Value.string (bs n)].toArray 9 (0, 0))], [(g1, .cells [bv].toArray 23 (0, 0))], [(g0, .cells [.string (bs n)].toArray 9 (0, 0))], [(r.gf, r.fm.obj)], [(r.now.gs, r.now.sobj)], [(r.now.gm, .map r.now.es r.now.ck)], r.now.fs.map FL.h, r.tc ++ (r.ls.heap ++ r.X) ++ ph r.P]) (by repeat first | exact slR _ | exact slN _ | apply slC | apply slD) ?_
          obtain ⟨A2, c2, hbe, hbc, _⟩ := hrv.form
          refine j_store (l := [bv]) 2 sz23 rfl rfl (by show oneV bv2 = true; rw [hbe]; rfl) rfl (by simp) (by simp) ?_
          refine j_q (qs_mkfuncv (vs := [.pointer (some ⟨g0, 0, none⟩), .pointer (some ⟨g1, 0, none⟩)]) rfl) ?_
          refine j_perm (S' := [ph Q, [(g4, .cells [Value.string (bs n)].toArray 9 (0, 0))], [(g1, .cells [bv2].toArray 23 (0, 0))], [(g0, .cells [.string (bs n)].toArray 9 (0, 0))], [(r.gf, r.fm.obj)], [(r.now.gs, r.now.sobj)], [(r.now.gm, .map r.now.es r.now.ck)], r.now.fs.map FL.h, r.tc ++ (r.ls.heap ++ r.X) ++ ph r.P]) (.refl _) ?_
          have hrv2 : RV (Q ++ r.P) (.slice A2 xs.length c2) xs := by
            rw [← hbe]
            exact hrv.more (fun b hb => List.mem_append_left _ hb)
          rw [hbe]
          refine j_perm (S' := [FR.heap ({ r with X := ([(g0, .cells [.string (bs n)].toArray 9 (0, 0))] ++ [(g1, .cells [.slice A2 xs.length c2].toArray 23 (0, 0))]) ++ r.X, P := Q ++ r.P } : FR), [(g4, .cells [Value.string (bs n)].toArray 9 (0, 0))]]) (by
            classical
            refine List.perm_iff_count.2 fun x => ?_
            simp only [FM.heap, FM.obj, fmcells, SM.heap, ph, List.map_append, List.set, List.flatten_cons, List.flatten_nil, List.append_nil, List.nil_append, List.cons_append, List.count_append, List.count_cons, List.count_nil] <;> omega) ?_
          refine j_call 0 ent34 rfl rfl rfl rfl (fun w' hw' => (doesR_con ({ r with X := ([(g0, .cells [.string (bs n)].toArray 9 (0, 0))] ++ [(g1, .cells [.slice A2 xs.length c2].toArray 23 (0, 0))]) ++ r.X, P := Q ++ r.P } : FR) a (.wr n xs id g0 g1 A2 c2) w' (hok.more _ _) hB hz ⟨hn, hrv2, hbc, by omega⟩ (fun q hq => List.mem_append_left _ hq) hid (write_lim (hok.now.rep.nd hok.now.raw) (okA_end hok.ok) hrm hnf)).mono (fun u S5 h5 => by
            obtain ⟨h1, r', h2, h3, h4⟩ := h5
            exact (⟨h1, r', h2, h3, h4.old hw' 0 rfl rfl (fun q hq => List.mem_append_right _ hq) (fun b hb => List.mem_append_right _ hb)⟩ : _ ∧ ∃ r' : FR, S5 = [r'.heap] ∧ r'.Ok (stepF a (.wr n xs id)) ∧ FR.To w r r'))) (fun u S5 h5 => ?_)
          obtain ⟨rfl, r', rfl, hr', hto⟩ := h5
          refine j_subl (S' := [r'.heap]) (by repeat first | exact slR _ | exact slN _ | apply slC | apply slD) ?_
          have hwe : wrE a n xs = 0 := by
            unfold wrE
            rw [if_neg (by rw [hm]; simp), if_neg (by omega), if_neg hnf]
          refine j_ret_con (vs := [_]) (fun w' hw' => ⟨rfl, trivial⟩) ?_
          rw [hwe]
          refine ⟨rfl, r', rfl, ?_, hto⟩
          rw [if_pos rfl]
          exact hr'
theorem write1_con (r : FR) (a : AF) (n : List UInt8) (bv : Value) (xs : List UInt8) (id : Nat) (w : World) (hok : r.Ok a) (hn : strOk n) (hbr : BR w bv xs) (hbd : ∀ (a : Addr) (m c : Nat), bv = .slice (some a) m c → 0 < m → a.block ∉ dom r.heap) (hxl : xs.length ≤ 1000000000) (hB : a.pend.length < 16384) (hrm : a.room ≤ 1073741824) (hid : ∀ q ∈ a.now.nm, q.2 ≠ id) (x : FL) (hx : x ∈ r.now.fs) (hlk : alook r.now.ml n = some (x.g, x.id)) : Con Try.prog 13 [r.ptr, .string (bs n), bv] w r.heap fun v S' => v = .int .i64 (wrE a n xs) ∧ ∃ r' : FR, S' = [r'.heap] ∧ r'.Ok (if wrE a n xs = 0 then stepF a (.wr n xs id) else a) ∧ FR.To w r r' := by
  refine con_of_tree mix Try.func13 T13_ok (by kernel_rfl) ?_
  unfold T13
  obtain ⟨A, cap, hbv, hcap⟩ := br_form hbr
  have hone : oneV bv = true := by rw [hbv]; rfl
  have hmay : mayE r.fused r.left [n] = mayE a.fused a.left [n] := by rw [hok.fu, hok.le]
  have hlim := okA_end hok.ok
  have hu1 : a.now.used ≤ 1073741824 := hlim.1
  have hl2 : a.now.nm.length ≤ 16384 := hlim.2
  have hut : r.now.used + 0 = (tot r.now.fs : Int) := hok.now.ex.ut
  have hus : r.now.used = a.now.used := hok.now.rep.us
  have hlen : r.now.ml.length = a.now.nm.length := hok.now.rep.len
  have hrm2 := hok.rm
  obtain ⟨xA, xc, hxv, hxl2⟩ := hok.now.raw.form x hx
  refine j_box (l := [.string (bs n)]) rfl (fun g0 hg0 hs0 => ?_)
  refine j_box (l := [bv]) (by show bv.cells = #[bv]; rw [hbv]; rfl) (fun g1 hg1 hs1 => ?_)
  refine j_q (qs_ac) ?_
  refine j_q (qs_load (l := [.string (bs n)]) 1 Try.underlying9 rfl rfl rfl rfl) ?_
  refine j_lit (vs := [.string (bs _)]) Try.underlying41 sz9 zero9 rfl (by simp [oneV]) ⟨rfl, by decide⟩ (fun g4 v4 c4 hv4 hc4 ho4 => ?_)
  subst hv4 hc4
  refine j_q (qs_call ent32 rfl rfl rfl (fun w' hw' => may_con r.fm [n] _ w' (in_own hw' 3 rfl) (rsl_own ho4 0 rfl hw') (by simp))) ?_
  refine j_q (qs_neq rfl rfl) ?_
  refine j_cond rfl (fun hc0 => ?_) (fun hc0 => ?_)
  · skip
    have hm : mayE a.fused a.left [n] ≠ 0 := by
      rw [← hmay]
      simpa using hc0
    refine j_subl (S' := [r.heap]) (by repeat first | exact slR _ | exact slN _ | apply slC | apply slD) ?_
    have hwe : wrE a n xs = mayE a.fused a.left [n] := by
      unfold wrE
      rw [if_pos hm]
    refine j_ret_con (vs := [_]) (fun w' hw' => ⟨rfl, trivial⟩) ?_
    rw [hwe]
    refine ⟨congrArg (Value.int .i64) hmay, r, rfl, ?_, FR.To.refl _ _⟩
    rw [if_neg hm]
    exact hok
  · skip
    have hm : mayE a.fused a.left [n] = 0 := by
      rw [← hmay]
      simpa using hc0
    have hz : a.fused = true → a.left ≠ 0 := fun hf hl => by
      unfold mayE at hm
      rw [hf, hl] at hm
      simp at hm
    refine j_q (qs_load (l := [bv]) 1 Try.underlying23 rfl rfl rfl rfl) ?_
    refine j_q (qs_lenl (n := xs.length) (A := A) (c := cap) Try.underlying23 hbv) ?_
    refine j_q (qs_gtr rfl rfl) ?_
    refine j_cond rfl (fun hc1 => ?_) (fun hc1 => ?_)
    · skip
      have hlong : 1048576 < xs.length := by
        have h5 : (xs.length : Int) > 1048576 := by simpa using hc1
        omega
      refine j_q (qs_ac) ?_
      refine j_subl (S' := [r.heap]) (by repeat first | exact slR _ | exact slN _ | apply slC | apply slD) ?_
      have hwe : wrE a n xs = 5 := by
        unfold wrE
        rw [if_neg (by rw [hm]; simp), if_pos (by omega)]
      refine j_ret_con (vs := [_]) (fun w' hw' => ⟨rfl, trivial⟩) ?_
      rw [hwe]
      refine ⟨rfl, r, rfl, ?_, FR.To.refl _ _⟩
      rw [if_neg (by decide)]
      exact hok
    · skip
      have hlong : ¬ 1048576 < xs.length := by
        have h5 : ¬ (xs.length : Int) > 1048576 := by simpa using hc1
        omega
      refine j_perm (S' := [[(g4, .cells [Value.string (bs n)].toArray 9 (0, 0))], [(g1, .cells [bv].toArray 23 (0, 0))], [(g0, .cells [.string (bs n)].toArray 9 (0, 0))], [(r.gf, r.fm.obj)], [(r.now.gs, r.now.sobj)], [(r.now.gm, .map r.now.es r.now.ck)], r.now.fs.map FL.h, r.tc ++ (r.ls.heap ++ r.X) ++ ph r.P]) (by
        classical
        refine List.perm_iff_count.2 fun x => ?_
        simp only [FM.heap, FM.obj, fmcells, SM.heap, ph, List.map_append, List.set, List.flatten_cons, List.flatten_nil, List.append_nil, List.nil_append, List.cons_append, List.count_append, List.count_cons, List.count_nil] <;> omega) ?_
      refine j_draw ?_
      refine jq_q (qs_nil rfl) ?_
      refine jq_q (qs_field Try.underlying62 rfl sz58 (by decide) rfl) ?_
      refine jq_q (qs_load (l := fmcells r.fm) 3 Try.underlying58 rfl rfl rfl rfl) ?_
      refine jq_q (qs_nil rfl) ?_
      refine jq_q (qs_field Try.underlying66 rfl sz64 (by decide) rfl) ?_
      refine jq_q (qs_load (l := smcells r.now) 4 Try.underlying64 rfl rfl rfl rfl) ?_
      refine jq_q (qs_load (l := [.string (bs n)]) 2 Try.underlying9 rfl rfl rfl rfl) ?_
      refine jq_q (qs_lookup (key := n) strKey 5 Try.underlying64 zv63 rfl rfl rfl hok.now.raw.map hn) ?_
      rw [mlook_map fptr, getD_fptr, hlk, Option.map_some]
      refine jq_nil ?_
      refine j_q (qs_ac) ?_
      refine j_q (qs_pnnil Try.underlying63 rfl) ?_
      refine j_g rfl (fun hb => qs_mt rfl) ?_
      refine j_g rfl (fun hb => qs_nil (gd_eq hb)) ?_
      refine j_g rfl (fun hb => qs_field Try.underlying73 rfl sz71 (by decide) (gd_eq hb)) ?_
      refine j_g rfl (fun hb => qs_call ent33 rfl rfl (args1 (gd_eq hb)) (fun w' hw' => aload_con x.g 1 (flcells x) 73 (0, 0) x.k w' (hw'.own x.h (mem_flatten_of (k := 6) rfl (List.mem_map.2 ⟨x, hx, rfl⟩))) rfl)) ?_
      refine j_g rfl (fun hb => qs_eql (gd_eq hb) rfl) ?_
      refine j_q (qs_and rfl rfl) ?_
      refine j_cond rfl (fun hc2 => ?_) (fun hc2 => ?_)
      · skip
        have hk1 : x.k = 1 := by simpa [gd] using hc2
        refine j_q (qs_nil rfl) ?_
        refine j_q (qs_field Try.underlying73 rfl sz23 (by decide) rfl) ?_
        refine j_q (qs_loadO (l := flcells x) (rdo_mem (o := x.h.2) 6 rfl (List.mem_map.2 ⟨x, hx, rfl⟩)) Try.underlying23 rfl rfl rfl) ?_
        refine j_q (qs_lenl (n := x.xs.length) (A := xA) (c := xc) Try.underlying23 hxv) ?_
        refine j_draw ?_
        refine jq_q (qs_pnil Try.underlying63 rfl) ?_
        refine jq_gf rfl (by simp) ?_
        refine jq_gf rfl (by simp) ?_
        refine jq_gf rfl (by simp) ?_
        refine jq_gf rfl (by simp) ?_
        refine jq_gf rfl (by simp) ?_
        refine jq_gf rfl (by simp) ?_
        refine jq_gf rfl (by simp) ?_
        refine jq_gf rfl (by simp) ?_
        refine jq_gf rfl (by simp) ?_
        refine jq_q (qs_and (b0 := false) (b1 := false) rfl rfl) ?_
        refine jq_g rfl (fun hb => qs_mt rfl) ?_
        refine jq_g rfl (fun hb => qs_nil (gd_eq hb)) ?_
        refine jq_g rfl (fun hb => qs_field Try.underlying62 rfl sz58 (by decide) (gd_eq hb)) ?_
        refine jq_g rfl (fun hb => qs_load (l := fmcells r.fm) 3 Try.underlying58 rfl (gd_eq hb) rfl rfl) ?_
        refine jq_g rfl (fun hb => qs_nil (gd_eq hb)) ?_
        refine jq_g rfl (fun hb => qs_field Try.underlying66 rfl sz3 (by decide) (gd_eq hb)) ?_
        refine jq_g rfl (fun hb => qs_load (l := smcells r.now) 4 Try.underlying3 rfl (gd_eq hb) rfl rfl) ?_
        refine jq_g rfl (fun hb => qs_mt rfl) ?_
        refine jq_g rfl (fun hb => qs_sub64 (gd_eq hb) (gd_eq hb) (by first | omega | (simp only [bnA] at *; omega))) ?_
        refine jq_g rfl (fun hb => qs_load (l := [bv]) 1 Try.underlying23 rfl rfl rfl rfl) ?_
        refine jq_g rfl (fun hb => qs_lenl (n := xs.length) (A := A) (c := cap) Try.underlying23 ((gd_eq hb).trans hbv)) ?_
        refine jq_g rfl (fun hb => qs_add64 (gd_eq hb) (gd_eq hb) (by first | omega | (simp only [bnA] at *; omega))) ?_
        refine jq_g rfl (fun hb => qs_mt rfl) ?_
        refine jq_g rfl (fun hb => qs_nil (gd_eq hb)) ?_
        refine jq_g rfl (fun hb => qs_field Try.underlying62 rfl sz3 (by decide) (gd_eq hb)) ?_
        refine jq_g rfl (fun hb => qs_load (l := fmcells r.fm) 3 Try.underlying3 rfl (gd_eq hb) rfl rfl) ?_
        refine jq_g rfl (fun hb => qs_gtr (gd_eq hb) (gd_eq hb)) ?_
        refine jq_q (qs_or rfl rfl) ?_
        refine jq_nil ?_
        refine j_cond rfl (fun hc3 => ?_) (fun hc3 => ?_)
        · skip
          have hla : alook a.now.nm n = some x.id := by
            rw [← hok.now.rep.look hok.now.raw n, hlk]
            rfl
          have hkx : x.k = (cntA a.now.nm x.id : Int) := by
            have h6 : x.k = (cnt r.now.ml x.id : Int) + 0 := hok.now.ex.kc x hx
            rw [hok.now.rep.cnt] at h6
            omega
          have hdx := hok.now.rep.dt x hx
          have hfr : freesA a.now n = x.xs.length := by
            simp only [freesA, hla]
            rw [if_pos (by omega), hdx]
          have hnf : fullA a n xs := by
            unfold fullA
            rw [hfr]
            refine .inr ?_
            rw [← hok.rm, ← hus]
            simp [gd] at hc3
            omega
          refine j_q (qs_ac) ?_
          refine j_subl (S' := r.fm.parts2) (by repeat first | exact slR _ | exact slN _ | apply slC | apply slD) ?_
          refine j_perm (S' := [r.heap]) r.fm.split2.symm ?_
          have hwe : wrE a n xs = 6 := by
            unfold wrE
            rw [if_neg (by rw [hm]; simp), if_neg (by omega), if_pos hnf]
          refine j_ret_con (vs := [_]) (fun w' hw' => ⟨rfl, trivial⟩) ?_
          rw [hwe]
          refine ⟨rfl, r, rfl, ?_, FR.To.refl _ _⟩
          rw [if_neg (by decide)]
          exact hok
        · skip
          have hla : alook a.now.nm n = some x.id := by
            rw [← hok.now.rep.look hok.now.raw n, hlk]
            rfl
          have hkx : x.k = (cntA a.now.nm x.id : Int) := by
            have h6 : x.k = (cnt r.now.ml x.id : Int) + 0 := hok.now.ex.kc x hx
            rw [hok.now.rep.cnt] at h6
            omega
          have hdx := hok.now.rep.dt x hx
          have hfr : freesA a.now n = x.xs.length := by
            simp only [freesA, hla]
            rw [if_pos (by omega), hdx]
          have hnf : ¬ fullA a n xs := by
            unfold fullA
            rw [hfr]
            rintro (⟨h7, _⟩ | h8)
            · rw [hla] at h7
              cases h7
            · rw [← hok.rm, ← hus] at h8
              simp [gd] at hc3
              omega
          refine j_q (qs_load (l := [bv]) 1 Try.underlying23 rfl rfl rfl rfl) ?_
          refine j_call0 ent31 rfl rfl rfl (fun w' hw' => clone_con bv xs w' (br_keep hbr hbd hw') hxl) (fun u S2 hu1 => ?_)
          obtain ⟨Q, rfl, hrv⟩ := hu1
          obtain ⟨bv2, hbv2⟩ : ∃ y, y = u := ⟨_, rfl⟩
          rw [← hbv2] at hrv ⊢
          refine j_subl (S' := [ph Q, [(g4, .cells [Value.string (bs n)].toArray 9 (0, 0))], [(g1, .cells [bv].toArray 23 (0, 0))], [(g0, .cells [.string (bs n)].toArray 9 (0, 0))], [(r.gf, r.fm.obj)], [(r.now.gs, r.now.sobj)], [(r.now.gm, .map r.now.es r.now.ck)], r.now.fs.map FL.h, r.tc ++ (r.ls.heap ++ r.X) ++ ph r.P]) (by repeat first | exact slR _ | exact slN _ | apply slC | apply slD) ?_
          obtain ⟨A2, c2, hbe, hbc, _⟩ := hrv.form
          refine j_store (l := [bv]) 2 sz23 rfl rfl (by show oneV bv2 = true; rw [hbe]; rfl) rfl (by simp) (by simp) ?_
          refine j_q (qs_mkfuncv (vs := [.pointer (some ⟨g0, 0, none⟩), .pointer (some ⟨g1, 0, none⟩)]) rfl) ?_
          refine j_perm (S' := [ph Q, [(g4, .cells [Value.string (bs n)].toArray 9 (0, 0))], [(g1, .cells [bv2].toArray 23 (0, 0))], [(g0, .cells [.string (bs n)].toArray 9 (0, 0))], [(r.gf, r.fm.obj)], [(r.now.gs, r.now.sobj)], [(r.now.gm, .map r.now.es r.now.ck)], r.now.fs.map FL.h, r.tc ++ (r.ls.heap ++ r.X) ++ ph r.P]) (.refl _) ?_
          have hrv2 : RV (Q ++ r.P) (.slice A2 xs.length c2) xs := by
            rw [← hbe]
            exact hrv.more (fun b hb => List.mem_append_left _ hb)
          rw [hbe]
          refine j_perm (S' := [FR.heap ({ r with X := ([(g0, .cells [.string (bs n)].toArray 9 (0, 0))] ++ [(g1, .cells [.slice A2 xs.length c2].toArray 23 (0, 0))]) ++ r.X, P := Q ++ r.P } : FR), [(g4, .cells [Value.string (bs n)].toArray 9 (0, 0))]]) (by
            classical
            refine List.perm_iff_count.2 fun x => ?_
            simp only [FM.heap, FM.obj, fmcells, SM.heap, ph, List.map_append, List.set, List.flatten_cons, List.flatten_nil, List.append_nil, List.nil_append, List.cons_append, List.count_append, List.count_cons, List.count_nil] <;> omega) ?_
          refine j_call 0 ent34 rfl rfl rfl rfl (fun w' hw' => (doesR_con ({ r with X := ([(g0, .cells [.string (bs n)].toArray 9 (0, 0))] ++ [(g1, .cells [.slice A2 xs.length c2].toArray 23 (0, 0))]) ++ r.X, P := Q ++ r.P } : FR) a (.wr n xs id g0 g1 A2 c2) w' (hok.more _ _) hB hz ⟨hn, hrv2, hbc, by omega⟩ (fun q hq => List.mem_append_left _ hq) hid (write_lim (hok.now.rep.nd hok.now.raw) (okA_end hok.ok) hrm hnf)).mono (fun u S5 h5 => by
            obtain ⟨h1, r', h2, h3, h4⟩ := h5
            exact (⟨h1, r', h2, h3, h4.old hw' 0 rfl rfl (fun q hq => List.mem_append_right _ hq) (fun b hb => List.mem_append_right _ hb)⟩ : _ ∧ ∃ r' : FR, S5 = [r'.heap] ∧ r'.Ok (stepF a (.wr n xs id)) ∧ FR.To w r r'))) (fun u S5 h5 => ?_)
          obtain ⟨rfl, r', rfl, hr', hto⟩ := h5
          refine j_subl (S' := [r'.heap]) (by repeat first | exact slR _ | exact slN _ | apply slC | apply slD) ?_
          have hwe : wrE a n xs = 0 := by
            unfold wrE
            rw [if_neg (by rw [hm]; simp), if_neg (by omega), if_neg hnf]
          refine j_ret_con (vs := [_]) (fun w' hw' => ⟨rfl, trivial⟩) ?_
          rw [hwe]
          refine ⟨rfl, r', rfl, ?_, hto⟩
          rw [if_pos rfl]
          exact hr'
      · skip
        have hk1 : x.k ≠ 1 := by simpa [gd] using hc2
        refine j_draw ?_
        refine jq_q (qs_pnil Try.underlying63 rfl) ?_
        refine jq_gf rfl (by simp) ?_
        refine jq_gf rfl (by simp) ?_
        refine jq_gf rfl (by simp) ?_
        refine jq_gf rfl (by simp) ?_
        refine jq_gf rfl (by simp) ?_
        refine jq_gf rfl (by simp) ?_
        refine jq_gf rfl (by simp) ?_
        refine jq_gf rfl (by simp) ?_
        refine jq_gf rfl (by simp) ?_
        refine jq_q (qs_and (b0 := false) (b1 := false) rfl rfl) ?_
        refine jq_g rfl (fun hb => qs_mt rfl) ?_
        refine jq_g rfl (fun hb => qs_nil (gd_eq hb)) ?_
        refine jq_g rfl (fun hb => qs_field Try.underlying62 rfl sz58 (by decide) (gd_eq hb)) ?_
        refine jq_g rfl (fun hb => qs_load (l := fmcells r.fm) 3 Try.underlying58 rfl (gd_eq hb) rfl rfl) ?_
        refine jq_g rfl (fun hb => qs_nil (gd_eq hb)) ?_
        refine jq_g rfl (fun hb => qs_field Try.underlying66 rfl sz3 (by decide) (gd_eq hb)) ?_
        refine jq_g rfl (fun hb => qs_load (l := smcells r.now) 4 Try.underlying3 rfl (gd_eq hb) rfl rfl) ?_
        refine jq_g rfl (fun hb => qs_mt rfl) ?_
        refine jq_g rfl (fun hb => qs_sub64 (gd_eq hb) (gd_eq hb) (by first | omega | (simp only [bnA] at *; omega))) ?_
        refine jq_g rfl (fun hb => qs_load (l := [bv]) 1 Try.underlying23 rfl rfl rfl rfl) ?_
        refine jq_g rfl (fun hb => qs_lenl (n := xs.length) (A := A) (c := cap) Try.underlying23 ((gd_eq hb).trans hbv)) ?_
        refine jq_g rfl (fun hb => qs_add64 (gd_eq hb) (gd_eq hb) (by first | omega | (simp only [bnA] at *; omega))) ?_
        refine jq_g rfl (fun hb => qs_mt rfl) ?_
        refine jq_g rfl (fun hb => qs_nil (gd_eq hb)) ?_
        refine jq_g rfl (fun hb => qs_field Try.underlying62 rfl sz3 (by decide) (gd_eq hb)) ?_
        refine jq_g rfl (fun hb => qs_load (l := fmcells r.fm) 3 Try.underlying3 rfl (gd_eq hb) rfl rfl) ?_
        refine jq_g rfl (fun hb => qs_gtr (gd_eq hb) (gd_eq hb)) ?_
        refine jq_q (qs_or rfl rfl) ?_
        refine jq_nil ?_
        refine j_cond rfl (fun hc4 => ?_) (fun hc4 => ?_)
        · skip
          have hla : alook a.now.nm n = some x.id := by
            rw [← hok.now.rep.look hok.now.raw n, hlk]
            rfl
          have hkx : x.k = (cntA a.now.nm x.id : Int) := by
            have h6 : x.k = (cnt r.now.ml x.id : Int) + 0 := hok.now.ex.kc x hx
            rw [hok.now.rep.cnt] at h6
            omega
          have hdx := hok.now.rep.dt x hx
          have hfr : freesA a.now n = 0 := by
            simp only [freesA, hla]
            rw [if_neg (by omega)]
          have hnf : fullA a n xs := by
            unfold fullA
            rw [hfr]
            refine .inr ?_
            rw [← hok.rm, ← hus]
            simp [gd] at hc4
            omega
          refine j_q (qs_ac) ?_
          refine j_subl (S' := r.fm.parts2) (by repeat first | exact slR _ | exact slN _ | apply slC | apply slD) ?_
          refine j_perm (S' := [r.heap]) r.fm.split2.symm ?_
          have hwe : wrE a n xs = 6 := by
            unfold wrE
            rw [if_neg (by rw [hm]; simp), if_neg (by omega), if_pos hnf]
          refine j_ret_con (vs := [_]) (fun w' hw' => ⟨rfl, trivial⟩) ?_
          rw [hwe]
          refine ⟨rfl, r, rfl, ?_, FR.To.refl _ _⟩
          rw [if_neg (by decide)]
          exact hok
        · skip
          have hla : alook a.now.nm n = some x.id := by
            rw [← hok.now.rep.look hok.now.raw n, hlk]
            rfl
          have hkx : x.k = (cntA a.now.nm x.id : Int) := by
            have h6 : x.k = (cnt r.now.ml x.id : Int) + 0 := hok.now.ex.kc x hx
            rw [hok.now.rep.cnt] at h6
            omega
          have hdx := hok.now.rep.dt x hx
          have hfr : freesA a.now n = 0 := by
            simp only [freesA, hla]
            rw [if_neg (by omega)]
          have hnf : ¬ fullA a n xs := by
            unfold fullA
            rw [hfr]
            rintro (⟨h7, _⟩ | h8)
            · rw [hla] at h7
              cases h7
            · rw [← hok.rm, ← hus] at h8
              simp [gd] at hc4
              omega
          refine j_q (qs_load (l := [bv]) 1 Try.underlying23 rfl rfl rfl rfl) ?_
          refine j_call0 ent31 rfl rfl rfl (fun w' hw' => clone_con bv xs w' (br_keep hbr hbd hw') hxl) (fun u S2 hu1 => ?_)
          obtain ⟨Q, rfl, hrv⟩ := hu1
          obtain ⟨bv2, hbv2⟩ : ∃ y, y = u := ⟨_, rfl⟩
          rw [← hbv2] at hrv ⊢
          refine j_subl (S' := [ph Q, [(g4, .cells [Value.string (bs n)].toArray 9 (0, 0))], [(g1, .cells [bv].toArray 23 (0, 0))], [(g0, .cells [.string (bs n)].toArray 9 (0, 0))], [(r.gf, r.fm.obj)], [(r.now.gs, r.now.sobj)], [(r.now.gm, .map r.now.es r.now.ck)], r.now.fs.map FL.h, r.tc ++ (r.ls.heap ++ r.X) ++ ph r.P]) (by repeat first | exact slR _ | exact slN _ | apply slC | apply slD) ?_
          obtain ⟨A2, c2, hbe, hbc, _⟩ := hrv.form
          refine j_store (l := [bv]) 2 sz23 rfl rfl (by show oneV bv2 = true; rw [hbe]; rfl) rfl (by simp) (by simp) ?_
          refine j_q (qs_mkfuncv (vs := [.pointer (some ⟨g0, 0, none⟩), .pointer (some ⟨g1, 0, none⟩)]) rfl) ?_
          refine j_perm (S' := [ph Q, [(g4, .cells [Value.string (bs n)].toArray 9 (0, 0))], [(g1, .cells [bv2].toArray 23 (0, 0))], [(g0, .cells [.string (bs n)].toArray 9 (0, 0))], [(r.gf, r.fm.obj)], [(r.now.gs, r.now.sobj)], [(r.now.gm, .map r.now.es r.now.ck)], r.now.fs.map FL.h, r.tc ++ (r.ls.heap ++ r.X) ++ ph r.P]) (.refl _) ?_
          have hrv2 : RV (Q ++ r.P) (.slice A2 xs.length c2) xs := by
            rw [← hbe]
            exact hrv.more (fun b hb => List.mem_append_left _ hb)
          rw [hbe]
          refine j_perm (S' := [FR.heap ({ r with X := ([(g0, .cells [.string (bs n)].toArray 9 (0, 0))] ++ [(g1, .cells [.slice A2 xs.length c2].toArray 23 (0, 0))]) ++ r.X, P := Q ++ r.P } : FR), [(g4, .cells [Value.string (bs n)].toArray 9 (0, 0))]]) (by
            classical
            refine List.perm_iff_count.2 fun x => ?_
            simp only [FM.heap, FM.obj, fmcells, SM.heap, ph, List.map_append, List.set, List.flatten_cons, List.flatten_nil, List.append_nil, List.nil_append, List.cons_append, List.count_append, List.count_cons, List.count_nil] <;> omega) ?_
          refine j_call 0 ent34 rfl rfl rfl rfl (fun w' hw' => (doesR_con ({ r with X := ([(g0, .cells [.string (bs n)].toArray 9 (0, 0))] ++ [(g1, .cells [.slice A2 xs.length c2].toArray 23 (0, 0))]) ++ r.X, P := Q ++ r.P } : FR) a (.wr n xs id g0 g1 A2 c2) w' (hok.more _ _) hB hz ⟨hn, hrv2, hbc, by omega⟩ (fun q hq => List.mem_append_left _ hq) hid (write_lim (hok.now.rep.nd hok.now.raw) (okA_end hok.ok) hrm hnf)).mono (fun u S5 h5 => by
            obtain ⟨h1, r', h2, h3, h4⟩ := h5
            exact (⟨h1, r', h2, h3, h4.old hw' 0 rfl rfl (fun q hq => List.mem_append_right _ hq) (fun b hb => List.mem_append_right _ hb)⟩ : _ ∧ ∃ r' : FR, S5 = [r'.heap] ∧ r'.Ok (stepF a (.wr n xs id)) ∧ FR.To w r r'))) (fun u S5 h5 => ?_)
          obtain ⟨rfl, r', rfl, hr', hto⟩ := h5
          refine j_subl (S' := [r'.heap]) (by repeat first | exact slR _ | exact slN _ | apply slC | apply slD) ?_
          have hwe : wrE a n xs = 0 := by
            unfold wrE
            rw [if_neg (by rw [hm]; simp), if_neg (by omega), if_neg hnf]
          refine j_ret_con (vs := [_]) (fun w' hw' => ⟨rfl, trivial⟩) ?_
          rw [hwe]
          refine ⟨rfl, r', rfl, ?_, hto⟩
          rw [if_pos rfl]
          exact hr'
theorem write_con' (r : FR) (a : AF) (n : List UInt8) (bv : Value) (xs : List UInt8) (id : Nat) (w : World) (hok : r.Ok a) (hn : strOk n) (hbr : BR w bv xs) (hbd : ∀ (a : Addr) (m c : Nat), bv = .slice (some a) m c → 0 < m → a.block ∉ dom r.heap) (hxl : xs.length ≤ 1000000000) (hB : a.pend.length < 16384) (hrm : a.room ≤ 1073741824) (hid : ∀ q ∈ a.now.nm, q.2 ≠ id) : Con Try.prog 13 [r.ptr, .string (bs n), bv] w r.heap fun v S' => v = .int .i64 (wrE a n xs) ∧ ∃ r' : FR, S' = [r'.heap] ∧ r'.Ok (if wrE a n xs = 0 then stepF a (.wr n xs id) else a) ∧ FR.To w r r' := by
  cases h : alook a.now.nm n with
  | none => exact write0_con r a n bv xs id w hok hn hbr hbd hxl hB hrm hid (look_rep0 hok.now.raw hok.now.rep h)
  | some i =>
    obtain ⟨f, hf, hl, _, _⟩ := look_rep hok.now.raw hok.now.rep h
    exact write1_con r a n bv xs id w hok hn hbr hbd hxl hB hrm hid f hf hl
end Go.Proofs.Ytckpegkpdepokaa
/-! Ft7 -/
namespace Go.Proofs.Ytckpegkpdepokaa
open Go Go.Sx
set_option maxRecDepth 100000
set_option maxHeartbeats 4000000
set_option linter.unusedVariables false
set_option linter.unusedSimpArgs false
attribute [local irreducible] J JQ QS Con W opW
open Go.MapKept Go.WideMaps Go.Maps
theorem sortS_perm {l l' : List (List UInt8)} (h : l.Perm l') : sortS l = sortS l' := by
  have hs : ∀ l : List (List UInt8), (sortS l).Pairwise (fun a b => a ≤ b) := fun l => by
    have := List.pairwise_mergeSort (le := fun x y : List UInt8 => decide (x ≤ y)) (fun a b c h1 h2 => by simp only [decide_eq_true_eq] at h1 h2 ⊢; exact List.le_trans h1 h2) (fun a b => by simp only [Bool.or_eq_true, decide_eq_true_eq]; exact List.le_total a b) l
    exact this.imp (fun h => by simpa using h)
  refine List.Perm.eq_of_pairwise (le := fun a b => a ≤ b) (fun a b _ _ h1 h2 => List.le_antisymm h1 h2) (hs l) (hs l') ?_
  unfold sortS
  exact (List.mergeSort_perm _ _).trans (h.trans (List.mergeSort_perm _ _).symm)
def preB (p n : List UInt8) : Bool := decide (p.length ≤ n.length) && (n.take p.length == p)
def namesA (s : AS) (p : List UInt8) : List (List UInt8) := sortS ((s.nm.map Prod.fst).filter (preB p))
theorem namesA_perm {s : SM} {a : AS} (h : RepS s a) {done : List (List UInt8 × (Nat × Nat))} (hp : done.Perm s.ml) (p : List UInt8) : sortS ((done.map Prod.fst).filter (preB p)) = namesA a p := by
  unfold namesA
  refine sortS_perm (List.Perm.filter _ ?_)
  have h1 := h.nm.map Prod.fst
  rw [List.map_map] at h1
  exact (hp.map Prod.fst).trans h1
theorem sortN_con {ss : List (List UInt8)} {v : Value} {c : SH} (ho : Sx.Own 9 1 (strs ss) v c) (hsz : ss.length < 4611686018427387904) (w : World) : Con Try.prog 44 [v] w c fun u S' => u = .tuple #[] ∧ ∃ c', S' = [c'] ∧ Sx.Own 9 1 (strs (sortS ss)) v c' :=
  con_sort_own (fun blk off cap ss w hH hblk hsz => Go.Proofs.AnyM.slices_Sort_string Try.sort44 blk off cap ss w hH hblk hsz) (fun p cap w => Go.Proofs.AnyM.slices_Sort_string_none Try.sort44 p cap w) ho hsz w
theorem hasPre0_con (s r : List UInt8) (w : World) (hs : s.length ≤ 9223372036854775807) (hr : r.length ≤ 9223372036854775807) : Con Try.prog 71 [.string (bs r), .string (bs s)] w [] fun v _ => v = .bool (decide (s.length ≤ r.length) && (r.take s.length == s)) := by
  refine con_of_tree mix Try.func71 T71_ok (by kernel_rfl) ?_
  unfold T71
  refine j_q (qs_ac) ?_
  refine j_q (qs_lens Try.underlying9 rfl) ?_
  refine j_q (qs_lens Try.underlying9 rfl) ?_
  refine j_q (qs_geq rfl rfl) ?_
  refine j_g rfl (fun hb => qs_mt rfl) ?_
  refine j_g rfl (fun hb => qs_mt rfl) ?_
  refine j_g rfl (fun hb => qs_lens Try.underlying9 (gd_eq hb)) ?_
  refine j_g rfl (fun hb => qs_cuts (a := 0) (z := s.length) Try.underlying9 (gd_eq hb) rfl ⟨.i64, gd_eq hb⟩ (by omega) (by simp only [bnA] at *; omega)) ?_
  rw [List.drop_zero]
  refine j_g rfl (fun hb => qs_mt rfl) ?_
  refine j_g rfl (fun hb => qs_seql (gd_eq hb) (gd_eq hb)) ?_
  refine j_q (qs_and rfl rfl) ?_
  refine j_ret_con (vs := [_]) (fun w' hw' => ⟨rfl, trivial⟩) ?_
  show Value.bool _ = _
  congr 2
  rw [Bool.eq_iff_iff, decide_eq_true_eq, decide_eq_true_eq]
  omega
theorem hasPre_con (s r : List UInt8) (w : World) (hs : s.length ≤ 9223372036854775807) (hr : r.length ≤ 9223372036854775807) : Con Try.prog 43 [.string (bs r), .string (bs s)] w [] fun v _ => v = .bool (preB s r) := by
  refine con_of_tree mix Try.func43 T43_ok (by kernel_rfl) ?_
  unfold T43
  refine j_q (qs_ac) ?_
  refine j_q (qs_call ent71 rfl rfl rfl (fun w' hw' => hasPre0_con s r w' hs hr)) ?_
  refine j_ret_con (vs := [_]) (fun w' hw' => ⟨rfl, trivial⟩) ?_
  rfl
theorem names_con (r : FR) (a : AF) (p : List UInt8) (w : World) (hin : In w r.heap) (hok : r.Ok a) (hsp : strOk p) : Con Try.prog 19 [r.ptr, .string (bs p)] w [] fun v S' => ∃ c, S' = [c] ∧ Sx.Own 9 1 (strs (namesA a.now p)) v c := by
  refine con_of_tree mix Try.func19 T19_ok (by kernel_rfl) ?_
  unfold T19
  have hraw := hok.now.raw
  have hlen : r.now.ml.length = a.now.nm.length := hok.now.rep.len
  have hl2 : a.now.nm.length ≤ 16384 := (okA_end hok.ok).2
  refine j_q (qs_ac) ?_
  refine j_q (qs_pnil Try.underlying25 rfl) ?_
  refine j_g rfl (fun hb => qs_mt rfl) ?_
  refine j_g rfl (fun hb => qs_nil (gd_eq hb)) ?_
  refine j_g rfl (fun hb => qs_field Try.underlying62 rfl sz58 (by decide) (gd_eq hb)) ?_
  refine j_g rfl (fun hb => qs_loadO (rdo_base (FM.in_gf hin) (by simp)) Try.underlying58 rfl (gd_eq hb) rfl) ?_
  refine j_g rfl (fun hb => qs_pnil Try.underlying58 (gd_eq hb)) ?_
  refine j_q (qs_or rfl rfl) ?_
  refine j_cond rfl (fun hc0 => ?_) (fun hc0 => ?_)
  · skip
    simp [gd] at hc0
  · skip
    refine j_q (qs_ac) ?_
    refine j_q (qs_nil rfl) ?_
    refine j_q (qs_field Try.underlying62 rfl sz58 (by decide) rfl) ?_
    refine j_q (qs_loadO (rdo_base (FM.in_gf hin) (by simp)) Try.underlying58 rfl rfl rfl) ?_
    refine j_q (qs_nil rfl) ?_
    refine j_q (qs_field Try.underlying66 rfl sz64 (by decide) rfl) ?_
    refine j_q (qs_loadO (rdo_base (SM.in_gs (FM.in_now hin)) (by simp)) Try.underlying64 rfl rfl rfl) ?_
    refine j_rangemap Try.underlying64 rfl (rdo_base (SM.in_gm (FM.in_now hin)) (by simp)) (fun g16 hg16 => ?_)
    refine j_loop (fun m vs S' => ∃ (done : List (List UInt8 × (Nat × Nat))) (seen : Array Nat) (c0 : Nat) (v : Value) (c : SH), vs = [v] ∧ S' = [[(g16, .mapIter (some r.now.gm) r.now.ck seen c0)], c] ∧ Sx.Own 9 1 (strs ((done.map Prod.fst).filter (preB p))) v c ∧ ItOk strEnc r.now.es seen (mlv done) ∧ (∀ q ∈ done, q ∈ r.now.ml) ∧ r.now.ck ≤ c0 ∧ m = r.now.ml.length - done.length) ⟨_, [], #[], r.now.ck, .slice none 0 0, [], rfl, rfl, own_nil, itok_nil, (fun q hq => by cases hq), Nat.le_refl _, rfl⟩ ?_
    rintro m vs S' hlen ⟨done, seen, c0, v, c, rfl, rfl, hown, hit, hsub, hc0', rfl⟩
    refine j_nextm 0 strKey.inj rfl rfl (rdo_base (SM.in_gm (FM.in_now hin)) (by simp)) hraw.map hit (Nat.le_refl _) hc0' (fun c1 nvs S2 hnv hcase => ?_)
    refine j_q (qs_ext rfl hnv) ?_
    refine j_cond rfl (fun hc1 => ?_) (fun hc1 => ?_)
    · skip
      subst hc1
      rcases hcase with ⟨hcf, _⟩ | ⟨_, q, e, hp, hnd, he, hek, hev, hit2, rfl⟩
      · cases hcf
      obtain ⟨⟨n, g, id⟩, hq, rfl⟩ := List.mem_map.1 hp
      obtain ⟨y, hy, hyg, hyi⟩ := hraw.has _ hq
      simp only at hyg hyi
      subst hyg hyi
      have hsn : strOk n := hraw.map.keys _ hp
      have e9 : mlv (done ++ [(n, (y.g, y.id))]) = mlv done ++ [(n, fptr (y.g, y.id))] := by rw [mlv, List.map_append]; rfl
      have hdn : (done ++ [(n, (y.g, y.id))]).Nodup := by
        have h9 := hit2.nd
        simp only at h9
        rw [← e9] at h9
        exact nodup_of_map (nodup_of_map h9)
      have hsub2 : ∀ x ∈ done ++ [(n, (y.g, y.id))], x ∈ r.now.ml := fun x hx => by
        rcases List.mem_append.1 hx with hx | hx
        · exact hsub x hx
        · rw [List.mem_singleton] at hx
          rw [hx]
          exact hq
      have hdl := sub_len hdn hsub2
      rw [List.length_append, List.length_singleton] at hdl
      simp only [List.set]
      refine j_q (qs_entry (es := r.now.es) (m := mlv r.now.ml) (p := (n, fptr (y.g, y.id))) (e := e) (seen := seen) (since := r.now.ck) (bm := r.now.gm) (r := g16) rfl (rdo_mem 0 rfl (by simp)) (rdo_base (SM.in_gm (FM.in_now hin)) (by simp)) hraw.map he hek hev) ?_
      refine j_q (qs_ext (vs := [.string (bs n), fptr (y.g, y.id)]) rfl rfl) ?_
      refine j_q (qs_call ent43 rfl rfl rfl (fun w' hw' => hasPre_con p n w' hsp hsn)) ?_
      refine j_cond rfl (fun hc2 => ?_) (fun hc2 => ?_)
      · skip
        have hpre : preB p n = true := hc2
        refine j_lit (vs := [.string (bs _)]) Try.underlying41 sz9 zero9 rfl (by simp [oneV]) ⟨rfl, by decide⟩ (fun g22 v22 c22 hv22 hc22 ho22 => ?_)
        subst hv22 hc22
        refine j_append 2 Try.underlying41 Try.underlying41 (.inr ⟨_, rfl⟩) sb9 zero9 rfl hown rfl (.inl ⟨_, _, rfl, own_rd ho22 0 rfl, rfl⟩) (by intro u hu; rw [List.mem_singleton] at hu; rw [hu]; rfl) ⟨(by rw [strs_length]; simp only [List.length_singleton]; have h8 := List.length_filter_le (preB p) (done.map Prod.fst); rw [List.length_map] at h8; omega), (by decide)⟩ (fun v23 c23 ho23 => ?_)
        refine j_subl (S' := [[(g16, .mapIter (some r.now.gm) r.now.ck (seen.push e.born) r.now.ck)], c23]) (by repeat first | exact slR _ | exact slN _ | apply slC | apply slD) ?_
        refine j_back rfl ?_
        refine ⟨r.now.ml.length - (done ++ [(n, (y.g, y.id))]).length, (by
          have h1 := sub_len (l := (done ++ [(n, (y.g, y.id))])) (L := r.now.ml) hdn hsub2
          have e9 : (done ++ [(n, (y.g, y.id))]).length = done.length + 1 := by rw [List.length_append, List.length_singleton]
          omega), (done ++ [(n, (y.g, y.id))]), seen.push e.born, r.now.ck, v23, c23, rfl, rfl, ?_, e9 ▸ hit2, hsub2, Nat.le_refl _, rfl⟩
        rw [List.map_append, List.filter_append, strs_append]
        simpa [hpre, strs] using ho23
      · skip
        have hpre : preB p n = false := hc2
        refine j_back rfl ?_
        refine ⟨r.now.ml.length - (done ++ [(n, (y.g, y.id))]).length, (by
          have h1 := sub_len (l := (done ++ [(n, (y.g, y.id))])) (L := r.now.ml) hdn hsub2
          have e9 : (done ++ [(n, (y.g, y.id))]).length = done.length + 1 := by rw [List.length_append, List.length_singleton]
          omega), (done ++ [(n, (y.g, y.id))]), seen.push e.born, r.now.ck, v, c, rfl, rfl, ?_, e9 ▸ hit2, hsub2, Nat.le_refl _, rfl⟩
        rw [List.map_append, List.filter_append, strs_append]
        simpa [hpre, strs] using hown
    · skip
      have hcf : c1 = false := by simpa using hc1
      subst hcf
      rcases hcase with ⟨_, rfl, hend⟩ | ⟨hcf, _⟩
      rotate_left
      · cases hcf
      refine j_call 1 ent44 rfl rfl rfl rfl (fun w' hw' => sortN_con hown (by have h8 := List.length_filter_le (preB p) (done.map Prod.fst); rw [List.length_map] at h8; have h9 := sub_len (nodup_of_map (nodup_of_map hit.nd) : done.Nodup) hsub; omega) w') (fun u S3 hu => ?_)
      obtain ⟨rfl, c3, rfl, ho3⟩ := hu
      have hp : done.Perm r.now.ml := sub_perm (nodup_of_map (nodup_of_map hit.nd)) (nodup_of_map hraw.nd) hsub (fun q hq => by
        have := hend (q.1, fptr q.2) (List.mem_map.2 ⟨q, hq, rfl⟩)
        obtain ⟨x, hx, e⟩ := List.mem_map.1 this
        have h1 := alook_of_mem hraw.nd (hsub x hx)
        have h2 := alook_of_mem hraw.nd hq
        injection e with e1 e2
        rw [e1] at h1
        rw [h1] at h2
        injection h2 with h2
        have : x = q := Prod.ext e1 h2
        rw [← this]
        exact hx)
      refine j_subl (S' := [c3]) (by repeat first | exact slR _ | exact slN _ | apply slC | apply slD) ?_
      refine j_ret_con (vs := [_]) (fun w' hw' => ⟨rfl, trivial⟩) ?_
      rw [namesA_perm hok.now.rep hp] at ho3
      exact ⟨c3, rfl, ho3⟩
end Go.Proofs.Ytckpegkpdepokaa
/-! Any7 -/
namespace Go.Proofs.Ytckpegkpdepokaa
open Go Go.Sx Go.MapKept Go.WideMaps Go.Maps
set_option maxRecDepth 100000
set_option maxHeartbeats 4000000
set_option linter.unusedVariables false
attribute [local irreducible] J JQ QS Con W opW
structure RI (f : FM) (i : Nat) : Prop where
  ok : f.Ok i
  fu : f.fused = false
  lf : f.left = 0
  k1 : ∀ x ∈ f.now.fs, x.k = 1
  idl : ∀ x ∈ f.now.fs, x.id < i
  tt : (tot f.now.fs : Int) = f.now.used
  ur : f.now.used ≤ f.room
  rm : f.room ≤ 1073741824
  mll : f.now.ml.length ≤ i
end Go.Proofs.Ytckpegkpdepokaa
/-! Arg7 -/
namespace Go.Proofs.Ytckpegkpdepokaa
open Go Go.Sx Go.ChangeShapes Go.WideShapes Go.ChangeAt Go.RowKit
set_option linter.unusedVariables false
set_option maxRecDepth 100000
def BRz (w : World) (p : Value × List UInt8) : Prop := (p.1 = .slice none 0 0 ∧ p.2 = []) ∨ ∃ a cap, p.1 = .slice (some a) p.2.length cap ∧ p.2.length ≤ cap ∧ Cells w a (ints p.2)
theorem brz_br {w : World} {v : Value} {xs : List UInt8} (h : BRz w (v, xs)) : BR w v xs := by
  rcases h with h | ⟨a, cap, h1, h2, h3⟩
  · exact .inl h
  · refine .inr ⟨a, cap, h1, h2, fun h0 => ?_, h3⟩
    have h4 := h3 0 _ (ints_get_lt h0)
    have h5 : (a.add 0).block = a.block := rfl
    unfold World.cell? at h4
    split at h4
    · rename_i hh
      rw [h5] at hh
      exact (Array.getElem?_eq_some_iff.1 hh).1
    · cases h4
theorem weights_at {H : Type} {P : Program} {ts : List TypeId} {ds : List (DataW H)} (h : (DataW.weightsEach P ts ds).all (· ≤ reachBytes) = true) {j : Nat} {t : TypeId} {d : DataW H} (ht : ts[j]? = some t) (hd : ds[j]? = some d) : (d.weights P t).all (· ≤ reachBytes) = true :=
  List.all_eq_true.2 fun n hn => List.all_eq_true.1 h n (DataW.weights_mem_each ht hd n hn)
theorem row_trod {H : Type} {enc : TypeId × Value → H} {w : World} {b0 : Nat} {sp : Nat → Bool} {held : Bool} (fuel : Nat) (cs : List Value) (y : DataW H × List MemPlace) (h : DataW.trod enc Try.prog w b0 sp held fuel 23 cs = some y) (hw : (y.1.weights Try.prog 23).all (· ≤ reachBytes) = true) :
    ∃ p : Value × List UInt8, (BRz w p ∧ p.2.length ≤ 140737488351232) ∧ cs = [p.1] := by
  rcases open_ints Try.underlying23 Try.underlying5 (by kernel_rfl) h with ⟨hcs, _⟩ | ⟨a, len, cap, zs, hcs, hb, hl, hm, hz, hx, hcell, hsz⟩
  · exact ⟨(.slice none 0 0, []), ⟨.inl ⟨rfl, rfl⟩, Nat.zero_le _⟩, hcs⟩
  · have hlen : len ≤ zs.length := by rw [hz]; split <;> omega
    have hll : ((zs.take len).map by8).length = len := by simp [Nat.min_eq_left hlen]
    have hwl : len ≤ 140737488351232 := by
      have h0 := List.all_eq_true.1 hw (((lits IntKind.u8 (zs.take len) : List (DataW H)).length + (lits IntKind.u8 (zs.drop len) : List (DataW H)).length) * Try.prog.bytesOf 5) (by rw [hx]; simp [DataW.weights, Try.underlying23])
      have hb5 : Try.prog.bytesOf 5 = 1 := by kernel_rfl
      have hreach : reachBytes = 140737488351232 := rfl
      rw [hb5] at h0
      have h1 : (lits IntKind.u8 (zs.take len) : List (DataW H)).length = len := by simp [lits, Nat.min_eq_left hlen]
      rw [h1] at h0
      simp only [decide_eq_true_eq] at h0
      omega
    refine ⟨(.slice (some a) len cap, (zs.take len).map by8), ⟨.inr ⟨a, cap, by simp only [hll], by simp only [hll]; exact hl, fun j u hu => ?_⟩, by simp only [hll]; exact hwl⟩, hcs⟩
    rw [ints_get] at hu
    obtain ⟨c, hc1, rfl⟩ := Option.map_eq_some_iff.1 hu
    rw [List.getElem?_map] at hc1
    obtain ⟨z, hz1, rfl⟩ := Option.map_eq_some_iff.1 hc1
    have hz2 : zs[j]? = some z := by
      rw [List.getElem?_take] at hz1
      split at hz1
      · exact hz1
      · cases hz1
    have hlt := (List.getElem?_eq_some_iff.1 hz2).1
    rw [hcell j hlt]
    have hr := hsz z (List.mem_of_getElem? hz2)
    have hr2 : 0 ≤ z ∧ z ≤ 255 := by
      have h1 : IntKind.u8.min = 0 := rfl
      have h2 : IntKind.u8.max = 255 := rfl
      simp [Lit.wf, h1, h2] at hr
      omega
    have hw : IntKind.u8.wrap z = z := by rw [IntKind.wrap_u8]; omega
    rw [← wrap_by8, hw]
    simp [List.getD_eq_getElem?_getD, hz2]
theorem open_rows {H : Type} {enc : TypeId × Value → H} {w : World} {r : Go.Reach} {base b0 : Nat} {sp : Nat → Bool} {held : Bool} {v : Value} {x : DataW H × List MemPlace} (hv : Value.okWide Try.prog w r base 22 v)
    (h : ∃ fuel, DataW.trod enc Try.prog w b0 sp held fuel 22 v.cells.toList = some x) (hw : (x.1.weights Try.prog 22).all (· ≤ reachBytes) = true) : ∃ rs : List (Value × List UInt8), RSlN 1 w v (rs.map fun p => [p.1]).flatten rs.length ∧ (∀ p ∈ rs, BRz w p ∧ p.2.length ≤ 140737488351232) ∧ rs.length ≤ 4611686018427387903 := by
  obtain ⟨rs, h1, h2, h3⟩ := open_sln (α := Value × List UInt8) (fun p => [p.1]) (fun p => BRz w p ∧ p.2.length ≤ 140737488351232) (fun _ => rfl) (by decide) Try.underlying22 (by kernel_rfl) hv row_trod h hw
  have hb : Try.prog.bytesOf 23 = 24 := by kernel_rfl
  have hreach : reachBytes = 140737488351232 := rfl
  rw [hb] at h3
  exact ⟨rs, h1, h2, by omega⟩
end Go.Proofs.Ytckpegkpdepokaa
/-! Fs15 -/
namespace Go.Proofs.Ytckpegkpdepokaa
open Go Go.Sx
set_option maxRecDepth 100000
set_option maxHeartbeats 4000000
set_option linter.unusedVariables false
set_option linter.unusedSimpArgs false
attribute [local irreducible] J JQ QS Con W opW
open Go.MapKept Go.WideMaps Go.Maps
abbrev R0 : Value × List UInt8 := (.slice none 0 0, [])
abbrev rowsV (rs : List (Value × List UInt8)) : List Value := (rs.map fun p => [p.1]).flatten
theorem rows_get {rs : List (Value × List UInt8)} {i : Nat} (h : i < rs.length) : (rowsV rs)[i]? = some (rs.getD i R0).1 := by
  have := flat_get (encA := fun p : Value × List UInt8 => [p.1]) (n := 1) (fun _ => rfl) rs i 0 (by decide)
  rw [Nat.mul_one, Nat.add_zero] at this
  show ((rs.map fun p => [p.1]).flatten)[i]? = _
  rw [this, List.getElem?_eq_getElem h, List.getD_eq_getElem?_getD, List.getElem?_eq_getElem h]
  rfl
theorem rows_mem {rs : List (Value × List UInt8)} {i : Nat} (h : i < rs.length) : rs.getD i R0 ∈ rs := by
  rw [List.getD_eq_getElem?_getD, List.getElem?_eq_getElem h, Option.getD_some]
  exact List.getElem_mem h
end Go.Proofs.Ytckpegkpdepokaa
/-! Ft8 -/
namespace Go.Proofs.Ytckpegkpdepokaa
open Go Go.Sx
set_option maxRecDepth 100000
set_option maxHeartbeats 4000000
set_option linter.unusedVariables false
set_option linter.unusedSimpArgs false
attribute [local irreducible] J JQ QS Con W opW
open Go.MapKept Go.WideMaps Go.Maps
abbrev AS0 : AS := ⟨[], fun _ => [], 0⟩
abbrev AF0 (room : Int) : AF := ⟨room, AS0, [], false, 0⟩
theorem sx0 (gs gm : Nat) : Sx' (SM0 gs gm) AS0 := ⟨raw0 _ _, ⟨(fun f h => by cases h), (fun f h => by cases h), rfl⟩, .nil, (fun f h => by cases h), rfl⟩
def nmF (i : Nat) : List UInt8 := [102, by8 ((i : Int).fdiv (2 ^ min (Int.toNat 8) IntKind.i64.bits)), by8 (i : Int)]
theorem nmF_ok (i : Nat) : nameOk (nmF i) = true ∧ strOk (nmF i) := ⟨rfl, by show 3 ≤ _; decide⟩
theorem by8_nat (m : Nat) : (by8 (m : Int)).toNat = m % 256 := by
  unfold by8
  rw [show IntKind.u8.wrap (m : Int) = ((m % 256 : Nat) : Int) by simp [IntKind.wrap, IntKind.bits, IntKind.signed]]
  rw [Int.toNat_natCast, UInt8.toNat_ofNat']
  omega
theorem nmF_inj {i j : Nat} (hi : i < 65536) (hj : j < 65536) (h : nmF i = nmF j) : i = j := by
  have hd : ∀ k : Nat, (k : Int).fdiv (2 ^ min (Int.toNat 8) IntKind.i64.bits) = ((k / 256 : Nat) : Int) := fun k => by
    rw [show (2 ^ min (Int.toNat 8) IntKind.i64.bits : Int) = 256 by decide, Int.fdiv_eq_ediv_of_nonneg _ (by decide)]
    omega
  unfold nmF at h
  rw [hd, hd] at h
  injection h with _ h
  injection h with h1 h
  injection h with h2 _
  have e1 := congrArg UInt8.toNat h1
  have e2 := congrArg UInt8.toNat h2
  rw [by8_nat, by8_nat] at e1 e2
  omega
structure FI (a : AF) (n : Int) (i t : Nat) : Prop where
  rm : a.room = 1048576
  fu : a.fused = true
  le : a.left = n - min (i : Int) n
  pl : (a.pend.length : Int) = min (i : Int) n
  nl : (a.now.nm.length : Int) = min (i : Int) n
  nms : ∀ q ∈ a.now.nm, ∃ k, k < i ∧ q.1 = nmF k
  ids : ∀ q ∈ a.now.nm, q.2 < i
  us : a.now.used ≤ (t : Int)
theorem FI.may {a : AF} {n : Int} {i t : Nat} (h : FI a n i t) (hn : 0 ≤ n) {ns : List (List UInt8)} (hns : ns.all nameOk = true) : mayE a.fused a.left ns = if (i : Int) < n then 0 else 26 := by
  unfold mayE
  rw [h.fu, h.le, hns]
  by_cases hi : (i : Int) < n
  · rw [if_pos hi, if_neg (by simp; omega), if_pos rfl]
  · rw [if_neg hi, if_pos (by simp; omega)]
theorem FI.fresh {a : AF} {n : Int} {i t : Nat} (h : FI a n i t) (hi : i < 60000) : alook a.now.nm (nmF i) = none := by
  refine alook_none.2 fun q hq e => ?_
  obtain ⟨k, hk, e2⟩ := h.nms q hq
  have := nmF_inj (by omega) (by omega) (e.symm.trans e2)
  omega
theorem FI.wr {a : AF} {n : Int} {i t : Nat} (h : FI a n i t) (hn : 0 ≤ n ∧ n ≤ 1000) (hi : i ≤ 8000) (xs : List UInt8) (hx : t + xs.length ≤ 8000) : wrE a (nmF i) xs = if (i : Int) < n then 0 else 26 := by
  unfold wrE
  rw [h.may hn.1 (by simp [nmF_ok])]
  by_cases hin : (i : Int) < n
  · rw [if_pos hin, if_neg (by simp), if_neg (by omega), if_neg]
    unfold fullA
    have h1 := h.nl
    have h2 := h.us
    have h3 := h.rm
    rintro (⟨_, h4⟩ | h4) <;> omega
  · rw [if_neg hin, if_pos (by decide)]
theorem FI.step {a : AF} {n : Int} {i t : Nat} (h : FI a n i t) (hn : 0 ≤ n ∧ n ≤ 1000) (hi : i ≤ 8000) (xs : List UInt8) (hx : t + xs.length ≤ 8000) : FI (if wrE a (nmF i) xs = 0 then stepF a (.wr (nmF i) xs i) else a) n (i + 1) (t + xs.length) := by
  rw [h.wr hn hi xs hx]
  have h1 := h.nl
  have h2 := h.us
  have h3 := h.le
  have h4 := h.pl
  by_cases hin : (i : Int) < n
  · rw [if_pos hin, if_pos rfl]
    have hnow : (stepF a (.wr (nmF i) xs i)).now = writeA a.now (nmF i) xs i := runA_snoc
    have hfr := letsA_none (h.fresh (by omega))
    rw [writeA_eq, hfr] at hnow
    refine ⟨h.rm, h.fu, ?_, ?_, ?_, ?_, ?_, ?_⟩
    · show burnL a = _
      unfold burnL
      rw [h.fu, if_pos rfl, h3]
      omega
    · show ((a.pend ++ [_]).length : Int) = _
      rw [List.length_append, List.length_singleton]
      omega
    · rw [hnow]
      show (((a.now.nm ++ [(nmF i, i)]).length : Nat) : Int) = _
      rw [List.length_append, List.length_singleton]
      omega
    · rw [hnow]
      intro q hq
      rcases List.mem_append.1 hq with hq | hq
      · obtain ⟨k, hk, e⟩ := h.nms q hq
        exact ⟨k, by omega, e⟩
      · rw [List.mem_singleton] at hq
        rw [hq]
        exact ⟨i, by omega, rfl⟩
    · rw [hnow]
      intro q hq
      rcases List.mem_append.1 hq with hq | hq
      · have := h.ids q hq
        omega
      · rw [List.mem_singleton] at hq
        rw [hq]
        exact Nat.lt_succ_self i
    · rw [hnow]
      show a.now.used + (xs.length : Int) ≤ _
      omega
  · rw [if_neg hin, if_neg (by decide)]
    refine ⟨h.rm, h.fu, by omega, by omega, by omega, fun q hq => ?_, fun q hq => ?_, by omega⟩
    · obtain ⟨k, hk, e⟩ := h.nms q hq
      exact ⟨k, by omega, e⟩
    · have := h.ids q hq
      omega
theorem names_all (s : AS) : (namesA s []).length = s.nm.length := by
  unfold namesA
  rw [sortS_length, List.filter_eq_self.2 (fun q _ => by simp [preB]), List.length_map]
theorem int_wf {n : Int} (h : (Lit.int .i64 n).wf = true) : -9223372036854775808 ≤ n ∧ n ≤ 9223372036854775807 := by
  have h1 : IntKind.i64.min = -9223372036854775808 := rfl
  have h2 : IntKind.i64.max = 9223372036854775807 := rfl
  simp only [Lit.wf, h1, h2, Bool.and_eq_true, decide_eq_true_eq] at h
  exact h
def tsum (rs : List (Value × List UInt8)) (i : Nat) : Nat := ((rs.take i).map fun p => 1 + p.2.length).sum
theorem tsum_succ {rs : List (Value × List UInt8)} {i : Nat} (h : i < rs.length) : tsum rs (i + 1) = tsum rs i + 1 + (rs.getD i R0).2.length := by
  unfold tsum
  rw [List.take_add_one, List.getElem?_eq_getElem h, Option.toList_some, List.map_append, List.sum_append, List.getD_eq_getElem?_getD, List.getElem?_eq_getElem h]
  simp
  omega
theorem tsum_le {rs : List (Value × List UInt8)} (i : Nat) : tsum rs i ≤ tsum rs rs.length := by
  unfold tsum
  rw [List.take_length]
  conv => rhs; rw [← List.take_append_drop i rs]
  rw [List.map_append, List.sum_append]
  omega
theorem tsum_ge {rs : List (Value × List UInt8)} {i : Nat} (h : i ≤ rs.length) : i ≤ tsum rs i := by
  induction i with
  | zero => exact Nat.zero_le _
  | succ i ih =>
    rw [tsum_succ (by omega)]
    have := ih (by omega)
    omega
theorem newR_con (room : Int) (w : World) (h0 : 0 ≤ room) (h1 : room ≤ 1073741824) : Con Try.prog 10 [.int .i64 room] w [] fun v S' => ∃ r : FR, S' = [r.heap] ∧ v = .tuple #[r.ptr, .int .i64 0] ∧ r.Ok (AF0 room) := by
  refine con_of_tree mix Try.func10 T10_ok (by kernel_rfl) ?_
  unfold T10
  refine j_q (qs_ac) ?_
  refine j_q (qs_ac) ?_
  refine j_q (qs_lss rfl rfl) ?_
  refine j_g rfl (fun hb => qs_mt rfl) ?_
  refine j_g rfl (fun hb => qs_gtr (gd_eq hb) rfl) ?_
  refine j_q (qs_or rfl rfl) ?_
  refine j_cond rfl (fun hc0 => ?_) (fun hc0 => ?_)
  · skip
    simp [gd] at hc0
    omega
  · skip
    refine j_call0 ent30 rfl rfl rfl (fun w' hw' => begun_con w') (fun u S2 hu => ?_)
    obtain ⟨gs1, gm1, rfl, rfl⟩ := hu
    refine j_subl (S' := [(SM0 gs1 gm1).heap]) (by repeat first | exact slR _ | exact slN _ | apply slC | apply slD) ?_
    refine j_call0 ent30 rfl rfl rfl (fun w' hw' => begun_con w') (fun u S2 hu => ?_)
    obtain ⟨gs2, gm2, rfl, rfl⟩ := hu
    refine j_subl (S' := [(SM0 gs2 gm2).heap, (SM0 gs1 gm1).heap]) (by repeat first | exact slR _ | exact slN _ | apply slC | apply slD) ?_
    refine j_q (qs_build (places := [(0, 1), (1, 1), (2, 1), (3, 1), (4, 1), (5, 1)]) (offs := [(0, [.int .i64 room]), (1, [(SM0 gs1 gm1).ptr]), (2, [(SM0 gs2 gm2).ptr])]) Try.underlying62 zero62 (by kernel_rfl) rfl (by rintro (_ | _ | _ | j) p q hp hq <;> first | (simp at hp hq; subst hp hq; exact ⟨rfl, rfl, by simp⟩) | (simp at hp))) ?_
    refine j_box (l := fmcells (⟨0, room, (SM0 gs1 gm1).ptr, SM0 gs2 gm2, [], .slice none 0 0, [], false, 0, (SM0 gs1 gm1).heap, []⟩ : FM)) rfl (fun g11 hg11 hs11 => ?_)
    refine j_q (qs_ac) ?_
    refine j_perm (S' := [FR.heap (⟨g11, room, SM0 gs1 gm1, SM0 gs2 gm2, [], .slice none 0 0, [], false, 0, [], []⟩ : FR)]) (List.Perm.of_eq (by simp [FM.heap, ph])) ?_
    refine j_ret_con (vs := [_, _]) (fun w' hw' => ⟨rfl, rfl, trivial⟩) ?_
    exact ⟨(⟨g11, room, SM0 gs1 gm1, SM0 gs2 gm2, [], .slice none 0 0, [], false, 0, [], []⟩ : FR), rfl, rfl, ⟨rfl, rfl, rfl, ⟨Int.le_refl 0, by show (0 : Int) ≤ _; decide⟩, rfl, own_nil, Nat.zero_le _, (fun m h => by cases h), (fun m h => by cases h), ⟨by show (0 : Int) ≤ _; decide, Nat.zero_le _⟩, sx0 _ _, (fun x h => by cases h), sx0 _ _, (fun x h => by cases h)⟩⟩
theorem fsFuses_con (n : Int) (rs : List (Value × List UInt8)) (v : Value) (w : World) (hnb : -9223372036854775808 ≤ n ∧ n ≤ 9223372036854775807) (hrs1 : RSlN 1 w v (rowsV rs) rs.length) (hrs2 : ∀ p ∈ rs, BRz w p ∧ p.2.length ≤ 140737488351232) (hrl : rs.length ≤ 4611686018427387903) : Con Try.prog 5 [.int .i64 n, v] w [] fun u _ => u = .bool true := by
  refine con_of_tree mix Try.func5 T5_ok (by kernel_rfl) ?_
  unfold T5
  obtain ⟨A, cap, g, off, rfl, hcap, hA⟩ := rsln_form hrs1
  refine j_q (qs_ac) ?_
  refine j_q (qs_ac) ?_
  refine j_q (qs_ac) ?_
  refine j_loop (fun m vs S' => ∃ i : Nat, vs = [.int .i64 (tsum rs i : Int), .int .i64 (i : Int)] ∧ S' = [[]] ∧ tsum rs i ≤ 140737488365000 ∧ i ≤ rs.length ∧ m = rs.length - i) ⟨_, 0, rfl, rfl, by show (0 : Nat) ≤ _; decide, Nat.zero_le _, rfl⟩ ?_
  rintro m vs S' hlen ⟨i, rfl, rfl, ht, hi, rfl⟩
  refine j_q (qs_lenl Try.underlying22 rfl) ?_
  refine j_q (qs_lss rfl rfl) ?_
  refine j_g rfl (fun hb => qs_mt rfl) ?_
  refine j_g rfl (fun hb => qs_leq (gd_eq hb) rfl) ?_
  refine j_q (qs_and rfl rfl) ?_
  refine j_cond rfl (fun hc0 => ?_) (fun hc0 => ?_)
  · skip
    have hi1 : i < rs.length := by
      simp [gd] at hc0
      omega
    obtain ⟨rfl, hgs, hcl⟩ := hA (by omega)
    obtain ⟨hbz, hbl⟩ := hrs2 _ (rows_mem hi1)
    have hbr : BR w (rs.getD i R0).1 (rs.getD i R0).2 := brz_br hbz
    obtain ⟨rA, rC, hrv, _⟩ := br_form hbr
    have hts := tsum_succ hi1
    have ht8 : tsum rs i ≤ 8000 := by
      simp [gd, hi1] at hc0
      omega
    refine j_q (qs_add64 rfl rfl (by first | omega | (simp only [bnA] at *; omega))) ?_
    refine j_q (qs_ixn (g := g) (off := off) (n := rs.length) (c := cap) (i := i) Try.underlying22 sz23 rfl rfl hi1) ?_
    refine j_q (qs_loadR (v := (rs.getD i R0).1) (a := ⟨g, off, none⟩) (i := i) (rd_cells hcl (by simp)) Try.underlying23 rfl (by rw [add_off]; show Value.pointer (some ⟨g, off + i * 1, none⟩) = _; rw [Nat.mul_one]) (rows_get hi1)) ?_
    refine j_q (qs_lenl (n := (rs.getD i R0).2.length) (A := rA) (c := rC) Try.underlying23 hrv) ?_
    refine j_q (qs_add64 rfl rfl (by first | omega | (simp only [bnA] at *; omega))) ?_
    refine j_q (qs_add64 rfl rfl (by first | omega | (simp only [bnA] at *; omega))) ?_
    refine j_back rfl ?_
    exact ⟨rs.length - (i + 1), by omega, i + 1, by rw [hts]; rw [show ((tsum rs i + 1 + (rs.getD i R0).2.length : Nat) : Int) = (tsum rs i : Int) + 1 + ((rs.getD i R0).2.length : Int) by omega]; rfl, rfl, by omega, by omega, rfl⟩
  · skip
    have hend : tsum rs i ≤ 8000 → i = rs.length := fun h => by
      by_cases h1 : i < rs.length
      · simp [gd, h1] at hc0
        omega
      · omega
    refine j_q (qs_gtr rfl rfl) ?_
    refine j_g rfl (fun hb => qs_mt rfl) ?_
    refine j_g rfl (fun hb => qs_lss (gd_eq hb) rfl) ?_
    refine j_q (qs_or rfl rfl) ?_
    refine j_g rfl (fun hb => qs_mt rfl) ?_
    refine j_g rfl (fun hb => qs_gtr (gd_eq hb) rfl) ?_
    refine j_q (qs_or rfl rfl) ?_
    refine j_cond rfl (fun hc1 => ?_) (fun hc1 => ?_)
    · skip
      refine j_q (qs_call ent9 rfl rfl rfl (fun w' hw' => known_con w')) ?_
      refine j_ret_con (vs := [_]) (fun w' hw' => ⟨rfl, trivial⟩) ?_
      rfl
    · skip
      have hgood : tsum rs i ≤ 8000 ∧ 0 ≤ n ∧ n ≤ 1000 := by
        simp [gd] at hc1
        omega
      obtain ⟨ht8, hn0, hn1⟩ := hgood
      obtain rfl := hend ht8
      refine j_call0 ent10 rfl rfl rfl (fun w' hw' => newR_con 1048576 w' (by decide) (by decide)) (fun u S2 hu => ?_)
      obtain ⟨r0, rfl, rfl, hok0⟩ := hu
      refine j_subl (S' := [r0.heap]) (by repeat first | exact slR _ | exact slN _ | apply slC | apply slD) ?_
      refine j_q (qs_ext (vs := [r0.ptr, .int .i64 0]) rfl rfl) ?_
      refine j_q (qs_ext (vs := [r0.ptr, .int .i64 0]) rfl rfl) ?_
      refine j_q (qs_neq rfl rfl) ?_
      refine j_g rfl (fun hb => qs_mt rfl) ?_
      refine j_g rfl (fun hb => qs_pnil Try.underlying25 (gd_eq hb)) ?_
      refine j_q (qs_or rfl rfl) ?_
      refine j_cond rfl (fun hc2 => ?_) (fun hc2 => ?_)
      · skip
        simp [gd] at hc2
      · skip
        refine j_call 0 ent18 rfl rfl rfl rfl (fun w' hw' => (fuse_con r0 (AF0 1048576) n w' hok0 (by omega)).mono (fun u S5 h5 => by
          obtain ⟨r', h2, h3, h4⟩ := h5
          exact (⟨r', h2, h3, h4.gf⟩ : ∃ r' : FR, S5 = [r'.heap] ∧ r'.Ok (fuseF (AF0 1048576) n) ∧ r'.gf = r0.gf))) (fun u S5 h5 => ?_)
        obtain ⟨r1, rfl, hok1, hgf1⟩ := h5
        refine j_subl (S' := [r1.heap]) (by repeat first | exact slR _ | exact slN _ | apply slC | apply slD) ?_
        refine j_q (qs_ac) ?_
        refine j_loop (fun m vs S' => ∃ (i : Nat) (r : FR) (a : AF), vs = [.int .i64 (i : Int)] ∧ S' = [r.heap] ∧ r.gf = r0.gf ∧ r.Ok a ∧ FI a n i (tsum rs i) ∧ i ≤ rs.length ∧ m = rs.length - i) ⟨_, 0, r1, fuseF (AF0 1048576) n, rfl, rfl, hgf1, hok1, ⟨rfl, by simp [fuseF, hn0], by show max 0 n = _; omega, by show ((0 : Nat) : Int) = _; omega, by show ((0 : Nat) : Int) = _; omega, (fun q hq => by cases hq), (fun q hq => by cases hq), by show (0 : Int) ≤ _; omega⟩, Nat.zero_le _, rfl⟩ ?_
        rintro m vs S' hlen ⟨i, r, a, rfl, rfl, hgf, hok, hfi, hi, rfl⟩
        have hp1 : r0.ptr = r.ptr := by simp only [FR.ptr, hgf]
        rw [hp1]
        have htl := tsum_le (rs := rs) i
        have hti := tsum_ge hi
        refine j_q (qs_lenl Try.underlying22 rfl) ?_
        refine j_q (qs_lss rfl rfl) ?_
        refine j_cond rfl (fun hc3 => ?_) (fun hc3 => ?_)
        · skip
          have hi1 : i < rs.length := by
            simp only [bnA] at *
            omega
          obtain ⟨rfl, hgs, hcl⟩ := hA (by omega)
          obtain ⟨hbz, hbl⟩ := hrs2 _ (rows_mem hi1)
          have hbr : BR w (rs.getD i R0).1 (rs.getD i R0).2 := brz_br hbz
          obtain ⟨rA, rC, hrv, _⟩ := br_form hbr
          have hts := tsum_succ hi1
          have htl2 := tsum_le (rs := rs) (i + 1)
          refine j_mix _ (.refl _) ?_
          refine j_mq (qs_shr rfl rfl (by first | omega | (simp only [bnA] at *; omega))) ?_
          refine j_mq (qs_conv8 Try.underlying3 Try.underlying5 rfl) ?_
          refine j_mq (qs_conv8 Try.underlying3 Try.underlying5 rfl) ?_
          refine j_mq (qs_ixn (g := g) (off := off) (n := rs.length) (c := cap) (i := i) Try.underlying22 sz23 rfl rfl hi1) ?_
          refine j_mq (qs_loadR (v := (rs.getD i R0).1) (a := ⟨g, off, none⟩) (i := i) (rd_cells hcl (by simp)) Try.underlying23 rfl (by rw [add_off]; show Value.pointer (some ⟨g, off + i * 1, none⟩) = _; rw [Nat.mul_one]) (rows_get hi1)) ?_
          refine j_lit (vs := [.int .u8 _, .int .u8 _, .int .u8 _]) Try.underlying23 sz5 zero5 rfl (by simp [oneV]) ⟨rfl, by decide⟩ (fun g39 v39 c39 hv39 hc39 ho39 => ?_)
          subst hv39 hc39
          refine j_mD _ (Le.of_sub (List.Sublist.cons _ (List.Sublist.refl _))) (.refl _) ?_
          refine j_mq (qs_stro (l := nmF i) 0 Try.underlying23 Try.underlying5 Try.underlying9 ho39 rfl) ?_
          refine j_call 1 ent13 rfl rfl rfl rfl (fun w' hw' => (write_con' r a (nmF i) (rs.getD i R0).1 (rs.getD i R0).2 i w' hok (nmF_ok i).2 (br0 hbr hw') (base_sep hbr hw' 1 rfl) (by omega) (by have := hfi.pl; omega) (by rw [hfi.rm]; decide) (fun q hq => by have := hfi.ids q hq; omega)).mono (fun u S5 h5 => by
            obtain ⟨h1, r', h2, h3, h4⟩ := h5
            exact (⟨h1, r', h2, h3, h4.gf⟩ : u = .int .i64 (wrE a (nmF i) (rs.getD i R0).2) ∧ ∃ r' : FR, S5 = [r'.heap] ∧ r'.Ok (if wrE a (nmF i) (rs.getD i R0).2 = 0 then stepF a (.wr (nmF i) (rs.getD i R0).2 i) else a) ∧ r'.gf = r.gf))) (fun u S5 h5 => ?_)
          obtain ⟨rfl, r2, rfl, hok2, hgf2⟩ := h5
          refine j_subl (S' := [r2.heap]) (by repeat first | exact slR _ | exact slN _ | apply slC | apply slD) ?_
          have hfi2 := hfi.step ⟨hn0, hn1⟩ (by omega) (rs.getD i R0).2 (by omega)
          have hwr := hfi.wr ⟨hn0, hn1⟩ (by omega) (rs.getD i R0).2 (by omega)
          obtain ⟨e, he⟩ : ∃ e, e = wrE a (nmF i) (rs.getD i R0).2 := ⟨_, rfl⟩
          rw [← he] at hwr ⊢
          refine j_mR _ (.refl _) ?_
          refine j_mend ?_
          refine j_q (qs_eql rfl rfl) ?_
          refine j_q (qs_lss rfl rfl) ?_
          refine j_q (qs_bne Try.underlying4 rfl rfl) ?_
          refine j_g rfl (fun hb => qs_mt rfl) ?_
          refine j_g rfl (fun hb => qs_neq (gd_eq hb) rfl) ?_
          refine j_g rfl (fun hb => qs_move (gd_eq hb)) ?_
          refine j_gg rfl (fun hb hb1 => qs_mt rfl) ?_
          refine j_gg rfl (fun hb hb1 => qs_neq (gd_eq2 hb hb1) rfl) ?_
          refine j_g rfl (fun hb => qs_and (gd_eq hb) (gd_eq hb)) ?_
          refine j_q (qs_or rfl rfl) ?_
          refine j_cond rfl (fun hc4 => ?_) (fun hc4 => ?_)
          · skip
            by_cases hin : (i : Int) < n
            · rw [if_pos hin] at hwr
              subst hwr
              simp [gd, hin] at hc4
            · rw [if_neg hin] at hwr
              subst hwr
              simp [gd, hin] at hc4
          · skip
            refine j_q (qs_add64 rfl rfl (by first | omega | (simp only [bnA] at *; omega))) ?_
            refine j_back rfl ?_
            exact ⟨rs.length - (i + 1), by omega, i + 1, r2, _, rfl, rfl, hgf2.trans hgf, hok2, ⟨hfi2.rm, hfi2.fu, hfi2.le, hfi2.pl, hfi2.nl, hfi2.nms, hfi2.ids, by have := hfi2.us; omega⟩, by omega, rfl⟩
        · skip
          have hi2 : i = rs.length := by
            simp only [bnA] at *
            omega
          subst hi2
          refine j_call0 ent19 rfl rfl rfl (fun w' hw' => names_con r a [] w' (in_own hw' 0 rfl) hok (Nat.zero_le _)) (fun u S5 h5 => ?_)
          obtain ⟨c54, rfl, ho54⟩ := h5
          obtain ⟨n54, A54, cap54, hv54, hn54⟩ := own_form ho54 (by decide)
          rw [strs_length, Nat.mul_one, names_all] at hn54
          have hnl := hfi.nl
          refine j_subl (S' := [c54, r.heap]) (by repeat first | exact slR _ | exact slN _ | apply slC | apply slD) ?_
          refine j_q (qs_lenl (n := n54) (A := A54) (c := cap54) Try.underlying41 hv54) ?_
          refine j_q (qs_lenl Try.underlying22 rfl) ?_
          refine j_q (qs_min rfl rfl) ?_
          refine j_q (qs_neq rfl rfl) ?_
          rw [show ((n54 : Int) != min n (rs.length : Int)) = false by simp; omega]
          refine j_gt rfl (qs_mt rfl) ?_
          refine j_ga rfl ?_
          refine j_call 1 ent20 rfl rfl rfl rfl (fun w' hw' => (sync_con r a w' hok).mono (fun u S5 h5 => by
            obtain ⟨h1, r', h2, h3, h4⟩ := h5
            exact (⟨h1, r', h2, h3, h4.gf⟩ : u = .int .i64 (mayE a.fused a.left []) ∧ ∃ r' : FR, S5 = [r'.heap] ∧ r'.Ok (if mayE a.fused a.left [] = 0 then syncF a else a) ∧ r'.gf = r.gf))) (fun u S5 h5 => ?_)
          obtain ⟨rfl, r2, rfl, hok2, hgf2⟩ := h5
          rw [hfi.may hn0 rfl]
          refine j_subl (S' := [r2.heap]) (by repeat first | exact slR _ | exact slN _ | apply slC | apply slD) ?_
          obtain ⟨a2, ha2⟩ : ∃ a2, a2 = (if mayE a.fused a.left [] = 0 then syncF a else a) := ⟨_, rfl⟩
          rw [← ha2] at hok2
          have hnow2 : runA a2.base (a2.pend.take (keepN a2.pend.length 1048576)) = a.now := by
            have hk : ∀ l : List AT, l.length ≤ 1000 → l.take (keepN l.length 1048576) = l := fun l hl => by
              rw [show keepN l.length 1048576 = l.length by unfold keepN; omega, List.take_length]
            rw [ha2]
            split
            · rfl
            · rw [hk a.pend (by have := hfi.pl; omega)]
          have hrm2 : a2.room = 1048576 := by
            rw [ha2]
            split
            · exact hfi.rm
            · exact hfi.rm
          have hp2 : r.ptr = r2.ptr := by simp only [FR.ptr, hgf2]
          rw [hp2]
          refine j_gt rfl (qs_eql rfl rfl) ?_
          refine j_gt rfl (qs_mt rfl) ?_
          refine j_gt rfl (qs_lenl Try.underlying22 rfl) ?_
          refine j_gt rfl (qs_mt rfl) ?_
          refine j_gt rfl (qs_lss rfl rfl) ?_
          refine j_gt rfl (qs_bne Try.underlying4 rfl rfl) ?_
          refine j_q (qs_or rfl rfl) ?_
          refine j_cond rfl (fun hc5 => ?_) (fun hc5 => ?_)
          · skip
            by_cases hin : (rs.length : Int) < n
            · simp [gd, hin] at hc5
            · simp [gd, hin] at hc5
          · skip
            refine j_call 0 ent21 rfl rfl rfl rfl (fun w' hw' => (crash_con r2 a2 1048576 w' hok2).mono (fun u S5 h5 => by
              obtain ⟨r', h2, h3, h4⟩ := h5
              exact (⟨r', h2, h3, h4.gf⟩ : ∃ r' : FR, S5 = [r'.heap] ∧ r'.Ok (crashF a2 1048576) ∧ r'.gf = r2.gf))) (fun u S5 h5 => ?_)
            obtain ⟨r3, rfl, hok3, hgf3⟩ := h5
            refine j_subl (S' := [r3.heap]) (by repeat first | exact slR _ | exact slN _ | apply slC | apply slD) ?_
            have hp3 : r2.ptr = r3.ptr := by simp only [FR.ptr, hgf3]
            rw [hp3]
            have hnow3 : (crashF a2 1048576).now = a.now := hnow2
            have hwz : wrE (crashF a2 1048576) [122] [] = 0 := by
              unfold wrE
              have hm : mayE (crashF a2 1048576).fused (crashF a2 1048576).left [[122]] = 0 := rfl
              rw [hm, if_neg (by decide), if_neg (by decide), if_neg]
              unfold fullA
              rw [hnow3]
              have h1 := hfi.nl
              have h2 := hfi.us
              have h3 : (crashF a2 1048576).room = 1048576 := hrm2
              simp only [List.length_nil]
              rintro (⟨_, h4⟩ | h4) <;> omega
            refine j_call 0 ent13 rfl rfl rfl rfl (fun w' hw' => (write_con' r3 (crashF a2 1048576) [122] (.slice none 0 0) [] rs.length w' hok3 (by decide) (.inl ⟨rfl, rfl⟩) (fun _ _ _ e => by cases e) (by decide) (by show 0 < _; decide) (by rw [show (crashF a2 1048576).room = a2.room from rfl, hrm2]; decide) (fun q hq => by rw [hnow3] at hq; have := hfi.ids q hq; omega)).mono (fun u S5 h5 => (h5.1 : u = .int .i64 (wrE (crashF a2 1048576) [122] [])))) (fun u S5 h5 => ?_)
            subst h5
            refine j_q (qs_eql rfl rfl) ?_
            rw [hwz]
            rw [show ((0 : Int) == 0) = true from rfl]
            refine j_ga rfl ?_
            refine j_call0 ent9 rfl rfl rfl (fun w' hw' => known_con w') (fun u S2 hu => ?_)
            subst hu
            refine j_q (qs_and rfl rfl) ?_
            refine j_ret_con (vs := [_]) (fun w' hw' => ⟨rfl, trivial⟩) ?_
            rfl
end Go.Proofs.Ytckpegkpdepokaa
/-! SxT -/
namespace Go.Sx
open Go Go.ChangeShapes Go.WideShapes Go.ChangeAt Go.RowKit
set_option linter.unusedVariables false
end Go.Sx
/-! RowA -/
namespace Go.Proofs.Ytckpegkpdepokaa
open Go Go.Sx Go.ChangeShapes Go.WideShapes Go.ChangeAt Go.RowKit
set_option linter.unusedVariables false
theorem own_fsFuses : ownKnob Try.prog.godebug = none := by kernel_rfl
theorem laid_fsFuses : laidOutB Try.prog = true := by kernel_rfl
set_option maxRecDepth 100000 in
theorem fsFuses_lifted (os : Os) (started : os.Started) (H : Type) (enc : TypeId × Value → H) :
    ReturnsInHanded {} Try.checked os 5 .any (Rows.fsFusesSpec.pre6 enc Try.prog Try.f5 Rows.fsFusesRow.domain false) (Rows.fsFusesSpec.post enc Try.prog Try.f5 false true false false) := by
  refine returnsInHanded_of_change_sized (C := Try.checked) own_fsFuses started (by kernel_rfl) Try.func5
    (ChangeSpec.witness6 (enc := enc) (C := Try.checked) false ⟨#[], #[.int .i64 0, .slice none 0 0], []⟩ 8 (by kernel_rfl) (by kernel_rfl) (by kernel_rfl) (by kernel_rfl)) ?_
  intro W base args ds gs before hval0 hW hcnd hsz0 _
  have hsz : (DataW.weightsEach Try.prog (Try.f5.params.toList ++ Rows.fsFusesSpec.plain.varTypes Try.prog) (ds ++ gs)).all (· ≤ reachBytes) = true := hsz0
  have hreach : reachBytes = 140737488351232 := rfl
  have hval : ∀ (j : Nat) t v, Try.f5.params[j]? = some t → args[j]? = some v → Value.okWide Try.prog W .any base t v := hval0
  have hW' := hW
  obtain ⟨p, q, hA0, hV, rfl, hfz, hnd⟩ := hW
  have hA : DataW.TrodAll enc Try.prog W 0 (fun _ => true) true Try.f5.params.toList args.toList ds p := hA0
  rw [Try.params5] at hA hval
  obtain ⟨v0, v1, d0, d1, p0, p1, rfl, rfl, rfl, h0, h1⟩ := trodAll_two hA
  obtain ⟨rfl, rfl⟩ := trodVars_none hV
  obtain ⟨a0, rfl, rfl, rfl, wa0⟩ := open_int Try.underlying3 (hval 0 3 v0 rfl rfl) h0
  obtain ⟨a1, wa1_0, wa1_1, wa1_2⟩ := open_rows (hval 1 22 v1 rfl rfl) h1 (weights_at hsz (j := 1) (t := 22) (by rw [Try.params5]; rfl) rfl)
  clear hA0 hval0
  have hc := fsFuses_con a0 a1 v1 W (int_wf wa0) wa1_0 wa1_1 wa1_2 (by simp) (by simp)
  refine hc.mono fun e W' h => ?_
  obtain ⟨v, S', rfl, rfl, hS⟩ := h
  exact ⟨_, rfl, post_law hW' rfl rfl laid_fsFuses (by decide +kernel) rfl Try.underlying4 (below_of_sig hS)⟩
theorem fsFuses_holds : Rows.FsFusesSaid :=
  OpenClaim.holds_of_wide 5 Try.f5 rfl rfl rfl rfl rfl rfl rfl ⟨rfl, rfl, rfl, rfl, rfl⟩ rfl rfl rfl rfl rfl (by kernel_rfl) Try.func5 (by kernel_rfl)
    (of_decide_eq_true (by kernel_rfl)) (by unfold Func.isWrapper; first | (rw [if_pos (by decide +kernel)]; kernel_rfl) | (rw [if_neg (by decide +kernel)]; exact ⟨rfl, rfl⟩))
    (fun os started H enc _ => fsFuses_lifted os started H enc)
end Go.Proofs.Ytckpegkpdepokaa
