/- Part 6. -/
import Derived.Test.YtckpegkpdepokaaGreatPD2
import Derived.Test.YtckpegkpdepokaaGreatPD3
import Derived.Test.YtckpegkpdepokaaGreatPD5
import Derived.Test.YtckpegkpdepokaaGreatPD4
/-! Ft4 -/
namespace Go.Proofs.YtckpegkpdepokaaGreat
open Go Go.Sx
set_option maxRecDepth 100000
set_option maxHeartbeats 4000000
set_option linter.unusedVariables false
set_option linter.unusedSimpArgs false
attribute [local irreducible] J JQ QS Con W opW
open Go.MapKept Go.WideMaps Go.Maps
def keepN (len : Nat) (keep : Int) : Nat := (max 0 (min (len : Int) keep)).toNat
def crashF (a : AF) (keep : Int) : AF := { a with base := runA a.base (a.pend.take (keepN a.pend.length keep)), pend := [], fused := false }
def fuseF (a : AF) (n : Int) : AF := { a with fused := decide (0 ≤ n), left := max 0 n }
def burnL (a : AF) : Int := if a.fused then a.left - 1 else a.left
def syncF (a : AF) : AF := { a with base := a.now, pend := [], left := burnL a }
structure FR.To (w : World) (r r' : FR) : Prop where
  gf : r'.gf = r.gf
  gr : Gr w r.heap r.P r'.P
  xs : ∀ q ∈ r.X, q ∈ r'.X
theorem FR.To.refl (w : World) (r : FR) : FR.To w r r := ⟨rfl, Gr.refl _ _ _, fun q h => h⟩
theorem FR.Ok.len {r : FR} {a : AF} (h : r.Ok a) : r.ms.length = a.pend.length := by rw [← h.pd, List.length_map]
abbrev lastR (r : FR) (ls : SM) (P : List BK) : FR := { r with ls := ls, P := P, ms := [], tv := .slice none 0 0, tc := [] }
theorem FR.hgf {r : FR} {w : World} (h : In w r.heap) : w.heap[r.gf]? = some r.fm.obj := FM.in_gf h
theorem fuse_con (r : FR) (a : AF) (n : Int) (w : World) (hok : r.Ok a) (hn : -9223372036854775808 ≤ n ∧ n ≤ 9223372036854775807) : Con Tryz.prog 46 [r.ptr, .int .i64 n] w r.heap fun _ S' => ∃ r' : FR, S' = [r'.heap] ∧ r'.Ok (fuseF a n) ∧ FR.To w r r' := by
  refine con_of_tree mix Tryz.func46 T46_ok (by kernel_rfl) ?_
  unfold T46
  refine j_perm (S' := r.parts) r.split ?_
  refine j_q (qs_pnnil Tryz.underlying25 rfl) ?_
  refine j_cond rfl (fun hc0 => ?_) (fun hc0 => ?_)
  · skip
    refine j_q (qs_geq rfl rfl) ?_
    refine j_q (qs_max rfl rfl) ?_
    refine j_q (qs_nil rfl) ?_
    refine j_q (qs_field Tryz.underlying52 rfl sz4 (by decide) rfl) ?_
    refine j_store (l := fmcells r.fm) 0 sz4 rfl rfl rfl rfl (by simp) (by simp) ?_
    refine j_q (qs_nil rfl) ?_
    refine j_q (qs_field Tryz.underlying52 rfl sz3 (by decide) rfl) ?_
    refine j_store (l := fmcells ({ r with fused := decide (0 ≤ n) } : FR).fm) 0 sz3 rfl rfl rfl rfl (by simp) (by simp) ?_
    refine j_perm (S' := FR.parts ({ r with fused := decide (0 ≤ n), left := max 0 n } : FR)) (.refl _) ?_
    refine j_perm (S' := [FR.heap ({ r with fused := decide (0 ≤ n), left := max 0 n } : FR)]) (FR.split ({ r with fused := decide (0 ≤ n), left := max 0 n } : FR)).symm ?_
    refine j_ret_con (vs := []) (fun w' hw' => trivial) ?_
    exact ⟨_, rfl, ⟨hok.rm, rfl, rfl, ⟨Int.le_max_left 0 n, by show max 0 n ≤ 9223372036854775807; omega⟩, hok.pd, hok.row, hok.lt, hok.bx, hok.mo, hok.ok, hok.ls, hok.lv, hok.now, hok.nv⟩, rfl, Gr.refl _ _ _, fun q h => h⟩
  · skip
    simp at hc0
theorem pending_con (r : FR) (a : AF) (w : World) (hin : In w r.heap) (hok : r.Ok a) : Con Tryz.prog 54 [r.ptr] w [] fun v S' => v = .int .i64 (a.pend.length : Int) ∧ S' = [[]] := by
  refine con_of_tree mix Tryz.func54 T54_ok (by kernel_rfl) ?_
  unfold T54
  obtain ⟨n1, A1, cap1, htv, hn1⟩ := own_form hok.row (by decide)
  rw [Nat.mul_one, List.length_map] at hn1
  subst hn1
  refine j_q (qs_ac) ?_
  refine j_q (qs_pnil Tryz.underlying25 rfl) ?_
  refine j_cond rfl (fun hc0 => ?_) (fun hc0 => ?_)
  · skip
    simp at hc0
  · skip
    refine j_q (qs_nil rfl) ?_
    refine j_q (qs_field Tryz.underlying52 rfl sz50 (by decide) rfl) ?_
    refine j_q (qs_loadO (rdo_base (FM.in_gf hin) (by simp)) Tryz.underlying50 rfl rfl rfl) ?_
    refine j_q (qs_lenl (n := r.ms.length) (A := A1) (c := cap1) Tryz.underlying50 htv) ?_
    refine j_ret_con (vs := [_]) (fun w' hw' => ⟨rfl, trivial⟩) ?_
    rw [hok.len]
    exact ⟨rfl, rfl⟩
theorem sync_con (r : FR) (a : AF) (w : World) (hok : r.Ok a) : Con Tryz.prog 43 [r.ptr] w r.heap fun v S' => v = .int .i64 (mayE a.fused a.left []) ∧ ∃ r' : FR, S' = [r'.heap] ∧ r'.Ok (if mayE a.fused a.left [] = 0 then syncF a else a) ∧ FR.To w r r' := by
  refine con_of_tree mix Tryz.func43 T43_ok (by kernel_rfl) ?_
  unfold T43
  obtain ⟨n1, A1, cap1, htv, hn1⟩ := own_form hok.row (by decide)
  rw [Nat.mul_one, List.length_map] at hn1
  subst hn1
  have hmay : mayE r.fused r.left [] = mayE a.fused a.left [] := by rw [hok.fu, hok.le]
  refine j_q (qs_ac) ?_
  refine j_q (qs_call ent24 rfl rfl rfl (fun w' hw' => may_con r.fm [] _ w' (in_own hw' 0 rfl) (.inl ⟨rfl, rfl⟩) (by simp))) ?_
  refine j_q (qs_neq rfl rfl) ?_
  refine j_cond rfl (fun hc0 => ?_) (fun hc0 => ?_)
  · skip
    have hm : mayE a.fused a.left [] ≠ 0 := by
      rw [← hmay]
      simpa using hc0
    refine j_ret_con (vs := [_]) (fun w' hw' => ⟨rfl, trivial⟩) ?_
    rw [if_neg hm]
    exact ⟨congrArg (Value.int .i64) hmay, r, rfl, hok, FR.To.refl _ _⟩
  · skip
    have hm : mayE a.fused a.left [] = 0 := by
      rw [← hmay]
      simpa using hc0
    refine j_perm (S' := r.parts) r.split ?_
    refine j_q (qs_nil rfl) ?_
    refine j_q (qs_field Tryz.underlying52 rfl sz50 (by decide) rfl) ?_
    refine j_q (qs_load (l := fmcells r.fm) 0 Tryz.underlying50 rfl rfl rfl rfl) ?_
    refine j_q (qs_lenl (n := r.ms.length) (A := A1) (c := cap1) Tryz.underlying50 htv) ?_
    refine j_perm (S' := [r.heap]) r.split.symm ?_
    refine j_call 0 ent32 rfl rfl rfl rfl (fun w' hw' => (last_con r a r.ms.length w' hok (Nat.le_refl _)).mono (fun u S3 h3 => by
      obtain ⟨ls, P, h1, h2, h3, h4, h5, h6⟩ := h3
      exact (⟨ls, P, h1, h2, h3, h4, h5, h6.old hw'.size⟩ : ∃ (ls : SM) (P : List BK), S3 = [FR.heap (lastR r ls P)] ∧ ls.gs = r.ls.gs ∧ Sx' ls (runA a.base (a.pend.take r.ms.length)) ∧ VwA P ls ∧ VwA P r.now ∧ Gr w r.heap r.P P))) (fun u S2 hu => ?_)
    obtain ⟨ls, P, rfl, hgs, hls, hlv, hnv, hgr⟩ := hu
    refine j_perm (S' := FR.parts (lastR r ls P)) (by
      classical
      refine List.perm_iff_count.2 fun x => ?_
      simp only [FM.heap, FR.parts, List.set, List.flatten_cons, List.flatten_nil, List.append_nil, List.nil_append, List.cons_append, List.count_append, List.count_cons, List.count_nil] <;> omega) ?_
    refine j_call 0 ent65 rfl rfl rfl rfl (fun w' hw' => burns_con (lastR r ls P).fm w' (by have := hok.l0; show _ ≤ r.left ∧ r.left ≤ _; omega)) (fun u S2 hu => ?_)
    subst hu
    refine j_q (qs_ac) ?_
    refine j_perm (S' := [[(r.gf, FM.obj (FR.fm { lastR r ls P with left := if r.fused then r.left - 1 else r.left }))], [], ls.heap ++ ph P, [], r.now.heap, r.X]) (.refl _) ?_
    refine j_perm (S' := [FR.heap { lastR r ls P with left := if r.fused then r.left - 1 else r.left }]) (by
      classical
      refine List.perm_iff_count.2 fun x => ?_
      simp only [FM.heap, FR.parts, List.set, List.flatten_cons, List.flatten_nil, List.append_nil, List.nil_append, List.cons_append, List.count_append, List.count_cons, List.count_nil] <;> omega) ?_
    refine j_ret_con (vs := [_]) (fun w' hw' => ⟨rfl, trivial⟩) ?_
    rw [if_pos hm]
    refine ⟨by rw [hm]; rfl, _, rfl, ?_, rfl, ?_, fun q h => h⟩
    · rw [hok.len, List.take_length] at hls
      have hb : (if r.fused = true then r.left - 1 else r.left) = burnL a := by
        unfold burnL
        rw [hok.fu, hok.le]
      refine ⟨hok.rm, hok.fu, hb, ?_, rfl, own_nil, Nat.zero_le _, (fun m hm => by cases hm), (fun m hm => by cases hm), okA_end hok.ok, hls, hlv, hok.now, hnv⟩
      have h0 := hok.l0
      show 0 ≤ (if r.fused = true then r.left - 1 else r.left) ∧ (if r.fused = true then r.left - 1 else r.left) ≤ _
      have hz : r.fused = true → r.left ≠ 0 := fun hf hl => by
        unfold mayE at hm
        rw [← hok.fu, ← hok.le, hf, hl] at hm
        simp at hm
      split
      · rename_i hf
        have := hz hf
        omega
      · exact h0
    · exact hgr
theorem crash_con (r : FR) (a : AF) (keep : Int) (w : World) (hok : r.Ok a) : Con Tryz.prog 11 [r.ptr, .int .i64 keep] w r.heap fun _ S' => ∃ r' : FR, S' = [r'.heap] ∧ r'.Ok (crashF a keep) ∧ FR.To w r r' := by
  refine con_of_tree mix Tryz.func11 T11_ok (by kernel_rfl) ?_
  unfold T11
  obtain ⟨n1, A1, cap1, htv, hn1⟩ := own_form hok.row (by decide)
  rw [Nat.mul_one, List.length_map] at hn1
  subst hn1
  refine j_q (qs_pnil Tryz.underlying25 rfl) ?_
  refine j_cond rfl (fun hc0 => ?_) (fun hc0 => ?_)
  · skip
    simp at hc0
  · skip
    refine j_call0 ent20 rfl rfl rfl (fun w' hw' => ready_con r.fm w' (in_own hw' 0 rfl)) (fun u S2 hu => ?_)
    refine j_subl (S' := [r.heap]) (by simp) ?_
    refine j_perm (S' := r.parts) r.split ?_
    refine j_q (qs_nil rfl) ?_
    refine j_q (qs_field Tryz.underlying52 rfl sz50 (by decide) rfl) ?_
    refine j_q (qs_load (l := fmcells r.fm) 0 Tryz.underlying50 rfl rfl rfl rfl) ?_
    refine j_q (qs_lenl (n := r.ms.length) (A := A1) (c := cap1) Tryz.underlying50 htv) ?_
    refine j_q (qs_min rfl rfl) ?_
    refine j_q (qs_max rfl rfl) ?_
    obtain ⟨k, hk⟩ : ∃ k, k = keepN r.ms.length keep := ⟨_, rfl⟩
    have hk2 : max 0 (min (r.ms.length : Int) keep) = (k : Int) := by rw [hk]; unfold keepN; omega
    rw [hk2]
    refine j_perm (S' := [r.heap]) r.split.symm ?_
    refine j_call 0 ent32 rfl rfl rfl rfl (fun w' hw' => (last_con r a k w' hok (by rw [hk]; unfold keepN; omega)).mono (fun u S3 h3 => by
      obtain ⟨ls, P, h1, h2, h3, h4, h5, h6⟩ := h3
      exact (⟨ls, P, h1, h2, h3, h4, h5, h6.old hw'.size⟩ : ∃ (ls : SM) (P : List BK), S3 = [FR.heap (lastR r ls P)] ∧ ls.gs = r.ls.gs ∧ Sx' ls (runA a.base (a.pend.take k)) ∧ VwA P ls ∧ VwA P r.now ∧ Gr w r.heap r.P P))) (fun u S2 hu => ?_)
    obtain ⟨ls, P, rfl, hgs, hls, hlv, hnv, hgr⟩ := hu
    refine j_perm (S' := FR.parts (lastR r ls P)) (by
      classical
      refine List.perm_iff_count.2 fun x => ?_
      simp only [FM.heap, FR.parts, List.set, List.flatten_cons, List.flatten_nil, List.append_nil, List.nil_append, List.cons_append, List.count_append, List.count_cons, List.count_nil] <;> omega) ?_
    refine j_q (qs_nil rfl) ?_
    refine j_q (qs_field Tryz.underlying52 rfl sz48 (by decide) rfl) ?_
    refine j_q (qs_load (l := fmcells (lastR r ls P).fm) 0 Tryz.underlying48 rfl rfl rfl rfl) ?_
    refine j_call0 ent21 rfl rfl rfl (fun w' hw' => copied_con ls (runA a.base (a.pend.take k)) P w' hls hlv (okA_run hok.ok k) (fun q hq => in_own hw' 1 rfl q (List.mem_append_left _ hq))) (fun u S2 hu => ?_)
    obtain ⟨o, rfl, rfl, ho, hvo⟩ := hu
    refine j_q (qs_nil rfl) ?_
    refine j_q (qs_field Tryz.underlying52 rfl sz48 (by decide) rfl) ?_
    refine j_store (l := fmcells (lastR r ls P).fm) 1 sz48 rfl rfl rfl rfl (by simp) (by simp) ?_
    refine j_q (qs_nil rfl) ?_
    refine j_q (qs_field Tryz.underlying52 rfl sz4 (by decide) rfl) ?_
    refine j_store (l := fmcells ({ lastR r ls P with now := o } : FR).fm) 1 sz4 rfl rfl rfl rfl (by simp) (by simp) ?_
    refine j_perm (S' := [o.heap, [(r.gf, FM.obj (FR.fm ({ lastR r ls P with now := o, fused := false } : FR)))], ls.heap ++ ph P, [], r.now.heap, r.X]) (.refl _) ?_
    refine j_subl (S' := [o.heap, [(r.gf, FM.obj (FR.fm ({ lastR r ls P with now := o, fused := false } : FR)))], ls.heap ++ ph P, r.X]) (by repeat first | exact slR _ | exact slN _ | apply slC | apply slD) ?_
    refine j_perm (S' := [FR.heap ({ lastR r ls P with now := o, fused := false } : FR)]) (by
      classical
      refine List.perm_iff_count.2 fun x => ?_
      simp only [FM.heap, FR.parts, List.set, List.flatten_cons, List.flatten_nil, List.append_nil, List.nil_append, List.cons_append, List.count_append, List.count_cons, List.count_nil] <;> omega) ?_
    refine j_ret_con (vs := []) (fun w' hw' => trivial) ?_
    rw [hok.len] at hk
    subst hk
    exact ⟨_, rfl, ⟨hok.rm, rfl, hok.le, hok.l0, rfl, own_nil, Nat.zero_le _, (fun m hm => by cases hm), (fun m hm => by cases hm), okA_run hok.ok _, hls, hlv, ho, hvo⟩, rfl, hgr, fun q h => h⟩
end Go.Proofs.YtckpegkpdepokaaGreat
/-! Ft5 -/
namespace Go.Proofs.YtckpegkpdepokaaGreat
open Go Go.Sx
set_option maxRecDepth 100000
set_option maxHeartbeats 4000000
set_option linter.unusedVariables false
set_option linter.unusedSimpArgs false
attribute [local irreducible] J JQ QS Con W opW
open Go.MapKept Go.WideMaps Go.Maps
theorem FR.Ok.fm {r : FR} {a : AF} (h : r.Ok a) {B : Nat} (hB : a.pend.length ≤ B) : FM.Ok B r.fm := ⟨h.row, by show (r.ms.map MT.val).length ≤ B; rw [List.length_map, h.len]; exact hB, h.now.raw, h.nv, rfl⟩
theorem VwA.more {P P' : List BK} {s : SM} (hs : ∀ b ∈ P, b ∈ P') (h : VwA P s) : VwA P' s := fun x hx => (h x hx).more hs
theorem FR.Ok.more {r : FR} {a : AF} (h : r.Ok a) (X : SH) (Q : List BK) : FR.Ok { r with X := X ++ r.X, P := Q ++ r.P } a := by
  have hs : ∀ b ∈ r.P, b ∈ Q ++ r.P := fun b hb => List.mem_append_right _ hb
  exact ⟨h.rm, h.fu, h.le, h.l0, h.pd, h.row, h.lt, fun m hm q hq => List.mem_append_right _ (h.bx m hm q hq), fun m hm => MT.ok_mono (h.mo m hm) (fun v xs hv => hv.more hs), h.ok, h.ls, h.lv.more hs, h.now, h.nv.more hs⟩
theorem Gr.more (w : World) (Fp : SH) (Q P : List BK) : Gr w Fp P (Q ++ P) := ⟨fun v xs h => h.more (fun b hb => List.mem_append_right _ hb), fun o _ _ v xs h => h.more (fun b hb => List.mem_append_right _ hb)⟩
def stepF (a : AF) (t : AT) : AF := { a with pend := a.pend ++ [t], left := burnL a }
theorem doesR_con (r : FR) (a : AF) (mt : MT) (w : World) (hok : r.Ok a) (hB : a.pend.length < 16384) (hz : a.fused = true → a.left ≠ 0) (hmo : mt.ok r.P) (hbx : ∀ q ∈ mt.h, q ∈ r.X) (hcan : canA a.now mt.abs) (hlim : limA (doA a.now mt.abs)) :
    Con Tryz.prog 27 [r.ptr, mt.val] w r.heap fun v S' => v = .int .i64 0 ∧ ∃ r' : FR, S' = [r'.heap] ∧ r'.Ok (stepF a mt.abs) ∧ FR.To w r r' := by
  have hl0 := hok.l0
  have hsub : ∀ q ∈ mt.h, q ∈ r.fm.more := fun q hq => List.mem_append_right _ (hbx q hq)
  refine (does_con r.fm a.pend.length (by omega) mt.fid mt.caps.toArray (fun s' P' => Sx' s' (doA a.now mt.abs) ∧ VwA P' s' ∧ (P' = r.P ∨ ∃ f ∈ r.now.fs, PLe f.g r.P P' ∧ f.g ∉ dom (r.ls.heap))) w (hok.fm (Nat.le_refl _)) (by show _ ≤ r.left ∧ r.left ≤ _; omega) mt.ent (fun w2 hin hdj => (thing_con r.now r.P a.now mt w2 hok.now hok.nv (okA_end hok.ok) hmo hcan (fun q hq => hin q (hsub q hq)) (fun g hg => by
    obtain ⟨q, hq, e⟩ := List.mem_map.1 hg
    exact hdj g (List.mem_map.2 ⟨q, hsub q hq, e⟩))).mono (fun u S3 h3 => by
      obtain ⟨s', P', h1, h2, h4, h5, h6⟩ := h3
      refine ⟨s', P', h1, h2, h4, h5, ?_⟩
      rcases h6 with h6 | ⟨f, hf, h6⟩
      · exact .inl h6
      · exact .inr ⟨f, hf, h6, fun hx => hdj f.g (by
          obtain ⟨q, hq, e⟩ := List.mem_map.1 hx
          exact List.mem_map.2 ⟨q, List.mem_append_left _ hq, e⟩) (by
          rw [dom, List.map_append]
          exact List.mem_append_left _ (dom_gs hf))⟩))).mono (fun u S4 h4 => ?_)
  obtain ⟨rfl, s', P', tv, tc, rfl, hrow, hgs, hs', hv', hP⟩ := h4
  have hrv : ∀ v xs, RV r.P v xs → RV P' v xs := fun v xs h => by
    rcases hP with rfl | ⟨f, hf, h6, _⟩
    · exact h
    · exact h.mono h6
  have hb : (if r.fused = true then r.left - 1 else r.left) = burnL a := by
    unfold burnL
    rw [hok.fu, hok.le]
  have hb0 : 0 ≤ burnL a ∧ burnL a ≤ 9223372036854775807 := by
    unfold burnL
    rw [hok.le] at hl0
    split
    · rename_i hf
      have := hz hf
      omega
    · exact hl0
  refine ⟨rfl, { r with now := s', P := P', ms := r.ms ++ [mt], tv := tv, tc := tc, left := if r.fused then r.left - 1 else r.left }, ?_, ⟨hok.rm, hok.fu, hb, by show 0 ≤ (if r.fused = true then r.left - 1 else r.left) ∧ _; rw [hb]; exact hb0, by show (r.ms ++ [mt]).map MT.abs = a.pend ++ [mt.abs]; rw [List.map_append, hok.pd]; rfl, ?_, ?_, ?_, ?_, okA_append hok.ok hcan hlim, hok.ls, ?_, by show Sx' s' (runA a.base (a.pend ++ [mt.abs])); rw [runA_snoc]; exact hs', hv'⟩, rfl, ⟨hrv, fun o ho hod v xs h => ?_⟩, fun q hq => hq⟩
  · rfl
  · show Sx.Own 63 1 ((r.ms ++ [mt]).map MT.val) tv tc
    rw [List.map_append]
    exact hrow
  · show (r.ms ++ [mt]).length ≤ 16384
    rw [List.length_append, hok.len]
    simp only [List.length_singleton]
    omega
  · intro m hm q hq
    rcases List.mem_append.1 hm with hm | hm
    · exact hok.bx m hm q hq
    · rw [List.mem_singleton] at hm
      subst hm
      exact hbx q hq
  · intro m hm
    rcases List.mem_append.1 hm with hm | hm
    · exact MT.ok_mono (hok.mo m hm) hrv
    · rw [List.mem_singleton] at hm
      subst hm
      exact MT.ok_mono hmo hrv
  · rcases hP with rfl | ⟨f, hf, h6, h7⟩
    · exact hok.lv
    · exact fun x hx => (hok.lv x hx).mono h6 (fun e => h7 (e ▸ dom_gs hx))
  · rcases hP with rfl | ⟨f, hf, h6, h7⟩
    · exact h
    · exact h.mono h6 (fun e => hod (by
        rw [e]
        obtain ⟨q, hq, e2⟩ := List.mem_map.1 (dom_gs hf)
        exact List.mem_map.2 ⟨q, by simp only [FM.heap]; simp [hq], e2⟩))
end Go.Proofs.YtckpegkpdepokaaGreat
/-! Ft6 -/
namespace Go.Proofs.YtckpegkpdepokaaGreat
open Go Go.Sx
set_option maxRecDepth 100000
set_option maxHeartbeats 4000000
set_option linter.unusedVariables false
set_option linter.unusedSimpArgs false
attribute [local irreducible] J JQ QS Con W opW
open Go.MapKept Go.WideMaps Go.Maps
def freesA (s : AS) (n : List UInt8) : Nat :=
  match alook s.nm n with
  | none => 0
  | some i => if cntA s.nm i = 1 then (s.dt i).length else 0
def fullA (a : AF) (n xs : List UInt8) : Prop := (alook a.now.nm n = none ∧ 16384 ≤ a.now.nm.length) ∨ a.room < a.now.used - (freesA a.now n : Int) + (xs.length : Int)
instance (a : AF) (n xs : List UInt8) : Decidable (fullA a n xs) := by unfold fullA; infer_instance
def wrE (a : AF) (n xs : List UInt8) : Int := if mayE a.fused a.left [n] ≠ 0 then mayE a.fused a.left [n] else if 1048576 < xs.length then 5 else if fullA a n xs then 6 else 0
theorem letsA_free (s : AS) (n : List UInt8) : alook (letsA s n).nm n = none := by
  unfold letsA
  split
  · rename_i h
    exact h
  · show alook (mdel s.nm n) n = none
    rw [alook_mdel, if_pos rfl]
theorem letsA_none {s : AS} {n : List UInt8} (h : alook s.nm n = none) : letsA s n = s := by
  unfold letsA
  rw [h]
theorem letsA_used (s : AS) (n : List UInt8) : (letsA s n).used = s.used - (freesA s n : Int) := by
  cases h : alook s.nm n with
  | none =>
    rw [letsA_none h]
    simp only [freesA, h]
    omega
  | some i =>
    simp only [letsA, freesA, h]
    split
    · rfl
    · omega
theorem writeA_eq (s : AS) (n xs : List UInt8) (i : Nat) : writeA s n xs i = ⟨(letsA s n).nm ++ [(n, i)], updA (letsA s n).dt i xs, (letsA s n).used + (xs.length : Int)⟩ := by
  have h := letsA_free s n
  unfold writeA givesA
  simp only
  rw [if_neg (by rw [h]; simp)]
  have e : letsA { letsA s n with dt := updA (letsA s n).dt i xs } n = { letsA s n with dt := updA (letsA s n).dt i xs } := letsA_none h
  rw [e]
theorem mdel_len {s : AS} {n : List UInt8} {i : Nat} (hn : (s.nm.map Prod.fst).Nodup) (hl : alook s.nm n = some i) : (mdel s.nm n).length + 1 = s.nm.length := by
  obtain ⟨A, B, e, hA⟩ := alook_split hl
  rw [e] at hn ⊢
  rw [List.map_append, List.map_cons, List.nodup_append, List.nodup_cons] at hn
  have hb : ∀ q ∈ B, q.1 ≠ n := fun q hq e => hn.2.1.1 (by rw [← e]; exact List.mem_map.2 ⟨q, hq, rfl⟩)
  have e1 : mdel (A ++ (n, i) :: B) n = A ++ B := by
    unfold mdel
    rw [List.filter_append, List.filter_cons_of_neg (by simp), List.filter_eq_self.2 (fun q hq => by simpa using hA q hq), List.filter_eq_self.2 (fun q hq => by simpa using hb q hq)]
  rw [e1]
  simp only [List.length_append, List.length_cons]
  omega
theorem write_lim {a : AF} {n xs : List UInt8} {i : Nat} (hn : (a.now.nm.map Prod.fst).Nodup) (hl : limA a.now) (hr : a.room ≤ 1073741824) (hf : ¬ fullA a n xs) : limA (writeA a.now n xs i) := by
  unfold fullA at hf
  rw [not_or] at hf
  rw [writeA_eq]
  refine ⟨?_, ?_⟩
  · show (letsA a.now n).used + (xs.length : Int) ≤ _
    rw [letsA_used]
    have := hf.2
    omega
  · show ((letsA a.now n).nm ++ [(n, i)]).length ≤ _
    rw [List.length_append, List.length_singleton]
    cases h : alook a.now.nm n with
    | none =>
      have e : letsA a.now n = a.now := by unfold letsA; rw [h]
      rw [e]
      have h1 := hf.1
      rw [not_and] at h1
      have := h1 h
      omega
    | some j =>
      have e : (letsA a.now n).nm = mdel a.now.nm n := by unfold letsA; rw [h]
      rw [e]
      have := mdel_len hn h
      have := hl.2
      omega
theorem FR.To.old {w w' : World} {r R1 r' : FR} {S : List SH} (h : FR.To w' R1 r') (hw' : Sig ⟨w, dom r.heap⟩ S w') (k : Nat) (hk : S[k]? = some R1.heap) (hg : R1.gf = r.gf) (hx : ∀ q ∈ r.X, q ∈ R1.X) (hp : ∀ b ∈ r.P, b ∈ R1.P) : FR.To w r r' := by
  refine ⟨h.gf.trans hg, ⟨fun v xs hv => h.gr.1 v xs (hv.more hp), fun o ho hod v xs hv => h.gr.2 o (Nat.lt_of_lt_of_le ho hw'.size) (fun hd => ?_) v xs (hv.more hp)⟩, fun q hq => h.xs q (hx q hq)⟩
  obtain ⟨q, hq, e⟩ := List.mem_map.1 hd
  rcases hw'.dom_ o (List.mem_map.2 ⟨q, mem_flatten_of hk hq, e⟩) with h1 | h1
  · exact hod h1
  · exact absurd ho (Nat.not_lt.2 h1)
theorem write0_con (r : FR) (a : AF) (n : List UInt8) (bv : Value) (xs : List UInt8) (id : Nat) (w : World) (hok : r.Ok a) (hn : strOk n) (hbr : BR w bv xs) (hbd : ∀ (a : Addr) (m c : Nat), bv = .slice (some a) m c → 0 < m → a.block ∉ dom r.heap) (hxl : xs.length ≤ 1000000000) (hB : a.pend.length < 16384) (hrm : a.room ≤ 1073741824) (hid : ∀ q ∈ a.now.nm, q.2 ≠ id) (hlk : alook r.now.ml n = none) : Con Tryz.prog 10 [r.ptr, .string (bs n), bv] w r.heap fun v S' => v = .int .i64 (wrE a n xs) ∧ ∃ r' : FR, S' = [r'.heap] ∧ r'.Ok (if wrE a n xs = 0 then stepF a (.wr n xs id) else a) ∧ FR.To w r r' := by
  refine con_of_tree mix Tryz.func10 T10_ok (by kernel_rfl) ?_
  unfold T10
  obtain ⟨A, cap, hbv, hcap⟩ := br_form hbr
  have hone : oneV bv = true := by rw [hbv]; rfl
  have hmay : mayE r.fused r.left [n] = mayE a.fused a.left [n] := by rw [hok.fu, hok.le]
  have hlim := okA_end hok.ok
  have hu1 : a.now.used ≤ 1073741824 := hlim.1
  have hl2 : a.now.nm.length ≤ 16384 := hlim.2
  have hut : r.now.used + 0 = (tot r.now.fs : Int) := hok.now.ex.ut
  have hus : r.now.used = a.now.used := hok.now.rep.us
  have hlen : r.now.ml.length = a.now.nm.length := hok.now.rep.len
  have hrm2 := hok.rm
  refine j_box (l := [.string (bs n)]) rfl (fun g0 hg0 hs0 => ?_)
  refine j_box (l := [bv]) (by show bv.cells = #[bv]; rw [hbv]; rfl) (fun g1 hg1 hs1 => ?_)
  refine j_q (qs_ac) ?_
  refine j_q (qs_load (l := [.string (bs n)]) 1 Tryz.underlying9 rfl rfl rfl rfl) ?_
  refine j_lit (vs := [.string (bs _)]) Tryz.underlying54 sz9 zero9 rfl (by simp [oneV]) ⟨rfl, by decide⟩ (fun g4 v4 c4 hv4 hc4 ho4 => ?_)
  subst hv4 hc4
  refine j_q (qs_call ent24 rfl rfl rfl (fun w' hw' => may_con r.fm [n] _ w' (in_own hw' 3 rfl) (rsl_own ho4 0 rfl hw') (by simp))) ?_
  refine j_q (qs_neq rfl rfl) ?_
  refine j_cond rfl (fun hc0 => ?_) (fun hc0 => ?_)
  · skip
    have hm : mayE a.fused a.left [n] ≠ 0 := by
      rw [← hmay]
      simpa using hc0
    refine j_subl (S' := [r.heap]) (by repeat first | exact slR _ | exact slN _ | apply slC | apply slD) ?_
    have hwe : wrE a n xs = mayE a.fused a.left [n] := by
      unfold wrE
      rw [if_pos hm]
    refine j_ret_con (vs := [_]) (fun w' hw' => ⟨rfl, trivial⟩) ?_
    rw [hwe]
    refine ⟨congrArg (Value.int .i64) hmay, r, rfl, ?_, FR.To.refl _ _⟩
    rw [if_neg hm]
    exact hok
  · skip
    have hm : mayE a.fused a.left [n] = 0 := by
      rw [← hmay]
      simpa using hc0
    have hz : a.fused = true → a.left ≠ 0 := fun hf hl => by
      unfold mayE at hm
      rw [hf, hl] at hm
      simp at hm
    refine j_q (qs_load (l := [bv]) 1 Tryz.underlying32 rfl rfl rfl rfl) ?_
    refine j_q (qs_lenl (n := xs.length) (A := A) (c := cap) Tryz.underlying32 hbv) ?_
    refine j_q (qs_gtr rfl rfl) ?_
    refine j_cond rfl (fun hc1 => ?_) (fun hc1 => ?_)
    · skip
      have hlong : 1048576 < xs.length := by
        have h5 : (xs.length : Int) > 1048576 := by simpa using hc1
        omega
      refine j_q (qs_ac) ?_
      refine j_subl (S' := [r.heap]) (by repeat first | exact slR _ | exact slN _ | apply slC | apply slD) ?_
      have hwe : wrE a n xs = 5 := by
        unfold wrE
        rw [if_neg (by rw [hm]; simp), if_pos (by omega)]
      refine j_ret_con (vs := [_]) (fun w' hw' => ⟨rfl, trivial⟩) ?_
      rw [hwe]
      refine ⟨rfl, r, rfl, ?_, FR.To.refl _ _⟩
      rw [if_neg (by decide)]
      exact hok
    · skip
      have hlong : ¬ 1048576 < xs.length := by
        have h5 : ¬ (xs.length : Int) > 1048576 := by simpa using hc1
        omega
      refine j_perm (S' := [[(g4, .cells [Value.string (bs n)].toArray 9 (0, 0))], [(g1, .cells [bv].toArray 32 (0, 0))], [(g0, .cells [.string (bs n)].toArray 9 (0, 0))], [(r.gf, r.fm.obj)], [(r.now.gs, r.now.sobj)], [(r.now.gm, .map r.now.es r.now.ck)], r.now.fs.map FL.h, r.tc ++ (r.ls.heap ++ r.X) ++ ph r.P]) (by
        classical
        refine List.perm_iff_count.2 fun x => ?_
        simp only [FM.heap, FM.obj, fmcells, SM.heap, ph, List.map_append, List.set, List.flatten_cons, List.flatten_nil, List.append_nil, List.nil_append, List.cons_append, List.count_append, List.count_cons, List.count_nil] <;> omega) ?_
      refine j_draw ?_
      refine jq_q (qs_nil rfl) ?_
      refine jq_q (qs_field Tryz.underlying52 rfl sz48 (by decide) rfl) ?_
      refine jq_q (qs_load (l := fmcells r.fm) 3 Tryz.underlying48 rfl rfl rfl rfl) ?_
      refine jq_q (qs_nil rfl) ?_
      refine jq_q (qs_field Tryz.underlying69 rfl sz67 (by decide) rfl) ?_
      refine jq_q (qs_load (l := smcells r.now) 4 Tryz.underlying67 rfl rfl rfl rfl) ?_
      refine jq_q (qs_load (l := [.string (bs n)]) 2 Tryz.underlying9 rfl rfl rfl rfl) ?_
      refine jq_q (qs_lookup (key := n) strKey 5 Tryz.underlying67 zv63 rfl rfl rfl hok.now.raw.map hn) ?_
      rw [mlook_map fptr, getD_fptr, hlk]
      refine jq_nil ?_
      refine j_q (qs_ac) ?_
      refine j_q (qs_pnnil Tryz.underlying66 rfl) ?_
      refine j_gf rfl (by simp) ?_
      refine j_gf rfl (by simp) ?_
      refine j_gf rfl (by simp) ?_
      refine j_gf rfl (by simp) ?_
      refine j_gf rfl (by simp) ?_
      refine j_q (qs_and (b0 := false) (b1 := false) rfl rfl) ?_
      refine j_cond rfl (fun hc2 => ?_) (fun hc2 => ?_)
      · skip
        simp [gd] at hc2
      · skip
        refine j_draw ?_
        refine jq_q (qs_pnil Tryz.underlying66 rfl) ?_
        refine jq_g rfl (fun hb => qs_mt rfl) ?_
        refine jq_g rfl (fun hb => qs_nil (gd_eq hb)) ?_
        refine jq_g rfl (fun hb => qs_field Tryz.underlying52 rfl sz48 (by decide) (gd_eq hb)) ?_
        refine jq_g rfl (fun hb => qs_load (l := fmcells r.fm) 3 Tryz.underlying48 rfl (gd_eq hb) rfl rfl) ?_
        refine jq_g rfl (fun hb => qs_nil (gd_eq hb)) ?_
        refine jq_g rfl (fun hb => qs_field Tryz.underlying69 rfl sz67 (by decide) (gd_eq hb)) ?_
        refine jq_g rfl (fun hb => qs_load (l := smcells r.now) 4 Tryz.underlying67 rfl (gd_eq hb) rfl rfl) ?_
        refine jq_g rfl (fun hb => qs_maplen (rdo_mem (o := .map r.now.es r.now.ck) 5 rfl (by simp)) Tryz.underlying67 (gd_eq hb) hok.now.raw.map) ?_
        refine jq_g rfl (fun hb => qs_geq (gd_eq hb) rfl) ?_
        refine jq_q (qs_and rfl rfl) ?_
        refine jq_g rfl (fun hb => qs_mt rfl) ?_
        refine jq_g rfl (fun hb => qs_nil (gd_eq hb)) ?_
        refine jq_g rfl (fun hb => qs_field Tryz.underlying52 rfl sz48 (by decide) (gd_eq hb)) ?_
        refine jq_g rfl (fun hb => qs_load (l := fmcells r.fm) 3 Tryz.underlying48 rfl (gd_eq hb) rfl rfl) ?_
        refine jq_g rfl (fun hb => qs_nil (gd_eq hb)) ?_
        refine jq_g rfl (fun hb => qs_field Tryz.underlying69 rfl sz3 (by decide) (gd_eq hb)) ?_
        refine jq_g rfl (fun hb => qs_load (l := smcells r.now) 4 Tryz.underlying3 rfl (gd_eq hb) rfl rfl) ?_
        refine jq_g rfl (fun hb => qs_mt rfl) ?_
        refine jq_g rfl (fun hb => qs_sub64 (gd_eq hb) (gd_eq hb) (by first | omega | (simp only [bnA] at *; omega))) ?_
        refine jq_g rfl (fun hb => qs_load (l := [bv]) 1 Tryz.underlying32 rfl rfl rfl rfl) ?_
        refine jq_g rfl (fun hb => qs_lenl (n := xs.length) (A := A) (c := cap) Tryz.underlying32 ((gd_eq hb).trans hbv)) ?_
        refine jq_g rfl (fun hb => qs_add64 (gd_eq hb) (gd_eq hb) (by first | omega | (simp only [bnA] at *; omega))) ?_
        refine jq_g rfl (fun hb => qs_mt rfl) ?_
        refine jq_g rfl (fun hb => qs_nil (gd_eq hb)) ?_
        refine jq_g rfl (fun hb => qs_field Tryz.underlying52 rfl sz3 (by decide) (gd_eq hb)) ?_
        refine jq_g rfl (fun hb => qs_load (l := fmcells r.fm) 3 Tryz.underlying3 rfl (gd_eq hb) rfl rfl) ?_
        refine jq_g rfl (fun hb => qs_gtr (gd_eq hb) (gd_eq hb)) ?_
        refine jq_q (qs_or rfl rfl) ?_
        refine jq_nil ?_
        refine j_cond rfl (fun hc4 => ?_) (fun hc4 => ?_)
        · skip
          have hla : alook a.now.nm n = none := by
            rw [← hok.now.rep.look hok.now.raw n, hlk]
            rfl
          have hfr : freesA a.now n = 0 := by unfold freesA; rw [hla]
          have hnf : fullA a n xs := by
            unfold fullA
            rw [hfr]
            simp [gd] at hc4
            rcases hc4 with h6 | h6
            · exact .inl ⟨hla, by omega⟩
            · exact .inr (by rw [← hok.rm, ← hus]; omega)
          refine j_q (qs_ac) ?_
          refine j_subl (S' := r.fm.parts2) (by repeat first | exact slR _ | exact slN _ | apply slC | apply slD) ?_
          refine j_perm (S' := [r.heap]) r.fm.split2.symm ?_
          have hwe : wrE a n xs = 6 := by
            unfold wrE
            rw [if_neg (by rw [hm]; simp), if_neg (by omega), if_pos hnf]
          refine j_ret_con (vs := [_]) (fun w' hw' => ⟨rfl, trivial⟩) ?_
          rw [hwe]
          refine ⟨rfl, r, rfl, ?_, FR.To.refl _ _⟩
          rw [if_neg (by decide)]
          exact hok
        · skip
          have hla : alook a.now.nm n = none := by
            rw [← hok.now.rep.look hok.now.raw n, hlk]
            rfl
          have hfr : freesA a.now n = 0 := by unfold freesA; rw [hla]
          have hnf : ¬ fullA a n xs := by
            unfold fullA
            rw [hfr]
            simp [gd] at hc4
            obtain ⟨h6, h7⟩ := hc4
            rintro (⟨_, h8⟩ | h8)
            · omega
            · rw [← hok.rm, ← hus] at h8
              omega
          refine j_q (qs_load (l := [bv]) 1 Tryz.underlying32 rfl rfl rfl rfl) ?_
          refine j_call0 ent26 rfl rfl rfl (fun w' hw' => clone_con bv xs w' (br_keep hbr hbd hw') hxl) (fun u S2 hu1 => ?_)
          obtain ⟨Q, rfl, hrv⟩ := hu1
          obtain ⟨bv2, hbv2⟩ : ∃ y, y = u := ⟨_, rfl⟩
          rw [← hbv2] at hrv ⊢
          refine j_subl (S' := [ph Q, [(g4, .cells [Value.string (bs n)].toArray 9 (0, 0))], [(g1, .cells [bv].toArray 32 (0, 0))], [(g0, .cells [.string (bs n)].toArray 9 (0, 0))], [(r.gf, r.fm.obj)], [(r.now.gs, r.now.sobj)], [(r.now.gm, .map r.now.es r.now.ck)], r.now.fs.map FL.h, r.tc ++ (r.ls.heap ++ r.X) ++ ph r.P]) (by repeat first | exact slR _ | exact slN _ | apply slC | apply slD) ?_
          obtain ⟨A2, c2, hbe, hbc, _⟩ := hrv.form
          refine j_store (l := [bv]) 2 sz32 rfl rfl (by show oneV bv2 = true; rw [hbe]; rfl) rfl (by simp) (by simp) ?_
          refine j_q (qs_mkfuncv (vs := [.pointer (some ⟨g0, 0, none⟩), .pointer (some ⟨g1, 0, none⟩)]) rfl) ?_
          refine j_perm (S' := [ph Q, [(g4, .cells [Value.string (bs n)].toArray 9 (0, 0))], [(g1, .cells [bv2].toArray 32 (0, 0))], [(g0, .cells [.string (bs n)].toArray 9 (0, 0))], [(r.gf, r.fm.obj)], [(r.now.gs, r.now.sobj)], [(r.now.gm, .map r.now.es r.now.ck)], r.now.fs.map FL.h, r.tc ++ (r.ls.heap ++ r.X) ++ ph r.P]) (.refl _) ?_
          have hrv2 : RV (Q ++ r.P) (.slice A2 xs.length c2) xs := by
            rw [← hbe]
            exact hrv.more (fun b hb => List.mem_append_left _ hb)
          rw [hbe]
          refine j_perm (S' := [FR.heap ({ r with X := ([(g0, .cells [.string (bs n)].toArray 9 (0, 0))] ++ [(g1, .cells [.slice A2 xs.length c2].toArray 32 (0, 0))]) ++ r.X, P := Q ++ r.P } : FR), [(g4, .cells [Value.string (bs n)].toArray 9 (0, 0))]]) (by
            classical
            refine List.perm_iff_count.2 fun x => ?_
            simp only [FM.heap, FM.obj, fmcells, SM.heap, ph, List.map_append, List.set, List.flatten_cons, List.flatten_nil, List.append_nil, List.nil_append, List.cons_append, List.count_append, List.count_cons, List.count_nil] <;> omega) ?_
          refine j_call 0 ent27 rfl rfl rfl rfl (fun w' hw' => (doesR_con ({ r with X := ([(g0, .cells [.string (bs n)].toArray 9 (0, 0))] ++ [(g1, .cells [.slice A2 xs.length c2].toArray 32 (0, 0))]) ++ r.X, P := Q ++ r.P } : FR) a (.wr n xs id g0 g1 A2 c2) w' (hok.more _ _) hB hz ⟨hn, hrv2, hbc, by omega⟩ (fun q hq => List.mem_append_left _ hq) hid (write_lim (hok.now.rep.nd hok.now.raw) (okA_end hok.ok) hrm hnf)).mono (fun u S5 h5 => by
            obtain ⟨h1, r', h2, h3, h4⟩ := h5
            exact (⟨h1, r', h2, h3, h4.old hw' 0 rfl rfl (fun q hq => List.mem_append_right _ hq) (fun b hb => List.mem_append_right _ hb)⟩ : _ ∧ ∃ r' : FR, S5 = [r'.heap] ∧ r'.Ok (stepF a (.wr n xs id)) ∧ FR.To w r r'))) (fun u S5 h5 => ?_)
          obtain ⟨rfl, r', rfl, hr', hto⟩ := h5
          refine j_subl (S' := [r'.heap]) (by repeat first | exact slR _ | exact slN _ | apply slC | apply slD) ?_
          have hwe : wrE a n xs = 0 := by
            unfold wrE
            rw [if_neg (by rw [hm]; simp), if_neg (by omega), if_neg hnf]
          refine j_ret_con (vs := [_]) (fun w' hw' => ⟨rfl, trivial⟩) ?_
          rw [hwe]
          refine ⟨rfl, r', rfl, ?_, hto⟩
          rw [if_pos rfl]
          exact hr'
theorem write1_con (r : FR) (a : AF) (n : List UInt8) (bv : Value) (xs : List UInt8) (id : Nat) (w : World) (hok : r.Ok a) (hn : strOk n) (hbr : BR w bv xs) (hbd : ∀ (a : Addr) (m c : Nat), bv = .slice (some a) m c → 0 < m → a.block ∉ dom r.heap) (hxl : xs.length ≤ 1000000000) (hB : a.pend.length < 16384) (hrm : a.room ≤ 1073741824) (hid : ∀ q ∈ a.now.nm, q.2 ≠ id) (x : FL) (hx : x ∈ r.now.fs) (hlk : alook r.now.ml n = some (x.g, x.id)) : Con Tryz.prog 10 [r.ptr, .string (bs n), bv] w r.heap fun v S' => v = .int .i64 (wrE a n xs) ∧ ∃ r' : FR, S' = [r'.heap] ∧ r'.Ok (if wrE a n xs = 0 then stepF a (.wr n xs id) else a) ∧ FR.To w r r' := by
  refine con_of_tree mix Tryz.func10 T10_ok (by kernel_rfl) ?_
  unfold T10
  obtain ⟨A, cap, hbv, hcap⟩ := br_form hbr
  have hone : oneV bv = true := by rw [hbv]; rfl
  have hmay : mayE r.fused r.left [n] = mayE a.fused a.left [n] := by rw [hok.fu, hok.le]
  have hlim := okA_end hok.ok
  have hu1 : a.now.used ≤ 1073741824 := hlim.1
  have hl2 : a.now.nm.length ≤ 16384 := hlim.2
  have hut : r.now.used + 0 = (tot r.now.fs : Int) := hok.now.ex.ut
  have hus : r.now.used = a.now.used := hok.now.rep.us
  have hlen : r.now.ml.length = a.now.nm.length := hok.now.rep.len
  have hrm2 := hok.rm
  obtain ⟨xA, xc, hxv, hxl2⟩ := hok.now.raw.form x hx
  refine j_box (l := [.string (bs n)]) rfl (fun g0 hg0 hs0 => ?_)
  refine j_box (l := [bv]) (by show bv.cells = #[bv]; rw [hbv]; rfl) (fun g1 hg1 hs1 => ?_)
  refine j_q (qs_ac) ?_
  refine j_q (qs_load (l := [.string (bs n)]) 1 Tryz.underlying9 rfl rfl rfl rfl) ?_
  refine j_lit (vs := [.string (bs _)]) Tryz.underlying54 sz9 zero9 rfl (by simp [oneV]) ⟨rfl, by decide⟩ (fun g4 v4 c4 hv4 hc4 ho4 => ?_)
  subst hv4 hc4
  refine j_q (qs_call ent24 rfl rfl rfl (fun w' hw' => may_con r.fm [n] _ w' (in_own hw' 3 rfl) (rsl_own ho4 0 rfl hw') (by simp))) ?_
  refine j_q (qs_neq rfl rfl) ?_
  refine j_cond rfl (fun hc0 => ?_) (fun hc0 => ?_)
  · skip
    have hm : mayE a.fused a.left [n] ≠ 0 := by
      rw [← hmay]
      simpa using hc0
    refine j_subl (S' := [r.heap]) (by repeat first | exact slR _ | exact slN _ | apply slC | apply slD) ?_
    have hwe : wrE a n xs = mayE a.fused a.left [n] := by
      unfold wrE
      rw [if_pos hm]
    refine j_ret_con (vs := [_]) (fun w' hw' => ⟨rfl, trivial⟩) ?_
    rw [hwe]
    refine ⟨congrArg (Value.int .i64) hmay, r, rfl, ?_, FR.To.refl _ _⟩
    rw [if_neg hm]
    exact hok
  · skip
    have hm : mayE a.fused a.left [n] = 0 := by
      rw [← hmay]
      simpa using hc0
    have hz : a.fused = true → a.left ≠ 0 := fun hf hl => by
      unfold mayE at hm
      rw [hf, hl] at hm
      simp at hm
    refine j_q (qs_load (l := [bv]) 1 Tryz.underlying32 rfl rfl rfl rfl) ?_
    refine j_q (qs_lenl (n := xs.length) (A := A) (c := cap) Tryz.underlying32 hbv) ?_
    refine j_q (qs_gtr rfl rfl) ?_
    refine j_cond rfl (fun hc1 => ?_) (fun hc1 => ?_)
    · skip
      have hlong : 1048576 < xs.length := by
        have h5 : (xs.length : Int) > 1048576 := by simpa using hc1
        omega
      refine j_q (qs_ac) ?_
      refine j_subl (S' := [r.heap]) (by repeat first | exact slR _ | exact slN _ | apply slC | apply slD) ?_
      have hwe : wrE a n xs = 5 := by
        unfold wrE
        rw [if_neg (by rw [hm]; simp), if_pos (by omega)]
      refine j_ret_con (vs := [_]) (fun w' hw' => ⟨rfl, trivial⟩) ?_
      rw [hwe]
      refine ⟨rfl, r, rfl, ?_, FR.To.refl _ _⟩
      rw [if_neg (by decide)]
      exact hok
    · skip
      have hlong : ¬ 1048576 < xs.length := by
        have h5 : ¬ (xs.length : Int) > 1048576 := by simpa using hc1
        omega
      refine j_perm (S' := [[(g4, .cells [Value.string (bs n)].toArray 9 (0, 0))], [(g1, .cells [bv].toArray 32 (0, 0))], [(g0, .cells [.string (bs n)].toArray 9 (0, 0))], [(r.gf, r.fm.obj)], [(r.now.gs, r.now.sobj)], [(r.now.gm, .map r.now.es r.now.ck)], r.now.fs.map FL.h, r.tc ++ (r.ls.heap ++ r.X) ++ ph r.P]) (by
        classical
        refine List.perm_iff_count.2 fun x => ?_
        simp only [FM.heap, FM.obj, fmcells, SM.heap, ph, List.map_append, List.set, List.flatten_cons, List.flatten_nil, List.append_nil, List.nil_append, List.cons_append, List.count_append, List.count_cons, List.count_nil] <;> omega) ?_
      refine j_draw ?_
      refine jq_q (qs_nil rfl) ?_
      refine jq_q (qs_field Tryz.underlying52 rfl sz48 (by decide) rfl) ?_
      refine jq_q (qs_load (l := fmcells r.fm) 3 Tryz.underlying48 rfl rfl rfl rfl) ?_
      refine jq_q (qs_nil rfl) ?_
      refine jq_q (qs_field Tryz.underlying69 rfl sz67 (by decide) rfl) ?_
      refine jq_q (qs_load (l := smcells r.now) 4 Tryz.underlying67 rfl rfl rfl rfl) ?_
      refine jq_q (qs_load (l := [.string (bs n)]) 2 Tryz.underlying9 rfl rfl rfl rfl) ?_
      refine jq_q (qs_lookup (key := n) strKey 5 Tryz.underlying67 zv63 rfl rfl rfl hok.now.raw.map hn) ?_
      rw [mlook_map fptr, getD_fptr, hlk, Option.map_some]
      refine jq_nil ?_
      refine j_q (qs_ac) ?_
      refine j_q (qs_pnnil Tryz.underlying66 rfl) ?_
      refine j_g rfl (fun hb => qs_mt rfl) ?_
      refine j_g rfl (fun hb => qs_nil (gd_eq hb)) ?_
      refine j_g rfl (fun hb => qs_field Tryz.underlying75 rfl sz73 (by decide) (gd_eq hb)) ?_
      refine j_g rfl (fun hb => qs_call ent25 rfl rfl (args1 (gd_eq hb)) (fun w' hw' => aload_con x.g 1 (flcells x) 75 (0, 0) x.k w' (hw'.own x.h (mem_flatten_of (k := 6) rfl (List.mem_map.2 ⟨x, hx, rfl⟩))) rfl)) ?_
      refine j_g rfl (fun hb => qs_eql (gd_eq hb) rfl) ?_
      refine j_q (qs_and rfl rfl) ?_
      refine j_cond rfl (fun hc2 => ?_) (fun hc2 => ?_)
      · skip
        have hk1 : x.k = 1 := by simpa [gd] using hc2
        refine j_q (qs_nil rfl) ?_
        refine j_q (qs_field Tryz.underlying75 rfl sz32 (by decide) rfl) ?_
        refine j_q (qs_loadO (l := flcells x) (rdo_mem (o := x.h.2) 6 rfl (List.mem_map.2 ⟨x, hx, rfl⟩)) Tryz.underlying32 rfl rfl rfl) ?_
        refine j_q (qs_lenl (n := x.xs.length) (A := xA) (c := xc) Tryz.underlying32 hxv) ?_
        refine j_draw ?_
        refine jq_q (qs_pnil Tryz.underlying66 rfl) ?_
        refine jq_gf rfl (by simp) ?_
        refine jq_gf rfl (by simp) ?_
        refine jq_gf rfl (by simp) ?_
        refine jq_gf rfl (by simp) ?_
        refine jq_gf rfl (by simp) ?_
        refine jq_gf rfl (by simp) ?_
        refine jq_gf rfl (by simp) ?_
        refine jq_gf rfl (by simp) ?_
        refine jq_gf rfl (by simp) ?_
        refine jq_q (qs_and (b0 := false) (b1 := false) rfl rfl) ?_
        refine jq_g rfl (fun hb => qs_mt rfl) ?_
        refine jq_g rfl (fun hb => qs_nil (gd_eq hb)) ?_
        refine jq_g rfl (fun hb => qs_field Tryz.underlying52 rfl sz48 (by decide) (gd_eq hb)) ?_
        refine jq_g rfl (fun hb => qs_load (l := fmcells r.fm) 3 Tryz.underlying48 rfl (gd_eq hb) rfl rfl) ?_
        refine jq_g rfl (fun hb => qs_nil (gd_eq hb)) ?_
        refine jq_g rfl (fun hb => qs_field Tryz.underlying69 rfl sz3 (by decide) (gd_eq hb)) ?_
        refine jq_g rfl (fun hb => qs_load (l := smcells r.now) 4 Tryz.underlying3 rfl (gd_eq hb) rfl rfl) ?_
        refine jq_g rfl (fun hb => qs_mt rfl) ?_
        refine jq_g rfl (fun hb => qs_sub64 (gd_eq hb) (gd_eq hb) (by first | omega | (simp only [bnA] at *; omega))) ?_
        refine jq_g rfl (fun hb => qs_load (l := [bv]) 1 Tryz.underlying32 rfl rfl rfl rfl) ?_
        refine jq_g rfl (fun hb => qs_lenl (n := xs.length) (A := A) (c := cap) Tryz.underlying32 ((gd_eq hb).trans hbv)) ?_
        refine jq_g rfl (fun hb => qs_add64 (gd_eq hb) (gd_eq hb) (by first | omega | (simp only [bnA] at *; omega))) ?_
        refine jq_g rfl (fun hb => qs_mt rfl) ?_
        refine jq_g rfl (fun hb => qs_nil (gd_eq hb)) ?_
        refine jq_g rfl (fun hb => qs_field Tryz.underlying52 rfl sz3 (by decide) (gd_eq hb)) ?_
        refine jq_g rfl (fun hb => qs_load (l := fmcells r.fm) 3 Tryz.underlying3 rfl (gd_eq hb) rfl rfl) ?_
        refine jq_g rfl (fun hb => qs_gtr (gd_eq hb) (gd_eq hb)) ?_
        refine jq_q (qs_or rfl rfl) ?_
        refine jq_nil ?_
        refine j_cond rfl (fun hc3 => ?_) (fun hc3 => ?_)
        · skip
          have hla : alook a.now.nm n = some x.id := by
            rw [← hok.now.rep.look hok.now.raw n, hlk]
            rfl
          have hkx : x.k = (cntA a.now.nm x.id : Int) := by
            have h6 : x.k = (cnt r.now.ml x.id : Int) + 0 := hok.now.ex.kc x hx
            rw [hok.now.rep.cnt] at h6
            omega
          have hdx := hok.now.rep.dt x hx
          have hfr : freesA a.now n = x.xs.length := by
            simp only [freesA, hla]
            rw [if_pos (by omega), hdx]
          have hnf : fullA a n xs := by
            unfold fullA
            rw [hfr]
            refine .inr ?_
            rw [← hok.rm, ← hus]
            simp [gd] at hc3
            omega
          refine j_q (qs_ac) ?_
          refine j_subl (S' := r.fm.parts2) (by repeat first | exact slR _ | exact slN _ | apply slC | apply slD) ?_
          refine j_perm (S' := [r.heap]) r.fm.split2.symm ?_
          have hwe : wrE a n xs = 6 := by
            unfold wrE
            rw [if_neg (by rw [hm]; simp), if_neg (by omega), if_pos hnf]
          refine j_ret_con (vs := [_]) (fun w' hw' => ⟨rfl, trivial⟩) ?_
          rw [hwe]
          refine ⟨rfl, r, rfl, ?_, FR.To.refl _ _⟩
          rw [if_neg (by decide)]
          exact hok
        · skip
          have hla : alook a.now.nm n = some x.id := by
            rw [← hok.now.rep.look hok.now.raw n, hlk]
            rfl
          have hkx : x.k = (cntA a.now.nm x.id : Int) := by
            have h6 : x.k = (cnt r.now.ml x.id : Int) + 0 := hok.now.ex.kc x hx
            rw [hok.now.rep.cnt] at h6
            omega
          have hdx := hok.now.rep.dt x hx
          have hfr : freesA a.now n = x.xs.length := by
            simp only [freesA, hla]
            rw [if_pos (by omega), hdx]
          have hnf : ¬ fullA a n xs := by
            unfold fullA
            rw [hfr]
            rintro (⟨h7, _⟩ | h8)
            · rw [hla] at h7
              cases h7
            · rw [← hok.rm, ← hus] at h8
              simp [gd] at hc3
              omega
          refine j_q (qs_load (l := [bv]) 1 Tryz.underlying32 rfl rfl rfl rfl) ?_
          refine j_call0 ent26 rfl rfl rfl (fun w' hw' => clone_con bv xs w' (br_keep hbr hbd hw') hxl) (fun u S2 hu1 => ?_)
          obtain ⟨Q, rfl, hrv⟩ := hu1
          obtain ⟨bv2, hbv2⟩ : ∃ y, y = u := ⟨_, rfl⟩
          rw [← hbv2] at hrv ⊢
          refine j_subl (S' := [ph Q, [(g4, .cells [Value.string (bs n)].toArray 9 (0, 0))], [(g1, .cells [bv].toArray 32 (0, 0))], [(g0, .cells [.string (bs n)].toArray 9 (0, 0))], [(r.gf, r.fm.obj)], [(r.now.gs, r.now.sobj)], [(r.now.gm, .map r.now.es r.now.ck)], r.now.fs.map FL.h, r.tc ++ (r.ls.heap ++ r.X) ++ ph r.P]) (by repeat first | exact slR _ | exact slN _ | apply slC | apply slD) ?_
          obtain ⟨A2, c2, hbe, hbc, _⟩ := hrv.form
          refine j_store (l := [bv]) 2 sz32 rfl rfl (by show oneV bv2 = true; rw [hbe]; rfl) rfl (by simp) (by simp) ?_
          refine j_q (qs_mkfuncv (vs := [.pointer (some ⟨g0, 0, none⟩), .pointer (some ⟨g1, 0, none⟩)]) rfl) ?_
          refine j_perm (S' := [ph Q, [(g4, .cells [Value.string (bs n)].toArray 9 (0, 0))], [(g1, .cells [bv2].toArray 32 (0, 0))], [(g0, .cells [.string (bs n)].toArray 9 (0, 0))], [(r.gf, r.fm.obj)], [(r.now.gs, r.now.sobj)], [(r.now.gm, .map r.now.es r.now.ck)], r.now.fs.map FL.h, r.tc ++ (r.ls.heap ++ r.X) ++ ph r.P]) (.refl _) ?_
          have hrv2 : RV (Q ++ r.P) (.slice A2 xs.length c2) xs := by
            rw [← hbe]
            exact hrv.more (fun b hb => List.mem_append_left _ hb)
          rw [hbe]
          refine j_perm (S' := [FR.heap ({ r with X := ([(g0, .cells [.string (bs n)].toArray 9 (0, 0))] ++ [(g1, .cells [.slice A2 xs.length c2].toArray 32 (0, 0))]) ++ r.X, P := Q ++ r.P } : FR), [(g4, .cells [Value.string (bs n)].toArray 9 (0, 0))]]) (by
            classical
            refine List.perm_iff_count.2 fun x => ?_
            simp only [FM.heap, FM.obj, fmcells, SM.heap, ph, List.map_append, List.set, List.flatten_cons, List.flatten_nil, List.append_nil, List.nil_append, List.cons_append, List.count_append, List.count_cons, List.count_nil] <;> omega) ?_
          refine j_call 0 ent27 rfl rfl rfl rfl (fun w' hw' => (doesR_con ({ r with X := ([(g0, .cells [.string (bs n)].toArray 9 (0, 0))] ++ [(g1, .cells [.slice A2 xs.length c2].toArray 32 (0, 0))]) ++ r.X, P := Q ++ r.P } : FR) a (.wr n xs id g0 g1 A2 c2) w' (hok.more _ _) hB hz ⟨hn, hrv2, hbc, by omega⟩ (fun q hq => List.mem_append_left _ hq) hid (write_lim (hok.now.rep.nd hok.now.raw) (okA_end hok.ok) hrm hnf)).mono (fun u S5 h5 => by
            obtain ⟨h1, r', h2, h3, h4⟩ := h5
            exact (⟨h1, r', h2, h3, h4.old hw' 0 rfl rfl (fun q hq => List.mem_append_right _ hq) (fun b hb => List.mem_append_right _ hb)⟩ : _ ∧ ∃ r' : FR, S5 = [r'.heap] ∧ r'.Ok (stepF a (.wr n xs id)) ∧ FR.To w r r'))) (fun u S5 h5 => ?_)
          obtain ⟨rfl, r', rfl, hr', hto⟩ := h5
          refine j_subl (S' := [r'.heap]) (by repeat first | exact slR _ | exact slN _ | apply slC | apply slD) ?_
          have hwe : wrE a n xs = 0 := by
            unfold wrE
            rw [if_neg (by rw [hm]; simp), if_neg (by omega), if_neg hnf]
          refine j_ret_con (vs := [_]) (fun w' hw' => ⟨rfl, trivial⟩) ?_
          rw [hwe]
          refine ⟨rfl, r', rfl, ?_, hto⟩
          rw [if_pos rfl]
          exact hr'
      · skip
        have hk1 : x.k ≠ 1 := by simpa [gd] using hc2
        refine j_draw ?_
        refine jq_q (qs_pnil Tryz.underlying66 rfl) ?_
        refine jq_gf rfl (by simp) ?_
        refine jq_gf rfl (by simp) ?_
        refine jq_gf rfl (by simp) ?_
        refine jq_gf rfl (by simp) ?_
        refine jq_gf rfl (by simp) ?_
        refine jq_gf rfl (by simp) ?_
        refine jq_gf rfl (by simp) ?_
        refine jq_gf rfl (by simp) ?_
        refine jq_gf rfl (by simp) ?_
        refine jq_q (qs_and (b0 := false) (b1 := false) rfl rfl) ?_
        refine jq_g rfl (fun hb => qs_mt rfl) ?_
        refine jq_g rfl (fun hb => qs_nil (gd_eq hb)) ?_
        refine jq_g rfl (fun hb => qs_field Tryz.underlying52 rfl sz48 (by decide) (gd_eq hb)) ?_
        refine jq_g rfl (fun hb => qs_load (l := fmcells r.fm) 3 Tryz.underlying48 rfl (gd_eq hb) rfl rfl) ?_
        refine jq_g rfl (fun hb => qs_nil (gd_eq hb)) ?_
        refine jq_g rfl (fun hb => qs_field Tryz.underlying69 rfl sz3 (by decide) (gd_eq hb)) ?_
        refine jq_g rfl (fun hb => qs_load (l := smcells r.now) 4 Tryz.underlying3 rfl (gd_eq hb) rfl rfl) ?_
        refine jq_g rfl (fun hb => qs_mt rfl) ?_
        refine jq_g rfl (fun hb => qs_sub64 (gd_eq hb) (gd_eq hb) (by first | omega | (simp only [bnA] at *; omega))) ?_
        refine jq_g rfl (fun hb => qs_load (l := [bv]) 1 Tryz.underlying32 rfl rfl rfl rfl) ?_
        refine jq_g rfl (fun hb => qs_lenl (n := xs.length) (A := A) (c := cap) Tryz.underlying32 ((gd_eq hb).trans hbv)) ?_
        refine jq_g rfl (fun hb => qs_add64 (gd_eq hb) (gd_eq hb) (by first | omega | (simp only [bnA] at *; omega))) ?_
        refine jq_g rfl (fun hb => qs_mt rfl) ?_
        refine jq_g rfl (fun hb => qs_nil (gd_eq hb)) ?_
        refine jq_g rfl (fun hb => qs_field Tryz.underlying52 rfl sz3 (by decide) (gd_eq hb)) ?_
        refine jq_g rfl (fun hb => qs_load (l := fmcells r.fm) 3 Tryz.underlying3 rfl (gd_eq hb) rfl rfl) ?_
        refine jq_g rfl (fun hb => qs_gtr (gd_eq hb) (gd_eq hb)) ?_
        refine jq_q (qs_or rfl rfl) ?_
        refine jq_nil ?_
        refine j_cond rfl (fun hc4 => ?_) (fun hc4 => ?_)
        · skip
          have hla : alook a.now.nm n = some x.id := by
            rw [← hok.now.rep.look hok.now.raw n, hlk]
            rfl
          have hkx : x.k = (cntA a.now.nm x.id : Int) := by
            have h6 : x.k = (cnt r.now.ml x.id : Int) + 0 := hok.now.ex.kc x hx
            rw [hok.now.rep.cnt] at h6
            omega
          have hdx := hok.now.rep.dt x hx
          have hfr : freesA a.now n = 0 := by
            simp only [freesA, hla]
            rw [if_neg (by omega)]
          have hnf : fullA a n xs := by
            unfold fullA
            rw [hfr]
            refine .inr ?_
            rw [← hok.rm, ← hus]
            simp [gd] at hc4
            omega
          refine j_q (qs_ac) ?_
          refine j_subl (S' := r.fm.parts2) (by repeat first | exact slR _ | exact slN _ | apply slC | apply slD) ?_
          refine j_perm (S' := [r.heap]) r.fm.split2.symm ?_
          have hwe : wrE a n xs = 6 := by
            unfold wrE
            rw [if_neg (by rw [hm]; simp), if_neg (by omega), if_pos hnf]
          refine j_ret_con (vs := [_]) (fun w' hw' => ⟨rfl, trivial⟩) ?_
          rw [hwe]
          refine ⟨rfl, r, rfl, ?_, FR.To.refl _ _⟩
          rw [if_neg (by decide)]
          exact hok
        · skip
          have hla : alook a.now.nm n = some x.id := by
            rw [← hok.now.rep.look hok.now.raw n, hlk]
            rfl
          have hkx : x.k = (cntA a.now.nm x.id : Int) := by
            have h6 : x.k = (cnt r.now.ml x.id : Int) + 0 := hok.now.ex.kc x hx
            rw [hok.now.rep.cnt] at h6
            omega
          have hdx := hok.now.rep.dt x hx
          have hfr : freesA a.now n = 0 := by
            simp only [freesA, hla]
            rw [if_neg (by omega)]
          have hnf : ¬ fullA a n xs := by
            unfold fullA
            rw [hfr]
            rintro (⟨h7, _⟩ | h8)
            · rw [hla] at h7
              cases h7
            · rw [← hok.rm, ← hus] at h8
              simp [gd] at hc4
              omega
          refine j_q (qs_load (l := [bv]) 1 Tryz.underlying32 rfl rfl rfl rfl) ?_
          refine j_call0 ent26 rfl rfl rfl (fun w' hw' => clone_con bv xs w' (br_keep hbr hbd hw') hxl) (fun u S2 hu1 => ?_)
          obtain ⟨Q, rfl, hrv⟩ := hu1
          obtain ⟨bv2, hbv2⟩ : ∃ y, y = u := ⟨_, rfl⟩
          rw [← hbv2] at hrv ⊢
          refine j_subl (S' := [ph Q, [(g4, .cells [Value.string (bs n)].toArray 9 (0, 0))], [(g1, .cells [bv].toArray 32 (0, 0))], [(g0, .cells [.string (bs n)].toArray 9 (0, 0))], [(r.gf, r.fm.obj)], [(r.now.gs, r.now.sobj)], [(r.now.gm, .map r.now.es r.now.ck)], r.now.fs.map FL.h, r.tc ++ (r.ls.heap ++ r.X) ++ ph r.P]) (by repeat first | exact slR _ | exact slN _ | apply slC | apply slD) ?_
          obtain ⟨A2, c2, hbe, hbc, _⟩ := hrv.form
          refine j_store (l := [bv]) 2 sz32 rfl rfl (by show oneV bv2 = true; rw [hbe]; rfl) rfl (by simp) (by simp) ?_
          refine j_q (qs_mkfuncv (vs := [.pointer (some ⟨g0, 0, none⟩), .pointer (some ⟨g1, 0, none⟩)]) rfl) ?_
          refine j_perm (S' := [ph Q, [(g4, .cells [Value.string (bs n)].toArray 9 (0, 0))], [(g1, .cells [bv2].toArray 32 (0, 0))], [(g0, .cells [.string (bs n)].toArray 9 (0, 0))], [(r.gf, r.fm.obj)], [(r.now.gs, r.now.sobj)], [(r.now.gm, .map r.now.es r.now.ck)], r.now.fs.map FL.h, r.tc ++ (r.ls.heap ++ r.X) ++ ph r.P]) (.refl _) ?_
          have hrv2 : RV (Q ++ r.P) (.slice A2 xs.length c2) xs := by
            rw [← hbe]
            exact hrv.more (fun b hb => List.mem_append_left _ hb)
          rw [hbe]
          refine j_perm (S' := [FR.heap ({ r with X := ([(g0, .cells [.string (bs n)].toArray 9 (0, 0))] ++ [(g1, .cells [.slice A2 xs.length c2].toArray 32 (0, 0))]) ++ r.X, P := Q ++ r.P } : FR), [(g4, .cells [Value.string (bs n)].toArray 9 (0, 0))]]) (by
            classical
            refine List.perm_iff_count.2 fun x => ?_
            simp only [FM.heap, FM.obj, fmcells, SM.heap, ph, List.map_append, List.set, List.flatten_cons, List.flatten_nil, List.append_nil, List.nil_append, List.cons_append, List.count_append, List.count_cons, List.count_nil] <;> omega) ?_
          refine j_call 0 ent27 rfl rfl rfl rfl (fun w' hw' => (doesR_con ({ r with X := ([(g0, .cells [.string (bs n)].toArray 9 (0, 0))] ++ [(g1, .cells [.slice A2 xs.length c2].toArray 32 (0, 0))]) ++ r.X, P := Q ++ r.P } : FR) a (.wr n xs id g0 g1 A2 c2) w' (hok.more _ _) hB hz ⟨hn, hrv2, hbc, by omega⟩ (fun q hq => List.mem_append_left _ hq) hid (write_lim (hok.now.rep.nd hok.now.raw) (okA_end hok.ok) hrm hnf)).mono (fun u S5 h5 => by
            obtain ⟨h1, r', h2, h3, h4⟩ := h5
            exact (⟨h1, r', h2, h3, h4.old hw' 0 rfl rfl (fun q hq => List.mem_append_right _ hq) (fun b hb => List.mem_append_right _ hb)⟩ : _ ∧ ∃ r' : FR, S5 = [r'.heap] ∧ r'.Ok (stepF a (.wr n xs id)) ∧ FR.To w r r'))) (fun u S5 h5 => ?_)
          obtain ⟨rfl, r', rfl, hr', hto⟩ := h5
          refine j_subl (S' := [r'.heap]) (by repeat first | exact slR _ | exact slN _ | apply slC | apply slD) ?_
          have hwe : wrE a n xs = 0 := by
            unfold wrE
            rw [if_neg (by rw [hm]; simp), if_neg (by omega), if_neg hnf]
          refine j_ret_con (vs := [_]) (fun w' hw' => ⟨rfl, trivial⟩) ?_
          rw [hwe]
          refine ⟨rfl, r', rfl, ?_, hto⟩
          rw [if_pos rfl]
          exact hr'
theorem write_con' (r : FR) (a : AF) (n : List UInt8) (bv : Value) (xs : List UInt8) (id : Nat) (w : World) (hok : r.Ok a) (hn : strOk n) (hbr : BR w bv xs) (hbd : ∀ (a : Addr) (m c : Nat), bv = .slice (some a) m c → 0 < m → a.block ∉ dom r.heap) (hxl : xs.length ≤ 1000000000) (hB : a.pend.length < 16384) (hrm : a.room ≤ 1073741824) (hid : ∀ q ∈ a.now.nm, q.2 ≠ id) : Con Tryz.prog 10 [r.ptr, .string (bs n), bv] w r.heap fun v S' => v = .int .i64 (wrE a n xs) ∧ ∃ r' : FR, S' = [r'.heap] ∧ r'.Ok (if wrE a n xs = 0 then stepF a (.wr n xs id) else a) ∧ FR.To w r r' := by
  cases h : alook a.now.nm n with
  | none => exact write0_con r a n bv xs id w hok hn hbr hbd hxl hB hrm hid (look_rep0 hok.now.raw hok.now.rep h)
  | some i =>
    obtain ⟨f, hf, hl, _, _⟩ := look_rep hok.now.raw hok.now.rep h
    exact write1_con r a n bv xs id w hok hn hbr hbd hxl hB hrm hid f hf hl
end Go.Proofs.YtckpegkpdepokaaGreat
/-! Ft7 -/
namespace Go.Proofs.YtckpegkpdepokaaGreat
open Go Go.Sx
set_option maxRecDepth 100000
set_option maxHeartbeats 4000000
set_option linter.unusedVariables false
set_option linter.unusedSimpArgs false
attribute [local irreducible] J JQ QS Con W opW
open Go.MapKept Go.WideMaps Go.Maps
theorem sortS_perm {l l' : List (List UInt8)} (h : l.Perm l') : sortS l = sortS l' := by
  have hs : ∀ l : List (List UInt8), (sortS l).Pairwise (fun a b => a ≤ b) := fun l => by
    have := List.pairwise_mergeSort (le := fun x y : List UInt8 => decide (x ≤ y)) (fun a b c h1 h2 => by simp only [decide_eq_true_eq] at h1 h2 ⊢; exact List.le_trans h1 h2) (fun a b => by simp only [Bool.or_eq_true, decide_eq_true_eq]; exact List.le_total a b) l
    exact this.imp (fun h => by simpa using h)
  refine List.Perm.eq_of_pairwise (le := fun a b => a ≤ b) (fun a b _ _ h1 h2 => List.le_antisymm h1 h2) (hs l) (hs l') ?_
  unfold sortS
  exact (List.mergeSort_perm _ _).trans (h.trans (List.mergeSort_perm _ _).symm)
def preB (p n : List UInt8) : Bool := decide (p.length ≤ n.length) && (n.take p.length == p)
def namesA (s : AS) (p : List UInt8) : List (List UInt8) := sortS ((s.nm.map Prod.fst).filter (preB p))
theorem namesA_perm {s : SM} {a : AS} (h : RepS s a) {done : List (List UInt8 × (Nat × Nat))} (hp : done.Perm s.ml) (p : List UInt8) : sortS ((done.map Prod.fst).filter (preB p)) = namesA a p := by
  unfold namesA
  refine sortS_perm (List.Perm.filter _ ?_)
  have h1 := h.nm.map Prod.fst
  rw [List.map_map] at h1
  exact (hp.map Prod.fst).trans h1
theorem sortN_con {ss : List (List UInt8)} {v : Value} {c : SH} (ho : Sx.Own 9 1 (strs ss) v c) (hsz : ss.length < 4611686018427387904) (w : World) : Con Tryz.prog 77 [v] w c fun u S' => u = .tuple #[] ∧ ∃ c', S' = [c'] ∧ Sx.Own 9 1 (strs (sortS ss)) v c' :=
  con_sort_own (fun blk off cap ss w hH hblk hsz => Go.Proofs.AnyM.slices_Sort_string Tryz.sort77 blk off cap ss w hH hblk hsz) (fun p cap w => Go.Proofs.AnyM.slices_Sort_string_none Tryz.sort77 p cap w) ho hsz w
theorem hasPre0_con (s r : List UInt8) (w : World) (hs : s.length ≤ 9223372036854775807) (hr : r.length ≤ 9223372036854775807) : Con Tryz.prog 86 [.string (bs r), .string (bs s)] w [] fun v _ => v = .bool (decide (s.length ≤ r.length) && (r.take s.length == s)) := by
  refine con_of_tree mix Tryz.func86 T86_ok (by kernel_rfl) ?_
  unfold T86
  refine j_q (qs_ac) ?_
  refine j_q (qs_lens Tryz.underlying9 rfl) ?_
  refine j_q (qs_lens Tryz.underlying9 rfl) ?_
  refine j_q (qs_geq rfl rfl) ?_
  refine j_g rfl (fun hb => qs_mt rfl) ?_
  refine j_g rfl (fun hb => qs_mt rfl) ?_
  refine j_g rfl (fun hb => qs_lens Tryz.underlying9 (gd_eq hb)) ?_
  refine j_g rfl (fun hb => qs_cuts (a := 0) (z := s.length) Tryz.underlying9 (gd_eq hb) rfl ⟨.i64, gd_eq hb⟩ (by omega) (by simp only [bnA] at *; omega)) ?_
  rw [List.drop_zero]
  refine j_g rfl (fun hb => qs_mt rfl) ?_
  refine j_g rfl (fun hb => qs_seql (gd_eq hb) (gd_eq hb)) ?_
  refine j_q (qs_and rfl rfl) ?_
  refine j_ret_con (vs := [_]) (fun w' hw' => ⟨rfl, trivial⟩) ?_
  show Value.bool _ = _
  congr 2
  rw [Bool.eq_iff_iff, decide_eq_true_eq, decide_eq_true_eq]
  omega
theorem hasPre_con (s r : List UInt8) (w : World) (hs : s.length ≤ 9223372036854775807) (hr : r.length ≤ 9223372036854775807) : Con Tryz.prog 76 [.string (bs r), .string (bs s)] w [] fun v _ => v = .bool (preB s r) := by
  refine con_of_tree mix Tryz.func76 T76_ok (by kernel_rfl) ?_
  unfold T76
  refine j_q (qs_ac) ?_
  refine j_q (qs_call ent86 rfl rfl rfl (fun w' hw' => hasPre0_con s r w' hs hr)) ?_
  refine j_ret_con (vs := [_]) (fun w' hw' => ⟨rfl, trivial⟩) ?_
  rfl
theorem names_con (r : FR) (a : AF) (p : List UInt8) (w : World) (hin : In w r.heap) (hok : r.Ok a) (hsp : strOk p) : Con Tryz.prog 51 [r.ptr, .string (bs p)] w [] fun v S' => ∃ c, S' = [c] ∧ Sx.Own 9 1 (strs (namesA a.now p)) v c := by
  refine con_of_tree mix Tryz.func51 T51_ok (by kernel_rfl) ?_
  unfold T51
  have hraw := hok.now.raw
  have hlen : r.now.ml.length = a.now.nm.length := hok.now.rep.len
  have hl2 : a.now.nm.length ≤ 16384 := (okA_end hok.ok).2
  refine j_q (qs_ac) ?_
  refine j_q (qs_pnil Tryz.underlying25 rfl) ?_
  refine j_g rfl (fun hb => qs_mt rfl) ?_
  refine j_g rfl (fun hb => qs_nil (gd_eq hb)) ?_
  refine j_g rfl (fun hb => qs_field Tryz.underlying52 rfl sz48 (by decide) (gd_eq hb)) ?_
  refine j_g rfl (fun hb => qs_loadO (rdo_base (FM.in_gf hin) (by simp)) Tryz.underlying48 rfl (gd_eq hb) rfl) ?_
  refine j_g rfl (fun hb => qs_pnil Tryz.underlying48 (gd_eq hb)) ?_
  refine j_q (qs_or rfl rfl) ?_
  refine j_cond rfl (fun hc0 => ?_) (fun hc0 => ?_)
  · skip
    simp [gd] at hc0
  · skip
    refine j_q (qs_ac) ?_
    refine j_q (qs_nil rfl) ?_
    refine j_q (qs_field Tryz.underlying52 rfl sz48 (by decide) rfl) ?_
    refine j_q (qs_loadO (rdo_base (FM.in_gf hin) (by simp)) Tryz.underlying48 rfl rfl rfl) ?_
    refine j_q (qs_nil rfl) ?_
    refine j_q (qs_field Tryz.underlying69 rfl sz67 (by decide) rfl) ?_
    refine j_q (qs_loadO (rdo_base (SM.in_gs (FM.in_now hin)) (by simp)) Tryz.underlying67 rfl rfl rfl) ?_
    refine j_rangemap Tryz.underlying67 rfl (rdo_base (SM.in_gm (FM.in_now hin)) (by simp)) (fun g16 hg16 => ?_)
    refine j_loop (fun m vs S' => ∃ (done : List (List UInt8 × (Nat × Nat))) (seen : Array Nat) (c0 : Nat) (v : Value) (c : SH), vs = [v] ∧ S' = [[(g16, .mapIter (some r.now.gm) r.now.ck seen c0)], c] ∧ Sx.Own 9 1 (strs ((done.map Prod.fst).filter (preB p))) v c ∧ ItOk strEnc r.now.es seen (mlv done) ∧ (∀ q ∈ done, q ∈ r.now.ml) ∧ r.now.ck ≤ c0 ∧ m = r.now.ml.length - done.length) ⟨_, [], #[], r.now.ck, .slice none 0 0, [], rfl, rfl, own_nil, itok_nil, (fun q hq => by cases hq), Nat.le_refl _, rfl⟩ ?_
    rintro m vs S' hlen ⟨done, seen, c0, v, c, rfl, rfl, hown, hit, hsub, hc0', rfl⟩
    refine j_nextm 0 strKey.inj rfl rfl (rdo_base (SM.in_gm (FM.in_now hin)) (by simp)) hraw.map hit (Nat.le_refl _) hc0' (fun c1 nvs S2 hnv hcase => ?_)
    refine j_q (qs_ext rfl hnv) ?_
    refine j_cond rfl (fun hc1 => ?_) (fun hc1 => ?_)
    · skip
      subst hc1
      rcases hcase with ⟨hcf, _⟩ | ⟨_, q, e, hp, hnd, he, hek, hev, hit2, rfl⟩
      · cases hcf
      obtain ⟨⟨n, g, id⟩, hq, rfl⟩ := List.mem_map.1 hp
      obtain ⟨y, hy, hyg, hyi⟩ := hraw.has _ hq
      simp only at hyg hyi
      subst hyg hyi
      have hsn : strOk n := hraw.map.keys _ hp
      have e9 : mlv (done ++ [(n, (y.g, y.id))]) = mlv done ++ [(n, fptr (y.g, y.id))] := by rw [mlv, List.map_append]; rfl
      have hdn : (done ++ [(n, (y.g, y.id))]).Nodup := by
        have h9 := hit2.nd
        simp only at h9
        rw [← e9] at h9
        exact nodup_of_map (nodup_of_map h9)
      have hsub2 : ∀ x ∈ done ++ [(n, (y.g, y.id))], x ∈ r.now.ml := fun x hx => by
        rcases List.mem_append.1 hx with hx | hx
        · exact hsub x hx
        · rw [List.mem_singleton] at hx
          rw [hx]
          exact hq
      have hdl := sub_len hdn hsub2
      rw [List.length_append, List.length_singleton] at hdl
      simp only [List.set]
      refine j_q (qs_entry (es := r.now.es) (m := mlv r.now.ml) (p := (n, fptr (y.g, y.id))) (e := e) (seen := seen) (since := r.now.ck) (bm := r.now.gm) (r := g16) rfl (rdo_mem 0 rfl (by simp)) (rdo_base (SM.in_gm (FM.in_now hin)) (by simp)) hraw.map he hek hev) ?_
      refine j_q (qs_ext (vs := [.string (bs n), fptr (y.g, y.id)]) rfl rfl) ?_
      refine j_q (qs_call ent76 rfl rfl rfl (fun w' hw' => hasPre_con p n w' hsp hsn)) ?_
      refine j_cond rfl (fun hc2 => ?_) (fun hc2 => ?_)
      · skip
        have hpre : preB p n = true := hc2
        refine j_lit (vs := [.string (bs _)]) Tryz.underlying54 sz9 zero9 rfl (by simp [oneV]) ⟨rfl, by decide⟩ (fun g22 v22 c22 hv22 hc22 ho22 => ?_)
        subst hv22 hc22
        refine j_append 2 Tryz.underlying54 Tryz.underlying54 (.inr ⟨_, rfl⟩) sb9 zero9 rfl hown rfl (.inl ⟨_, _, rfl, own_rd ho22 0 rfl, rfl⟩) (by intro u hu; rw [List.mem_singleton] at hu; rw [hu]; rfl) ⟨(by rw [strs_length]; simp only [List.length_singleton]; have h8 := List.length_filter_le (preB p) (done.map Prod.fst); rw [List.length_map] at h8; omega), (by decide)⟩ (fun v23 c23 ho23 => ?_)
        refine j_subl (S' := [[(g16, .mapIter (some r.now.gm) r.now.ck (seen.push e.born) r.now.ck)], c23]) (by repeat first | exact slR _ | exact slN _ | apply slC | apply slD) ?_
        refine j_back rfl ?_
        refine ⟨r.now.ml.length - (done ++ [(n, (y.g, y.id))]).length, (by
          have h1 := sub_len (l := (done ++ [(n, (y.g, y.id))])) (L := r.now.ml) hdn hsub2
          have e9 : (done ++ [(n, (y.g, y.id))]).length = done.length + 1 := by rw [List.length_append, List.length_singleton]
          omega), (done ++ [(n, (y.g, y.id))]), seen.push e.born, r.now.ck, v23, c23, rfl, rfl, ?_, e9 ▸ hit2, hsub2, Nat.le_refl _, rfl⟩
        rw [List.map_append, List.filter_append, strs_append]
        simpa [hpre, strs] using ho23
      · skip
        have hpre : preB p n = false := hc2
        refine j_back rfl ?_
        refine ⟨r.now.ml.length - (done ++ [(n, (y.g, y.id))]).length, (by
          have h1 := sub_len (l := (done ++ [(n, (y.g, y.id))])) (L := r.now.ml) hdn hsub2
          have e9 : (done ++ [(n, (y.g, y.id))]).length = done.length + 1 := by rw [List.length_append, List.length_singleton]
          omega), (done ++ [(n, (y.g, y.id))]), seen.push e.born, r.now.ck, v, c, rfl, rfl, ?_, e9 ▸ hit2, hsub2, Nat.le_refl _, rfl⟩
        rw [List.map_append, List.filter_append, strs_append]
        simpa [hpre, strs] using hown
    · skip
      have hcf : c1 = false := by simpa using hc1
      subst hcf
      rcases hcase with ⟨_, rfl, hend⟩ | ⟨hcf, _⟩
      rotate_left
      · cases hcf
      refine j_call 1 ent77 rfl rfl rfl rfl (fun w' hw' => sortN_con hown (by have h8 := List.length_filter_le (preB p) (done.map Prod.fst); rw [List.length_map] at h8; have h9 := sub_len (nodup_of_map (nodup_of_map hit.nd) : done.Nodup) hsub; omega) w') (fun u S3 hu => ?_)
      obtain ⟨rfl, c3, rfl, ho3⟩ := hu
      have hp : done.Perm r.now.ml := sub_perm (nodup_of_map (nodup_of_map hit.nd)) (nodup_of_map hraw.nd) hsub (fun q hq => by
        have := hend (q.1, fptr q.2) (List.mem_map.2 ⟨q, hq, rfl⟩)
        obtain ⟨x, hx, e⟩ := List.mem_map.1 this
        have h1 := alook_of_mem hraw.nd (hsub x hx)
        have h2 := alook_of_mem hraw.nd hq
        injection e with e1 e2
        rw [e1] at h1
        rw [h1] at h2
        injection h2 with h2
        have : x = q := Prod.ext e1 h2
        rw [← this]
        exact hx)
      refine j_subl (S' := [c3]) (by repeat first | exact slR _ | exact slN _ | apply slC | apply slD) ?_
      refine j_ret_con (vs := [_]) (fun w' hw' => ⟨rfl, trivial⟩) ?_
      rw [namesA_perm hok.now.rep hp] at ho3
      exact ⟨c3, rfl, ho3⟩
end Go.Proofs.YtckpegkpdepokaaGreat
/-! Any7 -/
namespace Go.Proofs.YtckpegkpdepokaaGreat
open Go Go.Sx Go.MapKept Go.WideMaps Go.Maps
set_option maxRecDepth 100000
set_option maxHeartbeats 4000000
set_option linter.unusedVariables false
attribute [local irreducible] J JQ QS Con W opW
structure RI (f : FM) (i : Nat) : Prop where
  ok : f.Ok i
  fu : f.fused = false
  lf : f.left = 0
  k1 : ∀ x ∈ f.now.fs, x.k = 1
  idl : ∀ x ∈ f.now.fs, x.id < i
  tt : (tot f.now.fs : Int) = f.now.used
  ur : f.now.used ≤ f.room
  rm : f.room ≤ 1073741824
  mll : f.now.ml.length ≤ i
end Go.Proofs.YtckpegkpdepokaaGreat
/-! Arg7 -/
namespace Go.Proofs.YtckpegkpdepokaaGreat
open Go Go.Sx Go.ChangeShapes Go.WideShapes Go.ChangeAt Go.RowKit
set_option linter.unusedVariables false
set_option maxRecDepth 100000
def BRz (w : World) (p : Value × List UInt8) : Prop := (p.1 = .slice none 0 0 ∧ p.2 = []) ∨ ∃ a cap, p.1 = .slice (some a) p.2.length cap ∧ p.2.length ≤ cap ∧ Cells w a (ints p.2)
theorem brz_br {w : World} {v : Value} {xs : List UInt8} (h : BRz w (v, xs)) : BR w v xs := by
  rcases h with h | ⟨a, cap, h1, h2, h3⟩
  · exact .inl h
  · refine .inr ⟨a, cap, h1, h2, fun h0 => ?_, h3⟩
    have h4 := h3 0 _ (ints_get_lt h0)
    have h5 : (a.add 0).block = a.block := rfl
    unfold World.cell? at h4
    split at h4
    · rename_i hh
      rw [h5] at hh
      exact (Array.getElem?_eq_some_iff.1 hh).1
    · cases h4
theorem weights_at {H : Type} {P : Program} {ts : List TypeId} {ds : List (DataW H)} (h : (DataW.weightsEach P ts ds).all (· ≤ reachBytes) = true) {j : Nat} {t : TypeId} {d : DataW H} (ht : ts[j]? = some t) (hd : ds[j]? = some d) : (d.weights P t).all (· ≤ reachBytes) = true :=
  List.all_eq_true.2 fun n hn => List.all_eq_true.1 h n (DataW.weights_mem_each ht hd n hn)
theorem row_trod {H : Type} {enc : TypeId × Value → H} {w : World} {b0 : Nat} {sp : Nat → Bool} {held : Bool} (fuel : Nat) (cs : List Value) (y : DataW H × List MemPlace) (h : DataW.trod enc Tryz.prog w b0 sp held fuel 32 cs = some y) (hw : (y.1.weights Tryz.prog 32).all (· ≤ reachBytes) = true) :
    ∃ p : Value × List UInt8, (BRz w p ∧ p.2.length ≤ 140737488351232) ∧ cs = [p.1] := by
  rcases open_ints Tryz.underlying32 Tryz.underlying5 (by kernel_rfl) h with ⟨hcs, _⟩ | ⟨a, len, cap, zs, hcs, hb, hl, hm, hz, hx, hcell, hsz⟩
  · exact ⟨(.slice none 0 0, []), ⟨.inl ⟨rfl, rfl⟩, Nat.zero_le _⟩, hcs⟩
  · have hlen : len ≤ zs.length := by rw [hz]; split <;> omega
    have hll : ((zs.take len).map by8).length = len := by simp [Nat.min_eq_left hlen]
    have hwl : len ≤ 140737488351232 := by
      have h0 := List.all_eq_true.1 hw (((lits IntKind.u8 (zs.take len) : List (DataW H)).length + (lits IntKind.u8 (zs.drop len) : List (DataW H)).length) * Tryz.prog.bytesOf 5) (by rw [hx]; simp [DataW.weights, Tryz.underlying32])
      have hb5 : Tryz.prog.bytesOf 5 = 1 := by kernel_rfl
      have hreach : reachBytes = 140737488351232 := rfl
      rw [hb5] at h0
      have h1 : (lits IntKind.u8 (zs.take len) : List (DataW H)).length = len := by simp [lits, Nat.min_eq_left hlen]
      rw [h1] at h0
      simp only [decide_eq_true_eq] at h0
      omega
    refine ⟨(.slice (some a) len cap, (zs.take len).map by8), ⟨.inr ⟨a, cap, by simp only [hll], by simp only [hll]; exact hl, fun j u hu => ?_⟩, by simp only [hll]; exact hwl⟩, hcs⟩
    rw [ints_get] at hu
    obtain ⟨c, hc1, rfl⟩ := Option.map_eq_some_iff.1 hu
    rw [List.getElem?_map] at hc1
    obtain ⟨z, hz1, rfl⟩ := Option.map_eq_some_iff.1 hc1
    have hz2 : zs[j]? = some z := by
      rw [List.getElem?_take] at hz1
      split at hz1
      · exact hz1
      · cases hz1
    have hlt := (List.getElem?_eq_some_iff.1 hz2).1
    rw [hcell j hlt]
    have hr := hsz z (List.mem_of_getElem? hz2)
    have hr2 : 0 ≤ z ∧ z ≤ 255 := by
      have h1 : IntKind.u8.min = 0 := rfl
      have h2 : IntKind.u8.max = 255 := rfl
      simp [Lit.wf, h1, h2] at hr
      omega
    have hw : IntKind.u8.wrap z = z := by rw [IntKind.wrap_u8]; omega
    rw [← wrap_by8, hw]
    simp [List.getD_eq_getElem?_getD, hz2]
end Go.Proofs.YtckpegkpdepokaaGreat
/-! Fs15 -/
namespace Go.Proofs.YtckpegkpdepokaaGreat
open Go Go.Sx
set_option maxRecDepth 100000
set_option maxHeartbeats 4000000
set_option linter.unusedVariables false
set_option linter.unusedSimpArgs false
attribute [local irreducible] J JQ QS Con W opW
open Go.MapKept Go.WideMaps Go.Maps
end Go.Proofs.YtckpegkpdepokaaGreat
/-! Ft8 -/
namespace Go.Proofs.YtckpegkpdepokaaGreat
open Go Go.Sx
set_option maxRecDepth 100000
set_option maxHeartbeats 4000000
set_option linter.unusedVariables false
set_option linter.unusedSimpArgs false
attribute [local irreducible] J JQ QS Con W opW
open Go.MapKept Go.WideMaps Go.Maps
abbrev AS0 : AS := ⟨[], fun _ => [], 0⟩
abbrev AF0 (room : Int) : AF := ⟨room, AS0, [], false, 0⟩
theorem sx0 (gs gm : Nat) : Sx' (SM0 gs gm) AS0 := ⟨raw0 _ _, ⟨(fun f h => by cases h), (fun f h => by cases h), rfl⟩, .nil, (fun f h => by cases h), rfl⟩
def nmF (i : Nat) : List UInt8 := [102, by8 ((i : Int).fdiv (2 ^ min (Int.toNat 8) IntKind.i64.bits)), by8 (i : Int)]
theorem nmF_ok (i : Nat) : nameOk (nmF i) = true ∧ strOk (nmF i) := ⟨rfl, by show 3 ≤ _; decide⟩
theorem by8_nat (m : Nat) : (by8 (m : Int)).toNat = m % 256 := by
  unfold by8
  rw [show IntKind.u8.wrap (m : Int) = ((m % 256 : Nat) : Int) by simp [IntKind.wrap, IntKind.bits, IntKind.signed]]
  rw [Int.toNat_natCast, UInt8.toNat_ofNat']
  omega
theorem nmF_inj {i j : Nat} (hi : i < 65536) (hj : j < 65536) (h : nmF i = nmF j) : i = j := by
  have hd : ∀ k : Nat, (k : Int).fdiv (2 ^ min (Int.toNat 8) IntKind.i64.bits) = ((k / 256 : Nat) : Int) := fun k => by
    rw [show (2 ^ min (Int.toNat 8) IntKind.i64.bits : Int) = 256 by decide, Int.fdiv_eq_ediv_of_nonneg _ (by decide)]
    omega
  unfold nmF at h
  rw [hd, hd] at h
  injection h with _ h
  injection h with h1 h
  injection h with h2 _
  have e1 := congrArg UInt8.toNat h1
  have e2 := congrArg UInt8.toNat h2
  rw [by8_nat, by8_nat] at e1 e2
  omega
structure FI (a : AF) (n : Int) (i t : Nat) : Prop where
  rm : a.room = 1048576
  fu : a.fused = true
  le : a.left = n - min (i : Int) n
  pl : (a.pend.length : Int) = min (i : Int) n
  nl : (a.now.nm.length : Int) = min (i : Int) n
  nms : ∀ q ∈ a.now.nm, ∃ k, k < i ∧ q.1 = nmF k
  ids : ∀ q ∈ a.now.nm, q.2 < i
  us : a.now.used ≤ (t : Int)
theorem FI.may {a : AF} {n : Int} {i t : Nat} (h : FI a n i t) (hn : 0 ≤ n) {ns : List (List UInt8)} (hns : ns.all nameOk = true) : mayE a.fused a.left ns = if (i : Int) < n then 0 else 26 := by
  unfold mayE
  rw [h.fu, h.le, hns]
  by_cases hi : (i : Int) < n
  · rw [if_pos hi, if_neg (by simp; omega), if_pos rfl]
  · rw [if_neg hi, if_pos (by simp; omega)]
theorem FI.fresh {a : AF} {n : Int} {i t : Nat} (h : FI a n i t) (hi : i < 60000) : alook a.now.nm (nmF i) = none := by
  refine alook_none.2 fun q hq e => ?_
  obtain ⟨k, hk, e2⟩ := h.nms q hq
  have := nmF_inj (by omega) (by omega) (e.symm.trans e2)
  omega
theorem FI.wr {a : AF} {n : Int} {i t : Nat} (h : FI a n i t) (hn : 0 ≤ n ∧ n ≤ 1000) (hi : i ≤ 8000) (xs : List UInt8) (hx : t + xs.length ≤ 8000) : wrE a (nmF i) xs = if (i : Int) < n then 0 else 26 := by
  unfold wrE
  rw [h.may hn.1 (by simp [nmF_ok])]
  by_cases hin : (i : Int) < n
  · rw [if_pos hin, if_neg (by simp), if_neg (by omega), if_neg]
    unfold fullA
    have h1 := h.nl
    have h2 := h.us
    have h3 := h.rm
    rintro (⟨_, h4⟩ | h4) <;> omega
  · rw [if_neg hin, if_pos (by decide)]
theorem FI.step {a : AF} {n : Int} {i t : Nat} (h : FI a n i t) (hn : 0 ≤ n ∧ n ≤ 1000) (hi : i ≤ 8000) (xs : List UInt8) (hx : t + xs.length ≤ 8000) : FI (if wrE a (nmF i) xs = 0 then stepF a (.wr (nmF i) xs i) else a) n (i + 1) (t + xs.length) := by
  rw [h.wr hn hi xs hx]
  have h1 := h.nl
  have h2 := h.us
  have h3 := h.le
  have h4 := h.pl
  by_cases hin : (i : Int) < n
  · rw [if_pos hin, if_pos rfl]
    have hnow : (stepF a (.wr (nmF i) xs i)).now = writeA a.now (nmF i) xs i := runA_snoc
    have hfr := letsA_none (h.fresh (by omega))
    rw [writeA_eq, hfr] at hnow
    refine ⟨h.rm, h.fu, ?_, ?_, ?_, ?_, ?_, ?_⟩
    · show burnL a = _
      unfold burnL
      rw [h.fu, if_pos rfl, h3]
      omega
    · show ((a.pend ++ [_]).length : Int) = _
      rw [List.length_append, List.length_singleton]
      omega
    · rw [hnow]
      show (((a.now.nm ++ [(nmF i, i)]).length : Nat) : Int) = _
      rw [List.length_append, List.length_singleton]
      omega
    · rw [hnow]
      intro q hq
      rcases List.mem_append.1 hq with hq | hq
      · obtain ⟨k, hk, e⟩ := h.nms q hq
        exact ⟨k, by omega, e⟩
      · rw [List.mem_singleton] at hq
        rw [hq]
        exact ⟨i, by omega, rfl⟩
    · rw [hnow]
      intro q hq
      rcases List.mem_append.1 hq with hq | hq
      · have := h.ids q hq
        omega
      · rw [List.mem_singleton] at hq
        rw [hq]
        exact Nat.lt_succ_self i
    · rw [hnow]
      show a.now.used + (xs.length : Int) ≤ _
      omega
  · rw [if_neg hin, if_neg (by decide)]
    refine ⟨h.rm, h.fu, by omega, by omega, by omega, fun q hq => ?_, fun q hq => ?_, by omega⟩
    · obtain ⟨k, hk, e⟩ := h.nms q hq
      exact ⟨k, by omega, e⟩
    · have := h.ids q hq
      omega
theorem int_wf {n : Int} (h : (Lit.int .i64 n).wf = true) : -9223372036854775808 ≤ n ∧ n ≤ 9223372036854775807 := by
  have h1 : IntKind.i64.min = -9223372036854775808 := rfl
  have h2 : IntKind.i64.max = 9223372036854775807 := rfl
  simp only [Lit.wf, h1, h2, Bool.and_eq_true, decide_eq_true_eq] at h
  exact h
theorem newR_con (room : Int) (w : World) (h0 : 0 ≤ room) (h1 : room ≤ 1073741824) : Con Tryz.prog 6 [.int .i64 room] w [] fun v S' => ∃ r : FR, S' = [r.heap] ∧ v = .tuple #[r.ptr, .int .i64 0] ∧ r.Ok (AF0 room) := by
  refine con_of_tree mix Tryz.func6 T6_ok (by kernel_rfl) ?_
  unfold T6
  refine j_q (qs_ac) ?_
  refine j_q (qs_ac) ?_
  refine j_q (qs_lss rfl rfl) ?_
  refine j_g rfl (fun hb => qs_mt rfl) ?_
  refine j_g rfl (fun hb => qs_gtr (gd_eq hb) rfl) ?_
  refine j_q (qs_or rfl rfl) ?_
  refine j_cond rfl (fun hc0 => ?_) (fun hc0 => ?_)
  · skip
    simp [gd] at hc0
    omega
  · skip
    refine j_call0 ent19 rfl rfl rfl (fun w' hw' => begun_con w') (fun u S2 hu => ?_)
    obtain ⟨gs1, gm1, rfl, rfl⟩ := hu
    refine j_subl (S' := [(SM0 gs1 gm1).heap]) (by repeat first | exact slR _ | exact slN _ | apply slC | apply slD) ?_
    refine j_call0 ent19 rfl rfl rfl (fun w' hw' => begun_con w') (fun u S2 hu => ?_)
    obtain ⟨gs2, gm2, rfl, rfl⟩ := hu
    refine j_subl (S' := [(SM0 gs2 gm2).heap, (SM0 gs1 gm1).heap]) (by repeat first | exact slR _ | exact slN _ | apply slC | apply slD) ?_
    refine j_q (qs_build (places := [(0, 1), (1, 1), (2, 1), (3, 1), (4, 1), (5, 1)]) (offs := [(0, [.int .i64 room]), (1, [(SM0 gs1 gm1).ptr]), (2, [(SM0 gs2 gm2).ptr])]) Tryz.underlying52 zero52 (by kernel_rfl) rfl (by rintro (_ | _ | _ | j) p q hp hq <;> first | (simp at hp hq; subst hp hq; exact ⟨rfl, rfl, by simp⟩) | (simp at hp))) ?_
    refine j_box (l := fmcells (⟨0, room, (SM0 gs1 gm1).ptr, SM0 gs2 gm2, [], .slice none 0 0, [], false, 0, (SM0 gs1 gm1).heap, []⟩ : FM)) rfl (fun g11 hg11 hs11 => ?_)
    refine j_q (qs_ac) ?_
    refine j_perm (S' := [FR.heap (⟨g11, room, SM0 gs1 gm1, SM0 gs2 gm2, [], .slice none 0 0, [], false, 0, [], []⟩ : FR)]) (List.Perm.of_eq (by simp [FM.heap, ph])) ?_
    refine j_ret_con (vs := [_, _]) (fun w' hw' => ⟨rfl, rfl, trivial⟩) ?_
    exact ⟨(⟨g11, room, SM0 gs1 gm1, SM0 gs2 gm2, [], .slice none 0 0, [], false, 0, [], []⟩ : FR), rfl, rfl, ⟨rfl, rfl, rfl, ⟨Int.le_refl 0, by show (0 : Int) ≤ _; decide⟩, rfl, own_nil, Nat.zero_le _, (fun m h => by cases h), (fun m h => by cases h), ⟨by show (0 : Int) ≤ _; decide, Nat.zero_le _⟩, sx0 _ _, (fun x h => by cases h), sx0 _ _, (fun x h => by cases h)⟩⟩
end Go.Proofs.YtckpegkpdepokaaGreat
/-! Ft9 -/
namespace Go.Proofs.YtckpegkpdepokaaGreat
open Go Go.Sx
set_option maxRecDepth 100000
set_option maxHeartbeats 4000000
set_option linter.unusedVariables false
set_option linter.unusedSimpArgs false
attribute [local irreducible] J JQ QS Con W opW
open Go.MapKept Go.WideMaps Go.Maps
def remE (a : AF) (n : List UInt8) : Int := if mayE a.fused a.left [n] ≠ 0 then mayE a.fused a.left [n] else if alook a.now.nm n = none then 7 else 0
def renE (a : AF) (old n : List UInt8) : Int := if mayE a.fused a.left [old, n] ≠ 0 then mayE a.fused a.left [old, n] else if alook a.now.nm old = none then 7 else 0
def linE (a : AF) (old n : List UInt8) : Int := if mayE a.fused a.left [old, n] ≠ 0 then mayE a.fused a.left [old, n] else if alook a.now.nm old = none then 7 else if alook a.now.nm n ≠ none then 8 else if 16384 ≤ a.now.nm.length then 6 else 0
def sizeA (s : AS) (n : List UInt8) : Nat :=
  match alook s.nm n with
  | none => 0
  | some i => (s.dt i).length
def appE (a : AF) (n xs : List UInt8) : Int := if mayE a.fused a.left [n] ≠ 0 then mayE a.fused a.left [n] else if alook a.now.nm n = none then 7 else if 1048576 < sizeA a.now n + xs.length then 5 else if a.room < a.now.used + (xs.length : Int) then 6 else 0
theorem look_none {r : FR} {a : AF} (hok : r.Ok a) (n : List UInt8) : alook r.now.ml n = none ↔ alook a.now.nm n = none := by
  rw [← hok.now.rep.look hok.now.raw n]
  cases alook r.now.ml n <;> simp
theorem mdel_nd {s : AS} (n : List UInt8) (hn : (s.nm.map Prod.fst).Nodup) : ((mdel s.nm n).map Prod.fst).Nodup := List.Nodup.sublist (List.Sublist.map _ List.filter_sublist) hn
theorem letsA_nd {s : AS} (n : List UInt8) (hn : (s.nm.map Prod.fst).Nodup) : ((letsA s n).nm.map Prod.fst).Nodup := by
  unfold letsA
  split
  · exact hn
  · exact mdel_nd n hn
theorem letsA_len {s : AS} (n : List UInt8) (hn : (s.nm.map Prod.fst).Nodup) : (letsA s n).nm.length ≤ s.nm.length := by
  cases h : alook s.nm n with
  | none => rw [letsA_none h]; exact Nat.le_refl _
  | some i =>
    have := mdel_len hn h
    simp only [letsA, h]
    omega
theorem lets_lim {s : AS} (n : List UInt8) (hn : (s.nm.map Prod.fst).Nodup) (hl : limA s) : limA (letsA s n) := by
  refine ⟨?_, Nat.le_trans (letsA_len n hn) hl.2⟩
  rw [letsA_used]
  have := hl.1
  omega
theorem givesA_fresh {s : AS} {n : List UInt8} {i : Nat} (h : alook s.nm n = none) : givesA s n i = { s with nm := s.nm ++ [(n, i)] } := by
  unfold givesA
  rw [if_neg (by rw [h]; simp), letsA_none h]
theorem ren_lim {s : AS} {old n : List UInt8} {i : Nat} (hn : (s.nm.map Prod.fst).Nodup) (hl : limA s) (ho : alook s.nm old = some i) (hne : old ≠ n) : limA (letsA (givesA s n i) old) := by
  by_cases h : alook s.nm n = some i
  · have e : givesA s n i = s := by unfold givesA; rw [if_pos h]
    rw [e]
    exact lets_lim old hn hl
  · have e : givesA s n i = { letsA s n with nm := (letsA s n).nm ++ [(n, i)] } := by unfold givesA; rw [if_neg h]
    have hfree := letsA_free s n
    have hnd : (((givesA s n i).nm).map Prod.fst).Nodup := by
      rw [e]
      show (((letsA s n).nm ++ [(n, i)]).map Prod.fst).Nodup
      rw [List.map_append, List.nodup_append]
      refine ⟨letsA_nd n hn, by simp, fun x hx y hy e3 => ?_⟩
      simp only [List.map_cons, List.map_nil, List.mem_singleton] at hy
      subst hy
      obtain ⟨q, hq, e2⟩ := List.mem_map.1 hx
      exact alook_none.1 hfree q hq (e2.trans e3)
    have hold : alook (givesA s n i).nm old = some i := by
      rw [e]
      show alook ((letsA s n).nm ++ [(n, i)]) old = some i
      have h1 : alook (letsA s n).nm old = some i := by
        cases h2 : alook s.nm n with
        | none => rw [letsA_none h2]; exact ho
        | some j =>
          have h3 : (letsA s n).nm = mdel s.nm n := by simp only [letsA, h2]
          rw [h3, alook_mdel, if_neg (fun e => hne e.symm)]
          exact ho
      rw [alook_app (by rw [h1]; rfl), h1]
    have h5 := mdel_len hnd hold
    refine ⟨?_, ?_⟩
    · rw [letsA_used]
      have h6 : (givesA s n i).used = (letsA s n).used := by rw [e]
      rw [h6, letsA_used]
      have := hl.1
      omega
    · have h6 : (letsA (givesA s n i) old).nm = mdel (givesA s n i).nm old := by simp only [letsA, hold]
      rw [h6]
      have h7 : (givesA s n i).nm.length = (letsA s n).nm.length + 1 := by rw [e]; simp
      have h8 := letsA_len n hn
      have := hl.2
      omega
theorem remove_con (r : FR) (a : AF) (n : List UInt8) (w : World) (hok : r.Ok a) (hB : a.pend.length < 16384) (hn : strOk n) : Con Tryz.prog 41 [r.ptr, .string (bs n)] w r.heap fun v S' => v = .int .i64 (remE a n) ∧ ∃ r' : FR, S' = [r'.heap] ∧ r'.Ok (if remE a n = 0 then stepF a (.rm n) else a) ∧ FR.To w r r' := by
  refine con_of_tree mix Tryz.func41 T41_ok (by kernel_rfl) ?_
  unfold T41
  have hmay : mayE r.fused r.left [n] = mayE a.fused a.left [n] := by rw [hok.fu, hok.le]
  have hlim := okA_end hok.ok
  have hu1 : a.now.used ≤ 1073741824 := hlim.1
  have hl2 : a.now.nm.length ≤ 16384 := hlim.2
  have hut : r.now.used + 0 = (tot r.now.fs : Int) := hok.now.ex.ut
  have hus : r.now.used = a.now.used := hok.now.rep.us
  have hlen : r.now.ml.length = a.now.nm.length := hok.now.rep.len
  have hrm2 := hok.rm
  have hnd := hok.now.rep.nd hok.now.raw
  refine j_box (l := [.string (bs n)]) rfl (fun g0 hg0 hs0 => ?_)
  refine j_q (qs_ac) ?_
  refine j_q (qs_load (l := [.string (bs n)]) 0 Tryz.underlying9 rfl rfl rfl rfl) ?_
  refine j_lit (vs := [.string (bs _)]) Tryz.underlying54 sz9 zero9 rfl (by simp [oneV]) ⟨rfl, by decide⟩ (fun g3 v3 c3 hv3 hc3 ho3 => ?_)
  subst hv3 hc3
  refine j_q (qs_call ent24 rfl rfl rfl (fun w' hw' => may_con r.fm [n] _ w' (in_own hw' 2 rfl) (rsl_own ho3 0 rfl hw') (by simp))) ?_
  refine j_q (qs_neq rfl rfl) ?_
  refine j_cond rfl (fun hc0 => ?_) (fun hc0 => ?_)
  · skip
    have hm : mayE a.fused a.left [n] ≠ 0 := by
      rw [← hmay]
      simpa using hc0
    refine j_subl (S' := [r.heap]) (by repeat first | exact slR _ | exact slN _ | apply slC | apply slD) ?_
    have hwe : remE a n = mayE a.fused a.left [n] := by
      unfold remE
      rw [if_pos hm]
    refine j_ret_con (vs := [_]) (fun w' hw' => ⟨rfl, trivial⟩) ?_
    rw [hwe]
    refine ⟨congrArg (Value.int .i64) hmay, r, rfl, ?_, FR.To.refl _ _⟩
    rw [if_neg hm]
    exact hok
  · skip
    have hm : mayE a.fused a.left [n] = 0 := by
      rw [← hmay]
      simpa using hc0
    have hz : a.fused = true → a.left ≠ 0 := fun hf hl => by
      unfold mayE at hm
      rw [hf, hl] at hm
      simp at hm
    refine j_perm (S' := [[(g3, .cells [.string (bs n)].toArray 9 (0, 0))], [(g0, .cells [.string (bs n)].toArray 9 (0, 0))], [(r.gf, r.fm.obj)], [(r.now.gs, r.now.sobj)], [(r.now.gm, .map r.now.es r.now.ck)], r.now.fs.map FL.h, r.tc ++ (r.ls.heap ++ r.X) ++ ph r.P]) (by
      classical
      refine List.perm_iff_count.2 fun x => ?_
      simp only [FM.heap, FM.obj, fmcells, SM.heap, ph, List.map_append, List.map_nil, List.set, List.flatten_cons, List.flatten_nil, List.append_nil, List.nil_append, List.cons_append, List.count_append, List.count_cons, List.count_nil] <;> omega) ?_
    refine j_draw ?_
    refine jq_q (qs_nil rfl) ?_
    refine jq_q (qs_field Tryz.underlying52 rfl sz48 (by decide) rfl) ?_
    refine jq_q (qs_load (l := fmcells r.fm) 2 Tryz.underlying48 rfl rfl rfl rfl) ?_
    refine jq_q (qs_nil rfl) ?_
    refine jq_q (qs_field Tryz.underlying69 rfl sz67 (by decide) rfl) ?_
    refine jq_q (qs_load (l := smcells r.now) 3 Tryz.underlying67 rfl rfl rfl rfl) ?_
    refine jq_q (qs_load (l := [.string (bs n)]) 1 Tryz.underlying9 rfl rfl rfl rfl) ?_
    refine jq_q (qs_lookup (key := n) strKey 4 Tryz.underlying67 zv63 rfl rfl rfl hok.now.raw.map hn) ?_
    rw [mlook_map fptr, getD_fptr]
    refine jq_q (qs_pnil Tryz.underlying66 rfl) ?_
    refine jq_nil ?_
    refine j_cond rfl (fun hc1 => ?_) (fun hc1 => ?_)
    · skip
      have hl0 : alook a.now.nm n = none := by
        rw [← look_none hok]
        cases hx : alook r.now.ml n with
        | none => rfl
        | some p => rw [hx] at hc1; simp at hc1
      refine j_q (qs_ac) ?_
      refine j_subl (S' := r.fm.parts2) (by repeat first | exact slR _ | exact slN _ | apply slC | apply slD) ?_
      refine j_perm (S' := [r.heap]) r.fm.split2.symm ?_
      have hwe : remE a n = 7 := by
        unfold remE
        rw [if_neg (by rw [hm]; simp), if_pos hl0]
      refine j_ret_con (vs := [_]) (fun w' hw' => ⟨rfl, trivial⟩) ?_
      rw [hwe]
      refine ⟨rfl, r, rfl, ?_, FR.To.refl _ _⟩
      rw [if_neg (by decide)]
      exact hok
    · skip
      have hl0 : alook a.now.nm n ≠ none := by
        rw [Ne, ← look_none hok]
        intro hx
        rw [hx] at hc1
        simp at hc1
      refine j_q (qs_mkfuncv (vs := [.pointer (some ⟨g0, 0, none⟩)]) rfl) ?_
      refine j_perm (S' := [FR.heap ({ r with X := ([(g0, .cells [.string (bs n)].toArray 9 (0, 0))]) ++ r.X, P := ([] : List BK) ++ r.P } : FR), [(g3, .cells [.string (bs n)].toArray 9 (0, 0))]]) (by
        classical
        refine List.perm_iff_count.2 fun x => ?_
        simp only [FM.heap, FM.obj, fmcells, SM.heap, ph, List.map_append, List.map_nil, List.set, List.flatten_cons, List.flatten_nil, List.append_nil, List.nil_append, List.cons_append, List.count_append, List.count_cons, List.count_nil] <;> omega) ?_
      refine j_call 0 ent27 rfl rfl rfl rfl (fun w' hw' => (doesR_con ({ r with X := ([(g0, .cells [.string (bs n)].toArray 9 (0, 0))]) ++ r.X, P := ([] : List BK) ++ r.P } : FR) a (.rm n g0) w' (hok.more _ _) hB hz hn (fun q hq => List.mem_append_left _ hq) trivial (lets_lim n hnd hlim)).mono (fun u S5 h5 => by
        obtain ⟨h1, r', h2, h3, h4⟩ := h5
        exact (⟨h1, r', h2, h3, h4.old hw' 0 rfl rfl (fun q hq => List.mem_append_right _ hq) (fun b hb => List.mem_append_right _ hb)⟩ : _ ∧ ∃ r' : FR, S5 = [r'.heap] ∧ r'.Ok (stepF a (.rm n)) ∧ FR.To w r r'))) (fun u S5 h5 => ?_)
      obtain ⟨rfl, r', rfl, hr', hto⟩ := h5
      refine j_subl (S' := [r'.heap]) (by repeat first | exact slR _ | exact slN _ | apply slC | apply slD) ?_
      have hwe : remE a n = 0 := by
        unfold remE
        rw [if_neg (by rw [hm]; simp), if_neg hl0]
      refine j_ret_con (vs := [_]) (fun w' hw' => ⟨rfl, trivial⟩) ?_
      rw [hwe]
      refine ⟨rfl, r', rfl, ?_, hto⟩
      rw [if_pos rfl]
      exact hr'
theorem rename_con (r : FR) (a : AF) (old n : List UInt8) (w : World) (hok : r.Ok a) (hB : a.pend.length < 16384) (hso : strOk old) (hn : strOk n) : Con Tryz.prog 39 [r.ptr, .string (bs old), .string (bs n)] w r.heap fun v S' => v = .int .i64 (renE a old n) ∧ ∃ r' : FR, S' = [r'.heap] ∧ r'.Ok (if renE a old n = 0 then stepF a (.rn old n) else a) ∧ FR.To w r r' := by
  refine con_of_tree mix Tryz.func39 T39_ok (by kernel_rfl) ?_
  unfold T39
  have hmay : mayE r.fused r.left [old, n] = mayE a.fused a.left [old, n] := by rw [hok.fu, hok.le]
  have hlim := okA_end hok.ok
  have hu1 : a.now.used ≤ 1073741824 := hlim.1
  have hl2 : a.now.nm.length ≤ 16384 := hlim.2
  have hut : r.now.used + 0 = (tot r.now.fs : Int) := hok.now.ex.ut
  have hus : r.now.used = a.now.used := hok.now.rep.us
  have hlen : r.now.ml.length = a.now.nm.length := hok.now.rep.len
  have hrm2 := hok.rm
  have hnd := hok.now.rep.nd hok.now.raw
  refine j_box (l := [.string (bs old)]) rfl (fun g0 hg0 hs0 => ?_)
  refine j_box (l := [.string (bs n)]) rfl (fun g1 hg1 hs1 => ?_)
  refine j_q (qs_ac) ?_
  refine j_q (qs_load (l := [.string (bs old)]) 1 Tryz.underlying9 rfl rfl rfl rfl) ?_
  refine j_q (qs_load (l := [.string (bs n)]) 0 Tryz.underlying9 rfl rfl rfl rfl) ?_
  refine j_lit (vs := [.string (bs _), .string (bs _)]) Tryz.underlying54 sz9 zero9 rfl (by simp [oneV]) ⟨rfl, by decide⟩ (fun g5 v5 c5 hv5 hc5 ho5 => ?_)
  subst hv5 hc5
  refine j_q (qs_call ent24 rfl rfl rfl (fun w' hw' => may_con r.fm [old, n] _ w' (in_own hw' 3 rfl) (rsl_own ho5 0 rfl hw') (by simp))) ?_
  refine j_q (qs_neq rfl rfl) ?_
  refine j_cond rfl (fun hc0 => ?_) (fun hc0 => ?_)
  · skip
    have hm : mayE a.fused a.left [old, n] ≠ 0 := by
      rw [← hmay]
      simpa using hc0
    refine j_subl (S' := [r.heap]) (by repeat first | exact slR _ | exact slN _ | apply slC | apply slD) ?_
    have hwe : renE a old n = mayE a.fused a.left [old, n] := by
      unfold renE
      rw [if_pos hm]
    refine j_ret_con (vs := [_]) (fun w' hw' => ⟨rfl, trivial⟩) ?_
    rw [hwe]
    refine ⟨congrArg (Value.int .i64) hmay, r, rfl, ?_, FR.To.refl _ _⟩
    rw [if_neg hm]
    exact hok
  · skip
    have hm : mayE a.fused a.left [old, n] = 0 := by
      rw [← hmay]
      simpa using hc0
    have hz : a.fused = true → a.left ≠ 0 := fun hf hl => by
      unfold mayE at hm
      rw [hf, hl] at hm
      simp at hm
    refine j_perm (S' := [[(g5, .cells [Value.string (bs old), Value.string (bs n)].toArray 9 (0, 0))], [(g1, .cells [.string (bs n)].toArray 9 (0, 0))], [(g0, .cells [.string (bs old)].toArray 9 (0, 0))], [(r.gf, r.fm.obj)], [(r.now.gs, r.now.sobj)], [(r.now.gm, .map r.now.es r.now.ck)], r.now.fs.map FL.h, r.tc ++ (r.ls.heap ++ r.X) ++ ph r.P]) (by
      classical
      refine List.perm_iff_count.2 fun x => ?_
      simp only [FM.heap, FM.obj, fmcells, SM.heap, ph, List.map_append, List.map_nil, List.set, List.flatten_cons, List.flatten_nil, List.append_nil, List.nil_append, List.cons_append, List.count_append, List.count_cons, List.count_nil] <;> omega) ?_
    refine j_draw ?_
    refine jq_q (qs_nil rfl) ?_
    refine jq_q (qs_field Tryz.underlying52 rfl sz48 (by decide) rfl) ?_
    refine jq_q (qs_load (l := fmcells r.fm) 3 Tryz.underlying48 rfl rfl rfl rfl) ?_
    refine jq_q (qs_nil rfl) ?_
    refine jq_q (qs_field Tryz.underlying69 rfl sz67 (by decide) rfl) ?_
    refine jq_q (qs_load (l := smcells r.now) 4 Tryz.underlying67 rfl rfl rfl rfl) ?_
    refine jq_q (qs_load (l := [.string (bs old)]) 2 Tryz.underlying9 rfl rfl rfl rfl) ?_
    refine jq_q (qs_lookup (key := old) strKey 5 Tryz.underlying67 zv63 rfl rfl rfl hok.now.raw.map hso) ?_
    rw [mlook_map fptr, getD_fptr]
    refine jq_q (qs_pnil Tryz.underlying66 rfl) ?_
    refine jq_nil ?_
    refine j_cond rfl (fun hc1 => ?_) (fun hc1 => ?_)
    · skip
      have hl0 : alook a.now.nm old = none := by
        rw [← look_none hok]
        cases hx : alook r.now.ml old with
        | none => rfl
        | some p => rw [hx] at hc1; simp at hc1
      refine j_q (qs_ac) ?_
      refine j_subl (S' := r.fm.parts2) (by repeat first | exact slR _ | exact slN _ | apply slC | apply slD) ?_
      refine j_perm (S' := [r.heap]) r.fm.split2.symm ?_
      have hwe : renE a old n = 7 := by
        unfold renE
        rw [if_neg (by rw [hm]; simp), if_pos hl0]
      refine j_ret_con (vs := [_]) (fun w' hw' => ⟨rfl, trivial⟩) ?_
      rw [hwe]
      refine ⟨rfl, r, rfl, ?_, FR.To.refl _ _⟩
      rw [if_neg (by decide)]
      exact hok
    · skip
      have hl0 : alook a.now.nm old ≠ none := by
        rw [Ne, ← look_none hok]
        intro hx
        rw [hx] at hc1
        simp at hc1
      obtain ⟨i, hi⟩ := Option.ne_none_iff_exists'.1 hl0
      refine j_q (qs_mkfuncv (vs := [.pointer (some ⟨g0, 0, none⟩), .pointer (some ⟨g1, 0, none⟩)]) rfl) ?_
      refine j_perm (S' := [FR.heap ({ r with X := ([(g0, .cells [.string (bs old)].toArray 9 (0, 0))] ++ [(g1, .cells [.string (bs n)].toArray 9 (0, 0))]) ++ r.X, P := ([] : List BK) ++ r.P } : FR), [(g5, .cells [Value.string (bs old), Value.string (bs n)].toArray 9 (0, 0))]]) (by
        classical
        refine List.perm_iff_count.2 fun x => ?_
        simp only [FM.heap, FM.obj, fmcells, SM.heap, ph, List.map_append, List.map_nil, List.set, List.flatten_cons, List.flatten_nil, List.append_nil, List.nil_append, List.cons_append, List.count_append, List.count_cons, List.count_nil] <;> omega) ?_
      refine j_call 0 ent27 rfl rfl rfl rfl (fun w' hw' => (doesR_con ({ r with X := ([(g0, .cells [.string (bs old)].toArray 9 (0, 0))] ++ [(g1, .cells [.string (bs n)].toArray 9 (0, 0))]) ++ r.X, P := ([] : List BK) ++ r.P } : FR) a (.rn old n g0 g1) w' (hok.more _ _) hB hz ⟨hso, hn⟩ (fun q hq => List.mem_append_left _ hq) (by show (alook a.now.nm old).isSome = true; rw [hi]; rfl) (by
        show limA (if old = n then a.now else match alook a.now.nm old with | none => a.now | some i => letsA (givesA a.now n i) old)
        split
        · exact hlim
        · rename_i hne
          rw [hi]
          exact ren_lim hnd hlim hi hne)).mono (fun u S5 h5 => by
        obtain ⟨h1, r', h2, h3, h4⟩ := h5
        exact (⟨h1, r', h2, h3, h4.old hw' 0 rfl rfl (fun q hq => List.mem_append_right _ hq) (fun b hb => List.mem_append_right _ hb)⟩ : _ ∧ ∃ r' : FR, S5 = [r'.heap] ∧ r'.Ok (stepF a (.rn old n)) ∧ FR.To w r r'))) (fun u S5 h5 => ?_)
      obtain ⟨rfl, r', rfl, hr', hto⟩ := h5
      refine j_subl (S' := [r'.heap]) (by repeat first | exact slR _ | exact slN _ | apply slC | apply slD) ?_
      have hwe : renE a old n = 0 := by
        unfold renE
        rw [if_neg (by rw [hm]; simp), if_neg hl0]
      refine j_ret_con (vs := [_]) (fun w' hw' => ⟨rfl, trivial⟩) ?_
      rw [hwe]
      refine ⟨rfl, r', rfl, ?_, hto⟩
      rw [if_pos rfl]
      exact hr'
theorem linkR_con (r : FR) (a : AF) (old n : List UInt8) (w : World) (hok : r.Ok a) (hB : a.pend.length < 16384) (hso : strOk old) (hn : strOk n) : Con Tryz.prog 14 [r.ptr, .string (bs old), .string (bs n)] w r.heap fun v S' => v = .int .i64 (linE a old n) ∧ ∃ r' : FR, S' = [r'.heap] ∧ r'.Ok (if linE a old n = 0 then stepF a (.li old n) else a) ∧ FR.To w r r' := by
  refine con_of_tree mix Tryz.func14 T14_ok (by kernel_rfl) ?_
  unfold T14
  have hmay : mayE r.fused r.left [old, n] = mayE a.fused a.left [old, n] := by rw [hok.fu, hok.le]
  have hlim := okA_end hok.ok
  have hu1 : a.now.used ≤ 1073741824 := hlim.1
  have hl2 : a.now.nm.length ≤ 16384 := hlim.2
  have hut : r.now.used + 0 = (tot r.now.fs : Int) := hok.now.ex.ut
  have hus : r.now.used = a.now.used := hok.now.rep.us
  have hlen : r.now.ml.length = a.now.nm.length := hok.now.rep.len
  have hrm2 := hok.rm
  have hnd := hok.now.rep.nd hok.now.raw
  refine j_box (l := [.string (bs old)]) rfl (fun g0 hg0 hs0 => ?_)
  refine j_box (l := [.string (bs n)]) rfl (fun g1 hg1 hs1 => ?_)
  refine j_q (qs_ac) ?_
  refine j_q (qs_load (l := [.string (bs old)]) 1 Tryz.underlying9 rfl rfl rfl rfl) ?_
  refine j_q (qs_load (l := [.string (bs n)]) 0 Tryz.underlying9 rfl rfl rfl rfl) ?_
  refine j_lit (vs := [.string (bs _), .string (bs _)]) Tryz.underlying54 sz9 zero9 rfl (by simp [oneV]) ⟨rfl, by decide⟩ (fun g5 v5 c5 hv5 hc5 ho5 => ?_)
  subst hv5 hc5
  refine j_q (qs_call ent24 rfl rfl rfl (fun w' hw' => may_con r.fm [old, n] _ w' (in_own hw' 3 rfl) (rsl_own ho5 0 rfl hw') (by simp))) ?_
  refine j_q (qs_neq rfl rfl) ?_
  refine j_cond rfl (fun hc0 => ?_) (fun hc0 => ?_)
  · skip
    have hm : mayE a.fused a.left [old, n] ≠ 0 := by
      rw [← hmay]
      simpa using hc0
    refine j_subl (S' := [r.heap]) (by repeat first | exact slR _ | exact slN _ | apply slC | apply slD) ?_
    have hwe : linE a old n = mayE a.fused a.left [old, n] := by
      unfold linE
      rw [if_pos hm]
    refine j_ret_con (vs := [_]) (fun w' hw' => ⟨rfl, trivial⟩) ?_
    rw [hwe]
    refine ⟨congrArg (Value.int .i64) hmay, r, rfl, ?_, FR.To.refl _ _⟩
    rw [if_neg hm]
    exact hok
  · skip
    have hm : mayE a.fused a.left [old, n] = 0 := by
      rw [← hmay]
      simpa using hc0
    have hz : a.fused = true → a.left ≠ 0 := fun hf hl => by
      unfold mayE at hm
      rw [hf, hl] at hm
      simp at hm
    refine j_perm (S' := [[(g5, .cells [Value.string (bs old), Value.string (bs n)].toArray 9 (0, 0))], [(g1, .cells [.string (bs n)].toArray 9 (0, 0))], [(g0, .cells [.string (bs old)].toArray 9 (0, 0))], [(r.gf, r.fm.obj)], [(r.now.gs, r.now.sobj)], [(r.now.gm, .map r.now.es r.now.ck)], r.now.fs.map FL.h, r.tc ++ (r.ls.heap ++ r.X) ++ ph r.P]) (by
      classical
      refine List.perm_iff_count.2 fun x => ?_
      simp only [FM.heap, FM.obj, fmcells, SM.heap, ph, List.map_append, List.map_nil, List.set, List.flatten_cons, List.flatten_nil, List.append_nil, List.nil_append, List.cons_append, List.count_append, List.count_cons, List.count_nil] <;> omega) ?_
    refine j_draw ?_
    refine jq_q (qs_nil rfl) ?_
    refine jq_q (qs_field Tryz.underlying52 rfl sz48 (by decide) rfl) ?_
    refine jq_q (qs_load (l := fmcells r.fm) 3 Tryz.underlying48 rfl rfl rfl rfl) ?_
    refine jq_q (qs_nil rfl) ?_
    refine jq_q (qs_field Tryz.underlying69 rfl sz67 (by decide) rfl) ?_
    refine jq_q (qs_load (l := smcells r.now) 4 Tryz.underlying67 rfl rfl rfl rfl) ?_
    refine jq_q (qs_load (l := [.string (bs old)]) 2 Tryz.underlying9 rfl rfl rfl rfl) ?_
    refine jq_q (qs_lookup (key := old) strKey 5 Tryz.underlying67 zv63 rfl rfl rfl hok.now.raw.map hso) ?_
    rw [mlook_map fptr, getD_fptr]
    refine jq_q (qs_pnil Tryz.underlying66 rfl) ?_
    refine jq_nil ?_
    refine j_cond rfl (fun hc1 => ?_) (fun hc1 => ?_)
    · skip
      have hl0 : alook a.now.nm old = none := by
        rw [← look_none hok]
        cases hx : alook r.now.ml old with
        | none => rfl
        | some p => rw [hx] at hc1; simp at hc1
      refine j_q (qs_ac) ?_
      refine j_subl (S' := r.fm.parts2) (by repeat first | exact slR _ | exact slN _ | apply slC | apply slD) ?_
      refine j_perm (S' := [r.heap]) r.fm.split2.symm ?_
      have hwe : linE a old n = 7 := by
        unfold linE
        rw [if_neg (by rw [hm]; simp), if_pos hl0]
      refine j_ret_con (vs := [_]) (fun w' hw' => ⟨rfl, trivial⟩) ?_
      rw [hwe]
      refine ⟨rfl, r, rfl, ?_, FR.To.refl _ _⟩
      rw [if_neg (by decide)]
      exact hok
    · skip
      have hl0 : alook a.now.nm old ≠ none := by
        rw [Ne, ← look_none hok]
        intro hx
        rw [hx] at hc1
        simp at hc1
      obtain ⟨i, hi⟩ := Option.ne_none_iff_exists'.1 hl0
      refine j_draw ?_
      refine jq_q (qs_nil rfl) ?_
      refine jq_q (qs_field Tryz.underlying52 rfl sz48 (by decide) rfl) ?_
      refine jq_q (qs_load (l := fmcells r.fm) 3 Tryz.underlying48 rfl rfl rfl rfl) ?_
      refine jq_q (qs_nil rfl) ?_
      refine jq_q (qs_field Tryz.underlying69 rfl sz67 (by decide) rfl) ?_
      refine jq_q (qs_load (l := smcells r.now) 4 Tryz.underlying67 rfl rfl rfl rfl) ?_
      refine jq_q (qs_load (l := [.string (bs n)]) 1 Tryz.underlying9 rfl rfl rfl rfl) ?_
      refine jq_q (qs_lookup (key := n) strKey 5 Tryz.underlying67 zv63 rfl rfl rfl hok.now.raw.map hn) ?_
      rw [mlook_map fptr, getD_fptr]
      refine jq_q (qs_pnnil Tryz.underlying66 rfl) ?_
      refine jq_nil ?_
      refine j_cond rfl (fun hc2 => ?_) (fun hc2 => ?_)
      · skip
        have hl1 : alook a.now.nm n ≠ none := by
          rw [Ne, ← look_none hok]
          intro hx
          rw [hx] at hc2
          simp at hc2
        refine j_q (qs_ac) ?_
        refine j_subl (S' := r.fm.parts2) (by repeat first | exact slR _ | exact slN _ | apply slC | apply slD) ?_
        refine j_perm (S' := [r.heap]) r.fm.split2.symm ?_
        have hwe : linE a old n = 8 := by
          unfold linE
          rw [if_neg (by rw [hm]; simp), if_neg hl0, if_pos hl1]
        refine j_ret_con (vs := [_]) (fun w' hw' => ⟨rfl, trivial⟩) ?_
        rw [hwe]
        refine ⟨rfl, r, rfl, ?_, FR.To.refl _ _⟩
        rw [if_neg (by decide)]
        exact hok
      · skip
        have hl1 : alook a.now.nm n = none := by
          rw [← look_none hok]
          cases hx : alook r.now.ml n with
          | none => rfl
          | some p => rw [hx] at hc2; simp at hc2
        refine j_q (qs_nil rfl) ?_
        refine j_q (qs_field Tryz.underlying52 rfl sz48 (by decide) rfl) ?_
        refine j_q (qs_load (l := fmcells r.fm) 3 Tryz.underlying48 rfl rfl rfl rfl) ?_
        refine j_q (qs_nil rfl) ?_
        refine j_q (qs_field Tryz.underlying69 rfl sz67 (by decide) rfl) ?_
        refine j_q (qs_load (l := smcells r.now) 4 Tryz.underlying67 rfl rfl rfl rfl) ?_
        refine j_q (qs_maplen (rdo_mem (o := .map r.now.es r.now.ck) 5 rfl (by simp)) Tryz.underlying67 rfl hok.now.raw.map) ?_
        refine j_q (qs_geq rfl rfl) ?_
        refine j_cond rfl (fun hc3 => ?_) (fun hc3 => ?_)
        · skip
          have hfl : 16384 ≤ a.now.nm.length := by
            simp at hc3
            omega
          refine j_q (qs_ac) ?_
          refine j_subl (S' := r.fm.parts2) (by repeat first | exact slR _ | exact slN _ | apply slC | apply slD) ?_
          refine j_perm (S' := [r.heap]) r.fm.split2.symm ?_
          have hwe : linE a old n = 6 := by
            unfold linE
            rw [if_neg (by rw [hm]; simp), if_neg hl0, if_neg (by rw [hl1]; simp), if_pos hfl]
          refine j_ret_con (vs := [_]) (fun w' hw' => ⟨rfl, trivial⟩) ?_
          rw [hwe]
          refine ⟨rfl, r, rfl, ?_, FR.To.refl _ _⟩
          rw [if_neg (by decide)]
          exact hok
        · skip
          have hfl : ¬ 16384 ≤ a.now.nm.length := by
            simp at hc3
            omega
          refine j_q (qs_mkfuncv (vs := [.pointer (some ⟨g1, 0, none⟩), .pointer (some ⟨g0, 0, none⟩)]) rfl) ?_
          refine j_perm (S' := [FR.heap ({ r with X := ([(g0, .cells [.string (bs old)].toArray 9 (0, 0))] ++ [(g1, .cells [.string (bs n)].toArray 9 (0, 0))]) ++ r.X, P := ([] : List BK) ++ r.P } : FR), [(g5, .cells [Value.string (bs old), Value.string (bs n)].toArray 9 (0, 0))]]) (by
            classical
            refine List.perm_iff_count.2 fun x => ?_
            simp only [FM.heap, FM.obj, fmcells, SM.heap, ph, List.map_append, List.map_nil, List.set, List.flatten_cons, List.flatten_nil, List.append_nil, List.nil_append, List.cons_append, List.count_append, List.count_cons, List.count_nil] <;> omega) ?_
          refine j_call 0 ent27 rfl rfl rfl rfl (fun w' hw' => (doesR_con ({ r with X := ([(g0, .cells [.string (bs old)].toArray 9 (0, 0))] ++ [(g1, .cells [.string (bs n)].toArray 9 (0, 0))]) ++ r.X, P := ([] : List BK) ++ r.P } : FR) a (.li old n g0 g1) w' (hok.more _ _) hB hz ⟨hso, hn⟩ (fun q hq => List.mem_append_left _ hq) (by show (alook a.now.nm old).isSome = true; rw [hi]; rfl) (by
            show limA (match alook a.now.nm old with | none => a.now | some i => givesA a.now n i)
            rw [hi]
            show limA (givesA a.now n i)
            rw [givesA_fresh hl1]
            refine ⟨hu1, ?_⟩
            show (a.now.nm ++ [(n, i)]).length ≤ _
            rw [List.length_append, List.length_singleton]
            omega)).mono (fun u S5 h5 => by
            obtain ⟨h1, r', h2, h3, h4⟩ := h5
            exact (⟨h1, r', h2, h3, h4.old hw' 0 rfl rfl (fun q hq => List.mem_append_right _ hq) (fun b hb => List.mem_append_right _ hb)⟩ : _ ∧ ∃ r' : FR, S5 = [r'.heap] ∧ r'.Ok (stepF a (.li old n)) ∧ FR.To w r r'))) (fun u S5 h5 => ?_)
          obtain ⟨rfl, r', rfl, hr', hto⟩ := h5
          refine j_subl (S' := [r'.heap]) (by repeat first | exact slR _ | exact slN _ | apply slC | apply slD) ?_
          have hwe : linE a old n = 0 := by
            unfold linE
            rw [if_neg (by rw [hm]; simp), if_neg hl0, if_neg (by rw [hl1]; simp), if_neg hfl]
          refine j_ret_con (vs := [_]) (fun w' hw' => ⟨rfl, trivial⟩) ?_
          rw [hwe]
          refine ⟨rfl, r', rfl, ?_, hto⟩
          rw [if_pos rfl]
          exact hr'
theorem appendR_con (r : FR) (a : AF) (n : List UInt8) (bv : Value) (xs : List UInt8) (w : World) (hok : r.Ok a) (hB : a.pend.length < 16384) (hn : strOk n) (hbr : BR w bv xs) (hbd : ∀ (a : Addr) (m c : Nat), bv = .slice (some a) m c → 0 < m → a.block ∉ dom r.heap) (hxl : xs.length ≤ 1000000000) (hrm : a.room ≤ 1073741824) : Con Tryz.prog 15 [r.ptr, .string (bs n), bv] w r.heap fun v S' => v = .int .i64 (appE a n xs) ∧ ∃ r' : FR, S' = [r'.heap] ∧ r'.Ok (if appE a n xs = 0 then stepF a (.ap n xs) else a) ∧ FR.To w r r' := by
  refine con_of_tree mix Tryz.func15 T15_ok (by kernel_rfl) ?_
  unfold T15
  obtain ⟨A, cap, hbv, hcap⟩ := br_form hbr
  have hone : oneV bv = true := by rw [hbv]; rfl
  have hmay : mayE r.fused r.left [n] = mayE a.fused a.left [n] := by rw [hok.fu, hok.le]
  have hlim := okA_end hok.ok
  have hu1 : a.now.used ≤ 1073741824 := hlim.1
  have hl2 : a.now.nm.length ≤ 16384 := hlim.2
  have hut : r.now.used + 0 = (tot r.now.fs : Int) := hok.now.ex.ut
  have hus : r.now.used = a.now.used := hok.now.rep.us
  have hlen : r.now.ml.length = a.now.nm.length := hok.now.rep.len
  have hrm2 := hok.rm
  have hnd := hok.now.rep.nd hok.now.raw
  refine j_box (l := [.string (bs n)]) rfl (fun g0 hg0 hs0 => ?_)
  refine j_box (l := [bv]) (by show bv.cells = #[bv]; rw [hbv]; rfl) (fun g1 hg1 hs1 => ?_)
  refine j_q (qs_ac) ?_
  refine j_q (qs_load (l := [.string (bs n)]) 1 Tryz.underlying9 rfl rfl rfl rfl) ?_
  refine j_lit (vs := [.string (bs _)]) Tryz.underlying54 sz9 zero9 rfl (by simp [oneV]) ⟨rfl, by decide⟩ (fun g4 v4 c4 hv4 hc4 ho4 => ?_)
  subst hv4 hc4
  refine j_q (qs_call ent24 rfl rfl rfl (fun w' hw' => may_con r.fm [n] _ w' (in_own hw' 3 rfl) (rsl_own ho4 0 rfl hw') (by simp))) ?_
  refine j_q (qs_neq rfl rfl) ?_
  refine j_cond rfl (fun hc0 => ?_) (fun hc0 => ?_)
  · skip
    have hm : mayE a.fused a.left [n] ≠ 0 := by
      rw [← hmay]
      simpa using hc0
    refine j_subl (S' := [r.heap]) (by repeat first | exact slR _ | exact slN _ | apply slC | apply slD) ?_
    have hwe : appE a n xs = mayE a.fused a.left [n] := by
      unfold appE
      rw [if_pos hm]
    refine j_ret_con (vs := [_]) (fun w' hw' => ⟨rfl, trivial⟩) ?_
    rw [hwe]
    refine ⟨congrArg (Value.int .i64) hmay, r, rfl, ?_, FR.To.refl _ _⟩
    rw [if_neg hm]
    exact hok
  · skip
    have hm : mayE a.fused a.left [n] = 0 := by
      rw [← hmay]
      simpa using hc0
    have hz : a.fused = true → a.left ≠ 0 := fun hf hl => by
      unfold mayE at hm
      rw [hf, hl] at hm
      simp at hm
    refine j_perm (S' := [[(g4, .cells [.string (bs n)].toArray 9 (0, 0))], [(g1, .cells [bv].toArray 32 (0, 0))], [(g0, .cells [.string (bs n)].toArray 9 (0, 0))], [(r.gf, r.fm.obj)], [(r.now.gs, r.now.sobj)], [(r.now.gm, .map r.now.es r.now.ck)], r.now.fs.map FL.h, r.tc ++ (r.ls.heap ++ r.X) ++ ph r.P]) (by
      classical
      refine List.perm_iff_count.2 fun x => ?_
      simp only [FM.heap, FM.obj, fmcells, SM.heap, ph, List.map_append, List.map_nil, List.set, List.flatten_cons, List.flatten_nil, List.append_nil, List.nil_append, List.cons_append, List.count_append, List.count_cons, List.count_nil] <;> omega) ?_
    refine j_draw ?_
    refine jq_q (qs_nil rfl) ?_
    refine jq_q (qs_field Tryz.underlying52 rfl sz48 (by decide) rfl) ?_
    refine jq_q (qs_load (l := fmcells r.fm) 3 Tryz.underlying48 rfl rfl rfl rfl) ?_
    refine jq_q (qs_nil rfl) ?_
    refine jq_q (qs_field Tryz.underlying69 rfl sz67 (by decide) rfl) ?_
    refine jq_q (qs_load (l := smcells r.now) 4 Tryz.underlying67 rfl rfl rfl rfl) ?_
    refine jq_q (qs_load (l := [.string (bs n)]) 2 Tryz.underlying9 rfl rfl rfl rfl) ?_
    refine jq_q (qs_lookup (key := n) strKey 5 Tryz.underlying67 zv63 rfl rfl rfl hok.now.raw.map hn) ?_
    rw [mlook_map fptr, getD_fptr]
    refine jq_nil ?_
    refine j_q (qs_pnil Tryz.underlying66 rfl) ?_
    refine j_cond rfl (fun hc1 => ?_) (fun hc1 => ?_)
    · skip
      have hl0 : alook a.now.nm n = none := by
        rw [← look_none hok]
        cases hx : alook r.now.ml n with
        | none => rfl
        | some p => rw [hx] at hc1; simp at hc1
      refine j_q (qs_ac) ?_
      refine j_subl (S' := r.fm.parts2) (by repeat first | exact slR _ | exact slN _ | apply slC | apply slD) ?_
      refine j_perm (S' := [r.heap]) r.fm.split2.symm ?_
      have hwe : appE a n xs = 7 := by
        unfold appE
        rw [if_neg (by rw [hm]; simp), if_pos hl0]
      refine j_ret_con (vs := [_]) (fun w' hw' => ⟨rfl, trivial⟩) ?_
      rw [hwe]
      refine ⟨rfl, r, rfl, ?_, FR.To.refl _ _⟩
      rw [if_neg (by decide)]
      exact hok
    · skip
      have hl0 : alook a.now.nm n ≠ none := by
        rw [Ne, ← look_none hok]
        intro hx
        rw [hx] at hc1
        simp at hc1
      obtain ⟨i, hi⟩ := Option.ne_none_iff_exists'.1 hl0
      obtain ⟨x, hx, hlk, rfl, _⟩ := look_rep hok.now.raw hok.now.rep hi
      have hla := hi
      rw [hlk, Option.map_some]
      obtain ⟨xA, xc, hxv, hxl2⟩ := hok.now.raw.form x hx
      have hdx := hok.now.rep.dt x hx
      have hsz : sizeA a.now n = x.xs.length := by simp only [sizeA, hi, hdx]
      refine j_draw ?_
      refine jq_q (qs_load (l := [bv]) 1 Tryz.underlying32 rfl rfl rfl rfl) ?_
      refine jq_q (qs_lenl (n := xs.length) (A := A) (c := cap) Tryz.underlying32 hbv) ?_
      refine jq_q (qs_nil rfl) ?_
      refine jq_q (qs_field Tryz.underlying75 rfl sz32 (by decide) rfl) ?_
      refine jq_q (qs_loadO (l := flcells x) (rdo_mem (o := x.h.2) 6 rfl (List.mem_map.2 ⟨x, hx, rfl⟩)) Tryz.underlying32 rfl rfl rfl) ?_
      refine jq_q (qs_lenl (n := x.xs.length) (A := xA) (c := xc) Tryz.underlying32 hxv) ?_
      refine jq_q (qs_sub64 rfl rfl (by first | omega | (simp only [bnA] at *; omega))) ?_
      refine jq_q (qs_gtr rfl rfl) ?_
      refine jq_nil ?_
      refine j_cond rfl (fun hc2 => ?_) (fun hc2 => ?_)
      · skip
        have hbig : 1048576 < sizeA a.now n + xs.length := by
          rw [hsz]
          simp at hc2
          omega
        refine j_q (qs_ac) ?_
        refine j_subl (S' := r.fm.parts2) (by repeat first | exact slR _ | exact slN _ | apply slC | apply slD) ?_
        refine j_perm (S' := [r.heap]) r.fm.split2.symm ?_
        have hwe : appE a n xs = 5 := by
          unfold appE
          rw [if_neg (by rw [hm]; simp), if_neg hl0, if_pos hbig]
        refine j_ret_con (vs := [_]) (fun w' hw' => ⟨rfl, trivial⟩) ?_
        rw [hwe]
        refine ⟨rfl, r, rfl, ?_, FR.To.refl _ _⟩
        rw [if_neg (by decide)]
        exact hok
      · skip
        have hbig : ¬ 1048576 < sizeA a.now n + xs.length := by
          rw [hsz]
          simp at hc2
          omega
        have hbig2 := hbig
        rw [hsz] at hbig2
        refine j_draw ?_
        refine jq_q (qs_nil rfl) ?_
        refine jq_q (qs_field Tryz.underlying52 rfl sz48 (by decide) rfl) ?_
        refine jq_q (qs_load (l := fmcells r.fm) 3 Tryz.underlying48 rfl rfl rfl rfl) ?_
        refine jq_q (qs_nil rfl) ?_
        refine jq_q (qs_field Tryz.underlying69 rfl sz3 (by decide) rfl) ?_
        refine jq_q (qs_load (l := smcells r.now) 4 Tryz.underlying3 rfl rfl rfl rfl) ?_
        refine jq_q (qs_load (l := [bv]) 1 Tryz.underlying32 rfl rfl rfl rfl) ?_
        refine jq_q (qs_lenl (n := xs.length) (A := A) (c := cap) Tryz.underlying32 hbv) ?_
        refine jq_q (qs_add64 rfl rfl (by first | omega | (simp only [bnA] at *; omega))) ?_
        refine jq_q (qs_nil rfl) ?_
        refine jq_q (qs_field Tryz.underlying52 rfl sz3 (by decide) rfl) ?_
        refine jq_q (qs_load (l := fmcells r.fm) 3 Tryz.underlying3 rfl rfl rfl rfl) ?_
        refine jq_q (qs_gtr rfl rfl) ?_
        refine jq_nil ?_
        refine j_cond rfl (fun hc3 => ?_) (fun hc3 => ?_)
        · skip
          have hfl : a.room < a.now.used + (xs.length : Int) := by
            rw [← hok.rm, ← hus]
            simp at hc3
            omega
          refine j_q (qs_ac) ?_
          refine j_subl (S' := r.fm.parts2) (by repeat first | exact slR _ | exact slN _ | apply slC | apply slD) ?_
          refine j_perm (S' := [r.heap]) r.fm.split2.symm ?_
          have hwe : appE a n xs = 6 := by
            unfold appE
            rw [if_neg (by rw [hm]; simp), if_neg hl0, if_neg hbig, if_pos hfl]
          refine j_ret_con (vs := [_]) (fun w' hw' => ⟨rfl, trivial⟩) ?_
          rw [hwe]
          refine ⟨rfl, r, rfl, ?_, FR.To.refl _ _⟩
          rw [if_neg (by decide)]
          exact hok
        · skip
          have hfl : ¬ a.room < a.now.used + (xs.length : Int) := by
            rw [← hok.rm, ← hus]
            simp at hc3
            omega
          refine j_q (qs_load (l := [bv]) 1 Tryz.underlying32 rfl rfl rfl rfl) ?_
          refine j_call0 ent26 rfl rfl rfl (fun w' hw' => clone_con bv xs w' (br_keep hbr hbd hw') hxl) (fun u S2 hu1 => ?_)
          obtain ⟨Q, rfl, hrv⟩ := hu1
          obtain ⟨bv2, hbv2⟩ : ∃ y, y = u := ⟨_, rfl⟩
          rw [← hbv2] at hrv ⊢
          refine j_subl (S' := [ph Q, [(g4, .cells [.string (bs n)].toArray 9 (0, 0))], [(g1, .cells [bv].toArray 32 (0, 0))], [(g0, .cells [.string (bs n)].toArray 9 (0, 0))], [(r.gf, r.fm.obj)], [(r.now.gs, r.now.sobj)], [(r.now.gm, .map r.now.es r.now.ck)], r.now.fs.map FL.h, r.tc ++ (r.ls.heap ++ r.X) ++ ph r.P]) (by repeat first | exact slR _ | exact slN _ | apply slC | apply slD) ?_
          obtain ⟨A2, c2, hbe, hbc, _⟩ := hrv.form
          refine j_store (l := [bv]) 2 sz32 rfl rfl (by show oneV bv2 = true; rw [hbe]; rfl) rfl (by simp) (by simp) ?_
          refine j_q (qs_mkfuncv (vs := [.pointer (some ⟨g0, 0, none⟩), .pointer (some ⟨g1, 0, none⟩)]) rfl) ?_
          refine j_perm (S' := [ph Q, [(g4, .cells [.string (bs n)].toArray 9 (0, 0))], [(g1, .cells [bv2].toArray 32 (0, 0))], [(g0, .cells [.string (bs n)].toArray 9 (0, 0))], [(r.gf, r.fm.obj)], [(r.now.gs, r.now.sobj)], [(r.now.gm, .map r.now.es r.now.ck)], r.now.fs.map FL.h, r.tc ++ (r.ls.heap ++ r.X) ++ ph r.P]) (.refl _) ?_
          have hrv2 : RV (Q ++ r.P) (.slice A2 xs.length c2) xs := by
            rw [← hbe]
            exact hrv.more (fun b hb => List.mem_append_left _ hb)
          rw [hbe]
          refine j_perm (S' := [FR.heap ({ r with X := ([(g0, .cells [.string (bs n)].toArray 9 (0, 0))] ++ [(g1, .cells [.slice A2 xs.length c2].toArray 32 (0, 0))]) ++ r.X, P := Q ++ r.P } : FR), [(g4, .cells [.string (bs n)].toArray 9 (0, 0))]]) (by
            classical
            refine List.perm_iff_count.2 fun x => ?_
            simp only [FM.heap, FM.obj, fmcells, SM.heap, ph, List.map_append, List.map_nil, List.set, List.flatten_cons, List.flatten_nil, List.append_nil, List.nil_append, List.cons_append, List.count_append, List.count_cons, List.count_nil] <;> omega) ?_
          refine j_call 0 ent27 rfl rfl rfl rfl (fun w' hw' => (doesR_con ({ r with X := ([(g0, .cells [.string (bs n)].toArray 9 (0, 0))] ++ [(g1, .cells [.slice A2 xs.length c2].toArray 32 (0, 0))]) ++ r.X, P := Q ++ r.P } : FR) a (.ap n xs g0 g1 A2 c2) w' (hok.more _ _) hB hz ⟨hn, hrv2, hbc, by omega⟩ (fun q hq => List.mem_append_left _ hq) ⟨x.id, hla, by rw [hdx]; omega⟩ (by
            show limA (appA a.now n xs)
            unfold appA
            rw [hla]
            exact ⟨by show a.now.used + (xs.length : Int) ≤ _; omega, hl2⟩)).mono (fun u S5 h5 => by
            obtain ⟨h1, r', h2, h3, h4⟩ := h5
            exact (⟨h1, r', h2, h3, h4.old hw' 0 rfl rfl (fun q hq => List.mem_append_right _ hq) (fun b hb => List.mem_append_right _ hb)⟩ : _ ∧ ∃ r' : FR, S5 = [r'.heap] ∧ r'.Ok (stepF a (.ap n xs)) ∧ FR.To w r r'))) (fun u S5 h5 => ?_)
          obtain ⟨rfl, r', rfl, hr', hto⟩ := h5
          refine j_subl (S' := [r'.heap]) (by repeat first | exact slR _ | exact slN _ | apply slC | apply slD) ?_
          have hwe : appE a n xs = 0 := by
            unfold appE
            rw [if_neg (by rw [hm]; simp), if_neg hl0, if_neg hbig, if_neg hfl]
          refine j_ret_con (vs := [_]) (fun w' hw' => ⟨rfl, trivial⟩) ?_
          rw [hwe]
          refine ⟨rfl, r', rfl, ?_, hto⟩
          rw [if_pos rfl]
          exact hr'
end Go.Proofs.YtckpegkpdepokaaGreat
/-! Ft10 -/
namespace Go.Proofs.YtckpegkpdepokaaGreat
open Go Go.Sx
set_option maxRecDepth 100000
set_option maxHeartbeats 4000000
set_option linter.unusedVariables false
set_option linter.unusedSimpArgs false
attribute [local irreducible] J JQ QS Con W opW
open Go.MapKept Go.WideMaps Go.Maps
def FR.own (r : FR) : SH := [(r.gf, r.fm.obj)] ++ r.now.heap ++ r.tc ++ r.ls.heap
def FR.shared (r : FR) : SH := r.X ++ ph r.P
theorem FR.parts_own (r : FR) : r.heap.Perm (r.own ++ r.shared) := by
  classical
  refine List.perm_iff_count.2 fun x => ?_
  simp only [FM.heap, FR.own, FR.shared, List.count_append] <;> omega
theorem FR.in_ls {r : FR} {w : World} (h : In w r.heap) : In w r.ls.heap := fun q hq => h q (by simp only [FM.heap]; simp [hq])
theorem FR.in_tc {r : FR} {w : World} (h : In w r.heap) : In w r.tc := fun q hq => h q (by simp only [FM.heap]; simp [hq])
theorem rsl_in {w : World} {e : TypeId} {xs : List Value} {v : Value} {c : SH} (ho : Sx.Own e 1 xs v c) (hin : In w c) : RSl w v xs := by
  have hn : (dom c).Nodup := by
    rcases ho with ⟨_, _, rfl⟩ | ⟨g, n, cap, rest, fz, _, rfl, _⟩
    · exact List.nodup_nil
    · simp [dom]
  exact rsl_own (b := ⟨w, dom c⟩) (S := [c]) ho 0 rfl ⟨rfl, rfl, rfl, Nat.le_refl _, fun p hp => hin p (by simpa using hp), by simpa using hn, fun k hk => .inl (by simpa using hk), fun _ _ _ => rfl⟩
theorem cloneT_con (vals : List Value) (v : Value) (w : World) (h : RSl w v vals) (hl : vals.length ≤ 16384) (h1 : ∀ u ∈ vals, oneV u = true) : Con Tryz.prog 22 [v] w [] fun u S' => ∃ c, S' = [c] ∧ Sx.Own 63 1 vals u c := by
  refine con_of_tree mix Tryz.func22 T22_ok (by kernel_rfl) ?_
  unfold T22
  have hcs : v = .slice none 0 0 ∧ vals = [] ∨ ∃ a n c, v = .slice (some a) n c := by
    rcases h with h | ⟨g, off, cap, h1, _⟩
    · exact .inl h
    · exact .inr ⟨_, _, _, h1⟩
  obtain ⟨A0, c0, hv0, hc0'⟩ := rsl_form h
  subst hv0
  refine j_q (qs_ac) ?_
  refine j_q (qs_slnil Tryz.underlying50 rfl) ?_
  refine j_cond rfl (fun hc0 => ?_) (fun hc0 => ?_)
  · skip
    have hz : vals = [] := by
      rcases hcs with ⟨_, hz⟩ | ⟨a, n, c, e⟩
      · exact hz
      · injection e with e1 e2 e3
        subst e1
        simp at hc0
    refine j_q (qs_ac) ?_
    refine j_subl (S' := [[]]) (by simp) ?_
    refine j_ret_con (vs := [_]) (fun w' hw' => ⟨rfl, trivial⟩) ?_
    rw [hz]
    exact ⟨[], rfl, own_nil⟩
  · skip
    refine j_lit (vs := []) Tryz.underlying50 sz63 zero63 rfl (by simp [oneV]) ⟨rfl, by decide⟩ (fun g3 v3 c3 hv3 hc3 ho3 => ?_)
    subst hv3 hc3
    refine j_append 0 Tryz.underlying50 Tryz.underlying50 (.inr ⟨_, rfl⟩) sb63 zero63 rfl ho3 rfl (src_rsl h (fun _ _ => by simp)) h1 ⟨(by simp only [List.length_nil]; omega), (by decide)⟩ (fun v4 c4 ho4 => ?_)
    refine j_subl (S' := [c4]) (by repeat first | exact slR _ | exact slN _ | apply slC | apply slD) ?_
    refine j_ret_con (vs := [_]) (fun w' hw' => ⟨rfl, trivial⟩) ?_
    rw [List.nil_append] at ho4
    exact ⟨c4, rfl, ho4⟩
theorem copy_con (r : FR) (a : AF) (w : World) (hin : In w r.heap) (hok : r.Ok a) : Con Tryz.prog 8 [r.ptr] w [] fun v S' => ∃ r' : FR, S' = [r'.own] ∧ v = r'.ptr ∧ r'.Ok { a with fused := false, left := 0 } ∧ r'.X = r.X ∧ r'.P = r.P := by
  refine con_of_tree mix Tryz.func8 T8_ok (by kernel_rfl) ?_
  unfold T8
  refine j_q (qs_ac) ?_
  refine j_q (qs_pnil Tryz.underlying25 rfl) ?_
  refine j_cond rfl (fun hc0 => ?_) (fun hc0 => ?_)
  · skip
    simp at hc0
  · skip
    refine j_call0 ent20 rfl rfl rfl (fun w' hw' => ready_con r.fm w' (in_keep0 hin hw')) (fun u S2 hu => ?_)
    refine j_subl (S' := [[]]) (by simp) ?_
    refine j_mix _ (.refl _) ?_
    refine j_mq (qs_nil rfl) ?_
    refine j_mq (qs_field Tryz.underlying52 rfl sz3 (by decide) rfl) ?_
    refine j_mq (qs_loadO (rdo_base (FM.in_gf hin) (by simp)) Tryz.underlying3 rfl rfl rfl) ?_
    refine j_mq (qs_nil rfl) ?_
    refine j_mq (qs_field Tryz.underlying52 rfl sz48 (by decide) rfl) ?_
    refine j_mq (qs_loadO (rdo_base (FM.in_gf hin) (by simp)) Tryz.underlying48 rfl rfl rfl) ?_
    refine j_mq (qs_nil rfl) ?_
    refine j_mq (qs_field Tryz.underlying52 rfl sz48 (by decide) rfl) ?_
    refine j_mq (qs_loadO (rdo_base (FM.in_gf hin) (by simp)) Tryz.underlying48 rfl rfl rfl) ?_
    refine j_mq (qs_nil rfl) ?_
    refine j_mq (qs_field Tryz.underlying52 rfl sz50 (by decide) rfl) ?_
    refine j_mq (qs_loadO (rdo_base (FM.in_gf hin) (by simp)) Tryz.underlying50 rfl rfl rfl) ?_
    refine j_call0 ent21 rfl rfl rfl (fun w' hw' => copied_con r.ls a.base r.P w' hok.ls hok.lv (okA_lim hok.ok) (in_keep0 (FR.in_ls hin) hw')) (fun u S2 hu => ?_)
    obtain ⟨o1, rfl, rfl, ho1, hvo1⟩ := hu
    refine j_mD0 (Le.of_sub (by repeat first | exact slR _ | exact slN _ | apply slC | apply slD)) ?_
    refine j_call0 ent21 rfl rfl rfl (fun w' hw' => copied_con r.now a.now r.P w' hok.now hok.nv (okA_end hok.ok) (in_keep0 (FM.in_now hin) hw')) (fun u S2 hu => ?_)
    obtain ⟨o2, rfl, rfl, ho2, hvo2⟩ := hu
    refine j_mD0 (Le.of_sub (by repeat first | exact slR _ | exact slN _ | apply slC | apply slD)) ?_
    refine j_call0 ent22 rfl rfl rfl (fun w' hw' => cloneT_con (r.ms.map MT.val) r.tv w' (rsl_keep (rsl_in hok.row (FR.in_tc hin)) hw') (by rw [List.length_map]; exact hok.lt) (fun u hu => by
      obtain ⟨m, _, rfl⟩ := List.mem_map.1 hu
      rfl)) (fun u S2 hu => ?_)
    obtain ⟨v18, hv18⟩ : ∃ y, y = u := ⟨_, rfl⟩
    obtain ⟨c18, rfl, ho18⟩ := hu
    rw [← hv18] at ho18 ⊢
    refine j_mD0 (Le.of_sub (by repeat first | exact slR _ | exact slN _ | apply slC | apply slD)) ?_
    have hvc : v18.cells = #[v18] := by
      obtain ⟨n', A', cap', e', _⟩ := own_form ho18 (by decide)
      rw [e']
      rfl
    refine j_mq (qs_build (places := [(0, 1), (1, 1), (2, 1), (3, 1), (4, 1), (5, 1)]) (offs := [(0, [.int .i64 r.room]), (1, [o1.ptr]), (2, [o2.ptr]), (3, [v18])]) Tryz.underlying52 zero52 (by kernel_rfl) rfl (by rintro (_ | _ | _ | _ | j) p q hp hq <;> first | (simp at hp hq; subst hp hq; exact ⟨rfl, rfl, by simp⟩) | (simp at hp hq; subst hp hq; exact ⟨rfl, hvc, by simp⟩) | (simp at hp))) ?_
    refine j_box (l := fmcells ({ gf := 0, room := r.room, ls := o1, now := o2, ms := r.ms, tv := v18, tc := c18, fused := false, left := 0, X := r.X, P := r.P } : FR).fm) rfl (fun g20 hg20 hs20 => ?_)
    refine j_mR _ (.refl _) ?_
    refine j_mend ?_
    refine j_subl (S' := [[(g20, FM.obj (FR.fm (⟨g20, r.room, o1, o2, r.ms, v18, c18, false, 0, r.X, r.P⟩ : FR)))], c18, o2.heap, o1.heap]) (by repeat first | exact slR _ | exact slN _ | apply slC | apply slD) ?_
    refine j_perm (S' := [FR.own (⟨g20, r.room, o1, o2, r.ms, v18, c18, false, 0, r.X, r.P⟩ : FR)]) (by
      classical
      refine List.perm_iff_count.2 fun x => ?_
      simp only [FR.own, List.flatten_cons, List.flatten_nil, List.append_nil, List.count_append] <;> omega) ?_
    refine j_ret_con (vs := [_]) (fun w' hw' => ⟨rfl, trivial⟩) ?_
    exact ⟨(⟨g20, r.room, o1, o2, r.ms, v18, c18, false, 0, r.X, r.P⟩ : FR), rfl, rfl, ⟨hok.rm, rfl, rfl, ⟨Int.le_refl 0, by show (0 : Int) ≤ _; decide⟩, hok.pd, ho18, hok.lt, hok.bx, hok.mo, hok.ok, ho1, hvo1, ho2, hvo2⟩, rfl, rfl⟩
end Go.Proofs.YtckpegkpdepokaaGreat
/-! Ft11 -/
namespace Go.Proofs.YtckpegkpdepokaaGreat
open Go Go.Sx
set_option maxRecDepth 100000
set_option maxHeartbeats 4000000
set_option linter.unusedVariables false
set_option linter.unusedSimpArgs false
attribute [local irreducible] J JQ QS Con W opW
open Go.MapKept Go.WideMaps Go.Maps
def contA (s : AS) (n : List UInt8) : List UInt8 :=
  match alook s.nm n with
  | none => []
  | some i => s.dt i
def readE (s : AS) (n : List UInt8) : Int := if alook s.nm n = none then 7 else 0
theorem usedR_con (r : FR) (a : AF) (w : World) (hin : In w r.heap) (hok : r.Ok a) : Con Tryz.prog 52 [r.ptr] w [] fun v _ => v = .int .i64 a.now.used := by
  have h : r.now.used = a.now.used := hok.now.rep.us
  rw [← h]
  exact used_con r.fm w hin
theorem nodeZ_con (f : FM) (B : Nat) (n : List UInt8) (w : World) (hin : In w f.heap) (hok : f.Ok B) (hn : strOk n) (hlk : alook f.now.ml n = none) : Con Tryz.prog 17 [f.ptr, .string (bs n)] w [] fun u S' => u = .tuple #[.string (bs []), .int .i64 0] ∧ S' = [[]] := by
  refine con_of_tree mix Tryz.func17 T17_ok (by kernel_rfl) ?_
  unfold T17
  refine j_q (qs_ac) ?_
  refine j_q (qs_ac) ?_
  refine j_q (qs_pnil Tryz.underlying25 rfl) ?_
  refine j_g rfl (fun hb => qs_mt rfl) ?_
  refine j_g rfl (fun hb => qs_nil (gd_eq hb)) ?_
  refine j_g rfl (fun hb => qs_field Tryz.underlying52 rfl sz48 (by decide) (gd_eq hb)) ?_
  refine j_g rfl (fun hb => qs_loadO (rdo_base (FM.in_gf hin) (by simp)) Tryz.underlying48 rfl (gd_eq hb) rfl) ?_
  refine j_g rfl (fun hb => qs_pnil Tryz.underlying48 (gd_eq hb)) ?_
  refine j_q (qs_or rfl rfl) ?_
  refine j_g rfl (fun hb => qs_mt rfl) ?_
  refine j_g rfl (fun hb => qs_nil (gd_eq hb)) ?_
  refine j_g rfl (fun hb => qs_field Tryz.underlying52 rfl sz48 (by decide) (gd_eq hb)) ?_
  refine j_g rfl (fun hb => qs_loadO (rdo_base (FM.in_gf hin) (by simp)) Tryz.underlying48 rfl (gd_eq hb) rfl) ?_
  refine j_g rfl (fun hb => qs_nil (gd_eq hb)) ?_
  refine j_g rfl (fun hb => qs_field Tryz.underlying69 rfl sz67 (by decide) (gd_eq hb)) ?_
  refine j_g rfl (fun hb => qs_loadO (rdo_base (SM.in_gs (FM.in_now hin)) (by simp)) Tryz.underlying67 rfl (gd_eq hb) rfl) ?_
  refine j_g rfl (fun hb => qs_mt rfl) ?_
  refine j_g rfl (fun hb => qs_lookupR (key := n) strKey (rdo_base (SM.in_gm (FM.in_now hin)) (by simp)) Tryz.underlying67 zv63 (gd_eq hb) (gd_eq hb) hok.raw.map hn) ?_
  rw [mlook_map fptr, getD_fptr, hlk, Option.map_none]
  refine j_g rfl (fun hb => qs_pnil Tryz.underlying66 (gd_eq hb)) ?_
  refine j_q (qs_or rfl rfl) ?_
  refine j_cond rfl (fun hc0 => ?_) (fun hc0 => ?_)
  · skip
    refine j_q (qs_ac) ?_
    refine j_q (qs_ac) ?_
    refine j_ret_con (vs := [_, _]) (fun w' hw' => ⟨rfl, rfl, trivial⟩) ?_
    exact ⟨rfl, rfl⟩
  · skip
    simp [gd] at hc0
end Go.Proofs.YtckpegkpdepokaaGreat
/-! Ft12 -/
namespace Go.Proofs.YtckpegkpdepokaaGreat
open Go Go.Sx
set_option maxRecDepth 100000
set_option maxHeartbeats 4000000
set_option linter.unusedVariables false
set_option linter.unusedSimpArgs false
attribute [local irreducible] J JQ QS Con W opW
open Go.MapKept Go.WideMaps Go.Maps
theorem getE_left {α : Type} {l m : List α} {j : Nat} {u : α} (h : l[j]? = some u) : (l ++ m)[j]? = some u := by
  obtain ⟨hlt, _⟩ := List.getElem?_eq_some_iff.1 h
  rw [List.getElem?_append_left hlt]
  exact h
theorem roomy_con (v : Value) (xs : List UInt8) (w : World) (h : BR w v xs) (hl : xs.length ≤ 8000) : Con Tryz.prog 33 [v] w [] fun u S' => ∃ (g cap : Nat) (c : SH), S' = [c] ∧ Sx.Own 5 1 (ints (xs ++ [171, 171])) (.slice (some ⟨g, 0, none⟩) (xs.length + 2) cap) c ∧ u = .slice (some ⟨g, 0, none⟩) (xs.length + 1) cap := by
  refine con_of_tree mix Tryz.func33 T33_ok (by kernel_rfl) ?_
  unfold T33
  obtain ⟨A, cap0, hbv, hcap0⟩ := br_form h
  refine j_q (qs_ac) ?_
  refine j_lit (vs := []) Tryz.underlying32 sz5 zero5 rfl (by simp [oneV]) ⟨rfl, by decide⟩ (fun g1 v1 c1 hv1 hc1 ho1 => ?_)
  subst hv1 hc1
  refine j_append 0 Tryz.underlying32 Tryz.underlying32 (.inr ⟨_, rfl⟩) sb5 zero5 rfl ho1 rfl (br_src h) ints_one ⟨(by rw [ints_length]; simp only [List.length_nil]; omega), (by decide)⟩ (fun v2 c2 ho2 => ?_)
  refine j_lit (vs := [.int .u8 _]) Tryz.underlying32 sz5 zero5 rfl (by simp [oneV]) ⟨rfl, by decide⟩ (fun g3 v3 c3 hv3 hc3 ho3 => ?_)
  subst hv3 hc3
  refine j_append 1 Tryz.underlying32 Tryz.underlying32 (.inr ⟨_, rfl⟩) sb5 zero5 rfl ho2 rfl (.inl ⟨_, _, rfl, own_rd ho3 0 rfl, rfl⟩) (by intro u hu; rw [List.mem_singleton] at hu; rw [hu]; rfl) ⟨(by simp only [List.nil_append, ints_length, List.length_singleton]; omega), (by decide)⟩ (fun v4 c4 ho4 => ?_)
  refine j_lit (vs := [.int .u8 _]) Tryz.underlying32 sz5 zero5 rfl (by simp [oneV]) ⟨rfl, by decide⟩ (fun g5 v5 c5 hv5 hc5 ho5 => ?_)
  subst hv5 hc5
  refine j_append 2 Tryz.underlying32 Tryz.underlying32 (.inr ⟨_, rfl⟩) sb5 zero5 rfl ho4 rfl (.inl ⟨_, _, rfl, own_rd ho5 0 rfl, rfl⟩) (by intro u hu; rw [List.mem_singleton] at hu; rw [hu]; rfl) ⟨(by simp only [List.nil_append, List.length_append, ints_length, List.length_singleton]; omega), (by decide)⟩ (fun v6 c6 ho6 => ?_)
  refine j_q (qs_lenl (n := xs.length) (A := A) (c := cap0) Tryz.underlying32 hbv) ?_
  refine j_q (qs_add64 rfl rfl (by first | omega | (simp only [bnA] at *; omega))) ?_
  rw [List.nil_append] at ho6
  have ex : ints xs ++ [.int .u8 171] ++ [.int .u8 171] = ints (xs ++ [171, 171]) := by rw [ints_append, List.append_assoc]; rfl
  rw [ex] at ho6
  obtain ⟨g6, n6, cap6, hv6⟩ := own_some ho6 (by rw [ints_append]; simp [ints])
  subst hv6
  obtain ⟨n7, A7, cap7, e7, hn7⟩ := own_form ho6 (by decide)
  injection e7 with e71 e72 e73
  rw [ints_length, List.length_append, Nat.mul_one, ← e72] at hn7
  have hn8 : n6 = xs.length + 2 := by
    rw [← hn7]
    rfl
  subst hn8
  have hcap := own_cap ho6
  refine j_q (qs_cutl (a := 0) (z := xs.length + 1) Tryz.underlying32 sz5 rfl rfl ⟨.i64, rfl⟩ (by omega) (by omega)) ?_
  rw [if_neg (by omega), Nat.sub_zero, Nat.sub_zero]
  refine j_subl (S' := [c6]) (by repeat first | exact slR _ | exact slN _ | apply slC | apply slD) ?_
  refine j_ret_con (vs := [_]) (fun w' hw' => ⟨rfl, trivial⟩) ?_
  exact ⟨g6, cap6, c6, rfl, ho6, rfl⟩
theorem stands_con (g cap : Nat) (v : Value) (xs : List UInt8) (w : World) (hg : g < w.heap.size) (hcl : Cells w ⟨g, 0, none⟩ (ints (xs ++ [171, 171]))) (hcap : xs.length + 2 ≤ cap) (h : BR w v xs) (hl : xs.length ≤ 8000) : Con Tryz.prog 36 [.slice (some ⟨g, 0, none⟩) (xs.length + 1) cap, v] w [] fun u _ => u = .bool true := by
  refine con_of_tree mix Tryz.func36 T36_ok (by kernel_rfl) ?_
  unfold T36
  obtain ⟨A, cap0, hbv, hcap0⟩ := br_form h
  have hsub : BR w (.slice (some ⟨g, 0, none⟩) xs.length cap) xs := .inr ⟨_, cap, rfl, by omega, fun _ => hg, fun j u hu => hcl j u (by rw [ints_append]; exact getE_left hu)⟩
  refine j_q (qs_ac) ?_
  refine j_q (qs_lenl Tryz.underlying32 rfl) ?_
  refine j_q (qs_lenl (n := xs.length) (A := A) (c := cap0) Tryz.underlying32 hbv) ?_
  refine j_q (qs_add64 rfl rfl (by first | omega | (simp only [bnA] at *; omega))) ?_
  refine j_q (qs_eql rfl rfl) ?_
  rw [show (((xs.length + 1 : Nat) : Int) == (xs.length : Int) + 1) = true by simp]
  refine j_gt rfl (qs_mt rfl) ?_
  refine j_gt rfl (qs_mt rfl) ?_
  refine j_gt rfl (qs_lenl (n := xs.length) (A := A) (c := cap0) Tryz.underlying32 hbv) ?_
  refine j_gt rfl (qs_cutl (a := 0) (z := xs.length) Tryz.underlying32 sz5 rfl rfl ⟨.i64, rfl⟩ (by omega) (by omega)) ?_
  rw [if_neg (by omega), Nat.sub_zero, Nat.sub_zero]
  refine j_gt rfl (qs_mt rfl) ?_
  refine j_gt rfl (qs_call ent18 rfl rfl rfl (fun w' hw' => same_con xs xs _ _ w' (br0 hsub hw') (br0 h hw') (by omega))) ?_
  rw [beq_self_eq_true]
  refine j_q (qs_and rfl rfl) ?_
  refine j_gt rfl (qs_mt rfl) ?_
  refine j_gt rfl (qs_mt rfl) ?_
  refine j_gt rfl (qs_lenl (n := xs.length) (A := A) (c := cap0) Tryz.underlying32 hbv) ?_
  refine j_gt rfl (qs_ixn (g := g) (off := 0) (n := xs.length + 1) (c := cap) (i := xs.length) Tryz.underlying32 sz5 rfl rfl (by omega)) ?_
  refine j_gt rfl (qs_loadR (v := .int .u8 171) (a := ⟨g, 0, none⟩) (i := xs.length) (rd_cells hcl (by simp)) Tryz.underlying5 rfl (by rw [add_off]; show Value.pointer (some ⟨g, 0 + xs.length * 1, none⟩) = _; rw [Nat.mul_one]) (by rw [ints_append, List.getElem?_append_right (by rw [ints_length]; exact Nat.le_refl _), ints_length, Nat.sub_self]; rfl)) ?_
  refine j_gt rfl (qs_eql rfl rfl) ?_
  refine j_q (qs_and rfl rfl) ?_
  refine j_ret_con (vs := [_]) (fun w' hw' => ⟨rfl, trivial⟩) ?_
  rfl
theorem texts_con (xs ys : List (List UInt8)) (v1 v2 : Value) (w : World) (h1 : RSl w v1 (strs xs)) (h2 : RSl w v2 (strs ys)) (hl : xs.length ≤ 1000000) (hl2 : ys.length ≤ 1000000) : Con Tryz.prog 50 [v1, v2] w [] fun u _ => u = .bool (xs == ys) := by
  refine con_of_tree mix Tryz.func50 T50_ok (by kernel_rfl) ?_
  unfold T50
  obtain ⟨A1, c1, rfl, hc1'⟩ := rsl_form h1
  obtain ⟨A2, c2, rfl, hc2'⟩ := rsl_form h2
  simp only [strs_len] at h1 h2 hc1' hc2' ⊢
  refine j_q (qs_ac) ?_
  refine j_q (qs_lenl Tryz.underlying54 rfl) ?_
  refine j_q (qs_lenl Tryz.underlying54 rfl) ?_
  refine j_q (qs_neq rfl rfl) ?_
  refine j_cond rfl (fun hc0 => ?_) (fun hc0 => ?_)
  · skip
    have hne : xs.length ≠ ys.length := fun e => by
      rw [e] at hc0
      simp at hc0
    refine j_q (qs_ac) ?_
    refine j_ret_con (vs := [_]) (fun w' hw' => ⟨rfl, trivial⟩) ?_
    show Value.bool false = _
    congr 1
    symm
    rw [beq_eq_false_iff_ne]
    exact fun e => hne (by rw [e])
  · skip
    have heq : xs.length = ys.length := by
      simp at hc0
      omega
    refine j_q (qs_ac) ?_
    refine j_loop (fun m vs S' => ∃ i : Nat, vs = [.int .i64 (i : Int)] ∧ S' = [[]] ∧ xs.take i = ys.take i ∧ i ≤ xs.length ∧ m = xs.length - i) ⟨_, 0, rfl, rfl, by simp, Nat.zero_le _, rfl⟩ ?_
    rintro m vs S' hlen ⟨i, rfl, rfl, hall, hi, rfl⟩
    refine j_q (qs_lenl Tryz.underlying54 rfl) ?_
    refine j_q (qs_lss rfl rfl) ?_
    refine j_cond rfl (fun hc1 => ?_) (fun hc1 => ?_)
    · skip
      have hi1 : i < xs.length := by
        simp only [bnA] at *
        omega
      obtain ⟨g1, o1, rfl, _, hcl1⟩ := rsl_addr h1 (by rw [strs_len]; omega)
      obtain ⟨g2, o2, rfl, _, hcl2⟩ := rsl_addr h2 (by rw [strs_len]; omega)
      refine j_draw ?_
      refine jq_q (qs_ixn (g := g1) (off := o1) (n := xs.length) (c := c1) (i := i) Tryz.underlying54 sz9 rfl rfl (by omega)) ?_
      refine jq_q (qs_loadR (v := .string (bs (xs.getD i []))) (a := ⟨g1, o1, none⟩) (i := i) (rd_cells hcl1 (by simp)) Tryz.underlying9 rfl (by rw [add_off]; show Value.pointer (some ⟨g1, o1 + i * 1, none⟩) = _; rw [Nat.mul_one]) (str_get (by omega))) ?_
      refine jq_q (qs_ixn (g := g2) (off := o2) (n := ys.length) (c := c2) (i := i) Tryz.underlying54 sz9 rfl rfl (by omega)) ?_
      refine jq_q (qs_loadR (v := .string (bs (ys.getD i []))) (a := ⟨g2, o2, none⟩) (i := i) (rd_cells hcl2 (by simp)) Tryz.underlying9 rfl (by rw [add_off]; show Value.pointer (some ⟨g2, o2 + i * 1, none⟩) = _; rw [Nat.mul_one]) (str_get (by omega))) ?_
      refine jq_q (qs_sneq rfl rfl) ?_
      refine jq_nil ?_
      refine j_cond rfl (fun hc2 => ?_) (fun hc2 => ?_)
      · skip
        have hd : xs.getD i [] ≠ ys.getD i [] := fun e => by
          rw [e] at hc2
          simp at hc2
        refine j_q (qs_ac) ?_
        refine j_ret_con (vs := [_]) (fun w' hw' => ⟨rfl, trivial⟩) ?_
        show Value.bool false = _
        congr 1
        symm
        rw [beq_eq_false_iff_ne]
        exact fun e => hd (by rw [e])
      · skip
        have hd : xs.getD i [] = ys.getD i [] := by simpa using hc2
        refine j_q (qs_add64 rfl rfl (by first | omega | (simp only [bnA] at *; omega))) ?_
        refine j_back rfl ?_
        exact ⟨xs.length - (i + 1), by omega, i + 1, rfl, rfl, by
          rw [List.take_add_one, List.take_add_one, hall, List.getElem?_eq_getElem hi1, List.getElem?_eq_getElem (by omega : i < ys.length)]
          rw [List.getD_eq_getElem?_getD, List.getD_eq_getElem?_getD, List.getElem?_eq_getElem hi1, List.getElem?_eq_getElem (by omega : i < ys.length)] at hd
          simp only [Option.getD_some] at hd
          rw [hd], by omega, rfl⟩
    · skip
      have hi1 : i = xs.length := by
        simp only [bnA] at *
        omega
      refine j_q (qs_ac) ?_
      refine j_ret_con (vs := [_]) (fun w' hw' => ⟨rfl, trivial⟩) ?_
      show Value.bool true = _
      congr 1
      symm
      rw [beq_iff_eq]
      rw [hi1, List.take_length, heq, List.take_length] at hall
      exact hall
end Go.Proofs.YtckpegkpdepokaaGreat
