/- Files that forget: the law FsLinks. -/
import Derived.Test.YtckpegkpdepokaaTa
import Derived.Test.YtckpegkpdepokaaFs11
namespace Go.Proofs.Ytckpegkpdepokaa
open Go Go.Sx
set_option maxRecDepth 100000
set_option maxHeartbeats 4000000
set_option linter.unusedVariables false
set_option linter.unusedSimpArgs false
attribute [local irreducible] J JQ QS Con W opW


open Go.MapKept Go.WideMaps Go.Maps
theorem base_sep {w w' : World} {v : Value} {xs : List UInt8} {S : List SH} (h : BR w v xs) (hs : Sig ⟨w, dom []⟩ S w') {H : SH} (k : Nat) (hk : S[k]? = some H) : ∀ (a : Addr) (m c : Nat), v = .slice (some a) m c → 0 < m → a.block ∉ dom H := fun a m c e h0 hm => by
  rcases h with ⟨h1, _⟩ | ⟨a', cap, h1, _, h3, _⟩
  · rw [h1] at e; cases e
  · rw [h1] at e
    injection e with e1 e0
    injection e1 with e1
    obtain ⟨q, hq, e2⟩ := List.mem_map.1 hm
    rcases hs.dom_ a.block (List.mem_map.2 ⟨q, mem_flatten_of hk hq, e2⟩) with h | h
    · simp [dom] at h
    · have h4 := h3 (by rw [e0]; exact h0)
      rw [e1] at h4
      exact absurd h (Nat.not_le.2 h4)
theorem br_src {w : World} {S : List SH} {v : Value} {xs : List UInt8} (h : BR w v xs) : Src (⟨w, dom []⟩ : Base) S 1 v xs.length (ints xs) := by
  rcases h with ⟨rfl, rfl⟩ | ⟨a, cap, rfl, _, _, h⟩
  · exact .inr (.inl ⟨0, rfl, rfl, rfl⟩)
  · exact .inl ⟨a, cap, rfl, rd_cells h (by simp [dom]), by rw [ints_length, Nat.mul_one]⟩
theorem br0 {w w' : World} {v : Value} {xs : List UInt8} {S : List SH} (h : BR w v xs) (hs : Sig ⟨w, dom []⟩ S w') : BR w' v xs := br_keep h (fun a m c e _ => by simp [dom]) hs
theorem own_br {b : Base} {S : List SH} {w : World} {v : Value} {c : SH} {xs : List UInt8} (h : Sx.Own 5 1 (ints xs) v c) (k : Nat) (hk : S[k]? = some c) (hw : Sig b S w) : BR w v xs := br_rsl (rsl_own h k hk hw)
/-- (*pantry.fs.FS).Write -/
theorem writeS_con (f : FM) (B : Nat) (hB : B < 16384) (n : List UInt8) (bv : Value) (xs : List UInt8) (w : World) (hok : f.Ok B) (hl : -100000000 ≤ f.left ∧ f.left ≤ 9223372036854775807) (hn : strOk n) (hbr : BR w bv xs) (hbd : ∀ a m c, bv = .slice (some a) m c → 0 < m → a.block ∉ dom f.heap) (hxl : xs.length ≤ 1000000000) (ht : (tot f.now.fs : Int) ≤ f.now.used) (hu : f.now.used ≤ 1073741824) (hfu : f.fused = false) (hroom : f.now.used + (xs.length : Int) ≤ f.room) (hx2 : xs.length ≤ 1048576) (hnn : nameOk n = true) (id : Nat) (hid : ∀ x ∈ f.now.fs, x.id ≠ id) (x : FL) (hx : x ∈ f.now.fs) (hlk : alook f.now.ml n = some (x.g, x.id)) (hk1 : x.k ≠ 1) (hml : f.now.ml.length < 16384) : Con Try.prog 13 [f.ptr, .string (bs n), bv] w f.heap fun v S' => v = .int .i64 0 ∧ ∃ (s' : SM) (A2 : Option Addr) (Q more : SH) (P2 : List BK) (t tv : Value) (tc : SH), S' = [FM.heap (doneF { f with more := more, P := P2 } s' P2 t tv tc)] ∧ Sx.Own 100 1 (f.ts ++ [t]) tv tc ∧ (∃ (es : Array MapEntry) (ck g : Nat), s' = { writeM f.now n id (clipV xs A2) xs g with es := es, ck := ck }) ∧ Raw s' ∧ (∃ c, RV P2 (.slice A2 xs.length c) xs) ∧ (∀ b ∈ f.P, b ∈ P2) ∧ s'.gs = f.now.gs := by
  refine con_of_tree mix Try.func13 T13_ok (by kernel_rfl) ?_
  unfold T13
  obtain ⟨A, cap, hbv, hcap⟩ := br_form hbr
  have hone : oneV bv = true := by rw [hbv]; rfl
  have hutot : 0 ≤ f.now.used := by omega
  refine j_box (l := [.string (bs n)]) rfl (fun g0 hg0 hs0 => ?_)
  refine j_box (l := [bv]) (by show bv.cells = #[bv]; rw [hbv]; rfl) (fun g1 hg1 hs1 => ?_)
  refine j_q (qs_ac) ?_
  refine j_q (qs_load (l := [.string (bs n)]) 1 Try.underlying9 rfl rfl rfl rfl) ?_
  refine j_lit (vs := [.string (bs _)]) Try.underlying41 sz9 zero9 rfl (by simp [oneV]) ⟨rfl, by decide⟩ (fun g4 v4 c4 hv4 hc4 ho4 => ?_)
  subst hv4 hc4
  refine j_q (qs_call ent32 rfl rfl rfl (fun w' hw' => may_con f [n] _ w' (in_own hw' 3 rfl) (rsl_own ho4 0 rfl hw') (by simp))) ?_
  refine j_q (qs_neq rfl rfl) ?_
  refine j_cond rfl (fun hc0 => ?_) (fun hc0 => ?_)
  · skip
    have hm0 : mayE f.fused f.left [n] = 0 := by
      unfold mayE
      rw [hfu]
      simp [hnn]
    rw [hm0] at hc0
    simp at hc0
  · skip
    have hm0 : mayE f.fused f.left [n] = 0 := by
      unfold mayE
      rw [hfu]
      simp [hnn]
    refine j_q (qs_load (l := [bv]) 1 Try.underlying23 rfl rfl rfl rfl) ?_
    refine j_q (qs_lenl (n := xs.length) (A := A) (c := cap) Try.underlying23 hbv) ?_
    refine j_q (qs_gtr rfl rfl) ?_
    refine j_cond rfl (fun hc1 => ?_) (fun hc1 => ?_)
    · skip
      simp at hc1
      omega
    · skip
      refine j_perm (S' := [[(g4, .cells [Value.string (bs n)].toArray 9 (0, 0))], [(g1, .cells [bv].toArray 23 (0, 0))], [(g0, .cells [.string (bs n)].toArray 9 (0, 0))], [(f.gf, f.obj)], [(f.now.gs, f.now.sobj)], [(f.now.gm, .map f.now.es f.now.ck)], f.now.fs.map FL.h, f.tc ++ f.more ++ ph f.P]) (by
        have h0 := f.split2
        classical
        refine List.perm_iff_count.2 fun x => ?_
        have h2 := List.perm_iff_count.1 h0 x
        simp only [FM.parts2, List.set, List.flatten_cons, List.flatten_nil, List.append_nil, List.nil_append, List.cons_append, List.count_append, List.count_cons, List.count_nil] at h2 ⊢
        omega) ?_
      refine j_draw ?_
      refine jq_q (qs_nil rfl) ?_
      refine jq_q (qs_field Try.underlying62 rfl sz58 (by decide) rfl) ?_
      refine jq_q (qs_load (l := fmcells f) 3 Try.underlying58 rfl rfl rfl rfl) ?_
      refine jq_q (qs_nil rfl) ?_
      refine jq_q (qs_field Try.underlying66 rfl sz64 (by decide) rfl) ?_
      refine jq_q (qs_load (l := smcells f.now) 4 Try.underlying64 rfl rfl rfl rfl) ?_
      refine jq_q (qs_load (l := [.string (bs n)]) 2 Try.underlying9 rfl rfl rfl rfl) ?_
      refine jq_q (qs_lookup (key := n) strKey 5 Try.underlying64 zv63 rfl rfl rfl hok.raw.map hn) ?_
      rw [mlook_map fptr, getD_fptr, hlk, Option.map_some]
      refine jq_nil ?_
      refine j_q (qs_ac) ?_
      refine j_q (qs_pnnil Try.underlying63 rfl) ?_
      refine j_g rfl (fun hb => qs_mt rfl) ?_
      refine j_g rfl (fun hb => qs_nil (gd_eq hb)) ?_
      refine j_g rfl (fun hb => qs_field Try.underlying73 rfl sz71 (by decide) (gd_eq hb)) ?_
      refine j_g rfl (fun hb => qs_call ent33 rfl rfl (args1 (gd_eq hb)) (fun w' hw' => aload_con x.g 1 (flcells x) 73 (0, 0) x.k w' (hw'.own x.h (mem_flatten_of (k := 6) rfl (List.mem_map.2 ⟨x, hx, rfl⟩))) rfl)) ?_
      refine j_g rfl (fun hb => qs_eql (gd_eq hb) rfl) ?_
      refine j_q (qs_and rfl rfl) ?_
      refine j_cond rfl (fun hc2 => ?_) (fun hc2 => ?_)
      · skip
        simp [gd] at hc2
        exact absurd hc2 hk1
      · skip
        refine j_draw ?_
        refine jq_q (qs_pnil Try.underlying63 rfl) ?_
        refine jq_gf rfl (by simp) ?_
        refine jq_gf rfl (by simp) ?_
        refine jq_gf rfl (by simp) ?_
        refine jq_gf rfl (by simp) ?_
        refine jq_gf rfl (by simp) ?_
        refine jq_gf rfl (by simp) ?_
        refine jq_gf rfl (by simp) ?_
        refine jq_gf rfl (by simp) ?_
        refine jq_gf rfl (by simp) ?_
        refine jq_q (qs_and (b0 := false) (b1 := false) rfl rfl) ?_
        refine jq_g rfl (fun hb => qs_mt rfl) ?_
        refine jq_g rfl (fun hb => qs_nil (gd_eq hb)) ?_
        refine jq_g rfl (fun hb => qs_field Try.underlying62 rfl sz58 (by decide) (gd_eq hb)) ?_
        refine jq_g rfl (fun hb => qs_load (l := fmcells f) 3 Try.underlying58 rfl (gd_eq hb) rfl rfl) ?_
        refine jq_g rfl (fun hb => qs_nil (gd_eq hb)) ?_
        refine jq_g rfl (fun hb => qs_field Try.underlying66 rfl sz3 (by decide) (gd_eq hb)) ?_
        refine jq_g rfl (fun hb => qs_load (l := smcells f.now) 4 Try.underlying3 rfl (gd_eq hb) rfl rfl) ?_
        refine jq_g rfl (fun hb => qs_mt rfl) ?_
        refine jq_g rfl (fun hb => qs_sub64 (gd_eq hb) (gd_eq hb) (by first | omega | (simp only [Bool.and_eq_true, Bool.or_eq_true, Bool.and_eq_false_iff, Bool.or_eq_false_iff, Bool.not_eq_true', Bool.not_eq_false', decide_eq_true_eq, decide_eq_false_iff_not, beq_iff_eq, beq_eq_false_iff_ne, bne_iff_ne, bne_eq_false_iff_eq, ne_eq, Int.toNat_natCast] at *; omega))) ?_
        refine jq_g rfl (fun hb => qs_load (l := [bv]) 1 Try.underlying23 rfl rfl rfl rfl) ?_
        refine jq_g rfl (fun hb => qs_lenl (n := xs.length) (A := A) (c := cap) Try.underlying23 ((gd_eq hb).trans hbv)) ?_
        refine jq_g rfl (fun hb => qs_add64 (gd_eq hb) (gd_eq hb) (by first | omega | (simp only [Bool.and_eq_true, Bool.or_eq_true, Bool.and_eq_false_iff, Bool.or_eq_false_iff, Bool.not_eq_true', Bool.not_eq_false', decide_eq_true_eq, decide_eq_false_iff_not, beq_iff_eq, beq_eq_false_iff_ne, bne_iff_ne, bne_eq_false_iff_eq, ne_eq, Int.toNat_natCast] at *; omega))) ?_
        refine jq_g rfl (fun hb => qs_mt rfl) ?_
        refine jq_g rfl (fun hb => qs_nil (gd_eq hb)) ?_
        refine jq_g rfl (fun hb => qs_field Try.underlying62 rfl sz3 (by decide) (gd_eq hb)) ?_
        refine jq_g rfl (fun hb => qs_load (l := fmcells f) 3 Try.underlying3 rfl (gd_eq hb) rfl rfl) ?_
        refine jq_g rfl (fun hb => qs_gtr (gd_eq hb) (gd_eq hb)) ?_
        refine jq_q (qs_or rfl rfl) ?_
        refine jq_nil ?_
        refine j_cond rfl (fun hc4 => ?_) (fun hc4 => ?_)
        · skip
          simp [gd] at hc4
          omega
        · skip
          refine j_q (qs_load (l := [bv]) 1 Try.underlying23 rfl rfl rfl rfl) ?_
          refine j_call0 ent31 rfl rfl rfl (fun w' hw' => clone_con bv xs w' (br_keep hbr hbd hw') hxl) (fun u S2 hu1 => ?_)
          obtain ⟨Q, rfl, hrv⟩ := hu1
          obtain ⟨bv2, hbv2⟩ : ∃ y, y = u := ⟨_, rfl⟩
          rw [← hbv2] at hrv ⊢
          refine j_subl (S' := [ph Q, [(g4, .cells [Value.string (bs n)].toArray 9 (0, 0))], [(g1, .cells [bv].toArray 23 (0, 0))], [(g0, .cells [.string (bs n)].toArray 9 (0, 0))], [(f.gf, f.obj)], [(f.now.gs, f.now.sobj)], [(f.now.gm, .map f.now.es f.now.ck)], f.now.fs.map FL.h, f.tc ++ f.more ++ ph f.P]) (by repeat first | exact List.Sublist.refl _ | exact List.nil_sublist _ | apply List.Sublist.cons_cons | apply List.Sublist.cons) ?_
          obtain ⟨A2, c2, hbe, hbc, _⟩ := hrv.form
          refine j_store (l := [bv]) 2 sz23 rfl rfl (by show oneV bv2 = true; rw [hbe]; rfl) rfl (by simp) (by simp) ?_
          refine j_q (qs_mkfuncv (vs := [.pointer (some ⟨g0, 0, none⟩), .pointer (some ⟨g1, 0, none⟩)]) rfl) ?_
          refine j_subl (S' := [ph Q, [(g4, .cells [Value.string (bs n)].toArray 9 (0, 0))], [(g1, .cells [bv2].toArray 23 (0, 0))], [(g0, .cells [.string (bs n)].toArray 9 (0, 0))], [(f.gf, f.obj)], [(f.now.gs, f.now.sobj)], [(f.now.gm, .map f.now.es f.now.ck)], f.now.fs.map FL.h, f.tc ++ f.more ++ ph f.P]) (by repeat first | exact List.Sublist.refl _ | exact List.nil_sublist _ | apply List.Sublist.cons_cons | apply List.Sublist.cons) ?_
          refine j_perm (S' := [FM.heap ({ f with more := [(g0, .cells [.string (bs n)].toArray 9 (0, 0))] ++ [(g1, .cells [bv2].toArray 23 (0, 0))] ++ f.more, P := Q ++ f.P } : FM), [(g4, .cells [Value.string (bs n)].toArray 9 (0, 0))]]) (by
            classical
            refine List.perm_iff_count.2 fun x => ?_
            simp only [FM.heap, FM.obj, fmcells, SM.heap, ph, List.map_append, List.set, List.flatten_cons, List.flatten_nil, List.append_nil, List.nil_append, List.cons_append, List.count_append, List.count_cons, List.count_nil] <;> omega) ?_
          have hok2 : FM.Ok B ({ f with more := [(g0, .cells [.string (bs n)].toArray 9 (0, 0))] ++ [(g1, .cells [bv2].toArray 23 (0, 0))] ++ f.more, P := Q ++ f.P } : FM) := ⟨hok.row, hok.lt, hok.raw, fun x hx => (hok.vw x hx).more (fun b hb => List.mem_append_right _ hb), hok.lpv⟩
          refine j_call 0 ent34 rfl rfl rfl rfl (fun w' hw' => does_con ({ f with more := [(g0, .cells [.string (bs n)].toArray 9 (0, 0))] ++ [(g1, .cells [bv2].toArray 23 (0, 0))] ++ f.more, P := Q ++ f.P } : FM) B hB 35 #[.pointer (some ⟨g0, 0, none⟩), .pointer (some ⟨g1, 0, none⟩)] (fun s' P' => (∃ (es : Array MapEntry) (ck g : Nat), s' = { writeM f.now n id (clipV xs A2) xs g with es := es, ck := ck }) ∧ Raw s' ∧ P' = Q ++ f.P) w' hok2 hl ent35 (fun w2 hin hdj => (wr_con f.now (Q ++ f.P) n bv2 xs A2 c2 id g0 g1 w2 hok.raw ht (by omega) hid hbe hbc hxl hn (hin (g0, .cells [.string (bs n)].toArray 9 (0, 0)) (by simp)) (hdj g0 (List.mem_map.2 ⟨(g0, .cells [.string (bs n)].toArray 9 (0, 0)), by simp, rfl⟩)) (hin (g1, .cells [bv2].toArray 23 (0, 0)) (by simp)) (hdj g1 (List.mem_map.2 ⟨(g1, .cells [bv2].toArray 23 (0, 0)), by simp, rfl⟩))).mono (fun u S3 hu3 => by
            obtain ⟨es, ck, g, _, e1, e2⟩ := hu3
            exact ⟨_, _, e1, (writeM_gs _ _ _ _ _ _).1, ⟨es, ck, g, rfl⟩, e2, rfl⟩))) (fun u S2 hu2 => ?_)
          obtain ⟨rfl, s', P', tv', tc', rfl, hrow, hgs, hQ, hrw, hP⟩ := hu2
          refine j_subl (S' := [FM.heap (doneF ({ f with more := [(g0, .cells [.string (bs n)].toArray 9 (0, 0))] ++ [(g1, .cells [bv2].toArray 23 (0, 0))] ++ f.more, P := Q ++ f.P } : FM) s' P' (.func (.func 35) #[] #[.pointer (some ⟨g0, 0, none⟩), .pointer (some ⟨g1, 0, none⟩)]) tv' tc')]) (by repeat first | exact List.Sublist.refl _ | exact List.nil_sublist _ | apply List.Sublist.cons_cons | apply List.Sublist.cons) ?_
          refine j_ret_con (vs := [_]) (fun w' hw' => ⟨rfl, trivial⟩) ?_
          subst hP
          exact ⟨rfl, s', A2, [], _, _, _, tv', tc', rfl, hrow, hQ, hrw, ⟨c2, by rw [← hbe]; exact hrv.more (fun b hb => List.mem_append_left _ hb)⟩, (fun b hb => List.mem_append_right _ hb), hgs⟩
/-- (*pantry.fs.FS).Used -/
theorem used_con (f : FM) (w : World) (hin : In w f.heap) : Con Try.prog 12 [f.ptr] w [] fun v _ => v = .int .i64 f.now.used := by
  refine con_of_tree mix Try.func12 T12_ok (by kernel_rfl) ?_
  unfold T12
  refine j_q (qs_ac) ?_
  refine j_q (qs_pnil Try.underlying25 rfl) ?_
  refine j_g rfl (fun hb => qs_mt rfl) ?_
  refine j_g rfl (fun hb => qs_nil (gd_eq hb)) ?_
  refine j_g rfl (fun hb => qs_field Try.underlying62 rfl sz58 (by decide) (gd_eq hb)) ?_
  refine j_g rfl (fun hb => qs_loadO (rdo_base (FM.in_gf hin) (by simp)) Try.underlying58 rfl (gd_eq hb) rfl) ?_
  refine j_g rfl (fun hb => qs_pnil Try.underlying58 (gd_eq hb)) ?_
  refine j_q (qs_or rfl rfl) ?_
  refine j_cond rfl (fun hc0 => ?_) (fun hc0 => ?_)
  · skip
    simp [gd] at hc0
  · skip
    refine j_q (qs_nil rfl) ?_
    refine j_q (qs_field Try.underlying62 rfl sz58 (by decide) rfl) ?_
    refine j_q (qs_loadO (rdo_base (FM.in_gf hin) (by simp)) Try.underlying58 rfl rfl rfl) ?_
    refine j_q (qs_nil rfl) ?_
    refine j_q (qs_field Try.underlying66 rfl sz3 (by decide) rfl) ?_
    refine j_q (qs_loadO (rdo_base (SM.in_gs (FM.in_now hin)) (by simp)) Try.underlying3 rfl rfl rfl) ?_
    refine j_ret_con (vs := [_]) (fun w' hw' => ⟨rfl, trivial⟩) ?_
    rfl
/-- pantry.pantrylaw7.FsLinks -/
theorem fsLinks_con (xa : List UInt8) (va : Value) (xb : List UInt8) (vb : Value) (xc : List UInt8) (vc : Value) (w : World) (ha : RSl w va (ints xa)) (hb : RSl w vb (ints xb)) (hc : RSl w vc (ints xc)) (hla : xa.length ≤ 140737488355328) (hlb : xb.length ≤ 140737488355328) (hlc : xc.length ≤ 140737488355328) : Con Try.prog 4 [va, vb, vc] w [] fun v _ => v = .bool true := by
  refine con_of_tree mix Try.func4 T4_ok (by kernel_rfl) ?_
  unfold T4
  have hbra := br_rsl ha
  have hbrb := br_rsl hb
  have hbrc := br_rsl hc
  obtain ⟨xaA, xaC, hxav, _⟩ := br_form hbra
  obtain ⟨xbA, xbC, hxbv, _⟩ := br_form hbrb
  obtain ⟨xcA, xcC, hxcv, _⟩ := br_form hbrc
  refine j_q (qs_ac) ?_
  refine j_q (qs_lenl (n := xa.length) (A := xaA) (c := xaC) Try.underlying23 hxav) ?_
  refine j_q (qs_lenl (n := xb.length) (A := xbA) (c := xbC) Try.underlying23 hxbv) ?_
  refine j_q (qs_add64 rfl rfl (by first | omega | (simp only [Bool.and_eq_true, Bool.or_eq_true, Bool.and_eq_false_iff, Bool.or_eq_false_iff, Bool.not_eq_true', Bool.not_eq_false', decide_eq_true_eq, decide_eq_false_iff_not, beq_iff_eq, beq_eq_false_iff_ne, bne_iff_ne, bne_eq_false_iff_eq, ne_eq, Int.toNat_natCast] at *; omega))) ?_
  refine j_q (qs_lenl (n := xc.length) (A := xcA) (c := xcC) Try.underlying23 hxcv) ?_
  refine j_q (qs_add64 rfl rfl (by first | omega | (simp only [Bool.and_eq_true, Bool.or_eq_true, Bool.and_eq_false_iff, Bool.or_eq_false_iff, Bool.not_eq_true', Bool.not_eq_false', decide_eq_true_eq, decide_eq_false_iff_not, beq_iff_eq, beq_eq_false_iff_ne, bne_iff_ne, bne_eq_false_iff_eq, ne_eq, Int.toNat_natCast] at *; omega))) ?_
  refine j_q (qs_gtr rfl rfl) ?_
  refine j_cond rfl (fun hc0 => ?_) (fun hc0 => ?_)
  · skip
    refine j_q (qs_ac) ?_
    refine j_ret_con (vs := [_]) (fun w' hw' => ⟨rfl, trivial⟩) ?_
    rfl
  · skip
    have hsm : xa.length + xb.length + xc.length ≤ 8000 := by
      have h1 : ¬ ((xa.length : Int) + (xb.length : Int) + (xc.length : Int) > 8000) := by simpa using hc0
      omega
    refine j_call0 ent10 rfl rfl rfl (fun w' hw' => new_con 1048576 w' (by decide) (by decide)) (fun u S2 hu => ?_)
    obtain ⟨f0, rfl, rfl, hok0, hroom0, hfu0, hl0, hP0, hts0', hml0, hfs0, hus0⟩ := hu
    have hts0 : f0.ts.length = 0 := by rw [hts0']; rfl
    refine j_subl (S' := [f0.heap]) (by repeat first | exact List.Sublist.refl _ | exact List.nil_sublist _ | apply List.Sublist.cons_cons | apply List.Sublist.cons) ?_
    refine j_q (qs_ext (vs := [f0.ptr, .int .i64 0]) rfl rfl) ?_
    refine j_q (qs_ext (vs := [f0.ptr, .int .i64 0]) rfl rfl) ?_
    refine j_q (qs_neq rfl rfl) ?_
    refine j_g rfl (fun hb => qs_mt rfl) ?_
    refine j_g rfl (fun hb => qs_pnil Try.underlying25 (gd_eq hb)) ?_
    refine j_q (qs_or rfl rfl) ?_
    refine j_g rfl (fun hb => qs_mt rfl) ?_
    refine j_g rfl (fun hb => qs_mt rfl) ?_
    refine j_ga rfl ?_
    refine j_call 0 ent13 rfl rfl rfl rfl (fun w' hw' => write_con f0 0 (by decide) [120] va xa w' hok0 (by rw [hl0]; decide) (by decide) (br0 hbra hw') (base_sep hbra hw' 0 rfl) (by omega) (by rw [hfs0, hus0]; decide) (by rw [hus0]; decide) hfu0 (by rw [hus0, hroom0]; omega) (by omega) (by decide) 0 (by rw [hfs0]; intro x hx; cases hx) (by rw [hml0]; rfl) (by rw [hml0]; decide)) (fun u S2 hu => ?_)
    obtain ⟨rfl, s1, A1, _, more1, P1, t1, tv1, tc1, rfl, hrow1, ⟨es1, ck1, g1, hs⟩, hraw1, ⟨cc1, hrv1⟩, _, _⟩ := hu
    have hm1 : s1.ml = [([120], (g1, 0))] := by rw [hs]; simp [writeM, givesM, newM, letsM, getF, bump, alook, mdel, hml0, hfs0]
    have hs1 : s1.fs = [(⟨g1, 0, clipV xa A1, xa, 1⟩ : FL)] := by rw [hs]; simp [writeM, givesM, newM, letsM, getF, bump, alook, mdel, hml0, hfs0]
    have hu1 : s1.used = (xa.length : Int) := by rw [hs]; simp [writeM, givesM, newM, letsM, getF, bump, alook, mdel, hml0, hfs0, hus0]
    clear hs
    obtain ⟨f1, hf1⟩ : ∃ y : FM, y = doneF { f0 with more := more1, P := P1 } s1 P1 t1 tv1 tc1 := ⟨_, rfl⟩
    have hok1 : f1.Ok 1 := by
      rw [hf1]
      refine ⟨hrow1, ?_, hraw1, fun x hx => by
        have hx' : x ∈ s1.fs := hx
        rw [hs1, List.mem_singleton] at hx'
        rw [hx']
        exact Vw.clip g1 hrv1 rfl, hok0.lpv⟩
      show (f0.ts ++ [t1]).length ≤ 1
      rw [List.length_append, hts0]
      simp
    have hfu1 : f1.fused = false := by rw [hf1]; exact hfu0
    have hl1 : f1.left = 0 := by
      rw [hf1]
      show (if f0.fused then f0.left - 1 else f0.left) = 0
      rw [hfu0]
      exact hl0
    have hroom1 : f1.room = 1048576 := by rw [hf1]; exact hroom0
    have hp1 : f0.ptr = f1.ptr := by rw [hf1]
    have hts1 : f1.ts.length = 1 := by
      rw [hf1]
      show (f0.ts ++ [t1]).length = 1
      rw [List.length_append, hts0]
      rfl
    have hml1 : f1.now.ml = [([120], (g1, 0))] := by rw [hf1]; exact hm1
    have hfs1 : f1.now.fs = [(⟨g1, 0, clipV xa A1, xa, 1⟩ : FL)] := by rw [hf1]; exact hs1
    have hus1 : f1.now.used = (xa.length : Int) := by rw [hf1]; exact hu1
    refine j_subl (S' := [f1.heap]) (by rw [hf1]; exact (by repeat first | exact List.Sublist.refl _ | exact List.nil_sublist _ | apply List.Sublist.cons_cons | apply List.Sublist.cons)) ?_
    rw [hp1]
    refine j_g rfl (fun hb => qs_neq (gd_eq hb) rfl) ?_
    refine j_q (qs_or rfl rfl) ?_
    refine j_g rfl (fun hb => qs_mt rfl) ?_
    refine j_ga rfl ?_
    refine j_call 0 ent15 rfl rfl rfl rfl (fun w' hw' => link_con f1 1 (by decide) [120] [121] w' hok1 (by rw [hl1]; decide) (by decide) (by decide) hfu1 (by decide) (by decide) (⟨g1, 0, clipV xa A1, xa, 1⟩ : FL) (by rw [hfs1]; simp) (by rw [hml1]; rfl) (by simp) (by rw [hml1]; rfl) (by rw [hml1]; simp)) (fun u S2 hu => ?_)
    obtain ⟨rfl, s2, more2, t2, tv2, tc2, rfl, hrow2, ⟨es2, ck2, hs⟩, hraw2⟩ := hu
    have hm2 : s2.ml = [([120], (g1, 0)), ([121], (g1, 0))] := by rw [hs]; simp [writeM, givesM, newM, letsM, getF, bump, alook, mdel, hml1, hfs1]
    have hs2 : s2.fs = [(⟨g1, 0, clipV xa A1, xa, 2⟩ : FL)] := by rw [hs]; simp [writeM, givesM, newM, letsM, getF, bump, alook, mdel, hml1, hfs1]
    have hu2 : s2.used = (xa.length : Int) := by rw [hs]; simp [writeM, givesM, newM, letsM, getF, bump, alook, mdel, hml1, hfs1, hus1]
    clear hs
    obtain ⟨f2, hf2⟩ : ∃ y : FM, y = doneF { f1 with more := more2 } s2 f1.P t2 tv2 tc2 := ⟨_, rfl⟩
    have hok2 : f2.Ok 2 := by
      rw [hf2]
      refine ⟨hrow2, ?_, hraw2, fun x hx => by
        have hx' : x ∈ s2.fs := hx
        rw [hs2, List.mem_singleton] at hx'
        rw [hx']
        exact hok1.vw (⟨g1, 0, clipV xa A1, xa, 1⟩ : FL) (by rw [hfs1]; simp), hok1.lpv⟩
      show (f1.ts ++ [t2]).length ≤ 2
      rw [List.length_append, hts1]
      simp
    have hfu2 : f2.fused = false := by rw [hf2]; exact hfu1
    have hl2 : f2.left = 0 := by
      rw [hf2]
      show (if f1.fused then f1.left - 1 else f1.left) = 0
      rw [hfu1]
      exact hl1
    have hroom2 : f2.room = 1048576 := by rw [hf2]; exact hroom1
    have hp2 : f1.ptr = f2.ptr := by rw [hf2]
    have hts2 : f2.ts.length = 2 := by
      rw [hf2]
      show (f1.ts ++ [t2]).length = 2
      rw [List.length_append, hts1]
      rfl
    have hml2 : f2.now.ml = [([120], (g1, 0)), ([121], (g1, 0))] := by rw [hf2]; exact hm2
    have hfs2 : f2.now.fs = [(⟨g1, 0, clipV xa A1, xa, 2⟩ : FL)] := by rw [hf2]; exact hs2
    have hus2 : f2.now.used = (xa.length : Int) := by rw [hf2]; exact hu2
    refine j_subl (S' := [f2.heap]) (by rw [hf2]; exact (by repeat first | exact List.Sublist.refl _ | exact List.nil_sublist _ | apply List.Sublist.cons_cons | apply List.Sublist.cons)) ?_
    rw [hp2]
    refine j_g rfl (fun hb => qs_neq (gd_eq hb) rfl) ?_
    refine j_q (qs_or rfl rfl) ?_
    refine j_g rfl (fun hb => qs_mt rfl) ?_
    refine j_ga rfl ?_
    refine j_call 0 ent15 rfl rfl rfl rfl (fun w' hw' => link_con f2 2 (by decide) [121] [122] w' hok2 (by rw [hl2]; decide) (by decide) (by decide) hfu2 (by decide) (by decide) (⟨g1, 0, clipV xa A1, xa, 2⟩ : FL) (by rw [hfs2]; simp) (by rw [hml2]; rfl) (by simp) (by rw [hml2]; rfl) (by rw [hml2]; simp)) (fun u S2 hu => ?_)
    obtain ⟨rfl, s3, more3, t3, tv3, tc3, rfl, hrow3, ⟨es3, ck3, hs⟩, hraw3⟩ := hu
    have hm3 : s3.ml = [([120], (g1, 0)), ([121], (g1, 0)), ([122], (g1, 0))] := by rw [hs]; simp [writeM, givesM, newM, letsM, getF, bump, alook, mdel, hml2, hfs2]
    have hs3 : s3.fs = [(⟨g1, 0, clipV xa A1, xa, 3⟩ : FL)] := by rw [hs]; simp [writeM, givesM, newM, letsM, getF, bump, alook, mdel, hml2, hfs2]
    have hu3 : s3.used = (xa.length : Int) := by rw [hs]; simp [writeM, givesM, newM, letsM, getF, bump, alook, mdel, hml2, hfs2, hus2]
    clear hs
    obtain ⟨f3, hf3⟩ : ∃ y : FM, y = doneF { f2 with more := more3 } s3 f2.P t3 tv3 tc3 := ⟨_, rfl⟩
    have hok3 : f3.Ok 3 := by
      rw [hf3]
      refine ⟨hrow3, ?_, hraw3, fun x hx => by
        have hx' : x ∈ s3.fs := hx
        rw [hs3, List.mem_singleton] at hx'
        rw [hx']
        exact hok2.vw (⟨g1, 0, clipV xa A1, xa, 2⟩ : FL) (by rw [hfs2]; simp), hok2.lpv⟩
      show (f2.ts ++ [t3]).length ≤ 3
      rw [List.length_append, hts2]
      simp
    have hfu3 : f3.fused = false := by rw [hf3]; exact hfu2
    have hl3 : f3.left = 0 := by
      rw [hf3]
      show (if f2.fused then f2.left - 1 else f2.left) = 0
      rw [hfu2]
      exact hl2
    have hroom3 : f3.room = 1048576 := by rw [hf3]; exact hroom2
    have hp3 : f2.ptr = f3.ptr := by rw [hf3]
    have hts3 : f3.ts.length = 3 := by
      rw [hf3]
      show (f2.ts ++ [t3]).length = 3
      rw [List.length_append, hts2]
      rfl
    have hml3 : f3.now.ml = [([120], (g1, 0)), ([121], (g1, 0)), ([122], (g1, 0))] := by rw [hf3]; exact hm3
    have hfs3 : f3.now.fs = [(⟨g1, 0, clipV xa A1, xa, 3⟩ : FL)] := by rw [hf3]; exact hs3
    have hus3 : f3.now.used = (xa.length : Int) := by rw [hf3]; exact hu3
    refine j_subl (S' := [f3.heap]) (by rw [hf3]; exact (by repeat first | exact List.Sublist.refl _ | exact List.nil_sublist _ | apply List.Sublist.cons_cons | apply List.Sublist.cons)) ?_
    rw [hp3]
    refine j_g rfl (fun hb => qs_neq (gd_eq hb) rfl) ?_
    refine j_q (qs_or rfl rfl) ?_
    refine j_g rfl (fun hb => qs_mt rfl) ?_
    refine j_g rfl (fun hb => qs_mt rfl) ?_
    refine j_ga rfl ?_
    refine j_call 0 ent16 rfl rfl rfl rfl (fun w' hw' => append_con f3 3 (by decide) [122] vb xb w' hok3 (by rw [hl3]; decide) (by decide) (br0 hbrb hw') (base_sep hbrb hw' 0 rfl) (by omega) (by rw [hfs3, hus3]; simp [tot]) (by rw [hus3]; omega) hfu3 (by rw [hus3, hroom3]; omega) (by omega) (by decide) (⟨g1, 0, clipV xa A1, xa, 3⟩ : FL) (by rw [hfs3]; simp) (by rw [hml3]; rfl) (by show xa.length + xb.length ≤ 1048576; omega)) (fun u S2 hu => ?_)
    obtain ⟨rfl, v4, more4, P4, t4, tv4, tc4, rfl, hrow4, hraw4, hvw4⟩ := hu
    have hm4 : (appM f3.now 0 v4 xb).ml = [([120], (g1, 0)), ([121], (g1, 0)), ([122], (g1, 0))] := hml3
    have hs4 : (appM f3.now 0 v4 xb).fs = [(⟨g1, 0, v4, xa ++ xb, 3⟩ : FL)] := by simp [appM, hfs3, app1]
    have hu4 : (appM f3.now 0 v4 xb).used = (xa.length : Int) + (xb.length : Int) := by simp [appM, hus3]
    obtain ⟨f4, hf4⟩ : ∃ y : FM, y = doneF { f3 with more := more4, P := P4 } (appM f3.now 0 v4 xb) P4 t4 tv4 tc4 := ⟨_, rfl⟩
    have hok4 : f4.Ok 4 := by
      rw [hf4]
      refine ⟨hrow4, ?_, hraw4, hvw4, hok3.lpv⟩
      show (f3.ts ++ [t4]).length ≤ 4
      rw [List.length_append, hts3]
      simp
    have hfu4 : f4.fused = false := by rw [hf4]; exact hfu3
    have hl4 : f4.left = 0 := by
      rw [hf4]
      show (if f3.fused then f3.left - 1 else f3.left) = 0
      rw [hfu3]
      exact hl3
    have hroom4 : f4.room = 1048576 := by rw [hf4]; exact hroom3
    have hp4 : f3.ptr = f4.ptr := by rw [hf4]
    have hts4 : f4.ts.length = 4 := by
      rw [hf4]
      show (f3.ts ++ [t4]).length = 4
      rw [List.length_append, hts3]
      rfl
    have hml4 : f4.now.ml = [([120], (g1, 0)), ([121], (g1, 0)), ([122], (g1, 0))] := by rw [hf4]; exact hm4
    have hfs4 : f4.now.fs = [(⟨g1, 0, v4, xa ++ xb, 3⟩ : FL)] := by rw [hf4]; exact hs4
    have hus4 : f4.now.used = (xa.length : Int) + (xb.length : Int) := by rw [hf4]; exact hu4
    refine j_subl (S' := [f4.heap]) (by rw [hf4]; exact (by repeat first | exact List.Sublist.refl _ | exact List.nil_sublist _ | apply List.Sublist.cons_cons | apply List.Sublist.cons)) ?_
    rw [hp4]
    refine j_g rfl (fun hb => qs_neq (gd_eq hb) rfl) ?_
    refine j_q (qs_or rfl rfl) ?_
    refine j_g rfl (fun hb => qs_mt rfl) ?_
    refine j_g rfl (fun hb => qs_mt rfl) ?_
    refine j_ga rfl ?_
    refine j_call 0 ent13 rfl rfl rfl rfl (fun w' hw' => writeS_con f4 4 (by decide) [121] vc xc w' hok4 (by rw [hl4]; decide) (by decide) (br0 hbrc hw') (base_sep hbrc hw' 0 rfl) (by omega) (by rw [hfs4, hus4]; simp [tot]) (by rw [hus4]; omega) hfu4 (by rw [hus4, hroom4]; omega) (by omega) (by decide) 1 (by rw [hfs4]; intro x hx; rw [List.mem_singleton] at hx; rw [hx]; simp) (⟨g1, 0, v4, xa ++ xb, 3⟩ : FL) (by rw [hfs4]; simp) (by rw [hml4]; rfl) (by simp) (by rw [hml4]; simp)) (fun u S2 hu => ?_)
    obtain ⟨rfl, s5, A5, _, more5, P5, t5, tv5, tc5, rfl, hrow5, ⟨es5, ck5, g5, hs⟩, hraw5, ⟨cc5, hrv5⟩, hsub5, _⟩ := hu
    have hm5 : s5.ml = [([120], (g1, 0)), ([122], (g1, 0)), ([121], (g5, 1))] := by rw [hs]; simp [writeM, givesM, newM, letsM, getF, bump, alook, mdel, hml4, hfs4]
    have hs5 : s5.fs = [(⟨g5, 1, clipV xc A5, xc, 1⟩ : FL), (⟨g1, 0, v4, xa ++ xb, 2⟩ : FL)] := by rw [hs]; simp [writeM, givesM, newM, letsM, getF, bump, alook, mdel, hml4, hfs4]
    have hu5 : s5.used = (xa.length : Int) + (xb.length : Int) + (xc.length : Int) := by rw [hs]; simp [writeM, givesM, newM, letsM, getF, bump, alook, mdel, hml4, hfs4, hus4]
    clear hs
    obtain ⟨f5, hf5⟩ : ∃ y : FM, y = doneF { f4 with more := more5, P := P5 } s5 P5 t5 tv5 tc5 := ⟨_, rfl⟩
    have hok5 : f5.Ok 5 := by
      rw [hf5]
      refine ⟨hrow5, ?_, hraw5, fun x hx => by
        have hx' : x ∈ s5.fs := hx
        rw [hs5] at hx'
        rcases List.mem_cons.1 hx' with hx' | hx'
        · rw [hx']
          exact Vw.clip g5 hrv5 rfl
        · rw [List.mem_singleton] at hx'
          rw [hx']
          exact (hok4.vw (⟨g1, 0, v4, xa ++ xb, 3⟩ : FL) (by rw [hfs4]; simp)).more hsub5, hok4.lpv⟩
      show (f4.ts ++ [t5]).length ≤ 5
      rw [List.length_append, hts4]
      simp
    have hfu5 : f5.fused = false := by rw [hf5]; exact hfu4
    have hl5 : f5.left = 0 := by
      rw [hf5]
      show (if f4.fused then f4.left - 1 else f4.left) = 0
      rw [hfu4]
      exact hl4
    have hroom5 : f5.room = 1048576 := by rw [hf5]; exact hroom4
    have hp5 : f4.ptr = f5.ptr := by rw [hf5]
    have hts5 : f5.ts.length = 5 := by
      rw [hf5]
      show (f4.ts ++ [t5]).length = 5
      rw [List.length_append, hts4]
      rfl
    have hml5 : f5.now.ml = [([120], (g1, 0)), ([122], (g1, 0)), ([121], (g5, 1))] := by rw [hf5]; exact hm5
    have hfs5 : f5.now.fs = [(⟨g5, 1, clipV xc A5, xc, 1⟩ : FL), (⟨g1, 0, v4, xa ++ xb, 2⟩ : FL)] := by rw [hf5]; exact hs5
    have hus5 : f5.now.used = (xa.length : Int) + (xb.length : Int) + (xc.length : Int) := by rw [hf5]; exact hu5
    refine j_subl (S' := [f5.heap]) (by rw [hf5]; exact (by repeat first | exact List.Sublist.refl _ | exact List.nil_sublist _ | apply List.Sublist.cons_cons | apply List.Sublist.cons)) ?_
    rw [hp5]
    refine j_g rfl (fun hb => qs_neq (gd_eq hb) rfl) ?_
    refine j_q (qs_or rfl rfl) ?_
    refine j_cond rfl (fun hc1 => ?_) (fun hc1 => ?_)
    · skip
      simp [gd] at hc1
    · skip
      refine j_call0 ent11 rfl rfl rfl (fun w' hw' => read_con f5 5 [120] w' (in_own hw' 0 rfl) hok5 (by decide) (⟨g1, 0, v4, xa ++ xb, 2⟩ : FL) (by rw [hfs5]; simp) (by rw [hml5]; rfl)) (fun u S2 hu => ?_)
      obtain ⟨r0, Q0, rfl, rfl, hrvr0⟩ := hu
      refine j_subl (S' := [ph Q0, f5.heap]) (by repeat first | exact List.Sublist.refl _ | exact List.nil_sublist _ | apply List.Sublist.cons_cons | apply List.Sublist.cons) ?_
      refine j_q (qs_ext (vs := [r0, .int .i64 0]) rfl rfl) ?_
      refine j_q (qs_ext (vs := [r0, .int .i64 0]) rfl rfl) ?_
      refine j_call0 ent11 rfl rfl rfl (fun w' hw' => read_con f5 5 [121] w' (in_own hw' 1 rfl) hok5 (by decide) (⟨g5, 1, clipV xc A5, xc, 1⟩ : FL) (by rw [hfs5]; simp) (by rw [hml5]; rfl)) (fun u S2 hu => ?_)
      obtain ⟨r1, Q1, rfl, rfl, hrvr1⟩ := hu
      refine j_subl (S' := [ph Q1, ph Q0, f5.heap]) (by repeat first | exact List.Sublist.refl _ | exact List.nil_sublist _ | apply List.Sublist.cons_cons | apply List.Sublist.cons) ?_
      refine j_q (qs_ext (vs := [r1, .int .i64 0]) rfl rfl) ?_
      refine j_q (qs_ext (vs := [r1, .int .i64 0]) rfl rfl) ?_
      refine j_call0 ent11 rfl rfl rfl (fun w' hw' => read_con f5 5 [122] w' (in_own hw' 2 rfl) hok5 (by decide) (⟨g1, 0, v4, xa ++ xb, 2⟩ : FL) (by rw [hfs5]; simp) (by rw [hml5]; rfl)) (fun u S2 hu => ?_)
      obtain ⟨r2, Q2, rfl, rfl, hrvr2⟩ := hu
      refine j_subl (S' := [ph Q2, ph Q1, ph Q0, f5.heap]) (by repeat first | exact List.Sublist.refl _ | exact List.nil_sublist _ | apply List.Sublist.cons_cons | apply List.Sublist.cons) ?_
      refine j_q (qs_ext (vs := [r2, .int .i64 0]) rfl rfl) ?_
      refine j_q (qs_ext (vs := [r2, .int .i64 0]) rfl rfl) ?_
      refine j_lit (vs := []) Try.underlying23 sz5 zero5 rfl (by simp [oneV]) ⟨rfl, by decide⟩ (fun g48 v48 c48 hv48 hc48 ho48 => ?_)
      subst hv48 hc48
      refine j_append 0 Try.underlying23 Try.underlying23 (.inr ⟨_, rfl⟩) sb5 zero5 rfl ho48 rfl (br_src hbra) ints_one ⟨(by simp only [ints_length, List.length_nil]; omega), (by decide)⟩ (fun v49 c49 ho49 => ?_)
      refine j_append 0 Try.underlying23 Try.underlying23 (.inr ⟨_, rfl⟩) sb5 zero5 rfl ho49 rfl (br_src hbrb) ints_one ⟨(by simp only [ints_length, List.length_append, List.length_nil]; omega), (by decide)⟩ (fun v50 c50 ho50 => ?_)
      have hab : Sx.Own 5 1 (ints (xa ++ xb)) v50 c50 := by
        rw [ints_append]
        exact ho50
      obtain ⟨nab, abA, abC, habv, hnab⟩ := own_form hab (by decide)
      rw [ints_length, Nat.mul_one] at hnab
      subst hnab
      refine j_subl (S' := [c50, ph Q2, ph Q1, ph Q0, f5.heap]) (by repeat first | exact List.Sublist.refl _ | exact List.nil_sublist _ | apply List.Sublist.cons_cons | apply List.Sublist.cons) ?_
      refine j_call0 ent17 rfl rfl rfl (fun w' hw' => node_con f5 5 [120] w' (in_own hw' 4 rfl) hok5 (by decide) (⟨g1, 0, v4, xa ++ xb, 2⟩ : FL) (by rw [hfs5]; simp) (by rw [hml5]; rfl) (by rw [hml5]; simp)) (fun u S2 hu => ?_)
      obtain ⟨fst51, rfl, _, _⟩ := hu
      refine j_subl (S' := [c50, ph Q2, ph Q1, ph Q0, f5.heap]) (List.sublist_append_right _ _) ?_
      refine j_q (qs_ext (vs := [.string (bs fst51), .int .i64 2]) rfl rfl) ?_
      refine j_q (qs_ext (vs := [.string (bs fst51), .int .i64 2]) rfl rfl) ?_
      refine j_call0 ent17 rfl rfl rfl (fun w' hw' => node_con f5 5 [121] w' (in_own hw' 4 rfl) hok5 (by decide) (⟨g5, 1, clipV xc A5, xc, 1⟩ : FL) (by rw [hfs5]; simp) (by rw [hml5]; rfl) (by rw [hml5]; simp)) (fun u S2 hu => ?_)
      obtain ⟨fst54, rfl, _, _⟩ := hu
      refine j_subl (S' := [c50, ph Q2, ph Q1, ph Q0, f5.heap]) (List.sublist_append_right _ _) ?_
      refine j_q (qs_ext (vs := [.string (bs fst54), .int .i64 1]) rfl rfl) ?_
      refine j_q (qs_ext (vs := [.string (bs fst54), .int .i64 1]) rfl rfl) ?_
      refine j_q (qs_call ent14 rfl rfl rfl (fun w' hw' => same_con (xa ++ xb) (xa ++ xb) _ _ w' (br_rv hrvr0 (in_own hw' 3 rfl)) (own_br hab 0 rfl hw') (by first | omega | (simp; omega)))) ?_
      rw [beq_self_eq_true]
      refine j_gt rfl (qs_mt rfl) ?_
      refine j_gt rfl (qs_mt rfl) ?_
      refine j_gt rfl (qs_call ent14 rfl rfl rfl (fun w' hw' => same_con (xa ++ xb) (xa ++ xb) _ _ w' (br_rv hrvr2 (in_own hw' 1 rfl)) (own_br hab 0 rfl hw') (by first | omega | (simp; omega)))) ?_
      rw [beq_self_eq_true]
      refine j_q (qs_and rfl rfl) ?_
      refine j_gt rfl (qs_mt rfl) ?_
      refine j_gt rfl (qs_mt rfl) ?_
      refine j_gt rfl (qs_call ent14 rfl rfl rfl (fun w' hw' => same_con xc xc _ _ w' (br_rv hrvr1 (in_own hw' 2 rfl)) (br0 hbrc hw') (by first | omega | (simp; omega)))) ?_
      rw [beq_self_eq_true]
      refine j_q (qs_and rfl rfl) ?_
      refine j_gt rfl (qs_mt rfl) ?_
      refine j_g rfl (fun hb => qs_eql (gd_eq hb) rfl) ?_
      refine j_q (qs_and rfl rfl) ?_
      refine j_gt rfl (qs_mt rfl) ?_
      refine j_g rfl (fun hb => qs_eql (gd_eq hb) rfl) ?_
      refine j_q (qs_and rfl rfl) ?_
      refine j_gt rfl (qs_mt rfl) ?_
      refine j_gt rfl (qs_call ent12 rfl rfl rfl (fun w' hw' => used_con f5 w' (in_own hw' 4 rfl))) ?_
      rw [hus5]
      refine j_gt rfl (qs_mt rfl) ?_
      refine j_gt rfl (qs_lenl (n := (xa ++ xb).length) (A := abA) (c := abC) Try.underlying23 habv) ?_
      refine j_gt rfl (qs_mt rfl) ?_
      refine j_gt rfl (qs_lenl (n := xc.length) (A := xcA) (c := xcC) Try.underlying23 hxcv) ?_
      refine j_gt rfl (qs_add64 rfl rfl (by rw [List.length_append]; omega)) ?_
      refine j_gt rfl (qs_eql rfl rfl) ?_
      rw [show ((xa.length : Int) + (xb.length : Int) + (xc.length : Int) == (((xa ++ xb).length : Nat) : Int) + ((xc.length : Nat) : Int)) = true by rw [List.length_append]; simp]
      refine j_q (qs_and rfl rfl) ?_
      refine j_g rfl (fun hb => qs_call ent9 rfl rfl (args0) (fun w' hw' => known_con w')) ?_
      refine j_q (qs_and rfl rfl) ?_
      refine j_ret_con (vs := [_]) (fun w' hw' => ⟨rfl, trivial⟩) ?_
      rfl
end Go.Proofs.Ytckpegkpdepokaa
