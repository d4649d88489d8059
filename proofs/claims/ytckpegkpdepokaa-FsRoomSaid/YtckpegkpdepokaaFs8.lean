/- Files that forget: Link, Append, Read. -/
import Derived.Test.YtckpegkpdepokaaTa
import Derived.Test.YtckpegkpdepokaaFs7
namespace Go.Proofs.Ytckpegkpdepokaa
open Go Go.Sx
set_option maxRecDepth 100000
set_option maxHeartbeats 4000000
set_option linter.unusedVariables false
set_option linter.unusedSimpArgs false
attribute [local irreducible] J JQ QS Con W opW


open Go.MapKept Go.WideMaps Go.Maps
/-- (*pantry.fs.FS).Append -/
theorem append_con (f : FM) (B : Nat) (hB : B < 16384) (n : List UInt8) (bv : Value) (xs : List UInt8) (w : World) (hok : f.Ok B) (hl : -100000000 ≤ f.left ∧ f.left ≤ 9223372036854775807) (hn : strOk n) (hbr : BR w bv xs) (hbd : ∀ a m c, bv = .slice (some a) m c → 0 < m → a.block ∉ dom f.heap) (hxl : xs.length ≤ 1000000000) (ht : (tot f.now.fs : Int) ≤ f.now.used) (hu : f.now.used ≤ 1073741824) (hfu : f.fused = false) (hroom : f.now.used + (xs.length : Int) ≤ f.room) (hx2 : xs.length ≤ 1048576) (hnn : nameOk n = true) (x : FL) (hx : x ∈ f.now.fs) (hlk : alook f.now.ml n = some (x.g, x.id)) (hxx : x.xs.length + xs.length ≤ 1048576) : Con Try.prog 16 [f.ptr, .string (bs n), bv] w f.heap fun v S' => v = .int .i64 0 ∧ ∃ (v' : Value) (more : SH) (P2 : List BK) (t tv : Value) (tc : SH), S' = [FM.heap (doneF { f with more := more, P := P2 } (appM f.now x.id v' xs) P2 t tv tc)] ∧ Sx.Own 100 1 (f.ts ++ [t]) tv tc ∧ Raw (appM f.now x.id v' xs) ∧ (∀ y ∈ (appM f.now x.id v' xs).fs, Vw P2 y.g y.v y.xs) := by
  refine con_of_tree mix Try.func16 T16_ok (by kernel_rfl) ?_
  unfold T16
  obtain ⟨A, cap, hbv, hcap⟩ := br_form hbr
  have hone : oneV bv = true := by rw [hbv]; rfl
  have hutot : 0 ≤ f.now.used := by omega
  obtain ⟨xA, xc, hxv, _⟩ := hok.raw.form x hx
  refine j_box (l := [.string (bs n)]) rfl (fun g0 hg0 hs0 => ?_)
  refine j_box (l := [bv]) (by show bv.cells = #[bv]; rw [hbv]; rfl) (fun g1 hg1 hs1 => ?_)
  refine j_q (qs_ac) ?_
  refine j_q (qs_load (l := [.string (bs n)]) 1 Try.underlying9 rfl rfl rfl rfl) ?_
  refine j_lit (vs := [.string (bs _)]) Try.underlying41 sz9 zero9 rfl (by simp [oneV]) ⟨rfl, by decide⟩ (fun g4 v4 c4 hv4 hc4 ho4 => ?_)
  subst hv4 hc4
  refine j_q (qs_call ent32 rfl rfl rfl (fun w' hw' => may_con f [n] _ w' (in_own hw' 3 rfl) (rsl_own ho4 0 rfl hw') (by simp))) ?_
  refine j_q (qs_neq rfl rfl) ?_
  refine j_cond rfl (fun hc0 => ?_) (fun hc0 => ?_)
  · skip
    have hm0 : mayE f.fused f.left [n] = 0 := by
      unfold mayE
      rw [hfu]
      simp [hnn]
    rw [hm0] at hc0
    simp at hc0
  · skip
    have hm0 : mayE f.fused f.left [n] = 0 := by
      unfold mayE
      rw [hfu]
      simp [hnn]
    refine j_perm (S' := [[(g4, .cells [Value.string (bs n)].toArray 9 (0, 0))], [(g1, .cells [bv].toArray 23 (0, 0))], [(g0, .cells [.string (bs n)].toArray 9 (0, 0))], [(f.gf, f.obj)], [(f.now.gs, f.now.sobj)], [(f.now.gm, .map f.now.es f.now.ck)], f.now.fs.map FL.h, f.tc ++ f.more ++ ph f.P]) (by
      have h0 := f.split2
      classical
      refine List.perm_iff_count.2 fun x => ?_
      have h2 := List.perm_iff_count.1 h0 x
      simp only [FM.parts2, List.set, List.flatten_cons, List.flatten_nil, List.append_nil, List.nil_append, List.cons_append, List.count_append, List.count_cons, List.count_nil] at h2 ⊢
      omega) ?_
    refine j_draw ?_
    refine jq_q (qs_nil rfl) ?_
    refine jq_q (qs_field Try.underlying62 rfl sz58 (by decide) rfl) ?_
    refine jq_q (qs_load (l := fmcells f) 3 Try.underlying58 rfl rfl rfl rfl) ?_
    refine jq_q (qs_nil rfl) ?_
    refine jq_q (qs_field Try.underlying66 rfl sz64 (by decide) rfl) ?_
    refine jq_q (qs_load (l := smcells f.now) 4 Try.underlying64 rfl rfl rfl rfl) ?_
    refine jq_q (qs_load (l := [.string (bs n)]) 2 Try.underlying9 rfl rfl rfl rfl) ?_
    refine jq_q (qs_lookup (key := n) strKey 5 Try.underlying64 zv63 rfl rfl rfl hok.raw.map hn) ?_
    rw [mlook_map fptr, getD_fptr, hlk, Option.map_some]
    refine jq_nil ?_
    refine j_q (qs_pnil Try.underlying63 rfl) ?_
    refine j_cond rfl (fun hc1 => ?_) (fun hc1 => ?_)
    · skip
      simp at hc1
    · skip
      refine j_draw ?_
      refine jq_q (qs_load (l := [bv]) 1 Try.underlying23 rfl rfl rfl rfl) ?_
      refine jq_q (qs_lenl (n := xs.length) (A := A) (c := cap) Try.underlying23 hbv) ?_
      refine jq_q (qs_nil rfl) ?_
      refine jq_q (qs_field Try.underlying73 rfl sz23 (by decide) rfl) ?_
      refine jq_q (qs_loadO (l := flcells x) (rdo_mem (o := x.h.2) 6 rfl (List.mem_map.2 ⟨x, hx, rfl⟩)) Try.underlying23 rfl rfl rfl) ?_
      refine jq_q (qs_lenl (n := x.xs.length) (A := xA) (c := xc) Try.underlying23 hxv) ?_
      refine jq_q (qs_sub64 rfl rfl (by first | omega | (simp only [Bool.and_eq_true, Bool.or_eq_true, Bool.and_eq_false_iff, Bool.or_eq_false_iff, Bool.not_eq_true', Bool.not_eq_false', decide_eq_true_eq, decide_eq_false_iff_not, beq_iff_eq, beq_eq_false_iff_ne, bne_iff_ne, bne_eq_false_iff_eq, ne_eq, Int.toNat_natCast] at *; omega))) ?_
      refine jq_q (qs_gtr rfl rfl) ?_
      refine jq_nil ?_
      refine j_cond rfl (fun hc2 => ?_) (fun hc2 => ?_)
      · skip
        simp at hc2
        omega
      · skip
        refine j_draw ?_
        refine jq_q (qs_nil rfl) ?_
        refine jq_q (qs_field Try.underlying62 rfl sz58 (by decide) rfl) ?_
        refine jq_q (qs_load (l := fmcells f) 3 Try.underlying58 rfl rfl rfl rfl) ?_
        refine jq_q (qs_nil rfl) ?_
        refine jq_q (qs_field Try.underlying66 rfl sz3 (by decide) rfl) ?_
        refine jq_q (qs_load (l := smcells f.now) 4 Try.underlying3 rfl rfl rfl rfl) ?_
        refine jq_q (qs_load (l := [bv]) 1 Try.underlying23 rfl rfl rfl rfl) ?_
        refine jq_q (qs_lenl (n := xs.length) (A := A) (c := cap) Try.underlying23 hbv) ?_
        refine jq_q (qs_add64 rfl rfl (by first | omega | (simp only [Bool.and_eq_true, Bool.or_eq_true, Bool.and_eq_false_iff, Bool.or_eq_false_iff, Bool.not_eq_true', Bool.not_eq_false', decide_eq_true_eq, decide_eq_false_iff_not, beq_iff_eq, beq_eq_false_iff_ne, bne_iff_ne, bne_eq_false_iff_eq, ne_eq, Int.toNat_natCast] at *; omega))) ?_
        refine jq_q (qs_nil rfl) ?_
        refine jq_q (qs_field Try.underlying62 rfl sz3 (by decide) rfl) ?_
        refine jq_q (qs_load (l := fmcells f) 3 Try.underlying3 rfl rfl rfl rfl) ?_
        refine jq_q (qs_gtr rfl rfl) ?_
        refine jq_nil ?_
        refine j_cond rfl (fun hc3 => ?_) (fun hc3 => ?_)
        · skip
          simp at hc3
          omega
        · skip
          refine j_q (qs_load (l := [bv]) 1 Try.underlying23 rfl rfl rfl rfl) ?_
          refine j_call0 ent31 rfl rfl rfl (fun w' hw' => clone_con bv xs w' (br_keep hbr hbd hw') hxl) (fun u S2 hu1 => ?_)
          obtain ⟨Q, rfl, hrv⟩ := hu1
          obtain ⟨bv2, hbv2⟩ : ∃ y, y = u := ⟨_, rfl⟩
          rw [← hbv2] at hrv ⊢
          refine j_subl (S' := [ph Q, [(g4, .cells [Value.string (bs n)].toArray 9 (0, 0))], [(g1, .cells [bv].toArray 23 (0, 0))], [(g0, .cells [.string (bs n)].toArray 9 (0, 0))], [(f.gf, f.obj)], [(f.now.gs, f.now.sobj)], [(f.now.gm, .map f.now.es f.now.ck)], f.now.fs.map FL.h, f.tc ++ f.more ++ ph f.P]) (by repeat first | exact List.Sublist.refl _ | exact List.nil_sublist _ | apply List.Sublist.cons_cons | apply List.Sublist.cons) ?_
          obtain ⟨A2, c2, hbe, hbc, _⟩ := hrv.form
          refine j_store (l := [bv]) 2 sz23 rfl rfl (by show oneV bv2 = true; rw [hbe]; rfl) rfl (by simp) (by simp) ?_
          refine j_q (qs_mkfuncv (vs := [.pointer (some ⟨g0, 0, none⟩), .pointer (some ⟨g1, 0, none⟩)]) rfl) ?_
          refine j_subl (S' := [ph Q, [(g4, .cells [Value.string (bs n)].toArray 9 (0, 0))], [(g1, .cells [bv2].toArray 23 (0, 0))], [(g0, .cells [.string (bs n)].toArray 9 (0, 0))], [(f.gf, f.obj)], [(f.now.gs, f.now.sobj)], [(f.now.gm, .map f.now.es f.now.ck)], f.now.fs.map FL.h, f.tc ++ f.more ++ ph f.P]) (by repeat first | exact List.Sublist.refl _ | exact List.nil_sublist _ | apply List.Sublist.cons_cons | apply List.Sublist.cons) ?_
          refine j_perm (S' := [FM.heap ({ f with more := [(g0, .cells [.string (bs n)].toArray 9 (0, 0))] ++ [(g1, .cells [bv2].toArray 23 (0, 0))] ++ f.more, P := Q ++ f.P } : FM), [(g4, .cells [Value.string (bs n)].toArray 9 (0, 0))]]) (by
            classical
            refine List.perm_iff_count.2 fun x => ?_
            simp only [FM.heap, FM.obj, fmcells, SM.heap, ph, List.map_append, List.set, List.flatten_cons, List.flatten_nil, List.append_nil, List.nil_append, List.cons_append, List.count_append, List.count_cons, List.count_nil] <;> omega) ?_
          have hok2 : FM.Ok B ({ f with more := [(g0, .cells [.string (bs n)].toArray 9 (0, 0))] ++ [(g1, .cells [bv2].toArray 23 (0, 0))] ++ f.more, P := Q ++ f.P } : FM) := ⟨hok.row, hok.lt, hok.raw, fun x hx => (hok.vw x hx).more (fun b hb => List.mem_append_right _ hb), hok.lpv⟩
          refine j_call 0 ent34 rfl rfl rfl rfl (fun w' hw' => does_con ({ f with more := [(g0, .cells [.string (bs n)].toArray 9 (0, 0))] ++ [(g1, .cells [bv2].toArray 23 (0, 0))] ++ f.more, P := Q ++ f.P } : FM) B hB 40 #[.pointer (some ⟨g0, 0, none⟩), .pointer (some ⟨g1, 0, none⟩)] (fun s' P' => ∃ v' : Value, s' = appM f.now x.id v' xs ∧ Vw P' x.g v' (x.xs ++ xs) ∧ PLe x.g (Q ++ f.P) P' ∧ Raw s') w' hok2 hl ent40 (fun w2 hin hdj => (ap_con f.now (Q ++ f.P) n x bv2 xs g0 g1 w2 hok.raw hx hlk ((hok.vw x hx).more (fun b hb => List.mem_append_right _ hb)) (hrv.more (fun b hb => List.mem_append_left _ hb)) (by rw [List.length_append]; omega) ⟨by omega, by omega⟩ hn (hin (g0, .cells [.string (bs n)].toArray 9 (0, 0)) (by simp)) (hdj g0 (List.mem_map.2 ⟨(g0, .cells [.string (bs n)].toArray 9 (0, 0)), by simp, rfl⟩)) (hin (g1, .cells [bv2].toArray 23 (0, 0)) (by simp)) (hdj g1 (List.mem_map.2 ⟨(g1, .cells [bv2].toArray 23 (0, 0)), by simp, rfl⟩))).mono (fun u S3 hu3 => by
            obtain ⟨v', P', e1, e2, e3, e4⟩ := hu3
            exact ⟨_, _, e1, rfl, v', rfl, e2, e3, e4⟩))) (fun u S2 hu2 => ?_)
          obtain ⟨rfl, s', P', tv', tc', rfl, hrow, hgs, v', rfl, hvw2, hple, hraw2⟩ := hu2
          refine j_subl (S' := [FM.heap (doneF ({ f with more := [(g0, .cells [.string (bs n)].toArray 9 (0, 0))] ++ [(g1, .cells [bv2].toArray 23 (0, 0))] ++ f.more, P := Q ++ f.P } : FM) (appM f.now x.id v' xs) P' (.func (.func 40) #[] #[.pointer (some ⟨g0, 0, none⟩), .pointer (some ⟨g1, 0, none⟩)]) tv' tc')]) (by repeat first | exact List.Sublist.refl _ | exact List.nil_sublist _ | apply List.Sublist.cons_cons | apply List.Sublist.cons) ?_
          refine j_ret_con (vs := [_]) (fun w' hw' => ⟨rfl, trivial⟩) ?_
          refine ⟨rfl, v', _, P', _, tv', tc', rfl, hrow, hraw2, fun y hy => ?_⟩
          obtain ⟨z, hz, rfl⟩ := List.mem_map.1 hy
          unfold app1
          split
          · rename_i he
            have hzx : z = x := by
              obtain ⟨a, b, hab⟩ := List.append_of_mem hx
              have hids := hok.raw.ids
              rw [hab] at hids
              rw [hab] at hz
              rcases List.mem_append.1 hz with hz | hz
              · exact absurd he ((off_ids hids).1 z hz)
              · rcases List.mem_cons.1 hz with hz | hz
                · exact hz
                · exact absurd he ((off_ids hids).2 z hz)
            rw [hzx]
            exact hvw2
          · rename_i he
            have hg : z.g ≠ x.g := fun e => he (by rw [fs_uniq hok.raw hx hz e])
            exact ((hok.vw z hz).more (fun b hb => List.mem_append_right _ hb)).mono hple hg
/-- (*pantry.fs.FS).Link -/
theorem link_con (f : FM) (B : Nat) (hB : B < 16384) (old n : List UInt8) (w : World) (hok : f.Ok B) (hl : -100000000 ≤ f.left ∧ f.left ≤ 9223372036854775807) (hso : strOk old) (hn : strOk n) (hfu : f.fused = false) (hno : nameOk old = true) (hnn : nameOk n = true) (x : FL) (hx : x ∈ f.now.fs) (hlk : alook f.now.ml old = some (x.g, x.id)) (hk : x.k + 1 ≤ 1000000) (hfree : alook f.now.ml n = none) (hml : f.now.ml.length < 16384) : Con Try.prog 15 [f.ptr, .string (bs old), .string (bs n)] w f.heap fun v S' => v = .int .i64 0 ∧ ∃ (s' : SM) (more : SH) (t tv : Value) (tc : SH), S' = [FM.heap (doneF { f with more := more } s' f.P t tv tc)] ∧ Sx.Own 100 1 (f.ts ++ [t]) tv tc ∧ (∃ (es : Array MapEntry) (ck : Nat), s' = { givesM f.now n (x.g, x.id) with es := es, ck := ck }) ∧ Raw s' := by
  refine con_of_tree mix Try.func15 T15_ok (by kernel_rfl) ?_
  unfold T15
  refine j_box (l := [.string (bs old)]) rfl (fun g0 hg0 hs0 => ?_)
  refine j_box (l := [.string (bs n)]) rfl (fun g1 hg1 hs1 => ?_)
  refine j_q (qs_ac) ?_
  refine j_q (qs_load (l := [.string (bs old)]) 1 Try.underlying9 rfl rfl rfl rfl) ?_
  refine j_q (qs_load (l := [.string (bs n)]) 0 Try.underlying9 rfl rfl rfl rfl) ?_
  refine j_lit (vs := [.string (bs _), .string (bs _)]) Try.underlying41 sz9 zero9 rfl (by simp [oneV]) ⟨rfl, by decide⟩ (fun g5 v5 c5 hv5 hc5 ho5 => ?_)
  subst hv5 hc5
  refine j_q (qs_call ent32 rfl rfl rfl (fun w' hw' => may_con f [old, n] _ w' (in_own hw' 3 rfl) (rsl_own ho5 0 rfl hw') (by simp))) ?_
  refine j_q (qs_neq rfl rfl) ?_
  refine j_cond rfl (fun hc0 => ?_) (fun hc0 => ?_)
  · skip
    have hm0 : mayE f.fused f.left [old, n] = 0 := by
      unfold mayE
      rw [hfu]
      simp [hno, hnn]
    rw [hm0] at hc0
    simp at hc0
  · skip
    have hm0 : mayE f.fused f.left [old, n] = 0 := by
      unfold mayE
      rw [hfu]
      simp [hno, hnn]
    refine j_perm (S' := [[(g5, .cells [Value.string (bs old), Value.string (bs n)].toArray 9 (0, 0))], [(g1, .cells [.string (bs n)].toArray 9 (0, 0))], [(g0, .cells [.string (bs old)].toArray 9 (0, 0))], [(f.gf, f.obj)], [(f.now.gs, f.now.sobj)], [(f.now.gm, .map f.now.es f.now.ck)], f.now.fs.map FL.h, f.tc ++ f.more ++ ph f.P]) (by
      have h0 := f.split2
      classical
      refine List.perm_iff_count.2 fun x => ?_
      have h2 := List.perm_iff_count.1 h0 x
      simp only [FM.parts2, List.set, List.flatten_cons, List.flatten_nil, List.append_nil, List.nil_append, List.cons_append, List.count_append, List.count_cons, List.count_nil] at h2 ⊢
      omega) ?_
    refine j_draw ?_
    refine jq_q (qs_nil rfl) ?_
    refine jq_q (qs_field Try.underlying62 rfl sz58 (by decide) rfl) ?_
    refine jq_q (qs_load (l := fmcells f) 3 Try.underlying58 rfl rfl rfl rfl) ?_
    refine jq_q (qs_nil rfl) ?_
    refine jq_q (qs_field Try.underlying66 rfl sz64 (by decide) rfl) ?_
    refine jq_q (qs_load (l := smcells f.now) 4 Try.underlying64 rfl rfl rfl rfl) ?_
    refine jq_q (qs_load (l := [.string (bs old)]) 2 Try.underlying9 rfl rfl rfl rfl) ?_
    refine jq_q (qs_lookup (key := old) strKey 5 Try.underlying64 zv63 rfl rfl rfl hok.raw.map hso) ?_
    rw [mlook_map fptr, getD_fptr, hlk, Option.map_some]
    refine jq_q (qs_pnil Try.underlying63 rfl) ?_
    refine jq_nil ?_
    refine j_cond rfl (fun hc1 => ?_) (fun hc1 => ?_)
    · skip
      simp at hc1
    · skip
      refine j_draw ?_
      refine jq_q (qs_nil rfl) ?_
      refine jq_q (qs_field Try.underlying62 rfl sz58 (by decide) rfl) ?_
      refine jq_q (qs_load (l := fmcells f) 3 Try.underlying58 rfl rfl rfl rfl) ?_
      refine jq_q (qs_nil rfl) ?_
      refine jq_q (qs_field Try.underlying66 rfl sz64 (by decide) rfl) ?_
      refine jq_q (qs_load (l := smcells f.now) 4 Try.underlying64 rfl rfl rfl rfl) ?_
      refine jq_q (qs_load (l := [.string (bs n)]) 1 Try.underlying9 rfl rfl rfl rfl) ?_
      refine jq_q (qs_lookup (key := n) strKey 5 Try.underlying64 zv63 rfl rfl rfl hok.raw.map hn) ?_
      rw [mlook_map fptr, getD_fptr, hfree]
      refine jq_q (qs_pnnil Try.underlying63 rfl) ?_
      refine jq_nil ?_
      refine j_cond rfl (fun hc2 => ?_) (fun hc2 => ?_)
      · skip
        simp at hc2
      · skip
        refine j_q (qs_nil rfl) ?_
        refine j_q (qs_field Try.underlying62 rfl sz58 (by decide) rfl) ?_
        refine j_q (qs_load (l := fmcells f) 3 Try.underlying58 rfl rfl rfl rfl) ?_
        refine j_q (qs_nil rfl) ?_
        refine j_q (qs_field Try.underlying66 rfl sz64 (by decide) rfl) ?_
        refine j_q (qs_load (l := smcells f.now) 4 Try.underlying64 rfl rfl rfl rfl) ?_
        refine j_q (qs_maplen (rdo_mem (o := .map f.now.es f.now.ck) 5 rfl (by simp)) Try.underlying64 rfl hok.raw.map) ?_
        refine j_q (qs_geq rfl rfl) ?_
        refine j_cond rfl (fun hc3 => ?_) (fun hc3 => ?_)
        · skip
          simp at hc3
          omega
        · skip
          refine j_q (qs_mkfuncv (vs := [.pointer (some ⟨g1, 0, none⟩), .pointer (some ⟨g0, 0, none⟩)]) rfl) ?_
          refine j_perm (S' := [FM.heap ({ f with more := [(g0, .cells [.string (bs old)].toArray 9 (0, 0))] ++ [(g1, .cells [.string (bs n)].toArray 9 (0, 0))] ++ f.more } : FM), [(g5, .cells [Value.string (bs old), Value.string (bs n)].toArray 9 (0, 0))]]) (by
            classical
            refine List.perm_iff_count.2 fun x => ?_
            simp only [FM.heap, FM.obj, fmcells, SM.heap, ph, List.map_append, List.set, List.flatten_cons, List.flatten_nil, List.append_nil, List.nil_append, List.cons_append, List.count_append, List.count_cons, List.count_nil] <;> omega) ?_
          have hok2 : FM.Ok B ({ f with more := [(g0, .cells [.string (bs old)].toArray 9 (0, 0))] ++ [(g1, .cells [.string (bs n)].toArray 9 (0, 0))] ++ f.more } : FM) := ⟨hok.row, hok.lt, hok.raw, fun x hx => hok.vw x hx, hok.lpv⟩
          refine j_call 0 ent34 rfl rfl rfl rfl (fun w' hw' => does_con ({ f with more := [(g0, .cells [.string (bs old)].toArray 9 (0, 0))] ++ [(g1, .cells [.string (bs n)].toArray 9 (0, 0))] ++ f.more } : FM) B hB 39 #[.pointer (some ⟨g1, 0, none⟩), .pointer (some ⟨g0, 0, none⟩)] (fun s' P' => (∃ (es : Array MapEntry) (ck : Nat), s' = { givesM f.now n (x.g, x.id) with es := es, ck := ck }) ∧ Raw s' ∧ P' = f.P) w' hok2 hl ent39 (fun w2 hin hdj => (li_con f.now f.P n old x g1 g0 w2 hok.raw hx hk hlk hn hso (hin (g1, .cells [.string (bs n)].toArray 9 (0, 0)) (by simp)) (hdj g1 (List.mem_map.2 ⟨(g1, .cells [.string (bs n)].toArray 9 (0, 0)), by simp, rfl⟩)) (hin (g0, .cells [.string (bs old)].toArray 9 (0, 0)) (by simp)) (hdj g0 (List.mem_map.2 ⟨(g0, .cells [.string (bs old)].toArray 9 (0, 0)), by simp, rfl⟩))).mono (fun u S3 hu3 => by
            obtain ⟨es, ck, e1, e2⟩ := hu3
            exact ⟨_, _, e1, (givesM_gs _ _ _).1, ⟨es, ck, rfl⟩, e2, rfl⟩))) (fun u S2 hu2 => ?_)
          obtain ⟨rfl, s', P', tv', tc', rfl, hrow, hgs, hQ, hrw, hP⟩ := hu2
          refine j_subl (S' := [FM.heap (doneF ({ f with more := [(g0, .cells [.string (bs old)].toArray 9 (0, 0))] ++ [(g1, .cells [.string (bs n)].toArray 9 (0, 0))] ++ f.more } : FM) s' P' (.func (.func 39) #[] #[.pointer (some ⟨g1, 0, none⟩), .pointer (some ⟨g0, 0, none⟩)]) tv' tc')]) (by repeat first | exact List.Sublist.refl _ | exact List.nil_sublist _ | apply List.Sublist.cons_cons | apply List.Sublist.cons) ?_
          refine j_ret_con (vs := [_]) (fun w' hw' => ⟨rfl, trivial⟩) ?_
          subst hP
          exact ⟨rfl, s', _, _, tv', tc', rfl, hrow, hQ, hrw⟩
/-- (*pantry.fs.FS).Read -/
theorem read_con (f : FM) (B : Nat) (n : List UInt8) (w : World) (hin : In w f.heap) (hok : f.Ok B) (hn : strOk n) (x : FL) (hx : x ∈ f.now.fs) (hlk : alook f.now.ml n = some (x.g, x.id)) : Con Try.prog 11 [f.ptr, .string (bs n)] w [] fun u S' => ∃ (v : Value) (Q : List BK), u = .tuple #[v, .int .i64 0] ∧ S' = [ph Q] ∧ RV Q v x.xs := by
  refine con_of_tree mix Try.func11 T11_ok (by kernel_rfl) ?_
  unfold T11
  obtain ⟨xA, xc, hxv, hxl⟩ := hok.raw.form x hx
  refine j_q (qs_ac) ?_
  refine j_q (qs_ac) ?_
  refine j_q (qs_pnil Try.underlying25 rfl) ?_
  refine j_g rfl (fun hb => qs_mt rfl) ?_
  refine j_g rfl (fun hb => qs_nil (gd_eq hb)) ?_
  refine j_g rfl (fun hb => qs_field Try.underlying62 rfl sz58 (by decide) (gd_eq hb)) ?_
  refine j_g rfl (fun hb => qs_loadO (rdo_base (FM.in_gf hin) (by simp)) Try.underlying58 rfl (gd_eq hb) rfl) ?_
  refine j_g rfl (fun hb => qs_pnil Try.underlying58 (gd_eq hb)) ?_
  refine j_q (qs_or rfl rfl) ?_
  refine j_g rfl (fun hb => qs_mt rfl) ?_
  refine j_g rfl (fun hb => qs_nil (gd_eq hb)) ?_
  refine j_g rfl (fun hb => qs_field Try.underlying62 rfl sz58 (by decide) (gd_eq hb)) ?_
  refine j_g rfl (fun hb => qs_loadO (rdo_base (FM.in_gf hin) (by simp)) Try.underlying58 rfl (gd_eq hb) rfl) ?_
  refine j_g rfl (fun hb => qs_nil (gd_eq hb)) ?_
  refine j_g rfl (fun hb => qs_field Try.underlying66 rfl sz64 (by decide) (gd_eq hb)) ?_
  refine j_g rfl (fun hb => qs_loadO (rdo_base (SM.in_gs (FM.in_now hin)) (by simp)) Try.underlying64 rfl (gd_eq hb) rfl) ?_
  refine j_g rfl (fun hb => qs_mt rfl) ?_
  refine j_g rfl (fun hb => qs_lookupR (key := n) strKey (rdo_base (SM.in_gm (FM.in_now hin)) (by simp)) Try.underlying64 zv63 (gd_eq hb) (gd_eq hb) hok.raw.map hn) ?_
  rw [mlook_map fptr, getD_fptr, hlk, Option.map_some]
  refine j_g rfl (fun hb => qs_pnil Try.underlying63 (gd_eq hb)) ?_
  refine j_q (qs_or rfl rfl) ?_
  refine j_cond rfl (fun hc0 => ?_) (fun hc0 => ?_)
  · skip
    simp [gd] at hc0
  · skip
    refine j_q (qs_nil rfl) ?_
    refine j_q (qs_field Try.underlying62 rfl sz58 (by decide) rfl) ?_
    refine j_q (qs_loadO (rdo_base (FM.in_gf hin) (by simp)) Try.underlying58 rfl rfl rfl) ?_
    refine j_q (qs_nil rfl) ?_
    refine j_q (qs_field Try.underlying66 rfl sz64 (by decide) rfl) ?_
    refine j_q (qs_loadO (rdo_base (SM.in_gs (FM.in_now hin)) (by simp)) Try.underlying64 rfl rfl rfl) ?_
    refine j_q (qs_lookupR (key := n) strKey (rdo_base (SM.in_gm (FM.in_now hin)) (by simp)) Try.underlying64 zv63 rfl rfl hok.raw.map hn) ?_
    rw [mlook_map fptr, getD_fptr, hlk, Option.map_some]
    refine j_q (qs_nil rfl) ?_
    refine j_q (qs_field Try.underlying73 rfl sz23 (by decide) rfl) ?_
    refine j_q (qs_loadO (rdo_base (SM.in_f (FM.in_now hin) hx) (by simp)) Try.underlying23 rfl rfl rfl) ?_
    refine j_call0 ent31 rfl rfl rfl (fun w' hw' => clone_con x.v x.xs w' (br_rv (hok.vw x hx).rv (in_keep0 (FM.in_P hin) hw')) hxl) (fun u S2 hu1 => ?_)
    obtain ⟨Q, rfl, hrv⟩ := hu1
    refine j_subl (S' := [ph Q]) (by repeat first | exact List.Sublist.refl _ | exact List.nil_sublist _ | apply List.Sublist.cons_cons | apply List.Sublist.cons) ?_
    refine j_q (qs_ac) ?_
    refine j_ret_con (vs := [_, _]) (fun w' hw' => ⟨rfl, rfl, trivial⟩) ?_
    exact ⟨_, Q, rfl, rfl, hrv⟩
end Go.Proofs.Ytckpegkpdepokaa
