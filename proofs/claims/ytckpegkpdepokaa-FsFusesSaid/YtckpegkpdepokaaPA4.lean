/- Part 4. -/
import Derived.Test.YtckpegkpdepokaaPA2
import Derived.Test.YtckpegkpdepokaaPA3
import Derived.Shelf.SlIter.Nil
import Derived.Shelf.SortM.Plain
import Derived.Shelf.SortM.SortNone
import Derived.Ground.GgzProg
import Derived.Ground.SlgmProg
import Derived.Test.YtckpegkpdepokaaProg
import Derived.Maps.RangeRun
/-! Fs8 -/
namespace Go.Proofs.Ytckpegkpdepokaa
open Go Go.Sx
set_option maxRecDepth 100000
set_option maxHeartbeats 4000000
set_option linter.unusedVariables false
set_option linter.unusedSimpArgs false
attribute [local irreducible] J JQ QS Con W opW
open Go.MapKept Go.WideMaps Go.Maps
theorem append_con (f : FM) (B : Nat) (hB : B < 16384) (n : List UInt8) (bv : Value) (xs : List UInt8) (w : World) (hok : f.Ok B) (hl : -100000000 ≤ f.left ∧ f.left ≤ 9223372036854775807) (hn : strOk n) (hbr : BR w bv xs) (hbd : ∀ a m c, bv = .slice (some a) m c → 0 < m → a.block ∉ dom f.heap) (hxl : xs.length ≤ 1000000000) (ht : (tot f.now.fs : Int) ≤ f.now.used) (hu : f.now.used ≤ 1073741824) (hfu : f.fused = false) (hroom : f.now.used + (xs.length : Int) ≤ f.room) (hx2 : xs.length ≤ 1048576) (hnn : nameOk n = true) (x : FL) (hx : x ∈ f.now.fs) (hlk : alook f.now.ml n = some (x.g, x.id)) (hxx : x.xs.length + xs.length ≤ 1048576) : Con Try.prog 16 [f.ptr, .string (bs n), bv] w f.heap fun v S' => v = .int .i64 0 ∧ ∃ (v' : Value) (more : SH) (P2 : List BK) (t tv : Value) (tc : SH), S' = [FM.heap (doneF { f with more := more, P := P2 } (appM f.now x.id v' xs) P2 t tv tc)] ∧ Sx.Own 100 1 (f.ts ++ [t]) tv tc ∧ Raw (appM f.now x.id v' xs) ∧ (∀ y ∈ (appM f.now x.id v' xs).fs, Vw P2 y.g y.v y.xs) := by
  refine con_of_tree mix Try.func16 T16_ok (by kernel_rfl) ?_
  unfold T16
  obtain ⟨A, cap, hbv, hcap⟩ := br_form hbr
  have hone : oneV bv = true := by rw [hbv]; rfl
  have hutot : 0 ≤ f.now.used := by omega
  obtain ⟨xA, xc, hxv, _⟩ := hok.raw.form x hx
  refine j_box (l := [.string (bs n)]) rfl (fun g0 hg0 hs0 => ?_)
  refine j_box (l := [bv]) (by show bv.cells = #[bv]; rw [hbv]; rfl) (fun g1 hg1 hs1 => ?_)
  refine j_q (qs_ac) ?_
  refine j_q (qs_load (l := [.string (bs n)]) 1 Try.underlying9 rfl rfl rfl rfl) ?_
  refine j_lit (vs := [.string (bs _)]) Try.underlying41 sz9 zero9 rfl (by simp [oneV]) ⟨rfl, by decide⟩ (fun g4 v4 c4 hv4 hc4 ho4 => ?_)
  subst hv4 hc4
  refine j_q (qs_call ent32 rfl rfl rfl (fun w' hw' => may_con f [n] _ w' (in_own hw' 3 rfl) (rsl_own ho4 0 rfl hw') (by simp))) ?_
  refine j_q (qs_neq rfl rfl) ?_
  refine j_cond rfl (fun hc0 => ?_) (fun hc0 => ?_)
  · skip
    have hm0 : mayE f.fused f.left [n] = 0 := by
      unfold mayE
      rw [hfu]
      simp [hnn]
    rw [hm0] at hc0
    simp at hc0
  · skip
    have hm0 : mayE f.fused f.left [n] = 0 := by
      unfold mayE
      rw [hfu]
      simp [hnn]
    refine j_perm (S' := [[(g4, .cells [Value.string (bs n)].toArray 9 (0, 0))], [(g1, .cells [bv].toArray 23 (0, 0))], [(g0, .cells [.string (bs n)].toArray 9 (0, 0))], [(f.gf, f.obj)], [(f.now.gs, f.now.sobj)], [(f.now.gm, .map f.now.es f.now.ck)], f.now.fs.map FL.h, f.tc ++ f.more ++ ph f.P]) (by
      have h0 := f.split2
      classical
      refine List.perm_iff_count.2 fun x => ?_
      have h2 := List.perm_iff_count.1 h0 x
      simp only [FM.parts2, List.set, List.flatten_cons, List.flatten_nil, List.append_nil, List.nil_append, List.cons_append, List.count_append, List.count_cons, List.count_nil] at h2 ⊢
      omega) ?_
    refine j_draw ?_
    refine jq_q (qs_nil rfl) ?_
    refine jq_q (qs_field Try.underlying62 rfl sz58 (by decide) rfl) ?_
    refine jq_q (qs_load (l := fmcells f) 3 Try.underlying58 rfl rfl rfl rfl) ?_
    refine jq_q (qs_nil rfl) ?_
    refine jq_q (qs_field Try.underlying66 rfl sz64 (by decide) rfl) ?_
    refine jq_q (qs_load (l := smcells f.now) 4 Try.underlying64 rfl rfl rfl rfl) ?_
    refine jq_q (qs_load (l := [.string (bs n)]) 2 Try.underlying9 rfl rfl rfl rfl) ?_
    refine jq_q (qs_lookup (key := n) strKey 5 Try.underlying64 zv63 rfl rfl rfl hok.raw.map hn) ?_
    rw [mlook_map fptr, getD_fptr, hlk, Option.map_some]
    refine jq_nil ?_
    refine j_q (qs_pnil Try.underlying63 rfl) ?_
    refine j_cond rfl (fun hc1 => ?_) (fun hc1 => ?_)
    · skip
      simp at hc1
    · skip
      refine j_draw ?_
      refine jq_q (qs_load (l := [bv]) 1 Try.underlying23 rfl rfl rfl rfl) ?_
      refine jq_q (qs_lenl (n := xs.length) (A := A) (c := cap) Try.underlying23 hbv) ?_
      refine jq_q (qs_nil rfl) ?_
      refine jq_q (qs_field Try.underlying73 rfl sz23 (by decide) rfl) ?_
      refine jq_q (qs_loadO (l := flcells x) (rdo_mem (o := x.h.2) 6 rfl (List.mem_map.2 ⟨x, hx, rfl⟩)) Try.underlying23 rfl rfl rfl) ?_
      refine jq_q (qs_lenl (n := x.xs.length) (A := xA) (c := xc) Try.underlying23 hxv) ?_
      refine jq_q (qs_sub64 rfl rfl (by first | omega | (simp only [bnA] at *; omega))) ?_
      refine jq_q (qs_gtr rfl rfl) ?_
      refine jq_nil ?_
      refine j_cond rfl (fun hc2 => ?_) (fun hc2 => ?_)
      · skip
        simp at hc2
        omega
      · skip
        refine j_draw ?_
        refine jq_q (qs_nil rfl) ?_
        refine jq_q (qs_field Try.underlying62 rfl sz58 (by decide) rfl) ?_
        refine jq_q (qs_load (l := fmcells f) 3 Try.underlying58 rfl rfl rfl rfl) ?_
        refine jq_q (qs_nil rfl) ?_
        refine jq_q (qs_field Try.underlying66 rfl sz3 (by decide) rfl) ?_
        refine jq_q (qs_load (l := smcells f.now) 4 Try.underlying3 rfl rfl rfl rfl) ?_
        refine jq_q (qs_load (l := [bv]) 1 Try.underlying23 rfl rfl rfl rfl) ?_
        refine jq_q (qs_lenl (n := xs.length) (A := A) (c := cap) Try.underlying23 hbv) ?_
        refine jq_q (qs_add64 rfl rfl (by first | omega | (simp only [bnA] at *; omega))) ?_
        refine jq_q (qs_nil rfl) ?_
        refine jq_q (qs_field Try.underlying62 rfl sz3 (by decide) rfl) ?_
        refine jq_q (qs_load (l := fmcells f) 3 Try.underlying3 rfl rfl rfl rfl) ?_
        refine jq_q (qs_gtr rfl rfl) ?_
        refine jq_nil ?_
        refine j_cond rfl (fun hc3 => ?_) (fun hc3 => ?_)
        · skip
          simp at hc3
          omega
        · skip
          refine j_q (qs_load (l := [bv]) 1 Try.underlying23 rfl rfl rfl rfl) ?_
          refine j_call0 ent31 rfl rfl rfl (fun w' hw' => clone_con bv xs w' (br_keep hbr hbd hw') hxl) (fun u S2 hu1 => ?_)
          obtain ⟨Q, rfl, hrv⟩ := hu1
          obtain ⟨bv2, hbv2⟩ : ∃ y, y = u := ⟨_, rfl⟩
          rw [← hbv2] at hrv ⊢
          refine j_subl (S' := [ph Q, [(g4, .cells [Value.string (bs n)].toArray 9 (0, 0))], [(g1, .cells [bv].toArray 23 (0, 0))], [(g0, .cells [.string (bs n)].toArray 9 (0, 0))], [(f.gf, f.obj)], [(f.now.gs, f.now.sobj)], [(f.now.gm, .map f.now.es f.now.ck)], f.now.fs.map FL.h, f.tc ++ f.more ++ ph f.P]) (by repeat first | exact slR _ | exact slN _ | apply slC | apply slD) ?_
          obtain ⟨A2, c2, hbe, hbc, _⟩ := hrv.form
          refine j_store (l := [bv]) 2 sz23 rfl rfl (by show oneV bv2 = true; rw [hbe]; rfl) rfl (by simp) (by simp) ?_
          refine j_q (qs_mkfuncv (vs := [.pointer (some ⟨g0, 0, none⟩), .pointer (some ⟨g1, 0, none⟩)]) rfl) ?_
          refine j_subl (S' := [ph Q, [(g4, .cells [Value.string (bs n)].toArray 9 (0, 0))], [(g1, .cells [bv2].toArray 23 (0, 0))], [(g0, .cells [.string (bs n)].toArray 9 (0, 0))], [(f.gf, f.obj)], [(f.now.gs, f.now.sobj)], [(f.now.gm, .map f.now.es f.now.ck)], f.now.fs.map FL.h, f.tc ++ f.more ++ ph f.P]) (by repeat first | exact slR _ | exact slN _ | apply slC | apply slD) ?_
          refine j_perm (S' := [FM.heap ({ f with more := [(g0, .cells [.string (bs n)].toArray 9 (0, 0))] ++ [(g1, .cells [bv2].toArray 23 (0, 0))] ++ f.more, P := Q ++ f.P } : FM), [(g4, .cells [Value.string (bs n)].toArray 9 (0, 0))]]) (by
            classical
            refine List.perm_iff_count.2 fun x => ?_
            simp only [FM.heap, FM.obj, fmcells, SM.heap, ph, List.map_append, List.set, List.flatten_cons, List.flatten_nil, List.append_nil, List.nil_append, List.cons_append, List.count_append, List.count_cons, List.count_nil] <;> omega) ?_
          have hok2 : FM.Ok B ({ f with more := [(g0, .cells [.string (bs n)].toArray 9 (0, 0))] ++ [(g1, .cells [bv2].toArray 23 (0, 0))] ++ f.more, P := Q ++ f.P } : FM) := ⟨hok.row, hok.lt, hok.raw, fun x hx => (hok.vw x hx).more (fun b hb => List.mem_append_right _ hb), hok.lpv⟩
          refine j_call 0 ent34 rfl rfl rfl rfl (fun w' hw' => does_con ({ f with more := [(g0, .cells [.string (bs n)].toArray 9 (0, 0))] ++ [(g1, .cells [bv2].toArray 23 (0, 0))] ++ f.more, P := Q ++ f.P } : FM) B hB 40 #[.pointer (some ⟨g0, 0, none⟩), .pointer (some ⟨g1, 0, none⟩)] (fun s' P' => ∃ v' : Value, s' = appM f.now x.id v' xs ∧ Vw P' x.g v' (x.xs ++ xs) ∧ PLe x.g (Q ++ f.P) P' ∧ Raw s') w' hok2 hl ent40 (fun w2 hin hdj => (ap_con f.now (Q ++ f.P) n x bv2 xs g0 g1 w2 hok.raw hx hlk ((hok.vw x hx).more (fun b hb => List.mem_append_right _ hb)) (hrv.more (fun b hb => List.mem_append_left _ hb)) (by rw [List.length_append]; omega) ⟨by omega, by omega⟩ hn (hin (g0, .cells [.string (bs n)].toArray 9 (0, 0)) (by simp)) (hdj g0 (List.mem_map.2 ⟨(g0, .cells [.string (bs n)].toArray 9 (0, 0)), by simp, rfl⟩)) (hin (g1, .cells [bv2].toArray 23 (0, 0)) (by simp)) (hdj g1 (List.mem_map.2 ⟨(g1, .cells [bv2].toArray 23 (0, 0)), by simp, rfl⟩))).mono (fun u S3 hu3 => by
            obtain ⟨v', P', e1, e2, e3, e4⟩ := hu3
            exact ⟨_, _, e1, rfl, v', rfl, e2, e3, e4⟩))) (fun u S2 hu2 => ?_)
          obtain ⟨rfl, s', P', tv', tc', rfl, hrow, hgs, v', rfl, hvw2, hple, hraw2⟩ := hu2
          refine j_subl (S' := [FM.heap (doneF ({ f with more := [(g0, .cells [.string (bs n)].toArray 9 (0, 0))] ++ [(g1, .cells [bv2].toArray 23 (0, 0))] ++ f.more, P := Q ++ f.P } : FM) (appM f.now x.id v' xs) P' (.func (.func 40) #[] #[.pointer (some ⟨g0, 0, none⟩), .pointer (some ⟨g1, 0, none⟩)]) tv' tc')]) (by repeat first | exact slR _ | exact slN _ | apply slC | apply slD) ?_
          refine j_ret_con (vs := [_]) (fun w' hw' => ⟨rfl, trivial⟩) ?_
          refine ⟨rfl, v', _, P', _, tv', tc', rfl, hrow, hraw2, fun y hy => ?_⟩
          obtain ⟨z, hz, rfl⟩ := List.mem_map.1 hy
          unfold app1
          split
          · rename_i he
            have hzx : z = x := by
              obtain ⟨a, b, hab⟩ := List.append_of_mem hx
              have hids := hok.raw.ids
              rw [hab] at hids
              rw [hab] at hz
              rcases List.mem_append.1 hz with hz | hz
              · exact absurd he ((off_ids hids).1 z hz)
              · rcases List.mem_cons.1 hz with hz | hz
                · exact hz
                · exact absurd he ((off_ids hids).2 z hz)
            rw [hzx]
            exact hvw2
          · rename_i he
            have hg : z.g ≠ x.g := fun e => he (by rw [fs_uniq hok.raw hx hz e])
            exact ((hok.vw z hz).more (fun b hb => List.mem_append_right _ hb)).mono hple hg
theorem link_con (f : FM) (B : Nat) (hB : B < 16384) (old n : List UInt8) (w : World) (hok : f.Ok B) (hl : -100000000 ≤ f.left ∧ f.left ≤ 9223372036854775807) (hso : strOk old) (hn : strOk n) (hfu : f.fused = false) (hno : nameOk old = true) (hnn : nameOk n = true) (x : FL) (hx : x ∈ f.now.fs) (hlk : alook f.now.ml old = some (x.g, x.id)) (hk : x.k + 1 ≤ 1000000) (hfree : alook f.now.ml n = none) (hml : f.now.ml.length < 16384) : Con Try.prog 15 [f.ptr, .string (bs old), .string (bs n)] w f.heap fun v S' => v = .int .i64 0 ∧ ∃ (s' : SM) (more : SH) (t tv : Value) (tc : SH), S' = [FM.heap (doneF { f with more := more } s' f.P t tv tc)] ∧ Sx.Own 100 1 (f.ts ++ [t]) tv tc ∧ (∃ (es : Array MapEntry) (ck : Nat), s' = { givesM f.now n (x.g, x.id) with es := es, ck := ck }) ∧ Raw s' := by
  refine con_of_tree mix Try.func15 T15_ok (by kernel_rfl) ?_
  unfold T15
  refine j_box (l := [.string (bs old)]) rfl (fun g0 hg0 hs0 => ?_)
  refine j_box (l := [.string (bs n)]) rfl (fun g1 hg1 hs1 => ?_)
  refine j_q (qs_ac) ?_
  refine j_q (qs_load (l := [.string (bs old)]) 1 Try.underlying9 rfl rfl rfl rfl) ?_
  refine j_q (qs_load (l := [.string (bs n)]) 0 Try.underlying9 rfl rfl rfl rfl) ?_
  refine j_lit (vs := [.string (bs _), .string (bs _)]) Try.underlying41 sz9 zero9 rfl (by simp [oneV]) ⟨rfl, by decide⟩ (fun g5 v5 c5 hv5 hc5 ho5 => ?_)
  subst hv5 hc5
  refine j_q (qs_call ent32 rfl rfl rfl (fun w' hw' => may_con f [old, n] _ w' (in_own hw' 3 rfl) (rsl_own ho5 0 rfl hw') (by simp))) ?_
  refine j_q (qs_neq rfl rfl) ?_
  refine j_cond rfl (fun hc0 => ?_) (fun hc0 => ?_)
  · skip
    have hm0 : mayE f.fused f.left [old, n] = 0 := by
      unfold mayE
      rw [hfu]
      simp [hno, hnn]
    rw [hm0] at hc0
    simp at hc0
  · skip
    have hm0 : mayE f.fused f.left [old, n] = 0 := by
      unfold mayE
      rw [hfu]
      simp [hno, hnn]
    refine j_perm (S' := [[(g5, .cells [Value.string (bs old), Value.string (bs n)].toArray 9 (0, 0))], [(g1, .cells [.string (bs n)].toArray 9 (0, 0))], [(g0, .cells [.string (bs old)].toArray 9 (0, 0))], [(f.gf, f.obj)], [(f.now.gs, f.now.sobj)], [(f.now.gm, .map f.now.es f.now.ck)], f.now.fs.map FL.h, f.tc ++ f.more ++ ph f.P]) (by
      have h0 := f.split2
      classical
      refine List.perm_iff_count.2 fun x => ?_
      have h2 := List.perm_iff_count.1 h0 x
      simp only [FM.parts2, List.set, List.flatten_cons, List.flatten_nil, List.append_nil, List.nil_append, List.cons_append, List.count_append, List.count_cons, List.count_nil] at h2 ⊢
      omega) ?_
    refine j_draw ?_
    refine jq_q (qs_nil rfl) ?_
    refine jq_q (qs_field Try.underlying62 rfl sz58 (by decide) rfl) ?_
    refine jq_q (qs_load (l := fmcells f) 3 Try.underlying58 rfl rfl rfl rfl) ?_
    refine jq_q (qs_nil rfl) ?_
    refine jq_q (qs_field Try.underlying66 rfl sz64 (by decide) rfl) ?_
    refine jq_q (qs_load (l := smcells f.now) 4 Try.underlying64 rfl rfl rfl rfl) ?_
    refine jq_q (qs_load (l := [.string (bs old)]) 2 Try.underlying9 rfl rfl rfl rfl) ?_
    refine jq_q (qs_lookup (key := old) strKey 5 Try.underlying64 zv63 rfl rfl rfl hok.raw.map hso) ?_
    rw [mlook_map fptr, getD_fptr, hlk, Option.map_some]
    refine jq_q (qs_pnil Try.underlying63 rfl) ?_
    refine jq_nil ?_
    refine j_cond rfl (fun hc1 => ?_) (fun hc1 => ?_)
    · skip
      simp at hc1
    · skip
      refine j_draw ?_
      refine jq_q (qs_nil rfl) ?_
      refine jq_q (qs_field Try.underlying62 rfl sz58 (by decide) rfl) ?_
      refine jq_q (qs_load (l := fmcells f) 3 Try.underlying58 rfl rfl rfl rfl) ?_
      refine jq_q (qs_nil rfl) ?_
      refine jq_q (qs_field Try.underlying66 rfl sz64 (by decide) rfl) ?_
      refine jq_q (qs_load (l := smcells f.now) 4 Try.underlying64 rfl rfl rfl rfl) ?_
      refine jq_q (qs_load (l := [.string (bs n)]) 1 Try.underlying9 rfl rfl rfl rfl) ?_
      refine jq_q (qs_lookup (key := n) strKey 5 Try.underlying64 zv63 rfl rfl rfl hok.raw.map hn) ?_
      rw [mlook_map fptr, getD_fptr, hfree]
      refine jq_q (qs_pnnil Try.underlying63 rfl) ?_
      refine jq_nil ?_
      refine j_cond rfl (fun hc2 => ?_) (fun hc2 => ?_)
      · skip
        simp at hc2
      · skip
        refine j_q (qs_nil rfl) ?_
        refine j_q (qs_field Try.underlying62 rfl sz58 (by decide) rfl) ?_
        refine j_q (qs_load (l := fmcells f) 3 Try.underlying58 rfl rfl rfl rfl) ?_
        refine j_q (qs_nil rfl) ?_
        refine j_q (qs_field Try.underlying66 rfl sz64 (by decide) rfl) ?_
        refine j_q (qs_load (l := smcells f.now) 4 Try.underlying64 rfl rfl rfl rfl) ?_
        refine j_q (qs_maplen (rdo_mem (o := .map f.now.es f.now.ck) 5 rfl (by simp)) Try.underlying64 rfl hok.raw.map) ?_
        refine j_q (qs_geq rfl rfl) ?_
        refine j_cond rfl (fun hc3 => ?_) (fun hc3 => ?_)
        · skip
          simp at hc3
          omega
        · skip
          refine j_q (qs_mkfuncv (vs := [.pointer (some ⟨g1, 0, none⟩), .pointer (some ⟨g0, 0, none⟩)]) rfl) ?_
          refine j_perm (S' := [FM.heap ({ f with more := [(g0, .cells [.string (bs old)].toArray 9 (0, 0))] ++ [(g1, .cells [.string (bs n)].toArray 9 (0, 0))] ++ f.more } : FM), [(g5, .cells [Value.string (bs old), Value.string (bs n)].toArray 9 (0, 0))]]) (by
            classical
            refine List.perm_iff_count.2 fun x => ?_
            simp only [FM.heap, FM.obj, fmcells, SM.heap, ph, List.map_append, List.set, List.flatten_cons, List.flatten_nil, List.append_nil, List.nil_append, List.cons_append, List.count_append, List.count_cons, List.count_nil] <;> omega) ?_
          have hok2 : FM.Ok B ({ f with more := [(g0, .cells [.string (bs old)].toArray 9 (0, 0))] ++ [(g1, .cells [.string (bs n)].toArray 9 (0, 0))] ++ f.more } : FM) := ⟨hok.row, hok.lt, hok.raw, fun x hx => hok.vw x hx, hok.lpv⟩
          refine j_call 0 ent34 rfl rfl rfl rfl (fun w' hw' => does_con ({ f with more := [(g0, .cells [.string (bs old)].toArray 9 (0, 0))] ++ [(g1, .cells [.string (bs n)].toArray 9 (0, 0))] ++ f.more } : FM) B hB 39 #[.pointer (some ⟨g1, 0, none⟩), .pointer (some ⟨g0, 0, none⟩)] (fun s' P' => (∃ (es : Array MapEntry) (ck : Nat), s' = { givesM f.now n (x.g, x.id) with es := es, ck := ck }) ∧ Raw s' ∧ P' = f.P) w' hok2 hl ent39 (fun w2 hin hdj => (li_con f.now f.P n old x g1 g0 w2 hok.raw hx hk hlk hn hso (hin (g1, .cells [.string (bs n)].toArray 9 (0, 0)) (by simp)) (hdj g1 (List.mem_map.2 ⟨(g1, .cells [.string (bs n)].toArray 9 (0, 0)), by simp, rfl⟩)) (hin (g0, .cells [.string (bs old)].toArray 9 (0, 0)) (by simp)) (hdj g0 (List.mem_map.2 ⟨(g0, .cells [.string (bs old)].toArray 9 (0, 0)), by simp, rfl⟩))).mono (fun u S3 hu3 => by
            obtain ⟨es, ck, e1, e2⟩ := hu3
            exact ⟨_, _, e1, (givesM_gs _ _ _).1, ⟨es, ck, rfl⟩, e2, rfl⟩))) (fun u S2 hu2 => ?_)
          obtain ⟨rfl, s', P', tv', tc', rfl, hrow, hgs, hQ, hrw, hP⟩ := hu2
          refine j_subl (S' := [FM.heap (doneF ({ f with more := [(g0, .cells [.string (bs old)].toArray 9 (0, 0))] ++ [(g1, .cells [.string (bs n)].toArray 9 (0, 0))] ++ f.more } : FM) s' P' (.func (.func 39) #[] #[.pointer (some ⟨g1, 0, none⟩), .pointer (some ⟨g0, 0, none⟩)]) tv' tc')]) (by repeat first | exact slR _ | exact slN _ | apply slC | apply slD) ?_
          refine j_ret_con (vs := [_]) (fun w' hw' => ⟨rfl, trivial⟩) ?_
          subst hP
          exact ⟨rfl, s', _, _, tv', tc', rfl, hrow, hQ, hrw⟩
theorem read_con (f : FM) (B : Nat) (n : List UInt8) (w : World) (hin : In w f.heap) (hok : f.Ok B) (hn : strOk n) (x : FL) (hx : x ∈ f.now.fs) (hlk : alook f.now.ml n = some (x.g, x.id)) : Con Try.prog 11 [f.ptr, .string (bs n)] w [] fun u S' => ∃ (v : Value) (Q : List BK), u = .tuple #[v, .int .i64 0] ∧ S' = [ph Q] ∧ RV Q v x.xs := by
  refine con_of_tree mix Try.func11 T11_ok (by kernel_rfl) ?_
  unfold T11
  obtain ⟨xA, xc, hxv, hxl⟩ := hok.raw.form x hx
  refine j_q (qs_ac) ?_
  refine j_q (qs_ac) ?_
  refine j_q (qs_pnil Try.underlying25 rfl) ?_
  refine j_g rfl (fun hb => qs_mt rfl) ?_
  refine j_g rfl (fun hb => qs_nil (gd_eq hb)) ?_
  refine j_g rfl (fun hb => qs_field Try.underlying62 rfl sz58 (by decide) (gd_eq hb)) ?_
  refine j_g rfl (fun hb => qs_loadO (rdo_base (FM.in_gf hin) (by simp)) Try.underlying58 rfl (gd_eq hb) rfl) ?_
  refine j_g rfl (fun hb => qs_pnil Try.underlying58 (gd_eq hb)) ?_
  refine j_q (qs_or rfl rfl) ?_
  refine j_g rfl (fun hb => qs_mt rfl) ?_
  refine j_g rfl (fun hb => qs_nil (gd_eq hb)) ?_
  refine j_g rfl (fun hb => qs_field Try.underlying62 rfl sz58 (by decide) (gd_eq hb)) ?_
  refine j_g rfl (fun hb => qs_loadO (rdo_base (FM.in_gf hin) (by simp)) Try.underlying58 rfl (gd_eq hb) rfl) ?_
  refine j_g rfl (fun hb => qs_nil (gd_eq hb)) ?_
  refine j_g rfl (fun hb => qs_field Try.underlying66 rfl sz64 (by decide) (gd_eq hb)) ?_
  refine j_g rfl (fun hb => qs_loadO (rdo_base (SM.in_gs (FM.in_now hin)) (by simp)) Try.underlying64 rfl (gd_eq hb) rfl) ?_
  refine j_g rfl (fun hb => qs_mt rfl) ?_
  refine j_g rfl (fun hb => qs_lookupR (key := n) strKey (rdo_base (SM.in_gm (FM.in_now hin)) (by simp)) Try.underlying64 zv63 (gd_eq hb) (gd_eq hb) hok.raw.map hn) ?_
  rw [mlook_map fptr, getD_fptr, hlk, Option.map_some]
  refine j_g rfl (fun hb => qs_pnil Try.underlying63 (gd_eq hb)) ?_
  refine j_q (qs_or rfl rfl) ?_
  refine j_cond rfl (fun hc0 => ?_) (fun hc0 => ?_)
  · skip
    simp [gd] at hc0
  · skip
    refine j_q (qs_nil rfl) ?_
    refine j_q (qs_field Try.underlying62 rfl sz58 (by decide) rfl) ?_
    refine j_q (qs_loadO (rdo_base (FM.in_gf hin) (by simp)) Try.underlying58 rfl rfl rfl) ?_
    refine j_q (qs_nil rfl) ?_
    refine j_q (qs_field Try.underlying66 rfl sz64 (by decide) rfl) ?_
    refine j_q (qs_loadO (rdo_base (SM.in_gs (FM.in_now hin)) (by simp)) Try.underlying64 rfl rfl rfl) ?_
    refine j_q (qs_lookupR (key := n) strKey (rdo_base (SM.in_gm (FM.in_now hin)) (by simp)) Try.underlying64 zv63 rfl rfl hok.raw.map hn) ?_
    rw [mlook_map fptr, getD_fptr, hlk, Option.map_some]
    refine j_q (qs_nil rfl) ?_
    refine j_q (qs_field Try.underlying73 rfl sz23 (by decide) rfl) ?_
    refine j_q (qs_loadO (rdo_base (SM.in_f (FM.in_now hin) hx) (by simp)) Try.underlying23 rfl rfl rfl) ?_
    refine j_call0 ent31 rfl rfl rfl (fun w' hw' => clone_con x.v x.xs w' (br_rv (hok.vw x hx).rv (in_keep0 (FM.in_P hin) hw')) hxl) (fun u S2 hu1 => ?_)
    obtain ⟨Q, rfl, hrv⟩ := hu1
    refine j_subl (S' := [ph Q]) (by repeat first | exact slR _ | exact slN _ | apply slC | apply slD) ?_
    refine j_q (qs_ac) ?_
    refine j_ret_con (vs := [_, _]) (fun w' hw' => ⟨rfl, rfl, trivial⟩) ?_
    exact ⟨_, Q, rfl, rfl, hrv⟩
end Go.Proofs.Ytckpegkpdepokaa
/-! Fs9 -/
namespace Go.Proofs.Ytckpegkpdepokaa
open Go Go.Sx
set_option maxRecDepth 100000
set_option maxHeartbeats 4000000
set_option linter.unusedVariables false
set_option linter.unusedSimpArgs false
attribute [local irreducible] J JQ QS Con W opW
theorem same_con (xs ys : List UInt8) (v1 v2 : Value) (w : World) (h1 : BR w v1 xs) (h2 : BR w v2 ys) (hl : xs.length ≤ 1000000000) : Con Try.prog 14 [v1, v2] w [] fun u _ => u = .bool (xs == ys) := by
  refine con_of_tree mix Try.func14 T14_ok (by kernel_rfl) ?_
  unfold T14
  obtain ⟨A1, c1, hv1, hc1'⟩ := br_form h1
  obtain ⟨A2, c2, hv2, hc2'⟩ := br_form h2
  subst hv1 hv2
  refine j_q (qs_ac) ?_
  refine j_q (qs_lenl Try.underlying23 rfl) ?_
  refine j_q (qs_lenl Try.underlying23 rfl) ?_
  refine j_q (qs_neq rfl rfl) ?_
  refine j_cond rfl (fun hc0 => ?_) (fun hc0 => ?_)
  · skip
    have hne : xs.length ≠ ys.length := by
      simp only [bnA] at *
      omega
    refine j_q (qs_ac) ?_
    refine j_ret_con (vs := [_]) (fun w' hw' => ⟨rfl, trivial⟩) ?_
    show Value.bool _ = _
    congr 1
    symm
    rw [beq_eq_false_iff_ne]
    exact fun e => hne (by rw [e])
  · skip
    have heq : xs.length = ys.length := by
      simp only [bnA] at *
      omega
    refine j_q (qs_ac) ?_
    refine j_loop (fun m vs S' => ∃ i : Nat, vs = [.int .i64 (i : Int)] ∧ S' = [[]] ∧ (∀ j, j < i → xs.getD j 0 = ys.getD j 0) ∧ i ≤ xs.length ∧ m = xs.length - i) ⟨_, 0, rfl, rfl, (fun j hj => by omega), Nat.zero_le _, rfl⟩ ?_
    rintro m vs S' hlen ⟨i, rfl, rfl, hall, hin, rfl⟩
    refine j_q (qs_lenl Try.underlying23 rfl) ?_
    refine j_q (qs_lss rfl rfl) ?_
    refine j_cond rfl (fun hc1 => ?_) (fun hc1 => ?_)
    · skip
      have hi : i < xs.length := by
        simp only [bnA] at *
        omega
      have hi2 : i < ys.length := by omega
      obtain ⟨a1, rfl, hcl1⟩ : ∃ a, A1 = some a ∧ Cells w a (ints xs) := by
        rcases h1 with ⟨_, e⟩ | ⟨a, c, e, _, _, hcc⟩
        · rw [e] at hi; simp at hi
        · injection e with e1
          exact ⟨a, e1, hcc⟩
      obtain ⟨a2, rfl, hcl2⟩ : ∃ a, A2 = some a ∧ Cells w a (ints ys) := by
        rcases h2 with ⟨_, e⟩ | ⟨a, c, e, _, _, hcc⟩
        · rw [e] at hi2; simp at hi2
        · injection e with e1
          exact ⟨a, e1, hcc⟩
      refine j_draw ?_
      refine jq_q (qs_ixl0 Try.underlying23 sz5 rfl rfl ⟨(by first | omega | (simp only [bnA] at *; omega)), (by first | omega | (simp only [bnA] at *; omega))⟩) ?_
      refine jq_q (qs_loadR (v := .int .u8 ((xs.getD i 0).toNat : Int)) (a := a1) (i := i) (rd_cells hcl1 (by simp)) Try.underlying5 rfl (by show Value.pointer (some (Addr.add a1 (i : Int).toNat)) = _; rw [Int.toNat_natCast]) (ints_get_lt hi)) ?_
      refine jq_q (qs_ixl0 Try.underlying23 sz5 rfl rfl ⟨(by first | omega | (simp only [bnA] at *; omega)), (by first | omega | (simp only [bnA] at *; omega))⟩) ?_
      refine jq_q (qs_loadR (v := .int .u8 ((ys.getD i 0).toNat : Int)) (a := a2) (i := i) (rd_cells hcl2 (by simp)) Try.underlying5 rfl (by show Value.pointer (some (Addr.add a2 (i : Int).toNat)) = _; rw [Int.toNat_natCast]) (ints_get_lt hi2)) ?_
      refine jq_q (qs_neq rfl rfl) ?_
      refine jq_nil ?_
      refine j_cond rfl (fun hc2 => ?_) (fun hc2 => ?_)
      · skip
        have hd : xs.getD i 0 ≠ ys.getD i 0 := fun e => by rw [e] at hc2; simp at hc2
        refine j_q (qs_ac) ?_
        refine j_ret_con (vs := [_]) (fun w' hw' => ⟨rfl, trivial⟩) ?_
        show Value.bool _ = _
        congr 1
        symm
        rw [beq_eq_false_iff_ne]
        exact fun e => hd (by rw [e])
      · skip
        have hd : xs.getD i 0 = ys.getD i 0 := by
          have h3 : ((xs.getD i 0).toNat : Int) = ((ys.getD i 0).toNat : Int) := by simpa using hc2
          exact UInt8.toNat_inj.1 (by omega)
        refine j_q (qs_add64 rfl rfl (by first | omega | (simp only [bnA] at *; omega))) ?_
        refine j_back rfl ?_
        exact ⟨xs.length - (i + 1), by omega, i + 1, rfl, rfl, fun j hj => by
          rcases Nat.lt_or_ge j i with h | h
          · exact hall j h
          · obtain rfl : j = i := by omega
            exact hd, by omega, rfl⟩
    · skip
      have hi : i = xs.length := by
        simp only [bnA] at *
        omega
      refine j_q (qs_ac) ?_
      refine j_ret_con (vs := [_]) (fun w' hw' => ⟨rfl, trivial⟩) ?_
      show Value.bool _ = _
      congr 1
      symm
      rw [beq_iff_eq]
      apply List.ext_getElem heq
      intro j h3 h4
      have h5 := hall j (by omega)
      rw [List.getD_eq_getElem?_getD, List.getD_eq_getElem?_getD, List.getElem?_eq_getElem h3, List.getElem?_eq_getElem h4] at h5
      simpa using h5
end Go.Proofs.Ytckpegkpdepokaa
/-! Iter -/
namespace Go.Proofs
open Go.RowKit Go.Maps Go.Sort Go.Shelf
def Try.keys42_ren : Go.Shelf.Ren := ⟨fun | 7 => 42 | 10 => 70 | n => n, fun | 23 => 64 | 26 => 9 | 3 => 63 | 28 => 82 | 0 => 0 | 27 => 81 | 33 => 102 | 4 => 4 | n => n, fun | n => n⟩
theorem Try.keys42 : Go.Proofs.SlLaysZ.n7 Try.prog Try.keys42_ren := {
  mixed := by kernel_rfl
  f7 := ⟨Try.f42.name, by decide, Try.func42.trans (congrArg some (by kernel_rfl))⟩
  f10 := ⟨Try.f70.name, by decide, Try.func70.trans (congrArg some (by kernel_rfl))⟩
  t0 := Try.underlying0
  a0 := Try.isAgg0
  z0 := Try.sizeOf0
  v0 := Try.zeroValue0
  t4 := Try.underlying4
  a4 := Try.isAgg4
  z4 := Try.sizeOf4
  v4 := Try.zeroValue4
  t23 := Try.underlying64
  a23 := Try.isAgg64
  z23 := Try.sizeOf64
  v23 := Try.zeroValue64
  t26 := Try.underlying9
  a26 := Try.isAgg9
  z26 := Try.sizeOf9
  v26 := Try.zeroValue9
  t27 := Try.underlying81
  a27 := Try.isAgg81
  z27 := Try.sizeOf81
  v27 := Try.zeroValue81
  t28 := Try.underlying82
  a28 := Try.isAgg82
  z28 := Try.sizeOf82
  v28 := Try.zeroValue82
  t33 := Try.underlying102
  a33 := Try.isAgg102
  z33 := Try.sizeOf102
  v33 := Try.zeroValue102 }
def Try.sorted41_ren : Go.Shelf.Ren := ⟨fun | 6 => 41 | 8 => 69 | 9 => 44 | 11 => 86 | 13 => 73 | 12 => 72 | 23 => 96 | 24 => 97 | 14 => 87 | 15 => 88 | 16 => 89 | 17 => 90 | 18 => 91 | 19 => 92 | 20 => 93 | 21 => 94 | 22 => 95 | 25 => 102 | 26 => 103 | 27 => 104 | 28 => 105 | 29 => 106 | 30 => 107 | 31 => 108 | n => n, fun | 26 => 9 | 28 => 82 | 24 => 41 | 0 => 0 | 3 => 3 | 37 => 40 | 48 => 131 | 50 => 133 | 4 => 4 | 40 => 124 | 39 => 123 | 45 => 128 | 5 => 5 | 9 => 9 | 51 => 138 | 55 => 142 | 57 => 144 | 58 => 145 | 33 => 102 | n => n, fun | n => n⟩
theorem Try.sorted41 : Go.Proofs.SlLaysZ.n6 Try.prog Try.sorted41_ren := {
  mixed := by kernel_rfl
  f6 := ⟨Try.f41.name, by decide, Try.func41.trans (congrArg some (by kernel_rfl))⟩
  f8 := ⟨Try.f69.name, by decide, Try.func69.trans (congrArg some (by kernel_rfl))⟩
  f11 := ⟨Try.f86.name, by decide, Try.func86.trans (congrArg some (by kernel_rfl))⟩
  t0 := Try.underlying0
  a0 := Try.isAgg0
  z0 := Try.sizeOf0
  v0 := Try.zeroValue0
  t24 := Try.underlying41
  a24 := Try.isAgg41
  z24 := Try.sizeOf41
  v24 := Try.zeroValue41
  t26 := Try.underlying9
  a26 := Try.isAgg9
  z26 := Try.sizeOf9
  v26 := Try.zeroValue9
  t28 := Try.underlying82
  a28 := Try.isAgg82
  z28 := Try.sizeOf82
  v28 := Try.zeroValue82
  i26 := by kernel_rfl }
def Try.sort44_ren : Go.Shelf.Ren := ⟨fun | 6 => 44 | 8 => 73 | 9 => 72 | 19 => 96 | 20 => 97 | 21 => 87 | 22 => 88 | 23 => 89 | 24 => 90 | 25 => 91 | 26 => 92 | 27 => 93 | 28 => 94 | 29 => 95 | 36 => 102 | 31 => 103 | 32 => 104 | 37 => 105 | 38 => 106 | 39 => 107 | 41 => 108 | n => n, fun | 27 => 41 | 29 => 9 | 3 => 3 | 32 => 40 | 26 => 41 | 0 => 0 | 44 => 131 | 46 => 133 | 4 => 4 | 36 => 124 | 35 => 123 | 41 => 128 | 5 => 5 | 9 => 9 | 53 => 138 | 57 => 142 | 63 => 144 | 64 => 145 | n => n, fun | n => n⟩
theorem Try.sort44 : Go.Proofs.SlLaysM.n6 Try.prog Try.sort44_ren := {
  mixed := by kernel_rfl
  f6 := ⟨Try.f44.name, by decide, Try.func44.trans (congrArg some (by kernel_rfl))⟩
  f8 := Try.func73.trans (congrArg some (by kernel_rfl))
  f9 := ⟨Try.f72.name, by decide, Try.func72.trans (congrArg some (by kernel_rfl))⟩
  f19 := Try.func96.trans (congrArg some (by kernel_rfl))
  f20 := Try.func97.trans (congrArg some (by kernel_rfl))
  f21 := ⟨Try.f87.name, by decide, Try.func87.trans (congrArg some (by kernel_rfl))⟩
  f22 := ⟨Try.f88.name, by decide, Try.func88.trans (congrArg some (by kernel_rfl))⟩
  f23 := ⟨Try.f89.name, by decide, Try.func89.trans (congrArg some (by kernel_rfl))⟩
  f24 := ⟨Try.f90.name, by decide, Try.func90.trans (congrArg some (by kernel_rfl))⟩
  f25 := ⟨Try.f91.name, by decide, Try.func91.trans (congrArg some (by kernel_rfl))⟩
  f26 := ⟨Try.f92.name, by decide, Try.func92.trans (congrArg some (by kernel_rfl))⟩
  f27 := ⟨Try.f93.name, by decide, Try.func93.trans (congrArg some (by kernel_rfl))⟩
  f28 := ⟨Try.f94.name, by decide, Try.func94.trans (congrArg some (by kernel_rfl))⟩
  f29 := ⟨Try.f95.name, by decide, Try.func95.trans (congrArg some (by kernel_rfl))⟩
  f31 := Try.func103.trans (congrArg some (by kernel_rfl))
  f32 := Try.func104.trans (congrArg some (by kernel_rfl))
  f36 := ⟨Try.f102.name, by decide, Try.func102.trans (congrArg some (by kernel_rfl))⟩
  f37 := ⟨Try.f105.name, by decide, Try.func105.trans (congrArg some (by kernel_rfl))⟩
  f38 := ⟨Try.f106.name, by decide, Try.func106.trans (congrArg some (by kernel_rfl))⟩
  f39 := ⟨Try.f107.name, by decide, Try.func107.trans (congrArg some (by kernel_rfl))⟩
  f41 := ⟨Try.f108.name, by decide, Try.func108.trans (congrArg some (by kernel_rfl))⟩
  t0 := Try.underlying0
  a0 := Try.isAgg0
  z0 := Try.sizeOf0
  v0 := Try.zeroValue0
  t3 := Try.underlying3
  a3 := Try.isAgg3
  z3 := Try.sizeOf3
  v3 := Try.zeroValue3
  t4 := Try.underlying4
  a4 := Try.isAgg4
  z4 := Try.sizeOf4
  v4 := Try.zeroValue4
  t5 := Try.underlying5
  a5 := Try.isAgg5
  z5 := Try.sizeOf5
  v5 := Try.zeroValue5
  t9 := Try.underlying9
  a9 := Try.isAgg9
  z9 := Try.sizeOf9
  v9 := Try.zeroValue9
  t26 := Try.underlying41
  a26 := Try.isAgg41
  z26 := Try.sizeOf41
  v26 := Try.zeroValue41
  t27 := Try.underlying41
  a27 := Try.isAgg41
  z27 := Try.sizeOf41
  v27 := Try.zeroValue41
  t29 := Try.underlying9
  a29 := Try.isAgg9
  z29 := Try.sizeOf9
  v29 := Try.zeroValue9
  t32 := Try.underlying40
  a32 := Try.isAgg40
  z32 := Try.sizeOf40
  v32 := Try.zeroValue40
  t35 := Try.underlying123
  a35 := Try.isAgg123
  z35 := Try.sizeOf123
  v35 := Try.zeroValue123
  t36 := Try.underlying124
  a36 := Try.isAgg124
  z36 := Try.sizeOf124
  v36 := Try.zeroValue124
  t41 := Try.underlying128
  a41 := Try.isAgg128
  z41 := Try.sizeOf128
  v41 := Try.zeroValue128
  t44 := Try.underlying131
  a44 := Try.isAgg131
  z44 := Try.sizeOf131
  v44 := Try.zeroValue131
  t46 := Try.underlying133
  a46 := Try.isAgg133
  z46 := Try.sizeOf133
  v46 := Try.zeroValue133
  t53 := Try.underlying138
  a53 := Try.isAgg138
  z53 := Try.sizeOf138
  v53 := Try.zeroValue138
  t57 := Try.underlying142
  a57 := Try.isAgg142
  z57 := Try.sizeOf142
  v57 := Try.zeroValue142
  t63 := Try.underlying144
  a63 := Try.isAgg144
  z63 := Try.sizeOf144
  v63 := Try.zeroValue144
  t64 := Try.underlying145
  a64 := Try.isAgg145
  z64 := Try.sizeOf145
  v64 := Try.zeroValue145 }
theorem Try.sorts41 (m : Nat) : AnyZ.SortsIn Try.prog Try.sorted41_ren Fence.wide m :=
  ⟨fun blk off cap ss W hH hblk hsz => callsIn_wide.2 (AnyM.slices_Sort_string Try.sort44 blk off cap ss W hH hblk hsz),
   fun p cap W => callsIn_wide.2 (AnyM.slices_Sort_string_none Try.sort44 p cap W)⟩
theorem Try.maps_Keys_42 (mb : Option Nat) (W : World) : CallsIn Fence.wide 5 Try.prog 42 #[.map mb] W fun e w' => e = .returned (.func (.func 70) #[] #[.pointer (some ⟨W.heap.size, 0, none⟩)]) ∧ w' = W.alloc (.cells #[.map mb] 64) :=
  AnyZ.keys_in Try.keys42 Fence.wide 5 trivial rfl mb W
end Go.Proofs
/-! Srk7 -/
namespace Go.Proofs.Ytckpegkpdepokaa
open Go Go.Sx
set_option maxRecDepth 100000
set_option maxHeartbeats 4000000
set_option linter.unusedVariables false
set_option linter.unusedSimpArgs false
attribute [local irreducible] J JQ QS Con W opW
open Go.MapKept Go.WideMaps Go.Maps Go.RowKit Go.Shelf Go.Sort
theorem sortedKeys_at {H : Type} (Bs b nn : Nat) (D0 : DataW H) (R : Value → Option (DataW H × List MemPlace)) (W : World) (hBs : Bs < W.heap.size) (hc : W.cell? ⟨Bs, 0, none⟩ = some (.map (some b))) (hown : W.ownsMap Try.prog 9 R b nn D0) (hmax : Maps.size D0 ≤ maxLen) (hbytes : Maps.size D0 * 16 ≤ 140737488355328) :
    CallsIn Fence.wide 5 Try.prog 41 #[.func (.func 70) #[] #[.pointer (some ⟨Bs, 0, none⟩)]] W fun e w' => ∃ (v : Value) (ss : List (List UInt8)), e = .returned v ∧ ss.Perm (strKeys D0) ∧
      w'.ownsRow W.heap.size 9 1 v ss.length ((ss.mergeSort (fun x y => decide (x ≤ y))).map encStr) ∧ (v = .slice none 0 0 ↔ ss = []) ∧ Go.RowKit.Below W.heap.size W w' :=
  AnyZ.sorted_in Try.sorted41 Fence.wide 5 trivial trivial trivial trivial rfl (by omega) (Try.sorts41 _) (enters_of Try.func44 (by kernel_rfl) rfl) 70 #[.pointer (some ⟨Bs, 0, none⟩)] trivial (enters_of Try.func70 (by kernel_rfl) rfl) _ _ hmax hbytes _
    (AnyZ.keys_gives (ρ := Try.keys42_ren) { Try.keys42 with } Fence.wide _ trivial rfl (by omega) Bs b nn D0 W hBs hc hown)
theorem sortedNames_con (Bs b : Nat) {es : Array MapEntry} {clock : Nat} {m : List (List UInt8 × Value)} (w : World) (hBs : Bs < w.heap.size) (hc : w.cell? ⟨Bs, 0, none⟩ = some (.map (some b))) (hb : w.heap[b]? = some (.map es clock)) (hm : MapOk strEnc strOk es clock m) (hsz : m.length ≤ 1000000000) :
    Con Try.prog 41 [.func (.func 70) #[] #[.pointer (some ⟨Bs, 0, none⟩)]] w [] fun v S' => ∃ c, S' = [c] ∧ Sx.Own 9 1 (strs (sortS (m.map Prod.fst))) v c := by
  let R : Value → Option (DataW Unit × List MemPlace) := fun _ => some (.lit (.bool true), [])
  have hkey : ∀ l : List UInt8, l.length ≤ 9223372036854775807 → keyOf Try.prog 9 (.string (bs l)) = some (.string l) := fun l hl => by
    have : (bs l).size ≤ maxLen := hl
    simp [keyOf, Try.underlying9, mapKey, this, bs_data]
  have hrd : ∀ x ∈ es.toList, ∃ p ∈ m, x.key = strEnc p.1 := fun x hx => by
    have : (x.key, x.val) ∈ m.map (fun p => (strEnc p.1, p.2)) := by rw [← hm.ents]; exact List.mem_map_of_mem (f := fun e : MapEntry => (e.key, e.val)) hx
    obtain ⟨p, hp, e1⟩ := List.mem_map.1 this
    injection e1 with e1 e2
    exact ⟨p, hp, e1.symm⟩
  have hrg : es.toList.map (WideElems.rg Try.prog 9 R) = m.map fun p => (Lit.string p.1, DataW.lit (.bool true)) := by
    have e1 : es.toList.map (WideElems.rg Try.prog 9 R) = (es.toList.map (fun e => (e.key, e.val))).map fun q => ((keyOf Try.prog 9 q.1).map fun k => (k, (DataW.lit (.bool true) : DataW Unit))).getD (.bool false, .nil) := by
      rw [List.map_map]
      refine List.map_congr_left fun x _ => ?_
      simp only [Function.comp, WideElems.rg, WideElems.rd, R, Option.map_some]
      cases keyOf Try.prog 9 x.key <;> rfl
    rw [e1, hm.ents, List.map_map]
    refine List.map_congr_left fun p hp => ?_
    simp only [Function.comp, strEnc, hkey p.1 (hm.keys p hp), Option.map_some, Option.getD_some]
  have hfit : WideElems.Fit Try.prog 9 R es clock := ⟨by rw [hm.size]; simp only [maxLen]; omega, hm.stamped, fun x hx => by
    obtain ⟨p, hp, e1⟩ := hrd x hx
    exact ⟨(.string p.1, .lit (.bool true)), by simp only [WideElems.rd, e1, strEnc, hkey p.1 (hm.keys p hp), Option.bind_some, R, Option.map_some]⟩⟩
  have hown : w.ownsMap Try.prog 9 R b es.size (.map ((es.toList.map (WideElems.rg Try.prog 9 R)).foldr DataW.insert [])) := ⟨es, clock, hb, hfit, Nat.le_refl _, rfl⟩
  have hperm := Go.WideShapes.sorted_perm (H := Unit) (es.toList.map (WideElems.rg Try.prog 9 R))
  have hsk : (strKeys (DataW.map ((es.toList.map (WideElems.rg Try.prog 9 R)).foldr DataW.insert []))).Perm (m.map Prod.fst) := by
    refine (hperm.map _).trans ?_
    rw [hrg, List.map_map]
    exact .of_eq (List.map_congr_left fun p _ => rfl)
  have hsize : Maps.size (DataW.map ((es.toList.map (WideElems.rg Try.prog 9 R)).foldr DataW.insert [])) = m.length := by
    have h1 := hperm.length_eq
    have h2 : es.toList.length = m.length := by rw [Array.length_toList, hm.size]
    rw [List.length_map, h2] at h1
    exact h1
  have h := (callsIn_wide (n := 5)).1 (sortedKeys_at Bs b es.size _ R w hBs hc hown (by rw [hsize]; simp only [maxLen]; omega) (by rw [hsize]; omega))
  have hc2 : Con Try.prog 41 [.func (.func 70) #[] #[.pointer (some ⟨Bs, 0, none⟩)]] w [] fun v S' => ∃ c, S' = [c] ∧ Sx.Own 9 1 (strs (sortS (m.map Prod.fst))) v c := by
    refine con_of_own (n := (m.map Prod.fst).length) (h.mono ?_)
    rintro e w' ⟨v, ss, rfl, hp, hrow, _, hB⟩
    have hpp := hp.trans hsk
    refine ⟨v, rfl, ?_, hB⟩
    rw [hpp.length_eq, mergeSort_of_perm hpp] at hrow
    unfold sortS
    exact hrow
  exact hc2
theorem keysN_con (mb : Option Nat) (w : World) : Con Try.prog 42 [.map mb] w [] fun v S' => ∃ g, v = .func (.func 70) #[] #[.pointer (some ⟨g, 0, none⟩)] ∧ S' = [[(g, .cells [.map mb].toArray 64 (0, 0))]] := con_calls <| by
  refine ((callsIn_wide (n := 5)).1 (Try.maps_Keys_42 mb w)).mono ?_
  rintro e w' ⟨rfl, rfl⟩
  refine ⟨_, _, rfl, ⟨_, rfl, rfl⟩, ?_⟩
  have hs : Sig ⟨w, dom []⟩ [[]] w := ⟨rfl, rfl, rfl, Nat.le_refl _, by simp, by simp, by simp, fun _ _ _ => rfl⟩
  exact (hs.new (o := .cells [.map mb].toArray 64 (0, 0)) (w' := w.alloc (.cells #[.map mb] 64)) rfl rfl rfl rfl).1.sub (by simp)
end Go.Proofs.Ytckpegkpdepokaa
/-! Fs10 -/
namespace Go.Proofs.Ytckpegkpdepokaa
open Go Go.Sx
set_option maxRecDepth 100000
set_option maxHeartbeats 4000000
set_option linter.unusedVariables false
set_option linter.unusedSimpArgs false
attribute [local irreducible] J JQ QS Con W opW
open Go.MapKept Go.WideMaps Go.Maps
theorem sortAB : sortS [[97], [98]] = [[97], [98]] := by
  unfold sortS
  exact List.mergeSort_of_pairwise (List.Pairwise.cons (fun y hy => by rw [List.mem_singleton] at hy; rw [hy]; decide) (List.pairwise_singleton _ _))
theorem in_any {w w' : World} {c : SH} {S : List SH} (h : In w c) (hs : Sig ⟨w, dom []⟩ S w') : In w' c := in_keep h hs
theorem node_con (f : FM) (B : Nat) (n : List UInt8) (w : World) (hin : In w f.heap) (hok : f.Ok B) (hn : strOk n) (x : FL) (hx : x ∈ f.now.fs) (hlk : alook f.now.ml n = some (x.g, x.id)) (hml : f.now.ml.length ≤ 1000000) : Con Try.prog 17 [f.ptr, .string (bs n)] w [] fun u _ => ∃ first : List UInt8, u = .tuple #[.string (bs first), .int .i64 x.k] ∧ (x.k = 1 → first = n) ∧ (x.k ≠ 1 → ∃ i, i < (sortS (f.now.ml.map Prod.fst)).length ∧ first = (sortS (f.now.ml.map Prod.fst)).getD i [] ∧ alook f.now.ml first = some (x.g, x.id) ∧ ∀ j, j < i → alook f.now.ml ((sortS (f.now.ml.map Prod.fst)).getD j []) ≠ some (x.g, x.id)) := by
  refine con_of_tree mix Try.func17 T17_ok (by kernel_rfl) ?_
  unfold T17
  have hk := hok.raw.le x hx
  obtain ⟨nm, hnm⟩ : ∃ l, l = sortS (f.now.ml.map Prod.fst) := ⟨_, rfl⟩
  rw [← hnm]
  have hmem : ∀ y, y ∈ nm ↔ y ∈ f.now.ml.map Prod.fst := fun y => by rw [hnm]; unfold sortS; exact List.mem_mergeSort
  refine j_q (qs_ac) ?_
  refine j_q (qs_ac) ?_
  refine j_q (qs_pnil Try.underlying25 rfl) ?_
  refine j_g rfl (fun hb => qs_mt rfl) ?_
  refine j_g rfl (fun hb => qs_nil (gd_eq hb)) ?_
  refine j_g rfl (fun hb => qs_field Try.underlying62 rfl sz58 (by decide) (gd_eq hb)) ?_
  refine j_g rfl (fun hb => qs_loadO (rdo_base (FM.in_gf hin) (by simp)) Try.underlying58 rfl (gd_eq hb) rfl) ?_
  refine j_g rfl (fun hb => qs_pnil Try.underlying58 (gd_eq hb)) ?_
  refine j_q (qs_or rfl rfl) ?_
  refine j_g rfl (fun hb => qs_mt rfl) ?_
  refine j_g rfl (fun hb => qs_nil (gd_eq hb)) ?_
  refine j_g rfl (fun hb => qs_field Try.underlying62 rfl sz58 (by decide) (gd_eq hb)) ?_
  refine j_g rfl (fun hb => qs_loadO (rdo_base (FM.in_gf hin) (by simp)) Try.underlying58 rfl (gd_eq hb) rfl) ?_
  refine j_g rfl (fun hb => qs_nil (gd_eq hb)) ?_
  refine j_g rfl (fun hb => qs_field Try.underlying66 rfl sz64 (by decide) (gd_eq hb)) ?_
  refine j_g rfl (fun hb => qs_loadO (rdo_base (SM.in_gs (FM.in_now hin)) (by simp)) Try.underlying64 rfl (gd_eq hb) rfl) ?_
  refine j_g rfl (fun hb => qs_mt rfl) ?_
  refine j_g rfl (fun hb => qs_lookupR (key := n) strKey (rdo_base (SM.in_gm (FM.in_now hin)) (by simp)) Try.underlying64 zv63 (gd_eq hb) (gd_eq hb) hok.raw.map hn) ?_
  rw [mlook_map fptr, getD_fptr, hlk, Option.map_some]
  refine j_g rfl (fun hb => qs_pnil Try.underlying63 (gd_eq hb)) ?_
  refine j_q (qs_or rfl rfl) ?_
  refine j_cond rfl (fun hc0 => ?_) (fun hc0 => ?_)
  · skip
    simp [gd] at hc0
  · skip
    refine j_q (qs_nil rfl) ?_
    refine j_q (qs_field Try.underlying62 rfl sz58 (by decide) rfl) ?_
    refine j_q (qs_loadO (rdo_base (FM.in_gf hin) (by simp)) Try.underlying58 rfl rfl rfl) ?_
    refine j_q (qs_nil rfl) ?_
    refine j_q (qs_field Try.underlying66 rfl sz64 (by decide) rfl) ?_
    refine j_q (qs_loadO (rdo_base (SM.in_gs (FM.in_now hin)) (by simp)) Try.underlying64 rfl rfl rfl) ?_
    refine j_q (qs_lookupR (key := n) strKey (rdo_base (SM.in_gm (FM.in_now hin)) (by simp)) Try.underlying64 zv63 rfl rfl hok.raw.map hn) ?_
    rw [mlook_map fptr, getD_fptr, hlk, Option.map_some]
    refine j_q (qs_nil rfl) ?_
    refine j_q (qs_field Try.underlying73 rfl sz71 (by decide) rfl) ?_
    refine j_q (qs_call ent33 rfl rfl rfl (fun w' hw' => aload_con x.g 1 (flcells x) 73 (0, 0) x.k w' (SM.in_f (FM.in_now (in_any hin hw')) hx) rfl)) ?_
    refine j_q (qs_eql rfl rfl) ?_
    refine j_cond rfl (fun hc1 => ?_) (fun hc1 => ?_)
    · skip
      have hk1 : x.k = 1 := by simpa using hc1
      refine j_q (qs_ac) ?_
      refine j_ret_con (vs := [_, _]) (fun w' hw' => ⟨rfl, rfl, trivial⟩) ?_
      exact ⟨n, by rw [hk1]; rfl, fun _ => rfl, fun h => absurd hk1 h⟩
    · skip
      have hk1 : x.k ≠ 1 := by simpa using hc1
      refine j_q (qs_nil rfl) ?_
      refine j_q (qs_field Try.underlying62 rfl sz58 (by decide) rfl) ?_
      refine j_q (qs_loadO (rdo_base (FM.in_gf hin) (by simp)) Try.underlying58 rfl rfl rfl) ?_
      refine j_q (qs_nil rfl) ?_
      refine j_q (qs_field Try.underlying66 rfl sz64 (by decide) rfl) ?_
      refine j_q (qs_loadO (rdo_base (SM.in_gs (FM.in_now hin)) (by simp)) Try.underlying64 rfl rfl rfl) ?_
      refine j_call0 ent42 rfl rfl rfl (fun w' hw' => keysN_con (some f.now.gm) w') (fun u S2 hu => ?_)
      obtain ⟨gk, rfl, rfl⟩ := hu
      refine j_subl (S' := [[(gk, .cells [.map (some f.now.gm)].toArray 64 (0, 0))]]) (by repeat first | exact slR _ | exact slN _ | apply slC | apply slD) ?_
      refine j_call0 ent41 rfl rfl rfl (fun w' hw' => sortedNames_con gk f.now.gm w' (lt_of_get (hw'.own (gk, .cells [.map (some f.now.gm)].toArray 64 (0, 0)) (by simp))) (by rw [cell_of (hw'.own (gk, .cells [.map (some f.now.gm)].toArray 64 (0, 0)) (by simp))]; rfl) (SM.in_gm (FM.in_now (in_any hin hw'))) hok.raw.map (by rw [List.length_map]; omega)) (fun u S2 hu => ?_)
      obtain ⟨kc, rfl, hok0⟩ := hu
      rw [show (f.now.ml.map fun q => (q.1, fptr q.2)).map Prod.fst = f.now.ml.map Prod.fst by rw [List.map_map]; rfl, ← hnm] at hok0
      refine j_subl (S' := [kc]) (by repeat first | exact slR _ | exact slN _ | apply slC | apply slD) ?_
      obtain ⟨nk, Ak, capk, rfl, hnk⟩ := own_form hok0 (by decide)
      rw [strs_len, Nat.mul_one] at hnk
      subst hnk
      have hnl : nm.length ≤ 1000000 := by
        rw [hnm]
        unfold sortS
        rw [(List.mergeSort_perm _ _).length_eq, List.length_map]
        exact hml
      refine j_q (qs_lenl Try.underlying41 rfl) ?_
      refine j_q (qs_mc) ?_
      refine j_loop (fun m vs S' => ∃ i : Nat, vs = [.int .i64 (i : Int)] ∧ S' = [kc] ∧ (∀ j, j < i → alook f.now.ml (nm.getD j []) ≠ some (x.g, x.id)) ∧ i ≤ nm.length ∧ m = nm.length - i) ⟨_, 0, rfl, rfl, (fun j hj => by omega), Nat.zero_le _, rfl⟩ ?_
      rintro m vs S' hlen ⟨i, rfl, rfl, hall, hi, rfl⟩
      refine j_q (qs_lss rfl rfl) ?_
      refine j_cond rfl (fun hc2 => ?_) (fun hc2 => ?_)
      · skip
        have hi1 : i < nm.length := by
          simp only [bnA] at *
          omega
        obtain ⟨gq, rfl⟩ := own_addr hok0 (by rw [strs_len]; omega)
        have hnx : strOk (nm.getD i []) := by
          have h1 : (nm.getD i []) ∈ nm := by rw [List.getD_eq_getElem?_getD, List.getElem?_eq_getElem hi1]; exact List.getElem_mem hi1
          obtain ⟨q, hq, e⟩ := List.mem_map.1 ((hmem _).1 h1)
          rw [← e]
          exact hok.raw.map.keys (q.1, fptr q.2) (List.mem_map.2 ⟨q, hq, rfl⟩)
        refine j_q (qs_ixn (i := i) Try.underlying41 sz9 rfl rfl hi1) ?_
        refine j_q (qs_loadR (v := .string (bs (nm.getD i []))) (a := ⟨gq, 0, none⟩) (i := i) (own_rd hok0 0 rfl) Try.underlying9 rfl (by rw [add_off]; show Value.pointer (some ⟨gq, 0 + i * 1, none⟩) = _; rw [Nat.mul_one]) (str_get hi1)) ?_
        refine j_q (qs_nil rfl) ?_
        refine j_q (qs_field Try.underlying62 rfl sz58 (by decide) rfl) ?_
        refine j_q (qs_loadO (rdo_base (FM.in_gf hin) (by simp)) Try.underlying58 rfl rfl rfl) ?_
        refine j_q (qs_nil rfl) ?_
        refine j_q (qs_field Try.underlying66 rfl sz64 (by decide) rfl) ?_
        refine j_q (qs_loadO (rdo_base (SM.in_gs (FM.in_now hin)) (by simp)) Try.underlying64 rfl rfl rfl) ?_
        refine j_q (qs_lookupR (key := (nm.getD i [])) strKey (rdo_base (SM.in_gm (FM.in_now hin)) (by simp)) Try.underlying64 zv63 rfl rfl hok.raw.map hnx) ?_
        rw [mlook_map fptr, getD_fptr]
        refine j_q (qs_peq Try.underlying63 sz73 (by decide) rfl rfl (fun a' ha' => by
          obtain ⟨p, hp, rfl⟩ := Option.map_eq_some_iff.1 ha'
          obtain ⟨y, hy, h1, h2⟩ := hok.raw.has _ (alook_mem hp)
          simp only at h1
          rw [← h1]
          exact ⟨_, _, rdo_base (SM.in_f (FM.in_now hin) hy) (by simp)⟩) ⟨_, _, rdo_base (SM.in_f (FM.in_now hin) hx) (by simp)⟩) ?_
        refine j_cond rfl (fun hc3 => ?_) (fun hc3 => ?_)
        · skip
          have hlk2 : alook f.now.ml (nm.getD i []) = some (x.g, x.id) := by
            cases hq : alook f.now.ml (nm.getD i []) with
            | none => rw [hq] at hc3; simp at hc3
            | some p =>
              rw [hq] at hc3
              have h1 : p.1 = x.g := by simpa using hc3
              obtain ⟨y, hy, h2, h3⟩ := hok.raw.has _ (alook_mem hq)
              have h4 := fs_uniq hok.raw hx hy (h2.trans h1)
              rw [h4] at h3
              exact congrArg some (Prod.ext h1 h3.symm)
          refine j_q (qs_nil rfl) ?_
          refine j_q (qs_field Try.underlying73 rfl sz71 (by decide) rfl) ?_
          refine j_q (qs_call ent33 rfl rfl rfl (fun w' hw' => aload_con x.g 1 (flcells x) 73 (0, 0) x.k w' (SM.in_f (FM.in_now (in_any hin hw')) hx) rfl)) ?_
          refine j_q (qs_conv Try.underlying21 Try.underlying3 rfl) ?_
          refine j_ret_con (vs := [_, _]) (fun w' hw' => ⟨rfl, rfl, trivial⟩) ?_
          refine ⟨(nm.getD i []), ?_, fun h => absurd h hk1, fun _ => ⟨i, hi1, rfl, hlk2, hall⟩⟩
          show Value.tuple _ = _
          rw [show IntKind.i64.wrap x.k = x.k from IntWalk.i64_in _ (by omega)]
          rfl
        · skip
          have hne : alook f.now.ml (nm.getD i []) ≠ some (x.g, x.id) := fun e => by
            rw [e] at hc3
            simp at hc3
          refine j_q (qs_add64 rfl rfl (by first | omega | (simp only [bnA] at *; omega))) ?_
          refine j_back rfl ?_
          exact ⟨nm.length - (i + 1), by omega, i + 1, rfl, rfl, fun j hj => by
            rcases Nat.lt_or_ge j i with h | h
            · exact hall j h
            · obtain rfl : j = i := by omega
              exact hne, by omega, rfl⟩
      · skip
        have hi2 : i = nm.length := by
          simp only [bnA] at *
          omega
        have hn1 : n ∈ nm := (hmem n).2 (List.mem_map.2 ⟨_, alook_mem hlk, rfl⟩)
        obtain ⟨j, hj, e⟩ := List.getElem_of_mem hn1
        refine absurd ?_ (hall j (by omega))
        rw [List.getD_eq_getElem?_getD, List.getElem?_eq_getElem hj, Option.getD_some, e]
        exact hlk
end Go.Proofs.Ytckpegkpdepokaa
/-! Fs11 -/
namespace Go.Proofs.Ytckpegkpdepokaa
open Go Go.Sx
set_option maxRecDepth 100000
set_option maxHeartbeats 4000000
set_option linter.unusedVariables false
set_option linter.unusedSimpArgs false
attribute [local irreducible] J JQ QS Con W opW
open Go.MapKept Go.WideMaps Go.Maps
theorem sep_head {b : Base} {g : Nat} {o : Obj} {H : SH} {S : List SH} {w : World} (hw : Sig b ([(g, o)] :: H :: S) w) {A : Nat} : ∀ (a : Addr) (m c : Nat), Value.slice (some ⟨g, 0, none⟩) A A = .slice (some a) m c → 0 < m → a.block ∉ dom H := fun a m c e _ hm => by
  injection e with e1
  injection e1 with e1
  have hnd := hw.nodup
  simp only [dom, List.flatten_cons, List.map_append, List.map_cons, List.map_nil, List.cons_append, List.nil_append, List.nodup_cons] at hnd
  rw [← e1] at hm
  exact hnd.1 (List.mem_append_left _ hm)
theorem br_lit {w : World} {g : Nat} {xs : List UInt8} {fz : Nat × Nat} (hg : w.heap[g]? = some (.cells (ints xs).toArray 5 fz)) : BR w (.slice (some ⟨g, 0, none⟩) xs.length xs.length) xs := .inr ⟨_, _, rfl, Nat.le_refl _, fun _ => lt_of_get hg, fun j u hu => by
  rw [add_off, Nat.zero_add, cell_of hg]
  exact hu⟩
theorem known_con (w : World) : Con Try.prog 9 [] w [] fun v _ => v = .bool true := by
  refine con_of_tree mix Try.func9 T9_ok (by kernel_rfl) ?_
  unfold T9
  refine j_q (qs_ac) ?_
  refine j_call0 ent10 rfl rfl rfl (fun w' hw' => new_con 100 w' (by decide) (by decide)) (fun u S2 hu => ?_)
  obtain ⟨f0, rfl, rfl, hok0, hroom0, hfu0, hleft0, hP0, hts0, hml0, hfs0, hus0⟩ := hu
  refine j_subl (S' := [f0.heap]) (by repeat first | exact slR _ | exact slN _ | apply slC | apply slD) ?_
  refine j_q (qs_ext (vs := [f0.ptr, .int .i64 0]) rfl rfl) ?_
  refine j_q (qs_ext (vs := [f0.ptr, .int .i64 0]) rfl rfl) ?_
  refine j_q (qs_neq rfl rfl) ?_
  refine j_g rfl (fun hb => qs_mt rfl) ?_
  refine j_g rfl (fun hb => qs_pnil Try.underlying25 (gd_eq hb)) ?_
  refine j_q (qs_or rfl rfl) ?_
  refine j_g rfl (fun hb => qs_mt rfl) ?_
  refine j_ga rfl ?_
  refine j_lit (vs := [.int .u8 120]) Try.underlying23 sz5 zero5 rfl (by simp [oneV]) ⟨rfl, by decide⟩ (fun g9 v9 c9 hv9 hc9 ho9 => ?_)
  subst hv9 hc9
  refine j_ga rfl ?_
  refine j_convsl 0 Try.underlying23 Try.underlying5 rfl rfl ?_
  refine j_ga rfl ?_
  refine j_call 1 ent13 rfl rfl rfl rfl (fun w' hw' => write_con f0 0 (by decide) [97] _ [120] w' hok0 (by rw [hleft0]; decide) (by decide) (br_lit (xs := [120]) (fz := (1, 2)) (hw'.own (g9, .cells [.int .u8 120].toArray 5 (1, 2)) (by simp))) (sep_head hw') (by decide) (by rw [hfs0, hus0]; decide) (by rw [hus0]; decide) hfu0 (by rw [hus0, hroom0]; decide) (by decide) (by decide) 0 (by rw [hfs0]; intro x hx; cases hx) (by rw [hml0]; rfl) (by rw [hml0]; decide)) (fun u S2 hu => ?_)
  obtain ⟨rfl, s1, A2, _, more1, P1, t1, tv1, tc1, rfl, hrow1, ⟨es1, ck1, g1, hs1⟩, hraw1, ⟨cc1, hrv1⟩, _, hgs1⟩ := hu
  have hml1 : s1.ml = [([97], (g1, 0))] := by rw [hs1]; simp [writeM, givesM, newM, letsM, hml0, hfs0, bump, alook]
  have hfs1 : s1.fs = [⟨g1, 0, clipV [120] A2, [120], 1⟩] := by rw [hs1]; simp [writeM, givesM, newM, letsM, hml0, hfs0, bump, alook]
  have hus1 : s1.used = 1 := by rw [hs1]; simp [writeM, givesM, newM, letsM, hml0, hfs0, hus0, bump, alook]
  obtain ⟨f1, hf1⟩ : ∃ y : FM, y = doneF { f0 with more := more1, P := P1 } s1 P1 t1 tv1 tc1 := ⟨_, rfl⟩
  have hok1 : f1.Ok 1 := by
    rw [hf1]
    refine ⟨hrow1, ?_, hraw1, fun x hx => ?_, hok0.lpv⟩
    · show (f0.ts ++ [t1]).length ≤ 1
      rw [hts0]
      simp
    · have hx' : x ∈ s1.fs := hx
      rw [hfs1, List.mem_singleton] at hx'
      rw [hx']
      exact Vw.clip g1 hrv1 rfl
  have hn1 : f1.now = s1 := by rw [hf1]
  have hfu1 : f1.fused = false := by rw [hf1]; exact hfu0
  have hl1 : f1.left = 0 := by
    rw [hf1]
    show (if f0.fused then f0.left - 1 else f0.left) = 0
    rw [hfu0]
    exact hleft0
  have hroom1 : f1.room = 100 := by rw [hf1]; exact hroom0
  have hp1 : f0.ptr = f1.ptr := by rw [hf1]
  have hts1 : f1.ts.length = 1 := by
    rw [hf1]
    show (f0.ts ++ [t1]).length = 1
    rw [hts0]
    rfl
  rw [← hn1] at hml1 hfs1 hus1
  refine j_subl (S' := [f1.heap]) (by rw [hf1]; exact (by repeat first | exact slR _ | exact slN _ | apply slC | apply slD)) ?_
  rw [hp1]
  refine j_g rfl (fun hb => qs_neq (gd_eq hb) rfl) ?_
  refine j_q (qs_or rfl rfl) ?_
  refine j_g rfl (fun hb => qs_mt rfl) ?_
  refine j_ga rfl ?_
  refine j_call 0 ent15 rfl rfl rfl rfl (fun w' hw' => link_con f1 1 (by decide) [97] [98] w' hok1 (by rw [hl1]; decide) (by decide) (by decide) hfu1 (by decide) (by decide) (⟨g1, 0, clipV [120] A2, [120], 1⟩ : FL) (by rw [hfs1]; simp) (by rw [hml1]; rfl) (by show (1 : Int) + 1 ≤ 1000000; decide) (by rw [hml1]; rfl) (by rw [hml1]; simp)) (fun u S2 hu => ?_)
  obtain ⟨rfl, s2, more2, t2, tv2, tc2, rfl, hrow2, ⟨es2, ck2, hs2⟩, hraw2⟩ := hu
  have hml2 : s2.ml = [([97], (g1, 0)), ([98], (g1, 0))] := by rw [hs2]; simp [givesM, letsM, hml1, hfs1, bump, alook]
  have hfs2 : s2.fs = [⟨g1, 0, clipV [120] A2, [120], 2⟩] := by rw [hs2]; simp [givesM, letsM, hml1, hfs1, bump, alook]
  have hus2 : s2.used = 1 := by rw [hs2]; simp [givesM, letsM, hml1, hfs1, hus1, bump, alook]
  obtain ⟨f2, hf2⟩ : ∃ y : FM, y = doneF { f1 with more := more2 } s2 f1.P t2 tv2 tc2 := ⟨_, rfl⟩
  have hok2 : f2.Ok 2 := by
    rw [hf2]
    refine ⟨hrow2, ?_, hraw2, fun x hx => ?_, hok1.lpv⟩
    · show (f1.ts ++ [t2]).length ≤ 2
      rw [List.length_append, hts1]
      simp
    · have hx' : x ∈ s2.fs := hx
      rw [hfs2, List.mem_singleton] at hx'
      rw [hx']
      exact hok1.vw (⟨g1, 0, clipV [120] A2, [120], 1⟩ : FL) (by rw [hfs1]; simp)
  have hn2 : f2.now = s2 := by rw [hf2]
  have hfu2 : f2.fused = false := by rw [hf2]; exact hfu1
  have hl2 : f2.left = 0 := by
    rw [hf2]
    show (if f1.fused then f1.left - 1 else f1.left) = 0
    rw [hfu1]
    exact hl1
  have hroom2 : f2.room = 100 := by rw [hf2]; exact hroom1
  have hp2 : f1.ptr = f2.ptr := by rw [hf2]
  have hts2 : f2.ts.length = 2 := by
    rw [hf2]
    show (f1.ts ++ [t2]).length = 2
    rw [List.length_append, hts1]
    rfl
  rw [← hn2] at hml2 hfs2 hus2
  refine j_subl (S' := [f2.heap]) (by rw [hf2]; exact (by repeat first | exact slR _ | exact slN _ | apply slC | apply slD)) ?_
  rw [hp2]
  refine j_g rfl (fun hb => qs_neq (gd_eq hb) rfl) ?_
  refine j_q (qs_or rfl rfl) ?_
  refine j_g rfl (fun hb => qs_mt rfl) ?_
  refine j_ga rfl ?_
  refine j_lit (vs := [.int .u8 121]) Try.underlying23 sz5 zero5 rfl (by simp [oneV]) ⟨rfl, by decide⟩ (fun g19 v19 c19 hv19 hc19 ho19 => ?_)
  subst hv19 hc19
  refine j_ga rfl ?_
  refine j_convsl 0 Try.underlying23 Try.underlying5 rfl rfl ?_
  refine j_ga rfl ?_
  refine j_call 1 ent16 rfl rfl rfl rfl (fun w' hw' => append_con f2 2 (by decide) [98] _ [121] w' hok2 (by rw [hl2]; decide) (by decide) (br_lit (xs := [121]) (fz := (1, 2)) (hw'.own (g19, .cells [.int .u8 121].toArray 5 (1, 2)) (by simp))) (sep_head hw') (by decide) (by rw [hfs2, hus2]; simp [tot]) (by rw [hus2]; decide) hfu2 (by rw [hus2, hroom2]; decide) (by decide) (by decide) (⟨g1, 0, clipV [120] A2, [120], 2⟩ : FL) (by rw [hfs2]; simp) (by rw [hml2]; rfl) (by simp)) (fun u S2 hu => ?_)
  obtain ⟨rfl, v3, more3, P3, t3, tv3, tc3, rfl, hrow3, hraw3, hvw3⟩ := hu
  have hfs3 : (appM f2.now 0 v3 [121]).fs = [⟨g1, 0, v3, [120, 121], 2⟩] := by simp [appM, hfs2, app1]
  obtain ⟨f3, hf3⟩ : ∃ y : FM, y = doneF { f2 with more := more3, P := P3 } (appM f2.now 0 v3 [121]) P3 t3 tv3 tc3 := ⟨_, rfl⟩
  have hok3 : f3.Ok 3 := by
    rw [hf3]
    refine ⟨hrow3, ?_, hraw3, hvw3, hok2.lpv⟩
    show (f2.ts ++ [t3]).length ≤ 3
    rw [List.length_append, hts2]
    simp
  have hn3 : f3.now = appM f2.now 0 v3 [121] := by rw [hf3]
  have hml3 : f3.now.ml = [([97], (g1, 0)), ([98], (g1, 0))] := by rw [hn3]; exact hml2
  have hp3 : f2.ptr = f3.ptr := by rw [hf3]
  rw [← hn3] at hfs3
  refine j_subl (S' := [f3.heap]) (by rw [hf3]; exact (by repeat first | exact slR _ | exact slN _ | apply slC | apply slD)) ?_
  rw [hp3]
  refine j_g rfl (fun hb => qs_neq (gd_eq hb) rfl) ?_
  refine j_q (qs_or rfl rfl) ?_
  refine j_cond rfl (fun hc0 => ?_) (fun hc0 => ?_)
  · skip
    simp [gd] at hc0
  · skip
    refine j_call0 ent11 rfl rfl rfl (fun w' hw' => read_con f3 3 [97] w' (in_own hw' 0 rfl) hok3 (by decide) (⟨g1, 0, v3, [120, 121], 2⟩ : FL) (by rw [hfs3]; simp) (by rw [hml3]; rfl)) (fun u S2 hu => ?_)
    obtain ⟨vr, Q, rfl, rfl, hrvr⟩ := hu
    refine j_subl (S' := [ph Q, f3.heap]) (by repeat first | exact slR _ | exact slN _ | apply slC | apply slD) ?_
    refine j_q (qs_ext (vs := [vr, .int .i64 0]) rfl rfl) ?_
    refine j_q (qs_ext (vs := [vr, .int .i64 0]) rfl rfl) ?_
    refine j_call0 ent17 rfl rfl rfl (fun w' hw' => node_con f3 3 [98] w' (in_own hw' 1 rfl) hok3 (by decide) (⟨g1, 0, v3, [120, 121], 2⟩ : FL) (by rw [hfs3]; simp) (by rw [hml3]; rfl) (by rw [hml3]; simp)) (fun u S2 hu => ?_)
    obtain ⟨first, rfl, _, hfirst⟩ := hu
    obtain ⟨i, hi, hfe, hfl, hfa⟩ := hfirst (by simp)
    rw [hml3] at hi hfe hfl hfa
    have hso : sortS (List.map Prod.fst [(([97] : List UInt8), (g1, 0)), ([98], (g1, 0))]) = [[97], [98]] := sortAB
    rw [hso] at hi hfe hfa
    obtain rfl : i = 0 := by
      rcases Nat.eq_zero_or_pos i with h | h
      · exact h
      · exact absurd rfl (hfa 0 h)
    obtain rfl : first = [97] := hfe
    refine j_subl (S' := [ph Q, f3.heap]) (List.sublist_append_right _ _) ?_
    refine j_q (qs_ext (vs := [.string (bs [97]), .int .i64 2]) rfl rfl) ?_
    refine j_q (qs_ext (vs := [.string (bs [97]), .int .i64 2]) rfl rfl) ?_
    refine j_q (qs_eql rfl rfl) ?_
    refine j_g rfl (fun hb => qs_mt rfl) ?_
    refine j_ga rfl ?_
    refine j_lit (vs := [.int .u8 120, .int .u8 121]) Try.underlying23 sz5 zero5 rfl (by simp [oneV]) ⟨rfl, by decide⟩ (fun g33 v33 c33 hv33 hc33 ho33 => ?_)
    subst hv33 hc33
    refine j_ga rfl ?_
    refine j_convsl 0 Try.underlying23 Try.underlying5 rfl rfl ?_
    refine j_gt rfl (qs_call ent14 rfl rfl rfl (fun w' hw' => same_con [120, 121] [120, 121] _ _ w' (br_rv hrvr (in_own hw' 1 rfl)) (br_lit (xs := [120, 121]) (fz := (2, 3)) (hw'.own (g33, .cells [Value.int .u8 120, Value.int .u8 121].toArray 5 (2, 3)) (by simp))) (by decide))) ?_
    refine j_q (qs_and rfl rfl) ?_
    refine j_g rfl (fun hb => qs_mt rfl) ?_
    refine j_g rfl (fun hb => qs_seql (gd_eq hb) rfl) ?_
    refine j_q (qs_and rfl rfl) ?_
    refine j_g rfl (fun hb => qs_mt rfl) ?_
    refine j_g rfl (fun hb => qs_eql (gd_eq hb) rfl) ?_
    refine j_q (qs_and rfl rfl) ?_
    refine j_ret_con (vs := [_]) (fun w' hw' => ⟨rfl, trivial⟩) ?_
    rfl
end Go.Proofs.Ytckpegkpdepokaa
/-! Fs12 -/
namespace Go.Proofs.Ytckpegkpdepokaa
open Go Go.Sx
set_option maxRecDepth 100000
set_option maxHeartbeats 4000000
set_option linter.unusedVariables false
set_option linter.unusedSimpArgs false
attribute [local irreducible] J JQ QS Con W opW
open Go.MapKept Go.WideMaps Go.Maps
theorem base_sep {w w' : World} {v : Value} {xs : List UInt8} {S : List SH} (h : BR w v xs) (hs : Sig ⟨w, dom []⟩ S w') {H : SH} (k : Nat) (hk : S[k]? = some H) : ∀ (a : Addr) (m c : Nat), v = .slice (some a) m c → 0 < m → a.block ∉ dom H := fun a m c e h0 hm => by
  rcases h with ⟨h1, _⟩ | ⟨a', cap, h1, _, h3, _⟩
  · rw [h1] at e; cases e
  · rw [h1] at e
    injection e with e1 e0
    injection e1 with e1
    obtain ⟨q, hq, e2⟩ := List.mem_map.1 hm
    rcases hs.dom_ a.block (List.mem_map.2 ⟨q, mem_flatten_of hk hq, e2⟩) with h | h
    · simp [dom] at h
    · have h4 := h3 (by rw [e0]; exact h0)
      rw [e1] at h4
      exact absurd h (Nat.not_le.2 h4)
theorem br0 {w w' : World} {v : Value} {xs : List UInt8} {S : List SH} (h : BR w v xs) (hs : Sig ⟨w, dom []⟩ S w') : BR w' v xs := br_keep h (fun a m c e _ => by simp [dom]) hs
end Go.Proofs.Ytckpegkpdepokaa
/-! Fs13 -/
namespace Go.Proofs.Ytckpegkpdepokaa
open Go Go.Sx
set_option maxRecDepth 100000
set_option maxHeartbeats 4000000
set_option linter.unusedVariables false
set_option linter.unusedSimpArgs false
attribute [local irreducible] J JQ QS Con W opW
open Go.MapKept Go.WideMaps Go.Maps
end Go.Proofs.Ytckpegkpdepokaa
/-! Fs14 -/
namespace Go.Proofs.Ytckpegkpdepokaa
open Go Go.Sx
set_option maxRecDepth 100000
set_option maxHeartbeats 4000000
set_option linter.unusedVariables false
set_option linter.unusedSimpArgs false
attribute [local irreducible] J JQ QS Con W opW
open Go.MapKept Go.WideMaps Go.Maps
theorem letsM_none {s : SM} {n : List UInt8} (hl : alook s.ml n = none) : letsM s n = s := by
  unfold letsM
  rw [hl]
theorem gives_fresh {s : SM} {n : List UInt8} {id : Nat} {v : Value} {xs : List UInt8} {g : Nat} (hl : alook s.ml n = none) (hid : ∀ f ∈ s.fs, f.id ≠ id) : givesM (newM s id v xs g) n (g, id) = { s with ml := s.ml ++ [(n, (g, id))], fs := ⟨g, id, v, xs, 1⟩ :: s.fs } := by
  have hb : bump ((⟨g, id, v, xs, 0⟩ : FL) :: s.fs) id 1 = ⟨g, id, v, xs, 1⟩ :: s.fs := by
    have e : bump ((⟨g, id, v, xs, 0⟩ : FL) :: s.fs) id 1 = (if id = id then (⟨g, id, v, xs, 0 + 1⟩ : FL) else ⟨g, id, v, xs, 0⟩) :: bump s.fs id 1 := rfl
    rw [e, if_pos rfl, bump_off hid]
    rfl
  have h1 : alook (newM s id v xs g).ml n ≠ some (g, id) := by
    show alook s.ml n ≠ _
    rw [hl]
    exact fun e => by cases e
  unfold givesM
  rw [if_neg h1, letsM_none (by exact hl)]
  show ({ s with ml := s.ml ++ [(n, (g, id))], fs := bump ((⟨g, id, v, xs, 0⟩ : FL) :: s.fs) id 1 } : SM) = _
  rw [hb]
theorem tot_cons (x : FL) (fs : List FL) : tot (x :: fs) = x.xs.length + tot fs := by simp [tot]
theorem tot_filter {s : SM} (h : Raw s) {x : FL} (hx : x ∈ s.fs) : tot (s.fs.filter fun y => decide (y.id ≠ x.id)) + x.xs.length = tot s.fs := by
  obtain ⟨a, b, hab⟩ := List.append_of_mem hx
  have hids := h.ids
  rw [hab] at hids ⊢
  rw [filter_split hids, tot_split]
end Go.Proofs.Ytckpegkpdepokaa
/-! Ft0 -/
namespace Go.Proofs.Ytckpegkpdepokaa
open Go Go.Sx Go.MapKept Go.WideMaps Go.Maps
set_option maxRecDepth 100000
set_option linter.unusedVariables false
set_option linter.unusedSimpArgs false
set_option linter.unusedSectionVars false
structure AS where
  nm : List (List UInt8 × Nat)
  dt : Nat → List UInt8
  used : Int
def cntA (nm : List (List UInt8 × Nat)) (i : Nat) : Nat := (nm.filter fun q => decide (q.2 = i)).length
def updA (d : Nat → List UInt8) (i : Nat) (xs : List UInt8) : Nat → List UInt8 := fun j => if j = i then xs else d j
def letsA (a : AS) (n : List UInt8) : AS :=
  match alook a.nm n with
  | none => a
  | some i => { a with nm := mdel a.nm n, used := if cntA a.nm i = 1 then a.used - ((a.dt i).length : Int) else a.used }
def givesA (a : AS) (n : List UInt8) (i : Nat) : AS := if alook a.nm n = some i then a else { letsA a n with nm := (letsA a n).nm ++ [(n, i)] }
def writeA (a : AS) (n xs : List UInt8) (i : Nat) : AS := let b := givesA { letsA a n with dt := updA (letsA a n).dt i xs } n i; { b with used := b.used + (xs.length : Int) }
def appA (a : AS) (n xs : List UInt8) : AS :=
  match alook a.nm n with
  | none => a
  | some i => { a with dt := updA a.dt i (a.dt i ++ xs), used := a.used + (xs.length : Int) }
inductive AT where
  | wr (n xs : List UInt8) (i : Nat)
  | ap (n xs : List UInt8)
  | li (old n : List UInt8)
  | rn (old n : List UInt8)
  | rm (n : List UInt8)
def doA (a : AS) : AT → AS
  | .wr n xs i => writeA a n xs i
  | .ap n xs => appA a n xs
  | .li old n => match alook a.nm old with | none => a | some i => givesA a n i
  | .rn old n => if old = n then a else match alook a.nm old with | none => a | some i => letsA (givesA a n i) old
  | .rm n => letsA a n
def limA (a : AS) : Prop := a.used ≤ 1073741824 ∧ a.nm.length ≤ 16384
def canA (a : AS) : AT → Prop
  | .wr n xs i => ∀ q ∈ a.nm, q.2 ≠ i
  | .ap n xs => ∃ i, alook a.nm n = some i ∧ (a.dt i).length + xs.length ≤ 1048576
  | .li old n => (alook a.nm old).isSome = true
  | .rn old n => (alook a.nm old).isSome = true
  | .rm n => True
def runA (a : AS) (l : List AT) : AS := l.foldl doA a
def okA (a : AS) : List AT → Prop
  | [] => limA a
  | t :: l => limA a ∧ canA a t ∧ okA (doA a t) l
theorem okA_append {a : AS} {l : List AT} {t : AT} (h : okA a l) (ht : canA (runA a l) t) (hl : limA (doA (runA a l) t)) : okA a (l ++ [t]) := by
  induction l generalizing a with
  | nil => exact ⟨h, ht, hl⟩
  | cons x l ih => exact ⟨h.1, h.2.1, ih h.2.2 ht hl⟩
theorem okA_run {a : AS} {l : List AT} (h : okA a l) (k : Nat) : limA (runA a (l.take k)) := by
  induction l generalizing a k with
  | nil =>
    rw [List.take_nil]
    exact h
  | cons x l ih =>
    cases k with
    | zero => exact h.1
    | succ k => exact ih h.2.2 k
theorem okA_end {a : AS} {l : List AT} (h : okA a l) : limA (runA a l) := by
  have := okA_run h l.length
  rwa [List.take_length] at this
theorem okA_nth {a : AS} {l : List AT} (h : okA a l) {k : Nat} {t : AT} (hk : l[k]? = some t) : canA (runA a (l.take k)) t := by
  induction l generalizing a k with
  | nil => simp at hk
  | cons x l ih =>
    cases k with
    | zero => simp at hk; subst hk; exact h.2.1
    | succ k => exact ih h.2.2 (by simpa using hk)
theorem runA_succ {a : AS} {l : List AT} {k : Nat} {t : AT} (hk : l[k]? = some t) : runA a (l.take (k + 1)) = doA (runA a (l.take k)) t := by
  unfold runA
  rw [List.take_add_one, hk, Option.toList_some, List.foldl_append]
  rfl
theorem runA_snoc {a : AS} {l : List AT} {t : AT} : runA a (l ++ [t]) = doA (runA a l) t := by
  unfold runA
  rw [List.foldl_append]
  rfl
section
variable {κ α β : Type} [DecidableEq κ]
theorem alook_map (f : α → β) (m : List (κ × α)) (k : κ) : alook (m.map fun p => (p.1, f p.2)) k = (alook m k).map f := by
  unfold alook
  induction m with
  | nil => rfl
  | cons p m ih =>
    rw [List.map_cons, List.find?_cons, List.find?_cons]
    split
    · rename_i h1
      simp only at h1
      rw [h1]
      rfl
    · rename_i h1
      simp only at h1
      rw [h1]
      exact ih
theorem alook_perm {m m' : List (κ × α)} (hp : m.Perm m') (hn : (m.map Prod.fst).Nodup) (k : κ) : alook m k = alook m' k := by
  have hn' : (m'.map Prod.fst).Nodup := (hp.map Prod.fst).nodup_iff.1 hn
  cases h : alook m k with
  | some v => exact (alook_of_mem hn' (hp.mem_iff.1 (alook_mem h))).symm
  | none => exact (alook_none.2 fun p hq => alook_none.1 h p (hp.mem_iff.2 hq)).symm
end
structure RepS (s : SM) (a : AS) : Prop where
  nm : (s.ml.map fun p => (p.1, Prod.snd p.2)).Perm a.nm
  dt : ∀ f ∈ s.fs, a.dt f.id = f.xs
  us : s.used = a.used
structure Ex (s : SM) (e : Nat → Int) (z : Nat → Prop) (d : Int) : Prop where
  kc : ∀ f ∈ s.fs, f.k = (cnt s.ml f.id : Int) + e f.id
  pos : ∀ f ∈ s.fs, ¬ z f.id → 1 ≤ f.k
  ut : s.used + d = (tot s.fs : Int)
theorem RepS.look {s : SM} {a : AS} (h : RepS s a) (hr : Raw s) (n : List UInt8) : (alook s.ml n).map Prod.snd = alook a.nm n := by
  rw [← alook_map Prod.snd]
  refine alook_perm h.nm ?_ n
  rw [List.map_map]
  exact hr.nd
theorem RepS.nd {s : SM} {a : AS} (h : RepS s a) (hr : Raw s) : (a.nm.map Prod.fst).Nodup := by
  refine (h.nm.map Prod.fst).nodup_iff.1 ?_
  rw [List.map_map]
  exact hr.nd
theorem RepS.cnt {s : SM} {a : AS} (h : RepS s a) (i : Nat) : cnt s.ml i = cntA a.nm i := by
  unfold Go.Proofs.Ytckpegkpdepokaa.cnt cntA
  rw [← (h.nm.filter _).length_eq, List.filter_map, List.length_map]
  rfl
theorem RepS.len {s : SM} {a : AS} (h : RepS s a) : s.ml.length = a.nm.length := by
  rw [← h.nm.length_eq, List.length_map]
theorem RepS.fresh {s : SM} {a : AS} (h : RepS s a) {i : Nat} (hr : Raw s) {e z d} (he : Ex s e z d) (h0 : ∀ j, e j = 0) (hz : ∀ j, ¬ z j) (hf : ∀ q ∈ a.nm, q.2 ≠ i) : ∀ f ∈ s.fs, f.id ≠ i := fun f hf2 hfi => by
  have h1 := he.kc f hf2
  have h2 := he.pos f hf2 (hz _)
  rw [h0] at h1
  have h3 : 0 < Go.Proofs.Ytckpegkpdepokaa.cnt s.ml f.id := by omega
  unfold Go.Proofs.Ytckpegkpdepokaa.cnt at h3
  obtain ⟨q, hq⟩ := List.exists_mem_of_length_pos h3
  obtain ⟨hq1, hq2⟩ := List.mem_filter.1 hq
  have := hf (q.1, q.2.2) (h.nm.mem_iff.1 (List.mem_map.2 ⟨q, hq1, rfl⟩))
  simp only [decide_eq_true_eq] at hq2
  exact this (hq2.trans hfi)
theorem look_fs {s : SM} (h : Raw s) {n : List UInt8} {p : Nat × Nat} (hl : alook s.ml n = some p) : ∃ f ∈ s.fs, f.g = p.1 ∧ f.id = p.2 ∧ getF s.fs p.2 = some f := by
  obtain ⟨f, hf, hfg, hfi⟩ := h.has _ (alook_mem hl)
  obtain ⟨a, b, hab⟩ := List.append_of_mem hf
  have hids := h.ids
  rw [hab] at hids
  exact ⟨f, hf, hfg, hfi, by rw [hab]; simp only at hfi; rw [← hfi]; exact getF_split hids⟩
theorem look_rep {s : SM} {a : AS} (h : Raw s) (hr : RepS s a) {n : List UInt8} {i : Nat} (hl : alook a.nm n = some i) : ∃ f ∈ s.fs, alook s.ml n = some (f.g, f.id) ∧ f.id = i ∧ f.xs = a.dt i := by
  rw [← hr.look h n] at hl
  obtain ⟨p, hp, rfl⟩ := Option.map_eq_some_iff.1 hl
  obtain ⟨f, hf, h1, h2, _⟩ := look_fs h hp
  exact ⟨f, hf, by rw [hp, h1, h2], h2, by rw [← h2, hr.dt f hf]⟩
theorem look_rep0 {s : SM} {a : AS} (h : Raw s) (hr : RepS s a) {n : List UInt8} (hl : alook a.nm n = none) : alook s.ml n = none := by
  rw [← hr.look h n] at hl
  exact Option.map_eq_none_iff.1 hl
theorem tot_filt {s : SM} (h : Raw s) {x : FL} (hx : x ∈ s.fs) : tot (s.fs.filter fun y => decide (y.id ≠ x.id)) + x.xs.length = tot s.fs := tot_filter h hx
theorem ex_lets {s : SM} (h : Raw s) {e z d} (he : Ex s e z d) (n : List UInt8) : Ex (letsM s n) e z d := by
  unfold letsM
  cases hl : alook s.ml n with
  | none => exact he
  | some p =>
    obtain ⟨f, hf, hfg, hfi, hg⟩ := look_fs h hl
    simp only
    rw [hg]
    simp only
    have hc := cnt_del h.nd hl
    split
    · refine ⟨fun x hx => ?_, fun x hx hz => he.pos x (List.mem_filter.1 hx).1 hz, ?_⟩
      · obtain ⟨hx1, hx2⟩ := List.mem_filter.1 hx
        simp only [decide_eq_true_eq] at hx2
        have h1 := he.kc x hx1
        have h2 := hc x.id
        rw [if_neg (fun e => hx2 e.symm)] at h2
        simp only at h2 ⊢
        omega
      · have h1 := tot_filt h hf
        have h2 := he.ut
        rw [hfi] at h1
        simp only
        omega
    · rename_i hk
      refine ⟨fun x hx => ?_, fun x hx hz => ?_, ?_⟩
      · obtain ⟨y, hy, e1, _, _, _, e5⟩ := mem_bump hx
        have h1 := he.kc y hy
        have h2 := hc y.id
        rw [e1, e5]
        simp only
        by_cases hyp : y.id = p.2
        · rw [if_pos hyp]
          rw [if_pos hyp.symm] at h2
          omega
        · rw [if_neg hyp]
          rw [if_neg (fun e => hyp e.symm)] at h2
          omega
      · obtain ⟨y, hy, e1, _, _, _, e5⟩ := mem_bump hx
        rw [e1] at hz
        have h1 := he.pos y hy hz
        rw [e5]
        by_cases hyp : y.id = p.2
        · rw [if_pos hyp]
          have : y = f := by
            obtain ⟨a, b, hab⟩ := List.append_of_mem hf
            have hids := h.ids
            rw [hab] at hids hy
            rcases List.mem_append.1 hy with hy | hy
            · exact absurd (hyp.trans hfi.symm) ((off_ids hids).1 y hy)
            · rcases List.mem_cons.1 hy with hy | hy
              · exact hy
              · exact absurd (hyp.trans hfi.symm) ((off_ids hids).2 y hy)
          rw [this] at h1 ⊢
          omega
        · rw [if_neg hyp]
          omega
      · show s.used + d = (tot (bump s.fs p.2 (-1)) : Int)
        rw [tot_bump]
        exact he.ut
theorem rep_lets {s : SM} (h : Raw s) {e z d} (he : Ex s e z d) {a : AS} (hr : RepS s a) {n : List UInt8} (h0 : ∀ p, alook s.ml n = some p → e p.2 = 0) : RepS (letsM s n) (letsA a n) := by
  unfold letsM letsA
  rw [← hr.look h n]
  cases hl : alook s.ml n with
  | none => exact hr
  | some p =>
    obtain ⟨f, hf, hfg, hfi, hg⟩ := look_fs h hl
    rw [Option.map_some]
    simp only
    rw [hg]
    simp only
    have hk := he.kc f hf
    rw [hfi, h0 p hl, hr.cnt] at hk
    have hnm : ((mdel s.ml n).map fun p => (p.1, Prod.snd p.2)).Perm (mdel a.nm n) := by
      rw [← mdel_map]
      exact hr.nm.filter _
    have hdt := hr.dt f hf
    rw [hfi] at hdt
    have hus := hr.us
    split
    · rename_i h1
      rw [if_pos (by omega)]
      exact ⟨hnm, fun x hx => hr.dt x (List.mem_filter.1 hx).1, by show s.used - _ = a.used - _; rw [hdt, hus]⟩
    · rename_i h1
      rw [if_neg (by omega)]
      refine ⟨hnm, fun x hx => ?_, hus⟩
      obtain ⟨y, hy, e1, _, _, e4, _⟩ := mem_bump hx
      show a.dt x.id = x.xs
      rw [e1, e4]
      exact hr.dt y hy
theorem id_uniq {s : SM} (h : Raw s) {f x : FL} (hf : f ∈ s.fs) (hx : x ∈ s.fs) (hi : x.id = f.id) : x = f := by
  obtain ⟨a, b, hab⟩ := List.append_of_mem hf
  have hids := h.ids
  rw [hab] at hids hx
  rcases List.mem_append.1 hx with hx | hx
  · exact absurd hi ((off_ids hids).1 x hx)
  · rcases List.mem_cons.1 hx with hx | hx
    · exact hx
    · exact absurd hi ((off_ids hids).2 x hx)
theorem ex_bump {s : SM} (h : Raw s) {e z d} (he : Ex s e z d) {f : FL} (hf : f ∈ s.fs) (h0 : 0 ≤ f.k) : Ex { s with fs := bump s.fs f.id 1 } (fun j => e j + if j = f.id then 1 else 0) (fun j => z j ∧ j ≠ f.id) d := by
  refine ⟨fun x hx => ?_, fun x hx hz => ?_, by show s.used + d = (tot (bump s.fs f.id 1) : Int); rw [tot_bump]; exact he.ut⟩
  · obtain ⟨y, hy, e1, _, _, _, e5⟩ := mem_bump hx
    have h1 := he.kc y hy
    rw [e1, e5]
    simp only
    omega
  · obtain ⟨y, hy, e1, _, _, _, e5⟩ := mem_bump hx
    rw [e5]
    by_cases hyf : y.id = f.id
    · rw [if_pos hyf, id_uniq h hf hy hyf]
      omega
    · rw [if_neg hyf]
      rw [e1] at hz
      have h1 := he.pos y hy (fun hzz => hz ⟨hzz, hyf⟩)
      omega
theorem rep_bump {s : SM} {a : AS} (hr : RepS s a) (i : Nat) (c : Int) : RepS { s with fs := bump s.fs i c } a := by
  refine ⟨hr.nm, fun x hx => ?_, hr.us⟩
  obtain ⟨y, hy, e1, _, _, e4, _⟩ := mem_bump hx
  rw [e1, e4]
  exact hr.dt y hy
theorem cnt_snoc (ml : List (List UInt8 × (Nat × Nat))) (n : List UInt8) (p : Nat × Nat) (i : Nat) : cnt (ml ++ [(n, p)]) i = cnt ml i + if p.2 = i then 1 else 0 := by
  unfold cnt
  rw [List.filter_append, List.length_append, List.filter_cons, List.filter_nil]
  by_cases hx2 : p.2 = i
  · rw [if_pos hx2, if_pos (by simpa using hx2)]; rfl
  · rw [if_neg hx2, if_neg (by simpa using hx2)]; rfl
theorem ex_gives {s : SM} (h : Raw s) {e z d} (he : Ex s e z d) {f : FL} (hf : f ∈ s.fs) (h0 : 0 ≤ f.k) (hk : f.k + 1 ≤ 1000000) (he0 : ∀ j, e j = 0) (n : List UInt8) : Ex (givesM s n (f.g, f.id)) e (fun j => z j ∧ j ≠ f.id) d := by
  unfold givesM
  split
  · rename_i hl
    refine ⟨he.kc, fun x hx hz => ?_, he.ut⟩
    by_cases hxf : x.id = f.id
    · have h1 := he.kc x hx
      have h2 := cnt_pos (alook_mem hl)
      rw [he0, hxf] at h1
      simp only at h2
      omega
    · exact he.pos x hx (fun hzz => hz ⟨hzz, hxf⟩)
  · have h1 := ex_lets (raw_bump h hf hk) (ex_bump h he hf h0) n
    refine ⟨fun x hx => ?_, fun x hx hz => h1.pos x hx hz, h1.ut⟩
    have h2 := h1.kc x hx
    show x.k = ((cnt ((letsM { s with fs := bump s.fs f.id 1 } n).ml ++ [(n, (f.g, f.id))]) x.id : Nat) : Int) + e x.id
    rw [cnt_snoc, h2]
    simp only
    by_cases hxf : x.id = f.id
    · rw [if_pos hxf, if_pos hxf.symm]
      omega
    · rw [if_neg hxf, if_neg (fun q => hxf q.symm)]
      omega
theorem rep_gives {s : SM} (h : Raw s) {e z d} (he : Ex s e z d) {a : AS} (hr : RepS s a) {f : FL} (hf : f ∈ s.fs) (h0 : 0 ≤ f.k) (hk : f.k + 1 ≤ 1000000) (he0 : ∀ j, e j = 0) (n : List UInt8) : RepS (givesM s n (f.g, f.id)) (givesA a n f.id) := by
  have hlk := hr.look h n
  unfold givesM givesA
  by_cases hl : alook s.ml n = some (f.g, f.id)
  · rw [if_pos hl, if_pos (by rw [← hlk, hl]; rfl)]
    exact hr
  · have hne : alook a.nm n ≠ some f.id := fun e2 => by
      rw [← hlk] at e2
      obtain ⟨p, hp, hp2⟩ := Option.map_eq_some_iff.1 e2
      obtain ⟨x, hx, h1, h2, _⟩ := look_fs h hp
      have := id_uniq h hf hx (h2.trans hp2)
      subst this
      exact hl (by rw [hp]; exact congrArg some (Prod.ext h1.symm h2.symm))
    rw [if_neg hl, if_neg hne]
    have h1 := rep_lets (raw_bump h hf hk) (ex_bump h he hf h0) (rep_bump hr f.id 1) (n := n) (fun p hp => by
      have hpf : p.2 ≠ f.id := fun q => hne (by rw [← hlk]; show (alook s.ml n).map Prod.snd = _; rw [show alook s.ml n = some p from hp, Option.map_some, q])
      show e p.2 + (if p.2 = f.id then 1 else 0) = 0
      rw [he0, if_neg hpf]
      rfl)
    refine ⟨?_, h1.dt, h1.us⟩
    show (((letsM { s with fs := bump s.fs f.id 1 } n).ml ++ [(n, (f.g, f.id))]).map fun p => (p.1, Prod.snd p.2)).Perm ((letsA a n).nm ++ [(n, f.id)])
    rw [List.map_append]
    exact h1.nm.append_right _
abbrev E0 : Nat → Int := fun _ => 0
abbrev Z0 : Nat → Prop := fun _ => False
structure Sx' (s : SM) (a : AS) : Prop where
  raw : Raw s
  ex : Ex s E0 Z0 0
  rep : RepS s a
theorem ex_weak {s : SM} {e d} {z z' : Nat → Prop} (h : Ex s e z d) (hz : ∀ j, z j → z' j) : Ex s e z' d := ⟨h.kc, fun f hf hn => h.pos f hf (fun q => hn (hz _ q)), h.ut⟩
theorem ex_new {s : SM} (h : Raw s) (he : Ex s E0 Z0 0) {id : Nat} {v : Value} {xs : List UInt8} {g : Nat} (hid : ∀ f ∈ s.fs, f.id ≠ id) : Ex (newM s id v xs g) E0 (fun j => j = id) (xs.length : Int) := by
  refine ⟨fun f hf => ?_, fun f hf hz => ?_, ?_⟩
  · rcases List.mem_cons.1 hf with rfl | hf
    · show (0 : Int) = ((cnt s.ml id : Nat) : Int) + 0
      rw [cnt_zero h hid]
      rfl
    · exact he.kc f hf
  · rcases List.mem_cons.1 hf with rfl | hf
    · exact absurd rfl hz
    · exact he.pos f hf (fun q => q)
  · have h1 := he.ut
    show s.used + (xs.length : Int) = (tot ((⟨g, id, v, xs, 0⟩ : FL) :: s.fs) : Int)
    rw [tot_cons]
    show _ = ((xs.length + tot s.fs : Nat) : Int)
    omega
theorem rep_new {s : SM} {a : AS} (hr : RepS s a) {id : Nat} {v : Value} {xs : List UInt8} {g : Nat} (hid : ∀ f ∈ s.fs, f.id ≠ id) : RepS (newM s id v xs g) { a with dt := updA a.dt id xs } := by
  refine ⟨hr.nm, fun f hf => ?_, hr.us⟩
  rcases List.mem_cons.1 hf with rfl | hf
  · exact if_pos rfl
  · show updA a.dt id xs f.id = f.xs
    unfold updA
    rw [if_neg (hid f hf)]
    exact hr.dt f hf
theorem lets_ids {s : SM} {n : List UInt8} {id : Nat} (hid : ∀ f ∈ s.fs, f.id ≠ id) : ∀ f ∈ (letsM s n).fs, f.id ≠ id := fun f hf => by
  obtain ⟨y, hy, e, _⟩ := lets_sub hf
  rw [e]
  exact hid y hy
theorem raw_letsE {s : SM} (h : Raw s) (n : List UInt8) : ∃ es, Raw { letsM s n with es := es } := by
  have key : ∃ es, MapOk strEnc strOk es s.ck ((letsM s n).ml.map fun q => (q.1, fptr q.2)) := by
    unfold letsM
    cases hl : alook s.ml n with
    | none => exact ⟨s.es, h.map⟩
    | some p =>
      obtain ⟨f, hf, hfg, hfi, hg⟩ := look_fs h hl
      simp only
      rw [hg]
      simp only
      obtain ⟨i, hi, he⟩ := List.getElem_of_mem (alook_mem hl)
      have := h.map.erase (k := n) (j := i) (v := fptr p) (by rw [List.getElem?_map, List.getElem?_eq_getElem hi, he]; rfl)
      rw [mdel_map] at this
      split <;> exact ⟨_, this⟩
  obtain ⟨es, hm⟩ := key
  exact ⟨es, raw_lets h hm⟩
theorem writeM_fs {s : SM} (h : Raw s) {n : List UInt8} {id : Nat} {v : Value} {xs : List UInt8} {g : Nat} (hid : ∀ f ∈ s.fs, f.id ≠ id) : (writeM s n id v xs g).fs = ⟨g, id, v, xs, 1⟩ :: (letsM s n).fs := by
  unfold writeM
  rw [gives_fresh (letsM_free h n) (lets_ids hid)]
theorem full_write {s : SM} {a : AS} (h : Sx' s a) {n : List UInt8} {id : Nat} {v : Value} {xs : List UInt8} {g : Nat} (hid : ∀ q ∈ a.nm, q.2 ≠ id) {es2 : Array MapEntry} {ck2 : Nat} (hr : Raw { writeM s n id v xs g with es := es2, ck := ck2 }) (hv : ∃ A cap, v = .slice A xs.length cap ∧ xs.length ≤ 1000000000) : Sx' { writeM s n id v xs g with es := es2, ck := ck2 } (writeA a n xs id) := by
  obtain ⟨es, hr0⟩ := raw_letsE h.raw n
  have hid1 := h.rep.fresh h.raw h.ex (fun _ => rfl) (fun _ q => q) hid
  have hid2 := lets_ids (n := n) hid1
  have e1 := ex_lets h.raw h.ex n
  have hgn := hr.gnd
  simp only at hgn
  rw [writeM_fs h.raw hid1, List.map_cons, List.nodup_cons] at hgn
  have hr1 : Raw (newM { letsM s n with es := es } id v xs g) := raw_new hr0 hid2 (fun f hf e => hgn.1 (List.mem_map.2 ⟨f, hf, e⟩)) hv (by
    have := e1.ut
    show (tot (letsM s n).fs : Int) ≤ (letsM s n).used
    omega)
  have r1 := rep_lets h.raw h.ex h.rep (n := n) (fun _ _ => rfl)
  have e2 := ex_new (s := { letsM s n with es := es }) hr0 ⟨e1.kc, e1.pos, e1.ut⟩ (v := v) (xs := xs) (g := g) hid2
  have r2 := rep_new (s := { letsM s n with es := es }) ⟨r1.nm, r1.dt, r1.us⟩ (v := v) (xs := xs) (g := g) hid2
  have e3 := ex_gives hr1 e2 (f := ⟨g, id, v, xs, 0⟩) (List.mem_cons_self ..) (Int.le_refl _) (by show (0 : Int) + 1 ≤ _; decide) (fun _ => rfl) n
  have r3 := rep_gives hr1 e2 r2 (f := ⟨g, id, v, xs, 0⟩) (List.mem_cons_self ..) (Int.le_refl _) (by show (0 : Int) + 1 ≤ _; decide) (fun _ => rfl) n
  have hes : givesM (newM { letsM s n with es := es } id v xs g) n (g, id) = { givesM (newM (letsM s n) id v xs g) n (g, id) with es := es, ck := (letsM s n).ck } := givesM_es (newM (letsM s n) id v xs g) n (g, id) es (letsM s n).ck
  simp only at e3 r3
  rw [hes] at e3 r3
  unfold writeM writeA
  unfold writeM at hr
  refine ⟨hr, ⟨e3.kc, fun f hf hz => e3.pos f hf (fun q => q.2 q.1), ?_⟩, r3.nm, r3.dt, ?_⟩
  · have := e3.ut
    show (givesM (newM (letsM s n) id v xs g) n (g, id)).used + (xs.length : Int) + 0 = (tot (givesM (newM (letsM s n) id v xs g) n (g, id)).fs : Int)
    simp only at this
    omega
  · have := r3.us
    show _ + (xs.length : Int) = _ + (xs.length : Int)
    rw [← this]
theorem full_app {s : SM} {a : AS} (h : Sx' s a) {n : List UInt8} {f : FL} {v : Value} {xs : List UInt8} (hf : f ∈ s.fs) (hl : alook s.ml n = some (f.g, f.id)) (hr1 : Raw (appM s f.id v xs)) : Sx' (appM s f.id v xs) (appA a n xs) := by
  have hla : alook a.nm n = some f.id := by rw [← h.rep.look h.raw n, hl]; rfl
  unfold appA
  rw [hla]
  simp only
  refine ⟨hr1, ⟨fun x hx => ?_, fun x hx hz => ?_, ?_⟩, h.rep.nm, fun x hx => ?_, ?_⟩
  · obtain ⟨y, hy, rfl⟩ := List.mem_map.1 hx
    rw [(app_id _ _ _ y).2.2, (app_id _ _ _ y).1]
    exact h.ex.kc y hy
  · obtain ⟨y, hy, rfl⟩ := List.mem_map.1 hx
    rw [(app_id _ _ _ y).2.2]
    exact h.ex.pos y hy (fun q => q)
  · obtain ⟨p, q, hab⟩ := List.append_of_mem hf
    have hids := h.raw.ids
    rw [hab] at hids
    have hfs : s.fs.map (app1 f.id v xs) = p ++ { f with v := v, xs := f.xs ++ xs } :: q := by rw [hab]; exact app_split hids
    have t1 := tot_split p q f
    have t2 := tot_split p q { f with v := v, xs := f.xs ++ xs }
    rw [← hab] at t1
    have := h.ex.ut
    show s.used + (xs.length : Int) + 0 = (tot (s.fs.map (app1 f.id v xs)) : Int)
    rw [hfs, t2]
    simp only [List.length_append]
    omega
  · obtain ⟨y, hy, rfl⟩ := List.mem_map.1 hx
    have hd := h.rep.dt y hy
    show updA a.dt f.id (a.dt f.id ++ xs) (app1 f.id v xs y).id = _
    rw [(app_id _ _ _ y).1]
    unfold updA app1
    by_cases hyf : y.id = f.id
    · rw [if_pos hyf, if_pos hyf, ← hyf, hd]
    · rw [if_neg hyf, if_neg hyf]
      exact hd
  · show s.used + _ = a.used + _
    rw [h.rep.us]
theorem full_gives {s : SM} {a : AS} (h : Sx' s a) {n : List UInt8} {f : FL} (hf : f ∈ s.fs) (hk : f.k + 1 ≤ 1000000) : Ex (givesM s n (f.g, f.id)) E0 Z0 0 ∧ RepS (givesM s n (f.g, f.id)) (givesA a n f.id) := by
  have h0 := h.ex.pos f hf (fun q => q)
  exact ⟨ex_weak (ex_gives h.raw h.ex hf (by omega) hk (fun _ => rfl) n) (fun j q => q.1), rep_gives h.raw h.ex h.rep hf (by omega) hk (fun _ => rfl) n⟩
theorem full_lets {s : SM} {a : AS} (h : Sx' s a) (n : List UInt8) : Ex (letsM s n) E0 Z0 0 ∧ RepS (letsM s n) (letsA a n) := ⟨ex_lets h.raw h.ex n, rep_lets h.raw h.ex h.rep (fun _ _ => rfl)⟩
theorem Sx'.es {s : SM} {a : AS} {es : Array MapEntry} {ck : Nat} (hr : Raw { s with es := es, ck := ck }) (h : Ex s E0 Z0 0 ∧ RepS s a) : Sx' { s with es := es, ck := ck } a := ⟨hr, ⟨h.1.kc, h.1.pos, h.1.ut⟩, h.2.nm, h.2.dt, h.2.us⟩
end Go.Proofs.Ytckpegkpdepokaa
/-! Ft1 -/
namespace Go.Proofs.Ytckpegkpdepokaa
open Go Go.Sx
set_option maxRecDepth 100000
set_option maxHeartbeats 4000000
set_option linter.unusedVariables false
set_option linter.unusedSimpArgs false
attribute [local irreducible] J JQ QS Con W opW
open Go.MapKept Go.WideMaps Go.Maps
theorem rm_con (s : SM) (P : List BK) (n : List UInt8) (g1 : Nat) (w : World) (h : Raw s) (hn : strOk n) (h1 : w.heap[g1]? = some (.cells [.string (bs n)].toArray 9 (0, 0))) (hd1 : g1 ∉ dom (s.heap ++ ph P)) : Con Try.prog 62 [s.ptr, .pointer (some ⟨g1, 0, none⟩)] w (s.heap ++ ph P) fun _ S' => ∃ es : Array MapEntry, S' = [SM.heap { letsM s n with es := es }, ph P] ∧ Raw { letsM s n with es := es } := by
  refine con_of_tree mix Try.func62 T62_ok (by kernel_rfl) ?_
  unfold T62
  refine j_perm (S' := [s.heap, ph P]) (by simp) ?_
  refine j_q (qs_loadO (rdo_base h1 hd1) Try.underlying9 rfl rfl rfl) ?_
  refine j_call 0 ent36 rfl rfl rfl rfl (fun w' hw' => lets_con s n w' h hn) (fun u S2 hu => ?_)
  obtain ⟨es1, rfl, hr1⟩ := hu
  refine j_subl (S' := [SM.heap { letsM s n with es := es1 }, ph P]) (by repeat first | exact slR _ | exact slN _ | apply slC | apply slD) ?_
  refine j_ret_con (vs := []) (fun w' hw' => trivial) ?_
  exact ⟨es1, rfl, hr1⟩
theorem rn_con (s : SM) (P : List BK) (old n : List UInt8) (f : FL) (g1 g2 : Nat) (w : World) (h : Raw s) (hf : f ∈ s.fs) (hk : f.k + 1 ≤ 1000000) (hl : alook s.ml old = some (f.g, f.id)) (hn : strOk n) (ho : strOk old) (h1 : w.heap[g1]? = some (.cells [.string (bs old)].toArray 9 (0, 0))) (hd1 : g1 ∉ dom (s.heap ++ ph P)) (h2 : w.heap[g2]? = some (.cells [.string (bs n)].toArray 9 (0, 0))) (hd2 : g2 ∉ dom (s.heap ++ ph P)) : Con Try.prog 61 [s.ptr, .pointer (some ⟨g1, 0, none⟩), .pointer (some ⟨g2, 0, none⟩)] w (s.heap ++ ph P) fun _ S' => ∃ s' : SM, S' = [s'.heap, ph P] ∧ ((old = n ∧ s' = s) ∨ (old ≠ n ∧ ∃ (s1 : SM) (es1 es2 : Array MapEntry) (ck : Nat), s1 = { givesM s n (f.g, f.id) with es := es1, ck := ck } ∧ Raw s1 ∧ s' = { letsM s1 old with es := es2 } ∧ Raw s')) := by
  refine con_of_tree mix Try.func61 T61_ok (by kernel_rfl) ?_
  unfold T61
  refine j_perm (S' := [[(s.gs, s.sobj)], [(s.gm, .map s.es s.ck)], s.fs.map FL.h, ph P]) (by
    have h0 := s.split.append_right (ph P)
    simpa using h0) ?_
  refine j_q (qs_loadO (rdo_base h1 hd1) Try.underlying9 rfl rfl rfl) ?_
  refine j_q (qs_loadO (rdo_base h2 hd2) Try.underlying9 rfl rfl rfl) ?_
  refine j_q (qs_sneq rfl rfl) ?_
  refine j_cond rfl (fun hc0 => ?_) (fun hc0 => ?_)
  · skip
    have hne : old ≠ n := fun e => by
      subst e
      simp at hc0
    refine j_mix _ (.refl _) ?_
    refine j_mq (qs_loadO (rdo_base h2 hd2) Try.underlying9 rfl rfl rfl) ?_
    refine j_mq (qs_nil rfl) ?_
    refine j_mq (qs_field Try.underlying66 rfl sz64 (by decide) rfl) ?_
    refine j_mq (qs_load (l := smcells s) 0 Try.underlying64 rfl rfl rfl rfl) ?_
    refine j_mq (qs_loadO (rdo_base h1 hd1) Try.underlying9 rfl rfl rfl) ?_
    refine j_mq (qs_lookup (key := old) strKey 1 Try.underlying64 zv63 rfl rfl rfl h.map ho) ?_
    rw [mlook_map fptr, getD_fptr, hl, Option.map_some]
    refine j_perm (S' := [s.heap, ph P]) (by
      have h0 := s.split.symm.append_right (ph P)
      simpa using h0) ?_
    refine j_call 0 ent38 rfl rfl rfl rfl (fun w' hw' => gives_con s n f w' h hn hf hk) (fun u S2 hu => ?_)
    obtain ⟨es1, ck1, rfl, hr1⟩ := hu
    refine j_subl (S' := [SM.heap { givesM s n (f.g, f.id) with es := es1, ck := ck1 }, ph P]) (by repeat first | exact slR _ | exact slN _ | apply slC | apply slD) ?_
    obtain ⟨s1, hs1⟩ : ∃ s1 : SM, s1 = { givesM s n (f.g, f.id) with es := es1, ck := ck1 } := ⟨_, rfl⟩
    have hsp : s.ptr = s1.ptr := by
      rw [hs1]
      show Value.pointer (some ⟨s.gs, 0, none⟩) = .pointer (some ⟨(givesM s n (f.g, f.id)).gs, 0, none⟩)
      rw [(givesM_gs _ _ _).1]
    rw [← hs1] at hr1 ⊢
    refine j_mR _ (.refl _) ?_
    refine j_mend ?_
    refine j_q (qs_loadO (rdo_base h1 hd1) Try.underlying9 rfl rfl rfl) ?_
    rw [hsp]
    refine j_call 0 ent36 rfl rfl rfl rfl (fun w' hw' => lets_con s1 old w' hr1 ho) (fun u S2 hu => ?_)
    obtain ⟨es2, rfl, hr2⟩ := hu
    refine j_subl (S' := [SM.heap { letsM s1 old with es := es2 }, ph P]) (by repeat first | exact slR _ | exact slN _ | apply slC | apply slD) ?_
    refine j_ret_con (vs := []) (fun w' hw' => trivial) ?_
    exact ⟨_, rfl, .inr ⟨hne, s1, es1, es2, ck1, hs1, hr1, rfl, hr2⟩⟩
  · skip
    have heq : old = n := by simpa using hc0
    refine j_perm (S' := [s.heap, ph P]) (by
      have h0 := s.split.symm.append_right (ph P)
      simpa using h0) ?_
    refine j_ret_con (vs := []) (fun w' hw' => trivial) ?_
    exact ⟨s, rfl, .inl ⟨heq, rfl⟩⟩
inductive MT where
  | wr (n xs : List UInt8) (id g0 g1 : Nat) (A : Option Addr) (c : Nat)
  | ap (n xs : List UInt8) (g0 g1 : Nat) (A : Option Addr) (c : Nat)
  | li (old n : List UInt8) (g0 g1 : Nat)
  | rn (old n : List UInt8) (g0 g1 : Nat)
  | rm (n : List UInt8) (g0 : Nat)
def MT.abs : MT → AT
  | .wr n xs id _ _ _ _ => .wr n xs id
  | .ap n xs _ _ _ _ => .ap n xs
  | .li old n _ _ => .li old n
  | .rn old n _ _ => .rn old n
  | .rm n _ => .rm n
def MT.fid : MT → FuncId
  | .wr .. => 35
  | .ap .. => 40
  | .li .. => 39
  | .rn .. => 61
  | .rm .. => 62
abbrev gp (g : Nat) : Value := .pointer (some ⟨g, 0, none⟩)
def MT.caps : MT → List Value
  | .wr _ _ _ g0 g1 _ _ => [gp g0, gp g1]
  | .ap _ _ g0 g1 _ _ => [gp g0, gp g1]
  | .li _ _ g0 g1 => [gp g1, gp g0]
  | .rn _ _ g0 g1 => [gp g0, gp g1]
  | .rm _ g0 => [gp g0]
abbrev MT.val (m : MT) : Value := .func (.func m.fid) #[] m.caps.toArray
def MT.h : MT → SH
  | .wr n xs _ g0 g1 A c => [(g0, .cells [.string (bs n)].toArray 9 (0, 0)), (g1, .cells [.slice A xs.length c].toArray 23 (0, 0))]
  | .ap n xs g0 g1 A c => [(g0, .cells [.string (bs n)].toArray 9 (0, 0)), (g1, .cells [.slice A xs.length c].toArray 23 (0, 0))]
  | .li old n g0 g1 => [(g0, .cells [.string (bs old)].toArray 9 (0, 0)), (g1, .cells [.string (bs n)].toArray 9 (0, 0))]
  | .rn old n g0 g1 => [(g0, .cells [.string (bs old)].toArray 9 (0, 0)), (g1, .cells [.string (bs n)].toArray 9 (0, 0))]
  | .rm n g0 => [(g0, .cells [.string (bs n)].toArray 9 (0, 0))]
def MT.ok (P : List BK) : MT → Prop
  | .wr n xs _ _ _ A c => strOk n ∧ RV P (.slice A xs.length c) xs ∧ xs.length ≤ c ∧ xs.length ≤ 1048576
  | .ap n xs _ _ A c => strOk n ∧ RV P (.slice A xs.length c) xs ∧ xs.length ≤ c ∧ xs.length ≤ 1048576
  | .li old n _ _ => strOk old ∧ strOk n
  | .rn old n _ _ => strOk old ∧ strOk n
  | .rm n _ => strOk n
theorem MT.ent (m : MT) : Sx.Enters Try.prog m.fid := by
  cases m
  · exact ent35
  · exact ent40
  · exact ent39
  · exact ent61
  · exact ent62
def VwA (P : List BK) (s : SM) : Prop := ∀ x ∈ s.fs, Vw P x.g x.v x.xs
theorem gives_sub {s : SM} {n : List UInt8} {p : Nat × Nat} {x : FL} (hx : x ∈ (givesM s n p).fs) : ∃ y ∈ s.fs, x.id = y.id ∧ x.g = y.g ∧ x.v = y.v ∧ x.xs = y.xs := by
  unfold givesM at hx
  split at hx
  · exact ⟨x, hx, rfl, rfl, rfl, rfl⟩
  · obtain ⟨y, hy, h1, h2, h3, h4⟩ := lets_sub hx
    obtain ⟨z, hz, k1, k2, k3, k4, _⟩ := mem_bump hy
    exact ⟨z, hz, h1.trans k1, h2.trans k2, h3.trans k3, h4.trans k4⟩
theorem VwA.sub {P : List BK} {s t : SM} (h : VwA P s) (hs : ∀ x ∈ t.fs, ∃ y ∈ s.fs, x.id = y.id ∧ x.g = y.g ∧ x.v = y.v ∧ x.xs = y.xs) : VwA P t := fun x hx => by
  obtain ⟨y, hy, _, h2, h3, h4⟩ := hs x hx
  rw [h2, h3, h4]
  exact h y hy
theorem k_le {s : SM} {a : AS} (h : Sx' s a) (hl : limA a) {f : FL} (hf : f ∈ s.fs) : f.k + 1 ≤ 1000000 := by
  have h1 : f.k = (cnt s.ml f.id : Int) + 0 := h.ex.kc f hf
  have h2 : cnt s.ml f.id ≤ s.ml.length := List.length_filter_le _ _
  have h3 := h.rep.len
  have h4 := hl.2
  omega
theorem thing_con (s : SM) (P : List BK) (a : AS) (m : MT) (w : World) (h : Sx' s a) (hv : VwA P s) (hl : limA a) (hm : m.ok P) (hc : canA a m.abs) (hb : In w m.h) (hd : ∀ g ∈ dom m.h, g ∉ dom (s.heap ++ ph P)) :
    Con Try.prog m.fid (s.ptr :: m.caps) w (s.heap ++ ph P) fun _ S' => ∃ (s' : SM) (P' : List BK), S' = [s'.heap, ph P'] ∧ s'.gs = s.gs ∧ Sx' s' (doA a m.abs) ∧ VwA P' s' ∧ (P' = P ∨ ∃ f ∈ s.fs, PLe f.g P P') := by
  have hut := h.ex.ut
  have hus := h.rep.us
  have hl1 := hl.1
  cases m with
  | wr n xs id g0 g1 A c =>
    obtain ⟨hn, hrv, hxc, hxl⟩ := hm
    have hid := h.rep.fresh h.raw h.ex (fun _ => rfl) (fun _ q => q) hc
    refine (wr_con s P n _ xs A c id g0 g1 w h.raw (by omega) (by omega) hid rfl hxc (by omega) hn (hb (g0, _) (by simp [MT.h])) (hd g0 (by simp [MT.h, dom])) (hb (g1, .cells [.slice A xs.length c].toArray 23 (0, 0)) (by simp [MT.h])) (hd g1 (by simp [MT.h, dom]))).mono (fun u S' hu => ?_)
    obtain ⟨es, ck, g, hg, rfl, hraw⟩ := hu
    refine ⟨_, P, rfl, (writeM_gs _ _ _ _ _ _).1, full_write h hc hraw ⟨_, _, rfl, by omega⟩, ?_, .inl rfl⟩
    intro x hx
    have hx' : x ∈ (writeM s n id (.slice (if xs.length = 0 then A else A.map (fun a : Addr => a.add (0 * 1))) xs.length xs.length) xs g).fs := hx
    rw [writeM_fs h.raw hid] at hx'
    rcases List.mem_cons.1 hx' with rfl | hx'
    · exact Vw.clip g hrv rfl
    · obtain ⟨y, hy, _, e2, e3, e4⟩ := lets_sub hx'
      rw [e2, e3, e4]
      exact hv y hy
  | ap n xs g0 g1 A c =>
    obtain ⟨hn, hrv, hxc, hxl⟩ := hm
    obtain ⟨i, hi, hlen⟩ := hc
    obtain ⟨f, hf, hlk, hfi, hfx⟩ := look_rep h.raw h.rep hi
    refine (ap_con s P n f _ xs g0 g1 w h.raw hf hlk (hv f hf) hrv (by rw [List.length_append, hfx]; omega) (by omega) hn (hb (g0, _) (by simp [MT.h])) (hd g0 (by simp [MT.h, dom])) (hb (g1, .cells [.slice A xs.length c].toArray 23 (0, 0)) (by simp [MT.h])) (hd g1 (by simp [MT.h, dom]))).mono (fun u S' hu => ?_)
    obtain ⟨v', P', rfl, hvw2, hple, hraw⟩ := hu
    refine ⟨_, P', rfl, rfl, full_app h hf hlk hraw, ?_, .inr ⟨f, hf, hple⟩⟩
    intro y hy
    obtain ⟨z, hz, rfl⟩ := List.mem_map.1 hy
    unfold app1
    split
    · rename_i he
      rw [id_uniq h.raw hf hz he]
      exact hvw2
    · rename_i he
      have hg : z.g ≠ f.g := fun e => he (by rw [fs_uniq h.raw hf hz e])
      exact (hv z hz).mono hple hg
  | li old n g0 g1 =>
    obtain ⟨hso, hn⟩ := hm
    obtain ⟨i, hi⟩ := Option.isSome_iff_exists.1 hc
    obtain ⟨f, hf, hlk, hfi, hfx⟩ := look_rep h.raw h.rep hi
    refine (li_con s P n old f g1 g0 w h.raw hf (k_le h hl hf) hlk hn hso (hb (g1, .cells [.string (bs n)].toArray 9 (0, 0)) (by simp [MT.h])) (hd g1 (by simp [MT.h, dom])) (hb (g0, _) (by simp [MT.h])) (hd g0 (by simp [MT.h, dom]))).mono (fun u S' hu => ?_)
    obtain ⟨es, ck, rfl, hraw⟩ := hu
    refine ⟨_, P, rfl, (givesM_gs _ _ _).1, ?_, hv.sub (fun x hx => gives_sub hx), .inl rfl⟩
    have e : doA a (MT.li old n g0 g1).abs = givesA a n f.id := by
      show (match alook a.nm old with | none => a | some i => givesA a n i) = _
      rw [hi, hfi]
    rw [e]
    exact Sx'.es hraw (full_gives h hf (k_le h hl hf))
  | rn old n g0 g1 =>
    obtain ⟨hso, hn⟩ := hm
    obtain ⟨i, hi⟩ := Option.isSome_iff_exists.1 hc
    obtain ⟨f, hf, hlk, hfi, hfx⟩ := look_rep h.raw h.rep hi
    refine (rn_con s P old n f g0 g1 w h.raw hf (k_le h hl hf) hlk hn hso (hb (g0, _) (by simp [MT.h])) (hd g0 (by simp [MT.h, dom])) (hb (g1, .cells [.string (bs n)].toArray 9 (0, 0)) (by simp [MT.h])) (hd g1 (by simp [MT.h, dom]))).mono (fun u S' hu => ?_)
    obtain ⟨s', rfl, hu⟩ := hu
    have e : doA a (MT.rn old n g0 g1).abs = if old = n then a else letsA (givesA a n f.id) old := by
      show (if old = n then a else match alook a.nm old with | none => a | some i => letsA (givesA a n i) old) = _
      rw [hi, hfi]
    rw [e]
    rcases hu with ⟨hon, rfl⟩ | ⟨hon, s1, es1, es2, ck, rfl, hr1, rfl, hr2⟩
    · rw [if_pos hon]
      exact ⟨_, P, rfl, rfl, h, hv, .inl rfl⟩
    · rw [if_neg hon]
      have h1 := Sx'.es hr1 (full_gives h hf (k_le h hl hf) (n := n))
      refine ⟨_, P, rfl, ?_, Sx'.es hr2 (full_lets h1 old), hv.sub (fun x hx => ?_), .inl rfl⟩
      · show (letsM _ old).gs = s.gs
        rw [(letsM_gs _ _).1]
        exact (givesM_gs _ _ _).1
      · obtain ⟨y, hy, k1, k2, k3, k4⟩ := lets_sub hx
        obtain ⟨z, hz, l1, l2, l3, l4⟩ := gives_sub hy
        exact ⟨z, hz, k1.trans l1, k2.trans l2, k3.trans l3, k4.trans l4⟩
  | rm n g0 =>
    refine (rm_con s P n g0 w h.raw hm (hb (g0, _) (by simp [MT.h])) (hd g0 (by simp [MT.h, dom]))).mono (fun u S' hu => ?_)
    obtain ⟨es, rfl, hraw⟩ := hu
    exact ⟨_, P, rfl, (letsM_gs _ _).1, Sx'.es hraw (full_lets h n), hv.sub (fun x hx => lets_sub hx), .inl rfl⟩
end Go.Proofs.Ytckpegkpdepokaa
/-! Ft2 -/
namespace Go.Proofs.Ytckpegkpdepokaa
open Go Go.Sx
set_option maxRecDepth 100000
set_option maxHeartbeats 4000000
set_option linter.unusedVariables false
set_option linter.unusedSimpArgs false
attribute [local irreducible] J JQ QS Con W opW
open Go.MapKept Go.WideMaps Go.Maps
structure AF where
  room : Int
  base : AS
  pend : List AT
  fused : Bool
  left : Int
abbrev AF.now (a : AF) : AS := runA a.base a.pend
structure FR where
  gf : Nat
  room : Int
  ls : SM
  now : SM
  ms : List MT
  tv : Value
  tc : SH
  fused : Bool
  left : Int
  X : SH
  P : List BK
abbrev FR.fm (r : FR) : FM := ⟨r.gf, r.room, r.ls.ptr, r.now, r.ms.map MT.val, r.tv, r.tc, r.fused, r.left, r.ls.heap ++ r.X, r.P⟩
abbrev FR.heap (r : FR) : SH := r.fm.heap
abbrev FR.ptr (r : FR) : Value := .pointer (some ⟨r.gf, 0, none⟩)
structure FR.Ok (r : FR) (a : AF) : Prop where
  rm : r.room = a.room
  fu : r.fused = a.fused
  le : r.left = a.left
  l0 : 0 ≤ r.left ∧ r.left ≤ 9223372036854775807
  pd : r.ms.map MT.abs = a.pend
  row : Sx.Own 100 1 (r.ms.map MT.val) r.tv r.tc
  lt : r.ms.length ≤ 16384
  bx : ∀ m ∈ r.ms, ∀ q ∈ m.h, q ∈ r.X
  mo : ∀ m ∈ r.ms, m.ok r.P
  ok : okA a.base a.pend
  ls : Sx' r.ls a.base
  lv : VwA r.P r.ls
  now : Sx' r.now a.now
  nv : VwA r.P r.now
def Gr (w : World) (Fp : SH) (P P' : List BK) : Prop := (∀ v xs, RV P v xs → RV P' v xs) ∧ ∀ o, o < w.heap.size → o ∉ dom Fp → ∀ v xs, Vw P o v xs → Vw P' o v xs
theorem Gr.refl (w : World) (Fp : SH) (P : List BK) : Gr w Fp P P := ⟨fun _ _ h => h, fun _ _ _ _ _ h => h⟩
theorem Gr.trans {w : World} {Fp : SH} {P Q R : List BK} (h1 : Gr w Fp P Q) (h2 : Gr w Fp Q R) : Gr w Fp P R := ⟨fun v xs h => h2.1 v xs (h1.1 v xs h), fun o a b v xs h => h2.2 o a b v xs (h1.2 o a b v xs h)⟩
theorem Gr.old {w w' : World} {Fp : SH} {P P' : List BK} (h : Gr w' Fp P P') (hs : w.heap.size ≤ w'.heap.size) : Gr w Fp P P' := ⟨h.1, fun o ho hd v xs hv => h.2 o (Nat.lt_of_lt_of_le ho hs) hd v xs hv⟩
theorem MT.ok_mono {P P' : List BK} {m : MT} (h : m.ok P) (hr : ∀ v xs, RV P v xs → RV P' v xs) : m.ok P' := by
  cases m with
  | wr n xs id g0 g1 A c => exact ⟨h.1, hr _ _ h.2.1, h.2.2⟩
  | ap n xs g0 g1 A c => exact ⟨h.1, hr _ _ h.2.1, h.2.2⟩
  | li old n g0 g1 => exact h
  | rn old n g0 g1 => exact h
  | rm n g0 => exact h
abbrev FR.parts (r : FR) : List SH := [[(r.gf, r.fm.obj)], r.ls.heap ++ ph r.P, r.tc, r.now.heap, r.X]
theorem FR.split (r : FR) : ([r.heap] : List SH).flatten.Perm (r.parts).flatten := by
  classical
  refine List.perm_iff_count.2 fun x => ?_
  simp only [FM.heap, FR.parts, List.flatten_cons, List.flatten_nil, List.append_nil, List.nil_append, List.cons_append, List.count_append, List.count_cons, List.count_nil] <;> omega
theorem cut_addr {A : Option Addr} {n cap : Nat} {e : TypeId} {xs : List Value} {c : SH} (ho : Sx.Own e 1 xs (.slice A n cap) c) (h : 0 < xs.length) : ∃ g, A = some ⟨g, 0, none⟩ ∧ (if cap = 0 then A else A.map (·.add (0 * 1))) = some ⟨g, 0, none⟩ := by
  obtain ⟨g, rfl⟩ := own_addr ho h
  refine ⟨g, rfl, ?_⟩
  split <;> simp [Addr.add]
theorem dom_gs {s : SM} {x : FL} (hx : x ∈ s.fs) : x.g ∈ dom s.heap := List.mem_map.2 ⟨x.h, by unfold SM.heap; exact List.mem_append_right _ (List.mem_map.2 ⟨x, hx, rfl⟩), rfl⟩
theorem nodup_two {H1 H2 : SH} {S : List SH} (h : (dom S.flatten).Nodup) {i j : Nat} (hij : i < j) (hi : S[i]? = some H1) (hj : S[j]? = some H2) : ∀ g ∈ dom H1, g ∉ dom H2 := fun g h1 h2 => by
  induction S generalizing i j with
  | nil => simp at hi
  | cons c S ih =>
    rw [List.flatten_cons, dom, List.map_append, List.nodup_append] at h
    cases j with
    | zero => omega
    | succ j =>
      cases i with
      | zero =>
        simp at hi hj
        subst hi
        obtain ⟨q, hq, e⟩ := List.mem_map.1 h2
        exact h.2.2 g h1 g (List.mem_map.2 ⟨q, mem_flatten_of hj hq, e⟩) rfl
      | succ i => exact ih h.2.1 (by omega) hi hj
theorem last_con (r : FR) (a : AF) (k : Nat) (w : World) (hok : r.Ok a) (hk : k ≤ r.ms.length) : Con Try.prog 45 [r.ptr, .int .i64 (k : Int)] w r.heap fun _ S' => ∃ (ls : SM) (P : List BK), S' = [FR.heap ({ r with ls := ls, P := P, ms := [], tv := .slice none 0 0, tc := [] } : FR)] ∧ ls.gs = r.ls.gs ∧ Sx' ls (runA a.base (a.pend.take k)) ∧ VwA P ls ∧ VwA P r.now ∧ Gr w r.heap r.P P := by
  refine con_of_tree mix Try.func45 T45_ok (by kernel_rfl) ?_
  unfold T45
  obtain ⟨n1, A1, cap1, htv, hn1⟩ := own_form hok.row (by decide)
  rw [Nat.mul_one, List.length_map] at hn1
  subst hn1
  have hrow := hok.row
  rw [htv] at hrow
  have hcap := own_cap hrow
  have hlt := hok.lt
  refine j_perm (S' := r.parts) r.split ?_
  refine j_q (qs_nil rfl) ?_
  refine j_q (qs_field Try.underlying62 rfl sz60 (by decide) rfl) ?_
  refine j_q (qs_load (l := fmcells r.fm) 0 Try.underlying60 rfl rfl rfl rfl) ?_
  refine j_q (qs_cutl (a := 0) (z := k) (n := r.ms.length) (c := cap1) (A := A1) Try.underlying60 sz100 htv rfl ⟨_, rfl⟩ (by omega) (by omega)) ?_
  obtain ⟨A2, hA2⟩ : ∃ A2, A2 = (if cap1 = 0 then A1 else A1.map (·.add (0 * 1))) := ⟨_, rfl⟩
  rw [← hA2, Nat.sub_zero, Nat.sub_zero]
  refine j_q (qs_lenl Try.underlying60 rfl) ?_
  refine j_q (qs_mc) ?_
  refine j_loop (fun m vs S' => ∃ (i : Nat) (ls : SM) (P : List BK), vs = [.int .i64 (i : Int)] ∧ i ≤ k ∧ S' = [[(r.gf, r.fm.obj)], ls.heap ++ ph P, r.tc, r.now.heap, r.X] ∧ ls.gs = r.ls.gs ∧ Sx' ls (runA a.base (a.pend.take i)) ∧ VwA P ls ∧ VwA P r.now ∧ Gr w r.heap r.P P ∧ m = k - i) ⟨_, 0, r.ls, r.P, rfl, Nat.zero_le _, rfl, rfl, hok.ls, hok.lv, hok.nv, Gr.refl _ _ _, rfl⟩ ?_
  rintro m vs S' hlen ⟨i, ls, P, rfl, hik, rfl, hgs, hls, hlv, hnv, hgr, rfl⟩
  refine j_q (qs_lss rfl rfl) ?_
  refine j_cond rfl (fun hc0 => ?_) (fun hc0 => ?_)
  · skip
    have hi : i < k := by
      have h5 : (i : Int) < (k : Int) := by simpa using hc0
      omega
    obtain ⟨mt, hmt⟩ : ∃ mt, r.ms[i]? = some mt := ⟨_, List.getElem?_eq_getElem (show i < r.ms.length by omega)⟩
    have hmem : mt ∈ r.ms := List.mem_of_getElem? hmt
    have hpd : a.pend[i]? = some mt.abs := by rw [← hok.pd, List.getElem?_map, hmt]; rfl
    obtain ⟨g1, rfl, hA3⟩ := cut_addr hrow (by rw [List.length_map]; omega)
    rw [hA3] at hA2
    subst hA2
    refine j_q (qs_ixn (i := i) Try.underlying60 sz100 rfl rfl hi) ?_
    refine j_q (qs_loadR (v := mt.val) (a := ⟨g1, 0, none⟩) (i := i) (own_rd hrow 2 rfl) Try.underlying100 rfl (by rw [add_off]; show Value.pointer (some ⟨g1, 0 + i * 1, none⟩) = _; rw [Nat.mul_one]) (by rw [List.getElem?_map, hmt]; rfl)) ?_
    refine j_q (qs_nil rfl) ?_
    refine j_q (qs_field Try.underlying62 rfl sz58 (by decide) rfl) ?_
    refine j_q (qs_load (l := fmcells r.fm) 0 Try.underlying58 rfl rfl rfl rfl) ?_
    refine j_callf 1 mt.ent rfl rfl (by simp only [List.nil_append, List.map_cons, List.map_nil]; show r.ls.ptr :: mt.caps = ls.ptr :: mt.caps; simp only [SM.ptr, hgs]) rfl (fun w' hw' => (thing_con ls P (runA a.base (a.pend.take i)) mt w' hls hlv (okA_run hok.ok i) (MT.ok_mono (hok.mo mt hmem) hgr.1) (okA_nth hok.ok hpd) (fun q hq => in_own hw' 4 rfl q (hok.bx mt hmem q hq)) (fun g hg hg2 => nodup_two hw'.nodup (i := 1) (j := 4) (by decide) rfl rfl g hg2 (List.mem_map.2 (by obtain ⟨q, hq, e⟩ := List.mem_map.1 hg; exact ⟨q, hok.bx mt hmem q hq, e⟩)))).mono (fun u S3 hu3 => (⟨hu3, fun f hf => ⟨fun hfn => nodup_two hw'.nodup (i := 1) (j := 3) (by decide) rfl rfl f.g (by rw [dom, List.map_append]; exact List.mem_append_left _ (dom_gs hf)) hfn, fun o ho hod e => by
      have h9 := hw'.dom_ f.g (by
        rw [dom, show ∀ l : List SH, l.flatten = l.flatten from fun _ => rfl]
        exact List.mem_map.2 ⟨f.h, mem_flatten_of (k := 1) rfl (by
          refine List.mem_append_left _ ?_
          unfold SM.heap
          exact List.mem_append_right _ (List.mem_map.2 ⟨f, hf, rfl⟩)), rfl⟩)
      rw [← e] at h9
      rcases h9 with h9 | h9
      · exact hod h9
      · exact absurd ho (Nat.not_lt.2 h9)⟩⟩ : _ ∧ ∀ f ∈ ls.fs, f.g ∉ dom r.now.heap ∧ ∀ o, o < w.heap.size → o ∉ dom r.heap → o ≠ f.g))) (fun u S2 hu2 => ?_)
    obtain ⟨⟨ls2, P2, rfl, hgs2, hls2, hlv2, hple⟩, hsep⟩ := hu2
    refine j_perm (S' := [[(r.gf, r.fm.obj)], ls2.heap ++ ph P2, r.tc, r.now.heap, r.X]) (by
      classical
      refine List.perm_iff_count.2 fun x => ?_
      simp only [List.set, List.flatten_cons, List.flatten_nil, List.append_nil, List.nil_append, List.cons_append, List.count_append, List.count_cons, List.count_nil] <;> omega) ?_
    refine j_q (qs_add64 rfl rfl (by first | omega | (simp only [bnA] at *; omega))) ?_
    refine j_back rfl ?_
    refine ⟨k - (i + 1), by omega, i + 1, ls2, P2, rfl, hi, rfl, hgs2.trans hgs, by rw [runA_succ hpd]; exact hls2, hlv2, ?_, ?_, rfl⟩
    · rcases hple with rfl | ⟨f, hf, hple⟩
      · exact hnv
      · exact fun x hx => (hnv x hx).mono hple (fun e => (hsep f hf).1 (e ▸ dom_gs hx))
    · rcases hple with rfl | ⟨f, hf, hple⟩
      · exact hgr
      · exact hgr.trans ⟨fun v xs h => h.mono hple, fun o ho hod v xs h => h.mono hple ((hsep f hf).2 o ho hod)⟩
  · skip
    have hi : i = k := by
      have h5 : ¬ (i : Int) < (k : Int) := by simpa using hc0
      omega
    subst hi
    refine j_q (qs_nil rfl) ?_
    refine j_q (qs_field Try.underlying62 rfl sz60 (by decide) rfl) ?_
    refine j_store (l := fmcells r.fm) 0 sz60 rfl rfl rfl rfl (by simp) (by simp) ?_
    have hp : ls.ptr = r.ls.ptr := by simp only [SM.ptr, hgs]
    refine j_subl (S' := [[(r.gf, FM.obj (FR.fm ({ r with ls := ls, P := P, ms := [], tv := .slice none 0 0, tc := [] } : FR)))], ls.heap ++ ph P, r.now.heap, r.X]) (by
      have e : FM.obj (FR.fm ({ r with ls := ls, P := P, ms := [], tv := .slice none 0 0, tc := [] } : FR)) = .cells [.int .i64 r.room, r.ls.ptr, r.now.ptr, .slice none 0 0, .bool r.fused, .int .i64 r.left].toArray 62 (0, 0) := by
        simp only [FM.obj, fmcells, hp]
      rw [e]
      exact (by repeat first | exact slR _ | exact slN _ | apply slC | apply slD)) ?_
    refine j_perm (S' := [FR.heap ({ r with ls := ls, P := P, ms := [], tv := .slice none 0 0, tc := [] } : FR)]) (by
      classical
      refine List.perm_iff_count.2 fun x => ?_
      simp only [FM.heap, List.set, List.flatten_cons, List.flatten_nil, List.append_nil, List.nil_append, List.cons_append, List.count_append, List.count_cons, List.count_nil] <;> omega) ?_
    refine j_ret_con (vs := []) (fun w' hw' => trivial) ?_
    exact ⟨ls, P, rfl, hgs, hls, hlv, hnv, hgr⟩
end Go.Proofs.Ytckpegkpdepokaa
/-! Sx23 -/
namespace Go.Sx
open Go
set_option linter.unusedVariables false
variable {P : Program} {R : Ending → World → Prop} {env : Env} {b : Base} {S : List SH} {B : JB} {T : Tree} {v : Value} {ty : TypeId}
end Go.Sx
/-! Sx24 -/
namespace Go.Sx
open Go
set_option linter.unusedVariables false
variable {P : Program} {R : Ending → World → Prop} {env : Env} {b : Base} {S : List SH} {B : JB} {T : Tree} {v : Value} {ty : TypeId}
end Go.Sx
/-! Sx26 -/
namespace Go.Sx
open Go Go.MapKept Go.WideMaps Go.Maps
set_option linter.unusedVariables false
set_option linter.unusedSimpArgs false
set_option linter.unusedSectionVars false
variable {P : Program} {R : Ending → World → Prop} {env : Env} {b : Base} {S : List SH} {B : JB} {T : Tree} {v : Value} {ty : TypeId}
end Go.Sx
/-! Sx27 -/
namespace Go.Sx
open Go Go.MapKept Go.WideMaps Go.Maps
set_option linter.unusedVariables false
set_option linter.unusedSimpArgs false
set_option linter.unusedSectionVars false
variable {P : Program} {R : Ending → World → Prop} {env : Env} {b : Base} {S : List SH} {B : JB} {T : Tree} {v : Value} {ty : TypeId}
variable {κ : Type} [DecidableEq κ] {enc : κ → Value} {ok : κ → Prop} {m : List (κ × Value)} {kt : TypeId}
end Go.Sx
/-! Sx28 -/
namespace Go.Sx
open Go Go.MapKept Go.WideMaps Go.Maps
set_option linter.unusedVariables false
set_option linter.unusedSimpArgs false
set_option linter.unusedSectionVars false
variable {P : Program} {R : Ending → World → Prop} {env : Env} {b : Base} {S : List SH} {B : JB} {T : Tree} {v : Value} {ty : TypeId}
variable {κ : Type} [DecidableEq κ] {enc : κ → Value} {ok : κ → Prop} {es : Array MapEntry} {clock : Nat} {m done : List (κ × Value)}
structure ItOk (enc : κ → Value) (es : Array MapEntry) (seen : Array Nat) (done : List (κ × Value)) : Prop where
  nd : (done.map Prod.fst).Nodup
  sub : ∀ p ∈ done, ∃ e ∈ es.toList, e.key = enc p.1 ∧ e.val = p.2 ∧ e.born ∈ seen.toList
  all : ∀ e ∈ es.toList, e.born ∈ seen.toList → ∃ p ∈ done, e.key = enc p.1 ∧ e.val = p.2
theorem itok_nil : ItOk enc es #[] ([] : List (κ × Value)) := ⟨List.nodup_nil, (fun p h => by cases h), fun e _ h => by simp at h⟩
theorem MapOk.mem (h : MapOk enc ok es clock m) {e : MapEntry} (he : e ∈ es.toList) : ∃ p ∈ m, e.key = enc p.1 ∧ e.val = p.2 := by
  have : (e.key, e.val) ∈ m.map (fun p => (enc p.1, p.2)) := by rw [← h.ents]; exact List.mem_map_of_mem (f := fun e : MapEntry => (e.key, e.val)) he
  obtain ⟨p, hp, e1⟩ := List.mem_map.1 this
  injection e1 with e1 e2
  exact ⟨p, hp, e1.symm, e2.symm⟩
theorem MapOk.mem' (h : MapOk enc ok es clock m) {p : κ × Value} (hp : p ∈ m) : ∃ e ∈ es.toList, e.key = enc p.1 ∧ e.val = p.2 := by
  have : (enc p.1, p.2) ∈ es.toList.map (fun e => (e.key, e.val)) := by rw [h.ents]; exact List.mem_map_of_mem (f := fun p : κ × Value => (enc p.1, p.2)) hp
  obtain ⟨e, he, e1⟩ := List.mem_map.1 this
  injection e1 with e1 e2
  exact ⟨e, he, e1, e2⟩
theorem MapOk.uniq (h : MapOk enc ok es clock m) {e e' : MapEntry} (he : e ∈ es.toList) (he' : e' ∈ es.toList) (hk : e.key = e'.key) : e = e' := by
  have hn := h.stamped.2.2
  obtain ⟨i, hi, rfl⟩ := List.getElem_of_mem he
  obtain ⟨j, hj, rfl⟩ := List.getElem_of_mem he'
  have : i = j := nodup_inj hn (i := i) (j := j) (a := es.toList[i].key) (by rw [List.getElem?_map, List.getElem?_eq_getElem hi]; rfl) (by rw [List.getElem?_map, List.getElem?_eq_getElem hj, Option.map_some, hk])
  subst this
  rfl
theorem itok_push (hinj : ∀ a b, enc a = enc b → a = b) (h : MapOk enc ok es clock m) {seen : Array Nat} (hit : ItOk enc es seen done) {e : MapEntry} (he : e ∈ es.toList) (hns : e.born ∉ seen.toList) {p : κ × Value} (hk : e.key = enc p.1) (hv : e.val = p.2) : p ∉ done ∧ ItOk enc es (seen.push e.born) (done ++ [p]) := by
  have hno : ∀ q ∈ done, q.1 ≠ p.1 := fun q hq hqp => by
    obtain ⟨e', he', h1, h2, h3⟩ := hit.sub q hq
    have := h.uniq he he' (by rw [hk, h1, hqp])
    subst this
    exact hns h3
  refine ⟨fun hp => hno p hp rfl, ?_, fun q hq => ?_, fun e' he' hs => ?_⟩
  · rw [List.map_append, List.nodup_append]
    refine ⟨hit.nd, by simp, fun a ha c hc hac => ?_⟩
    obtain ⟨q, hq, rfl⟩ := List.mem_map.1 ha
    simp only [List.map_cons, List.map_nil, List.mem_singleton] at hc
    exact hno q hq (by rw [hac, hc])
  · rcases List.mem_append.1 hq with hq | hq
    · obtain ⟨e', he', h1, h2, h3⟩ := hit.sub q hq
      exact ⟨e', he', h1, h2, by simp [h3]⟩
    · rw [List.mem_singleton] at hq
      subst hq
      exact ⟨e, he, hk, hv, by simp⟩
  · rw [Array.toList_push, List.mem_append, List.mem_singleton] at hs
    rcases hs with hs | hs
    · obtain ⟨q, hq, h1⟩ := hit.all e' he' hs
      exact ⟨q, by simp [hq], h1⟩
    · have : e' = e := by
        have hn := h.stamped.2.1
        obtain ⟨i, hi, rfl⟩ := List.getElem_of_mem he
        obtain ⟨j, hj, rfl⟩ := List.getElem_of_mem he'
        have : j = i := nodup_inj hn (i := j) (j := i) (a := es.toList[j].born) (by rw [List.getElem?_map, List.getElem?_eq_getElem hj]; rfl) (by rw [List.getElem?_map, List.getElem?_eq_getElem hi, Option.map_some, hs])
        subst this
        rfl
      subst this
      exact ⟨p, by simp, hk, hv⟩
theorem itok_done (h : MapOk enc ok es clock m) (hinj : ∀ a b, enc a = enc b → a = b) {seen : Array Nat} (hit : ItOk enc es seen done) (h0 : (leftOf es seen).size = 0) : ∀ p ∈ m, p ∈ done := fun p hp => by
  obtain ⟨e, he, h1, h2⟩ := h.mem' hp
  have hs : e.born ∈ seen.toList := by
    by_cases hx : e.born ∈ seen.toList
    · exact hx
    · exfalso
      have : e ∈ (leftOf es seen).toList := by
        unfold leftOf
        rw [Array.toList_filter, List.mem_filter]
        refine ⟨he, ?_⟩
        simpa using hx
      have h3 := List.length_pos_of_mem this
      rw [Array.length_toList, h0] at h3
      omega
  obtain ⟨q, hq, h3, h4⟩ := hit.all e he hs
  have : p = q := by
    obtain ⟨a, x⟩ := p
    obtain ⟨c, y⟩ := q
    have e1 : a = c := hinj _ _ (h1.symm.trans h3)
    have e2 : x = y := h2.symm.trans h4
    rw [e1, e2]
  rw [this]
  exact hq
theorem sig_setobj {w : World} (hw : Sig b S w) {k g : Nat} {o : Obj} (hk : S[k]? = some [(g, o)]) (o' : Obj) : Sig b (S.set k [(g, o')]) (Go.ChangeMaps.setBlock w g o') := by
  have hg : w.heap[g]? = some o := hw.own (g, o) (mem_flatten_of hk (by simp))
  have hlt := lt_of_get hg
  exact hw.set hk rfl rfl rfl (by simp [Go.ChangeMaps.setBlock]) (by simp [Go.ChangeMaps.setBlock, hlt]) fun j hj => by simp [Go.ChangeMaps.setBlock, Ne.symm hj]
theorem j_rangemap {t kt vt : TypeId} {x : Operand} {bm : Nat} (ht : P.underlying t = some (.map kt vt)) (hx : ev env x = .map (some bm)) (hm : RdO b S bm (.map es clock)) (h : ∀ r, r ∉ dom S.flatten → J P R T (.pointer (some ⟨r, 0, none⟩) :: env) ([(r, .mapIter (some bm) clock #[] clock)] :: S) b B) : J P R (.op (O (.range t x) ty) T) env S b B := fun w hw => by
  have hrun : (execOp (ev env) (O (.range t x) ty)).run P w = .ok (.value (.pointer (some ⟨w.heap.size, 0, none⟩))) (w.alloc (.mapIter (some bm) clock #[] clock)) := by
    simp only [O, execOp, hx, Sem.run_bind, run_range_map w t kt vt bm es clock ht (hm w hw), Result.andThen_ok, Sem.run_pure]
  show opW _ _ _ _ _ _
  unfold opW
  rw [hrun]
  obtain ⟨h1, h2, h3⟩ := hw.new (o := .mapIter (some bm) clock #[] clock) (w' := w.alloc (.mapIter (some bm) clock #[] clock)) rfl rfl rfl rfl
  exact h _ h2 _ h1
theorem j_nextmap {x : Operand} {r bm since c0 : Nat} {seen : Array Nat} (k : Nat) (hinj : ∀ a b, enc a = enc b → a = b) (hx : ev env x = .pointer (some ⟨r, 0, none⟩)) (hk : S[k]? = some [(r, .mapIter (some bm) since seen c0)]) (hm : RdO b S bm (.map es clock)) (hok : MapOk enc ok es clock m) (hit : ItOk enc es seen done) (hold : clock ≤ since) (hsc : since ≤ c0)
    (h0 : (∀ p ∈ m, p ∈ done) → J P R T (.tuple #[.bool false] :: env) S b B)
    (h1 : ∀ p e, p ∈ m → p ∉ done → e ∈ es.toList → e.key = enc p.1 → e.val = p.2 → ItOk enc es (seen.push e.born) (done ++ [p]) → J P R T (.tuple #[.bool true, enc p.1, p.2] :: env) (S.set k [(r, .mapIter (some bm) since (seen.push e.born) clock)]) b B) :
    J P R (.op (O (.next x false) ty) T) env S b B := fun w hw => by
  have hr : w.heap[r]? = some (.mapIter (some bm) since seen c0) := hw.own (r, _) (mem_flatten_of hk (by simp))
  have hb := hm w hw
  have hborn : ∀ e ∈ es.toList, e.born < since := fun e he => Nat.lt_of_lt_of_le (hok.stamped.1 e he) hold
  show opW _ _ _ _ _ _
  unfold opW
  rcases run_next_at (P := P) w ty r bm since c0 seen es clock hr hb hborn hsc with ⟨hl, hrun⟩ | ⟨e, he, w1, hw1, hrun⟩
  · have e1 : (execOp (ev env) (O (.next x false) ty)).run P w = .ok (.value (.tuple #[.bool false])) w := by
      simp only [O, execOp, hx, Sem.run_bind, hrun, Result.andThen_ok, Sem.run_pure]
    rw [e1]
    exact h0 (itok_done hok hinj hit hl) _ hw
  · have e1 : (execOp (ev env) (O (.next x false) ty)).run P w = .ok (.value (.tuple #[.bool true, e.key, e.val])) (Go.ChangeMaps.setBlock w1 r (.mapIter (some bm) since (seen.push e.born) clock)) := by
      simp only [O, execOp, hx, Sem.run_bind, hrun, Result.andThen_ok, Sem.run_pure]
    rw [e1]
    unfold leftOf at he
    rw [Array.toList_filter, List.mem_filter] at he
    obtain ⟨he, hns⟩ := he
    have hns' : e.born ∉ seen.toList := by simpa using hns
    obtain ⟨p, hp, h2, h3⟩ := hok.mem he
    obtain ⟨h4, h5⟩ := itok_push hinj hok hit he hns' h2 h3
    have hs1 : Sig b S w1 := by
      rcases hw1 with rfl | rfl
      · exact hw
      · exact hw.drew
    have := h1 p e hp h4 he h2 h3 h5 _ (sig_setobj hs1 hk (.mapIter (some bm) since (seen.push e.born) clock))
    rw [h2, h3]
    exact this
theorem j_nextm {x : Operand} {r bm since c0 : Nat} {seen : Array Nat} (k : Nat) (hinj : ∀ a b, enc a = enc b → a = b) (hx : ev env x = .pointer (some ⟨r, 0, none⟩)) (hk : S[k]? = some [(r, .mapIter (some bm) since seen c0)]) (hm : RdO b S bm (.map es clock)) (hok : MapOk enc ok es clock m) (hit : ItOk enc es seen done) (hold : clock ≤ since) (hsc : since ≤ c0)
    (h : ∀ (c : Bool) (vs : List Value) (S2 : List SH), vs[0]? = some (.bool c) → ((c = false ∧ S2 = S ∧ ∀ p ∈ m, p ∈ done) ∨ (c = true ∧ ∃ p e, p ∈ m ∧ p ∉ done ∧ e ∈ es.toList ∧ e.key = enc p.1 ∧ e.val = p.2 ∧ ItOk enc es (seen.push e.born) (done ++ [p]) ∧ S2 = S.set k [(r, .mapIter (some bm) since (seen.push e.born) clock)])) → J P R T (.tuple vs.toArray :: env) S2 b B) :
    J P R (.op (O (.next x false) ty) T) env S b B :=
  j_nextmap k hinj hx hk hm hok hit hold hsc (fun h0 => h false [.bool false] S rfl (.inl ⟨rfl, rfl, h0⟩)) (fun p e h1 h2 h3 h4 h5 h6 => h true [.bool true, enc p.1, p.2] _ rfl (.inr ⟨rfl, p, e, h1, h2, h3, h4, h5, h6, rfl⟩))
theorem qs_entry {x : Operand} {r bm since : Nat} {seen : Array Nat} {e : MapEntry} {p : κ × Value} (hx : ev env x = .pointer (some ⟨r, 0, none⟩)) (hr : RdO b S r (.mapIter (some bm) since (seen.push e.born) clock)) (hm : RdO b S bm (.map es clock)) (hok : MapOk enc ok es clock m) (he : e ∈ es.toList) (h2 : e.key = enc p.1) (h3 : e.val = p.2) : QS P (O (.entry x) ty) env b S (.tuple #[enc p.1, p.2]) := qs_val fun w hw => by
  simp only [O, execOp, hx, Sem.run_bind, run_entry_at (P := P) w r bm since seen es clock e (hr w hw) (hm w hw) he hok.stamped.2.1, Result.andThen_ok, Sem.run_pure]
  rw [h2, h3]
end Go.Sx
/-! Sx29 -/
namespace Go.Sx
open Go Go.MapKept Go.WideMaps Go.Maps
set_option linter.unusedVariables false
set_option linter.unusedSimpArgs false
set_option linter.unusedSectionVars false
variable {P : Program} {R : Ending → World → Prop} {env : Env} {b : Base} {S : List SH} {B : JB} {T : Tree} {ty : TypeId}
variable {es : Array MapEntry} {clock : Nat} {m : List (Nat × Value)}
abbrev pEnc (g : Nat) : Value := .pointer (some ⟨g, 0, none⟩)
abbrev pOk (g : Nat) : Prop := True
theorem pEnc_inj : ∀ a b : Nat, pEnc a = pEnc b → a = b := fun a b h => by
  injection h with h
  injection h with h
  injection h
def IsC (w : World) (g : Nat) : Prop := ∃ l ty, w.heap[g]? = some (.cells l ty (0, 0))
theorem asking {kt e : TypeId} {n : Nat} {w : World} (ht : P.underlying kt = some (.pointer e)) (hz : (P.info? e).map (·.size) = some n) (hn : n ≠ 0) {k : Nat} (hk : IsC w k) : ∀ (l : List MapEntry) (i : Nat), (∀ x ∈ l, ∃ g, x.key = pEnc g ∧ IsC w g) → ((Instr.findAsking kt (pEnc k) l i).run P w = .ok none w ∧ ∀ x ∈ l, x.key ≠ pEnc k) ∨ ∃ j x, (Instr.findAsking kt (pEnc k) l i).run P w = .ok (some (j, x.val)) w ∧ x ∈ l ∧ x.key = pEnc k
  | [], i, _ => .inl ⟨rfl, fun x h => by cases h⟩
  | x :: l, i, h => by
    obtain ⟨g, hg, hc⟩ := h x (List.mem_cons_self ..)
    have he : (Op.equal kt (pEnc k) x.key).run P w = .ok (decide ((some ⟨k, 0, none⟩ : Option Addr) = some ⟨g, 0, none⟩)) w := by
      rw [hg]
      exact run_ptr_eq (A := some ⟨k, 0, none⟩) (a := ⟨g, 0, none⟩) ht hz hn (fun a' h' => by injection h' with h'; subst h'; exact hk) hc 9999
    by_cases hkg : k = g
    · refine .inr ⟨i, x, ?_, List.mem_cons_self .., by rw [hg, hkg]⟩
      simp only [Instr.findAsking, Sem.run_bind, he, Result.andThen_ok]
      rw [hkg]
      simp only [decide_true, if_true, Sem.run_pure]
    · have hd : decide ((some ⟨k, 0, none⟩ : Option Addr) = some ⟨g, 0, none⟩) = false := by simp [hkg]
      rcases asking ht hz hn hk l (i + 1) (fun y hy => h y (List.mem_cons_of_mem _ hy)) with ⟨h1, h2⟩ | ⟨j, y, h1, h2, h3⟩
      · refine .inl ⟨?_, fun y hy => ?_⟩
        · simp only [Instr.findAsking, Sem.run_bind, he, Result.andThen_ok, hd, Bool.false_eq_true, if_false]
          exact h1
        · rcases List.mem_cons.1 hy with rfl | hy
          · rw [hg]
            exact fun q => hkg (pEnc_inj _ _ q).symm
          · exact h2 y hy
      · refine .inr ⟨j, y, ?_, List.mem_cons_of_mem _ h2, h3⟩
        simp only [Instr.findAsking, Sem.run_bind, he, Result.andThen_ok, hd, Bool.false_eq_true, if_false]
        exact h1
theorem find_ptr {kt e : TypeId} {n : Nat} {w : World} (ht : P.underlying kt = some (.pointer e)) (hz : (P.info? e).map (·.size) = some n) (hn : n ≠ 0) (h : MapOk pEnc pOk es clock m) {k : Nat} (hk : IsC w k) (hall : ∀ p ∈ m, IsC w p.1) :
    ((Instr.findKey kt (pEnc k) es.toList).run P w = .ok none w ∧ mlook m k = none) ∨ ∃ j v, (Instr.findKey kt (pEnc k) es.toList).run P w = .ok (some (j, v)) w ∧ mlook m k = some v := by
  have hf : (Instr.findKey kt (pEnc k) es.toList).run P w = (Instr.findAsking kt (pEnc k) es.toList 0).run P w := by
    simp only [Instr.findKey, Sem.run_bind, run_underlying_ok ht, Result.andThen_ok]
    cases es.toList with
    | nil => rfl
    | cons x l => rfl
  rw [hf]
  have hes : ∀ x ∈ es.toList, ∃ g, x.key = pEnc g ∧ IsC w g := fun x hx => by
    obtain ⟨p, hp, h1, h2⟩ := h.mem hx
    exact ⟨p.1, h1, hall p hp⟩
  rcases asking ht hz hn hk es.toList 0 hes with ⟨h1, h2⟩ | ⟨j, x, h1, h2, h3⟩
  · refine .inl ⟨h1, mlook_none.2 fun p hp e => ?_⟩
    obtain ⟨x, hx, h5, h6⟩ := h.mem' hp
    exact h2 x hx (by rw [h5, e])
  · obtain ⟨p, hp, h5, h6⟩ := h.mem h2
    have : p.1 = k := pEnc_inj _ _ (h5.symm.trans h3)
    refine .inr ⟨j, x.val, h1, mlook_mem h.nodup ?_⟩
    rw [← this, h6]
    exact hp
theorem run_check_ptr0 {kt e : TypeId} {w : World} (ht : P.underlying kt = some (.pointer e)) (em : Bool) (A : Option Addr) (n : Nat) : (Instr.checkKey em (n + 1) kt (.pointer A)).run P w = .ok () w := by
  simp only [Instr.checkKey, Sem.run_bind, run_underlying_ok ht, Result.andThen_ok, Sem.run_pure]
theorem run_check_ptr {kt e : TypeId} {w : World} (ht : P.underlying kt = some (.pointer e)) (em : Bool) (A : Option Addr) : (Instr.checkKey em 10000 kt (.pointer A)).run P w = .ok () w := run_check_ptr0 ht em A 9999
theorem qs_lookupP {kt e t vt : TypeId} {n : Nat} {x y : Operand} {g key : Nat} {z : Value} (k : Nat) (hp : P.underlying kt = some (.pointer e)) (hpz : (P.info? e).map (·.size) = some n) (hn : n ≠ 0) (ht : P.underlying t = some (.map kt vt)) (hz : (P.info? vt).bind (·.zero) = some z) (hx : ev env x = .map (some g)) (hy : ev env y = pEnc key) (hk : S[k]? = some [(g, .map es clock)]) (hm : MapOk pEnc pOk es clock m) (hkey : ∀ w, Sig b S w → IsC w key) (hall : ∀ w, Sig b S w → ∀ p ∈ m, IsC w p.1) :
    QS P (O (.lookup t x y false) ty) env b S ((mlook m key).getD z) := qs_val fun w hw => by
  have hg := hw.map_at hk
  have hrun : (Instr.lookup t (.map (some g)) (pEnc key) false).run P w = .ok ((mlook m key).getD z) w := by
    rcases find_ptr hp hpz hn hm (hkey w hw) (hall w hw) with ⟨h1, h2⟩ | ⟨j, v, h1, h2⟩
    · simp only [Instr.lookup, Sem.run_bind, run_underlying_ok ht, Result.andThen_ok, getObj_map hg, Sem.run_pure, run_check_ptr hp, h1, run_zeroV hz, h2]
      rfl
    · simp only [Instr.lookup, Sem.run_bind, run_underlying_ok ht, Result.andThen_ok, getObj_map hg, Sem.run_pure, run_check_ptr hp, h1, h2]
      rfl
  simp only [O, execOp, hx, hy, Sem.run_bind, hrun, Result.andThen_ok, Sem.run_pure]
theorem j_mappushP {kt e t vt : TypeId} {n : Nat} {x y z : Operand} {g key : Nat} {val : Value} (k : Nat) (hp : P.underlying kt = some (.pointer e)) (hpz : (P.info? e).map (·.size) = some n) (hn : n ≠ 0) (ht : P.underlying t = some (.map kt vt)) (hx : ev env x = .map (some g)) (hy : ev env y = pEnc key) (hv : ev env z = val) (hk : S[k]? = some [(g, .map es clock)]) (hm : MapOk pEnc pOk es clock m) (hkey : ∀ w, Sig b S w → IsC w key) (hall : ∀ w, Sig b S w → ∀ p ∈ m, IsC w p.1) (hno : mlook m key = none)
    (h : ∀ es' clock', MapOk pEnc pOk es' clock' (m ++ [(key, val)]) → J P R T (undef :: env) (S.set k [(g, .map es' clock')]) b B) : J P R (.op (O (.mapUpdate t x y z) ty) T) env S b B := fun w hw => by
  have hg := hw.map_at hk
  show opW _ _ _ _ _ _
  unfold opW
  rcases find_ptr hp hpz hn hm (hkey w hw) (hall w hw) with ⟨h1, h2⟩ | ⟨j, v, h1, h2⟩
  · have hrun : (execOp (ev env) (O (.mapUpdate t x y z) ty)).run P w = .ok .skip { w with heap := w.heap.setIfInBounds g (.map (es.push ⟨pEnc key, val, clock⟩) (clock + 1)) } := by
      simp only [O, execOp, hx, hy, hv, Instr.mapUpdate, Sem.run_bind, run_underlying_ok ht, Result.andThen_ok, getObj_map hg, run_check_ptr hp, h1, setObj_map _ hg, Sem.run_pure]
    rw [hrun]
    exact h _ _ (hm.push pEnc_inj trivial h2 val) _ (sig_setmap hw hk _)
  · rw [hno] at h2
    cases h2
end Go.Sx
/-! Ft3p -/
namespace Go.Proofs.Ytckpegkpdepokaa
open Go Go.Sx Go.MapKept Go.WideMaps Go.Maps
set_option maxRecDepth 100000
set_option linter.unusedVariables false
set_option linter.unusedSimpArgs false
set_option linter.unusedSectionVars false
theorem nodup_of_map {α β : Type} {f : α → β} : ∀ {l : List α}, (l.map f).Nodup → l.Nodup
  | [], _ => List.nodup_nil
  | x :: l, h => by
    rw [List.map_cons, List.nodup_cons] at h
    exact List.nodup_cons.2 ⟨fun hx => h.1 (List.mem_map.2 ⟨x, hx, rfl⟩), nodup_of_map h.2⟩
theorem sub_len {α : Type} [DecidableEq α] : ∀ {l L : List α}, l.Nodup → (∀ x ∈ l, x ∈ L) → l.length ≤ L.length
  | [], L, _, _ => Nat.zero_le _
  | x :: l, L, hn, hs => by
    obtain ⟨A, B, rfl⟩ := List.append_of_mem (hs x (List.mem_cons_self ..))
    rw [List.nodup_cons] at hn
    have h1 := sub_len (L := A ++ B) hn.2 (fun y hy => by
      have h2 := hs y (List.mem_cons_of_mem _ hy)
      rcases List.mem_append.1 h2 with h2 | h2
      · exact List.mem_append_left _ h2
      · rcases List.mem_cons.1 h2 with h2 | h2
        · subst h2
          exact absurd hy hn.1
        · exact List.mem_append_right _ h2)
    simp only [List.length_append, List.length_cons] at h1 ⊢
    omega
theorem sub_perm {α : Type} [DecidableEq α] : ∀ {l L : List α}, l.Nodup → L.Nodup → (∀ x ∈ l, x ∈ L) → (∀ x ∈ L, x ∈ l) → l.Perm L
  | [], L, _, _, _, h2 => by
    cases L with
    | nil => exact .nil
    | cons y L => exact absurd (h2 y (List.mem_cons_self ..)) (by simp)
  | x :: l, L, hn, hN, hs, h2 => by
    obtain ⟨A, B, rfl⟩ := List.append_of_mem (hs x (List.mem_cons_self ..))
    rw [List.nodup_cons] at hn
    rw [List.nodup_append, List.nodup_cons] at hN
    refine List.Perm.trans (List.Perm.cons x (sub_perm (L := A ++ B) hn.2 ?_ (fun y hy => ?_) (fun y hy => ?_))) List.perm_middle.symm
    · rw [List.nodup_append]
      exact ⟨hN.1, hN.2.1.2, fun a ha b hb => hN.2.2 a ha b (List.mem_cons_of_mem _ hb)⟩
    · have h3 := hs y (List.mem_cons_of_mem _ hy)
      rcases List.mem_append.1 h3 with h3 | h3
      · exact List.mem_append_left _ h3
      · rcases List.mem_cons.1 h3 with h3 | h3
        · subst h3
          exact absurd hy hn.1
        · exact List.mem_append_right _ h3
    · have h3 : y ∈ x :: l := h2 y (by
        rcases List.mem_append.1 hy with h | h
        · exact List.mem_append_left _ h
        · exact List.mem_append_right _ (List.mem_cons_of_mem _ h))
      rcases List.mem_cons.1 h3 with rfl | h3
      · exfalso
        rcases List.mem_append.1 hy with h | h
        · exact hN.2.2 y h y (List.mem_cons_self ..) rfl
        · exact hN.2.1.1 h
      · exact h3
theorem tot_sub : ∀ {l L : List FL}, (l.map FL.id).Nodup → (∀ f ∈ l, ∃ y ∈ L, y.id = f.id ∧ y.xs = f.xs) → tot l ≤ tot L
  | [], L, _, _ => Nat.zero_le _
  | f :: l, L, hn, hs => by
    obtain ⟨y, hy, h1, h2⟩ := hs f (List.mem_cons_self ..)
    obtain ⟨A, B, rfl⟩ := List.append_of_mem hy
    rw [List.map_cons, List.nodup_cons] at hn
    have h3 := tot_sub (L := A ++ B) hn.2 (fun x hx => by
      obtain ⟨z, hz, k1, k2⟩ := hs x (List.mem_cons_of_mem _ hx)
      refine ⟨z, ?_, k1, k2⟩
      rcases List.mem_append.1 hz with h | h
      · exact List.mem_append_left _ h
      · rcases List.mem_cons.1 h with rfl | h
        · exact absurd (List.mem_map.2 ⟨x, hx, k1.symm.trans h1⟩) hn.1
        · exact List.mem_append_right _ h)
    rw [tot_cons, tot_split, ← h2]
    omega
structure Cp (s o : SM) (done : List (List UInt8 × (Nat × Nat))) (tw : List (Nat × Value)) : Prop where
  raw : Raw o
  nm : o.ml.map (fun p => (p.1, Prod.snd p.2)) = done.map (fun p => (p.1, Prod.snd p.2))
  kc : ∀ f ∈ o.fs, f.k = (cnt o.ml f.id : Int)
  pos : ∀ f ∈ o.fs, 1 ≤ f.k
  fs : ∀ f ∈ o.fs, ∃ y ∈ s.fs, y.id = f.id ∧ y.xs = f.xs
  us : o.used = s.used
  tl : ∀ y ∈ s.fs, mlook tw y.g = (getF o.fs y.id).map fun f => pEnc f.g
  ts : ∀ p ∈ tw, ∃ y ∈ s.fs, p.1 = y.g
theorem getF_some {fs : List FL} {i : Nat} {f : FL} (h : getF fs i = some f) : f ∈ fs ∧ f.id = i := by
  unfold getF at h
  exact ⟨List.mem_of_find?_eq_some h, by simpa using List.find?_some h⟩
theorem getF_none {fs : List FL} {i : Nat} (h : getF fs i = none) : ∀ f ∈ fs, f.id ≠ i := fun f hf => by
  unfold getF at h
  simpa using List.find?_eq_none.1 h f hf
theorem getF_bump (fs : List FL) (i j : Nat) (d : Int) : (getF (bump fs i d) j).map FL.g = (getF fs j).map FL.g := by
  unfold getF bump
  induction fs with
  | nil => rfl
  | cons f fs ih =>
    rw [List.map_cons, List.find?_cons, List.find?_cons]
    have e : (if f.id = i then { f with k := f.k + d } else f).id = f.id := by split <;> rfl
    rw [e]
    split
    · rw [Option.map_some, Option.map_some]
      congr 1
      split <;> rfl
    · exact ih
theorem raw_name {s : SM} (h : Raw s) {f : FL} (hf : f ∈ s.fs) {n : List UInt8} (hfree : alook s.ml n = none) (hk : (cnt s.ml f.id : Int) + 1 ≤ f.k) {es : Array MapEntry} {ck : Nat} (hm : MapOk strEnc strOk es ck ((s.ml ++ [(n, (f.g, f.id))]).map fun q => (q.1, fptr q.2))) : Raw { s with ml := s.ml ++ [(n, (f.g, f.id))], es := es, ck := ck } := by
  refine ⟨hm, ?_, h.ids, h.gnd, fun q hq => ?_, h.form, fun x hx => ?_, h.us⟩
  · show ((s.ml ++ [(n, (f.g, f.id))]).map Prod.fst).Nodup
    rw [List.map_append, List.nodup_append]
    refine ⟨h.nd, by simp, fun x hx y hy e => ?_⟩
    simp only [List.map_cons, List.map_nil, List.mem_singleton] at hy
    subst hy
    obtain ⟨q, hq, e2⟩ := List.mem_map.1 hx
    exact alook_none.1 hfree q hq (e2.trans e)
  · rcases List.mem_append.1 hq with hq | hq
    · exact h.has q hq
    · rw [List.mem_singleton] at hq
      subst hq
      exact ⟨f, hf, rfl, rfl⟩
  · have h3 := h.le x hx
    show ((cnt (s.ml ++ [(n, (f.g, f.id))]) x.id : Nat) : Int) ≤ x.k ∧ x.k ≤ 1000000
    rw [cnt_snoc]
    by_cases hx2 : f.id = x.id
    · have hxf := id_uniq h hf hx hx2.symm
      have e : (if ((f.g, f.id) : Nat × Nat).2 = x.id then 1 else 0) = 1 := if_pos hx2
      rw [e, hxf]
      rw [hxf] at h3
      omega
    · simp only
      rw [if_neg hx2]
      exact h3
theorem bump_bump {s : SM} (h : Raw s) {f : FL} (hf : f ∈ s.fs) : ({ f with k := f.k + 1 } : FL) ∈ bump s.fs f.id 1 := List.mem_map.2 ⟨f, hf, by rw [if_pos rfl]⟩
theorem cp_name {s o : SM} {done : List (List UInt8 × (Nat × Nat))} {tw : List (Nat × Value)} {n : List UInt8} {f : FL} {q : List UInt8 × (Nat × Nat)} (hr : Raw o) (hnm : o.ml.map (fun p => (p.1, Prod.snd p.2)) = done.map (fun p => (p.1, Prod.snd p.2))) (hkc : ∀ x ∈ o.fs, x.k = (cnt o.ml x.id : Int)) (hpos : ∀ x ∈ o.fs, x.id ≠ f.id → 1 ≤ x.k) (hfs : ∀ x ∈ o.fs, ∃ y ∈ s.fs, y.id = x.id ∧ y.xs = x.xs) (hus : o.used = s.used)
    (htl : ∀ y ∈ s.fs, mlook tw y.g = (getF o.fs y.id).map fun f => pEnc f.g) (hts : ∀ p ∈ tw, ∃ y ∈ s.fs, p.1 = y.g) (hf : f ∈ o.fs) (hk : f.k + 1 ≤ 1000000) (hq : q.1 = n ∧ q.2.2 = f.id) (hfree : alook o.ml n = none) {es : Array MapEntry} {ck : Nat} (hm : MapOk strEnc strOk es ck ((o.ml ++ [(n, (f.g, f.id))]).map fun q => (q.1, fptr q.2))) :
    Cp s { o with ml := o.ml ++ [(n, (f.g, f.id))], fs := bump o.fs f.id 1, es := es, ck := ck } (done ++ [q]) tw := by
  have hkf := hkc f hf
  refine ⟨raw_name (s := { o with fs := bump o.fs f.id 1 }) (raw_bump hr hf hk) (f := { f with k := f.k + 1 }) (bump_bump hr hf) hfree (by show ((cnt o.ml f.id : Nat) : Int) + 1 ≤ f.k + 1; omega) hm, ?_, fun x hx => ?_, fun x hx => ?_, fun x hx => ?_, hus, fun y hy => ?_, hts⟩
  · show (o.ml ++ [(n, (f.g, f.id))]).map (fun p => (p.1, Prod.snd p.2)) = _
    rw [List.map_append, List.map_append, hnm, List.map_singleton, List.map_singleton]
    simp only
    rw [← hq.1, ← hq.2]
  · obtain ⟨y, hy, e1, _, _, _, e5⟩ := mem_bump hx
    have h1 := hkc y hy
    show x.k = ((cnt (o.ml ++ [(n, (f.g, f.id))]) x.id : Nat) : Int)
    rw [cnt_snoc, e1, e5]
    simp only
    by_cases hyf : y.id = f.id
    · rw [if_pos hyf, if_pos hyf.symm]
      omega
    · rw [if_neg hyf, if_neg (fun e => hyf e.symm)]
      omega
  · obtain ⟨y, hy, e1, _, _, _, e5⟩ := mem_bump hx
    have h1 := hkc y hy
    rw [e5]
    by_cases hyf : y.id = f.id
    · rw [if_pos hyf]
      omega
    · rw [if_neg hyf]
      have := hpos y hy hyf
      omega
  · obtain ⟨y, hy, e1, _, _, e4, _⟩ := mem_bump hx
    rw [e1, e4]
    exact hfs y hy
  · rw [htl y hy]
    have h1 := getF_bump o.fs f.id y.id 1
    show _ = (getF (bump o.fs f.id 1) y.id).map fun f => pEnc f.g
    have e : ∀ u : Option FL, u.map (fun f => pEnc f.g) = (u.map FL.g).map pEnc := fun u => by cases u <;> rfl
    rw [e, e, h1]
theorem mlook_snoc {tw : List (Nat × Value)} {k j : Nat} {v : Value} (h : mlook tw k = none) : mlook (tw ++ [(k, v)]) j = if k = j then some v else mlook tw j := by
  unfold mlook at h ⊢
  rw [List.find?_append]
  by_cases hkj : k = j
  · subst hkj
    rw [if_pos rfl]
    rw [Option.map_eq_none_iff.1 h]
    simp
  · rw [if_neg hkj]
    rw [List.find?_cons_of_neg (by simpa using hkj)]
    simp
theorem cp_end {s o : SM} {a : AS} {done : List (List UInt8 × (Nat × Nat))} {tw : List (Nat × Value)} (h : Sx' s a) (hc : Cp s o done tw) (hn : (done.map Prod.fst).Nodup) (hs : ∀ p ∈ done, p ∈ s.ml) (ha : ∀ p ∈ s.ml, p ∈ done) : Sx' o a := by
  classical
  have hp : done.Perm s.ml := sub_perm (nodup_of_map hn) (nodup_of_map h.raw.nd) hs ha
  have hnm : (o.ml.map fun p => (p.1, Prod.snd p.2)).Perm a.nm := by
    rw [hc.nm]
    exact (hp.map _).trans h.rep.nm
  have hcn : ∀ i, cnt o.ml i = cnt s.ml i := fun i => by
    have e : ∀ ml : List (List UInt8 × (Nat × Nat)), cnt ml i = cntA (ml.map fun p => (p.1, Prod.snd p.2)) i := fun ml => by
      unfold cnt cntA
      rw [List.filter_map, List.length_map]
      rfl
    rw [e, e, hc.nm]
    unfold cntA
    exact ((hp.map _).filter _).length_eq
  have hall : ∀ y ∈ s.fs, ∃ f ∈ o.fs, f.id = y.id := fun y hy => by
    have h1 := h.ex.pos y hy (fun q => q)
    have h2 := h.ex.kc y hy
    have h3 : 0 < cnt o.ml y.id := by
      rw [hcn]
      have h5 : y.k = (cnt s.ml y.id : Int) + 0 := h2
      omega
    unfold cnt at h3
    obtain ⟨q, hq⟩ := List.exists_mem_of_length_pos h3
    obtain ⟨hq1, hq2⟩ := List.mem_filter.1 hq
    obtain ⟨f, hf, _, hfi⟩ := hc.raw.has q hq1
    exact ⟨f, hf, hfi.trans (by simpa using hq2)⟩
  have ht1 := tot_sub hc.raw.ids hc.fs
  have ht2 := tot_sub h.raw.ids (fun y hy => by
    obtain ⟨f, hf, hfi⟩ := hall y hy
    obtain ⟨z, hz, h1, h2⟩ := hc.fs f hf
    refine ⟨f, hf, hfi, ?_⟩
    rw [← h2, id_uniq h.raw hy hz (h1.trans hfi)])
  have hut := h.ex.ut
  refine ⟨hc.raw, ⟨fun f hf => by rw [hc.kc f hf]; exact (Int.add_zero _).symm, fun f hf _ => hc.pos f hf, ?_⟩, hnm, fun f hf => ?_, hc.us.trans h.rep.us⟩
  · rw [hc.us]
    omega
  · obtain ⟨y, hy, h1, h2⟩ := hc.fs f hf
    rw [← h1, ← h2]
    exact h.rep.dt y hy
end Go.Proofs.Ytckpegkpdepokaa
