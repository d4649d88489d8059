/- Files that forget: Write under a new name; Link; Append. -/
import Derived.Test.YtckpegkpdepokaaTa
import Derived.Test.YtckpegkpdepokaaFs6
namespace Go.Proofs.Ytckpegkpdepokaa
open Go Go.Sx
set_option maxRecDepth 100000
set_option maxHeartbeats 4000000
set_option linter.unusedVariables false
set_option linter.unusedSimpArgs false
attribute [local irreducible] J JQ QS Con W opW
theorem ent31 : Sx.Enters Try.prog 31 := ⟨_, Try.func31, by kernel_rfl, by kernel_rfl⟩
theorem ent32 : Sx.Enters Try.prog 32 := ⟨_, Try.func32, by kernel_rfl, by kernel_rfl⟩
theorem ent34 : Sx.Enters Try.prog 34 := ⟨_, Try.func34, by kernel_rfl, by kernel_rfl⟩
theorem ent35 : Sx.Enters Try.prog 35 := ⟨_, Try.func35, by kernel_rfl, by kernel_rfl⟩
theorem ent39 : Sx.Enters Try.prog 39 := ⟨_, Try.func39, by kernel_rfl, by kernel_rfl⟩
theorem ent40 : Sx.Enters Try.prog 40 := ⟨_, Try.func40, by kernel_rfl, by kernel_rfl⟩

open Go.MapKept Go.WideMaps Go.Maps
abbrev FM.parts2 (f : FM) : List SH := [[(f.gf, f.obj)], [(f.now.gs, f.now.sobj)], [(f.now.gm, .map f.now.es f.now.ck)], f.now.fs.map FL.h, f.tc ++ f.more ++ ph f.P]
theorem FM.split2 (f : FM) : ([f.heap] : List SH).flatten.Perm (f.parts2).flatten := by
  classical
  refine List.perm_iff_count.2 fun x => ?_
  simp only [FM.heap, SM.heap, FM.parts2, List.flatten_cons, List.flatten_nil, List.append_nil, List.nil_append, List.cons_append, List.count_append, List.count_cons, List.count_nil] <;> omega
theorem RV.more {P P' : List BK} {v : Value} {xs : List UInt8} (hs : ∀ b ∈ P, b ∈ P') (h : RV P v xs) : RV P' v xs := by
  rcases h with h | ⟨b, hb, h⟩
  · exact .inl h
  · exact .inr ⟨b, hs b hb, h⟩
theorem Vw.more {P P' : List BK} {o : Nat} {v : Value} {xs : List UInt8} (hs : ∀ b ∈ P, b ∈ P') (h : Vw P o v xs) : Vw P' o v xs := by
  rcases h with h | ⟨b, hb, h⟩
  · exact .inl h
  · exact .inr ⟨b, hs b hb, h⟩
theorem br_keep {w w' : World} {v : Value} {xs : List UInt8} {Fp : SH} {S : List SH} (h : BR w v xs) (hd : ∀ a n c, v = .slice (some a) n c → 0 < n → a.block ∉ dom Fp) (hs : Sig ⟨w, dom Fp⟩ S w') : BR w' v xs := by
  rcases h with h | ⟨a, cap, h1, h2, h3, h4⟩
  · exact .inl h
  · refine .inr ⟨a, cap, h1, h2, fun h0 => Nat.lt_of_lt_of_le (h3 h0) hs.size, ?_⟩
    rcases Nat.eq_zero_or_pos xs.length with h0 | h0
    · rw [List.eq_nil_of_length_eq_zero h0]
      intro j u hu
      simp [ints] at hu
    · exact rd_w (rd_cells h4 (hd _ _ _ h1 h0)) hs
theorem writeM_gs (s : SM) (n : List UInt8) (id : Nat) (v : Value) (xs : List UInt8) (g : Nat) : (writeM s n id v xs g).gs = s.gs ∧ (writeM s n id v xs g).gm = s.gm := by
  unfold writeM
  have h := givesM_gs (newM (letsM s n) id v xs g) n (g, id)
  exact ⟨h.1.trans (letsM_gs s n).1, h.2.trans (letsM_gs s n).2.1⟩
def clipV (xs : List UInt8) (A : Option Addr) : Value := .slice (if xs.length = 0 then A else A.map (fun a : Addr => a.add (0 * 1))) xs.length xs.length
/-- (*pantry.fs.FS).Write -/
theorem write_con (f : FM) (B : Nat) (hB : B < 16384) (n : List UInt8) (bv : Value) (xs : List UInt8) (w : World) (hok : f.Ok B) (hl : -100000000 ≤ f.left ∧ f.left ≤ 9223372036854775807) (hn : strOk n) (hbr : BR w bv xs) (hbd : ∀ a m c, bv = .slice (some a) m c → 0 < m → a.block ∉ dom f.heap) (hxl : xs.length ≤ 1000000000) (ht : (tot f.now.fs : Int) ≤ f.now.used) (hu : f.now.used ≤ 1073741824) (hfu : f.fused = false) (hroom : f.now.used + (xs.length : Int) ≤ f.room) (hx2 : xs.length ≤ 1048576) (hnn : nameOk n = true) (id : Nat) (hid : ∀ x ∈ f.now.fs, x.id ≠ id) (hlk : alook f.now.ml n = none) (hml : f.now.ml.length < 16384) : Con Try.prog 13 [f.ptr, .string (bs n), bv] w f.heap fun v S' => v = .int .i64 0 ∧ ∃ (s' : SM) (A2 : Option Addr) (Q more : SH) (P2 : List BK) (t tv : Value) (tc : SH), S' = [FM.heap (doneF { f with more := more, P := P2 } s' P2 t tv tc)] ∧ Sx.Own 100 1 (f.ts ++ [t]) tv tc ∧ (∃ (es : Array MapEntry) (ck g : Nat), s' = { writeM f.now n id (clipV xs A2) xs g with es := es, ck := ck }) ∧ Raw s' ∧ (∃ c, RV P2 (.slice A2 xs.length c) xs) ∧ (∀ b ∈ f.P, b ∈ P2) ∧ s'.gs = f.now.gs := by
  refine con_of_tree mix Try.func13 T13_ok (by kernel_rfl) ?_
  unfold T13
  obtain ⟨A, cap, hbv, hcap⟩ := br_form hbr
  have hone : oneV bv = true := by rw [hbv]; rfl
  have hutot : 0 ≤ f.now.used := by omega
  refine j_box (l := [.string (bs n)]) rfl (fun g0 hg0 hs0 => ?_)
  refine j_box (l := [bv]) (by show bv.cells = #[bv]; rw [hbv]; rfl) (fun g1 hg1 hs1 => ?_)
  refine j_q (qs_ac) ?_
  refine j_q (qs_load (l := [.string (bs n)]) 1 Try.underlying9 rfl rfl rfl rfl) ?_
  refine j_lit (vs := [.string (bs _)]) Try.underlying41 sz9 zero9 rfl (by simp [oneV]) ⟨rfl, by decide⟩ (fun g4 v4 c4 hv4 hc4 ho4 => ?_)
  subst hv4 hc4
  refine j_q (qs_call ent32 rfl rfl rfl (fun w' hw' => may_con f [n] _ w' (in_own hw' 3 rfl) (rsl_own ho4 0 rfl hw') (by simp))) ?_
  refine j_q (qs_neq rfl rfl) ?_
  refine j_cond rfl (fun hc0 => ?_) (fun hc0 => ?_)
  · skip
    have hm0 : mayE f.fused f.left [n] = 0 := by
      unfold mayE
      rw [hfu]
      simp [hnn]
    rw [hm0] at hc0
    simp at hc0
  · skip
    have hm0 : mayE f.fused f.left [n] = 0 := by
      unfold mayE
      rw [hfu]
      simp [hnn]
    refine j_q (qs_load (l := [bv]) 1 Try.underlying23 rfl rfl rfl rfl) ?_
    refine j_q (qs_lenl (n := xs.length) (A := A) (c := cap) Try.underlying23 hbv) ?_
    refine j_q (qs_gtr rfl rfl) ?_
    refine j_cond rfl (fun hc1 => ?_) (fun hc1 => ?_)
    · skip
      simp at hc1
      omega
    · skip
      refine j_perm (S' := [[(g4, .cells [Value.string (bs n)].toArray 9 (0, 0))], [(g1, .cells [bv].toArray 23 (0, 0))], [(g0, .cells [.string (bs n)].toArray 9 (0, 0))], [(f.gf, f.obj)], [(f.now.gs, f.now.sobj)], [(f.now.gm, .map f.now.es f.now.ck)], f.now.fs.map FL.h, f.tc ++ f.more ++ ph f.P]) (by
        have h0 := f.split2
        classical
        refine List.perm_iff_count.2 fun x => ?_
        have h2 := List.perm_iff_count.1 h0 x
        simp only [FM.parts2, List.set, List.flatten_cons, List.flatten_nil, List.append_nil, List.nil_append, List.cons_append, List.count_append, List.count_cons, List.count_nil] at h2 ⊢
        omega) ?_
      refine j_draw ?_
      refine jq_q (qs_nil rfl) ?_
      refine jq_q (qs_field Try.underlying62 rfl sz58 (by decide) rfl) ?_
      refine jq_q (qs_load (l := fmcells f) 3 Try.underlying58 rfl rfl rfl rfl) ?_
      refine jq_q (qs_nil rfl) ?_
      refine jq_q (qs_field Try.underlying66 rfl sz64 (by decide) rfl) ?_
      refine jq_q (qs_load (l := smcells f.now) 4 Try.underlying64 rfl rfl rfl rfl) ?_
      refine jq_q (qs_load (l := [.string (bs n)]) 2 Try.underlying9 rfl rfl rfl rfl) ?_
      refine jq_q (qs_lookup (key := n) strKey 5 Try.underlying64 zv63 rfl rfl rfl hok.raw.map hn) ?_
      rw [mlook_map fptr, getD_fptr, hlk]
      refine jq_nil ?_
      refine j_q (qs_ac) ?_
      refine j_q (qs_pnnil Try.underlying63 rfl) ?_
      refine j_gf rfl (by simp) ?_
      refine j_gf rfl (by simp) ?_
      refine j_gf rfl (by simp) ?_
      refine j_gf rfl (by simp) ?_
      refine j_gf rfl (by simp) ?_
      refine j_q (qs_and (b0 := false) (b1 := false) rfl rfl) ?_
      refine j_cond rfl (fun hc2 => ?_) (fun hc2 => ?_)
      · skip
        simp [gd] at hc2
      · skip
        refine j_draw ?_
        refine jq_q (qs_pnil Try.underlying63 rfl) ?_
        refine jq_g rfl (fun hb => qs_mt rfl) ?_
        refine jq_g rfl (fun hb => qs_nil (gd_eq hb)) ?_
        refine jq_g rfl (fun hb => qs_field Try.underlying62 rfl sz58 (by decide) (gd_eq hb)) ?_
        refine jq_g rfl (fun hb => qs_load (l := fmcells f) 3 Try.underlying58 rfl (gd_eq hb) rfl rfl) ?_
        refine jq_g rfl (fun hb => qs_nil (gd_eq hb)) ?_
        refine jq_g rfl (fun hb => qs_field Try.underlying66 rfl sz64 (by decide) (gd_eq hb)) ?_
        refine jq_g rfl (fun hb => qs_load (l := smcells f.now) 4 Try.underlying64 rfl (gd_eq hb) rfl rfl) ?_
        refine jq_g rfl (fun hb => qs_maplen (rdo_mem (o := .map f.now.es f.now.ck) 5 rfl (by simp)) Try.underlying64 (gd_eq hb) hok.raw.map) ?_
        refine jq_g rfl (fun hb => qs_geq (gd_eq hb) rfl) ?_
        refine jq_q (qs_and rfl rfl) ?_
        refine jq_g rfl (fun hb => qs_mt rfl) ?_
        refine jq_g rfl (fun hb => qs_nil (gd_eq hb)) ?_
        refine jq_g rfl (fun hb => qs_field Try.underlying62 rfl sz58 (by decide) (gd_eq hb)) ?_
        refine jq_g rfl (fun hb => qs_load (l := fmcells f) 3 Try.underlying58 rfl (gd_eq hb) rfl rfl) ?_
        refine jq_g rfl (fun hb => qs_nil (gd_eq hb)) ?_
        refine jq_g rfl (fun hb => qs_field Try.underlying66 rfl sz3 (by decide) (gd_eq hb)) ?_
        refine jq_g rfl (fun hb => qs_load (l := smcells f.now) 4 Try.underlying3 rfl (gd_eq hb) rfl rfl) ?_
        refine jq_g rfl (fun hb => qs_mt rfl) ?_
        refine jq_g rfl (fun hb => qs_sub64 (gd_eq hb) (gd_eq hb) (by first | omega | (simp only [Bool.and_eq_true, Bool.or_eq_true, Bool.and_eq_false_iff, Bool.or_eq_false_iff, Bool.not_eq_true', Bool.not_eq_false', decide_eq_true_eq, decide_eq_false_iff_not, beq_iff_eq, beq_eq_false_iff_ne, bne_iff_ne, bne_eq_false_iff_eq, ne_eq, Int.toNat_natCast] at *; omega))) ?_
        refine jq_g rfl (fun hb => qs_load (l := [bv]) 1 Try.underlying23 rfl rfl rfl rfl) ?_
        refine jq_g rfl (fun hb => qs_lenl (n := xs.length) (A := A) (c := cap) Try.underlying23 ((gd_eq hb).trans hbv)) ?_
        refine jq_g rfl (fun hb => qs_add64 (gd_eq hb) (gd_eq hb) (by first | omega | (simp only [Bool.and_eq_true, Bool.or_eq_true, Bool.and_eq_false_iff, Bool.or_eq_false_iff, Bool.not_eq_true', Bool.not_eq_false', decide_eq_true_eq, decide_eq_false_iff_not, beq_iff_eq, beq_eq_false_iff_ne, bne_iff_ne, bne_eq_false_iff_eq, ne_eq, Int.toNat_natCast] at *; omega))) ?_
        refine jq_g rfl (fun hb => qs_mt rfl) ?_
        refine jq_g rfl (fun hb => qs_nil (gd_eq hb)) ?_
        refine jq_g rfl (fun hb => qs_field Try.underlying62 rfl sz3 (by decide) (gd_eq hb)) ?_
        refine jq_g rfl (fun hb => qs_load (l := fmcells f) 3 Try.underlying3 rfl (gd_eq hb) rfl rfl) ?_
        refine jq_g rfl (fun hb => qs_gtr (gd_eq hb) (gd_eq hb)) ?_
        refine jq_q (qs_or rfl rfl) ?_
        refine jq_nil ?_
        refine j_cond rfl (fun hc4 => ?_) (fun hc4 => ?_)
        · skip
          simp [gd] at hc4
          omega
        · skip
          refine j_q (qs_load (l := [bv]) 1 Try.underlying23 rfl rfl rfl rfl) ?_
          refine j_call0 ent31 rfl rfl rfl (fun w' hw' => clone_con bv xs w' (br_keep hbr hbd hw') hxl) (fun u S2 hu1 => ?_)
          obtain ⟨Q, rfl, hrv⟩ := hu1
          obtain ⟨bv2, hbv2⟩ : ∃ y, y = u := ⟨_, rfl⟩
          rw [← hbv2] at hrv ⊢
          refine j_subl (S' := [ph Q, [(g4, .cells [Value.string (bs n)].toArray 9 (0, 0))], [(g1, .cells [bv].toArray 23 (0, 0))], [(g0, .cells [.string (bs n)].toArray 9 (0, 0))], [(f.gf, f.obj)], [(f.now.gs, f.now.sobj)], [(f.now.gm, .map f.now.es f.now.ck)], f.now.fs.map FL.h, f.tc ++ f.more ++ ph f.P]) (by repeat first | exact List.Sublist.refl _ | exact List.nil_sublist _ | apply List.Sublist.cons_cons | apply List.Sublist.cons) ?_
          obtain ⟨A2, c2, hbe, hbc, _⟩ := hrv.form
          refine j_store (l := [bv]) 2 sz23 rfl rfl (by show oneV bv2 = true; rw [hbe]; rfl) rfl (by simp) (by simp) ?_
          refine j_q (qs_mkfuncv (vs := [.pointer (some ⟨g0, 0, none⟩), .pointer (some ⟨g1, 0, none⟩)]) rfl) ?_
          refine j_subl (S' := [ph Q, [(g4, .cells [Value.string (bs n)].toArray 9 (0, 0))], [(g1, .cells [bv2].toArray 23 (0, 0))], [(g0, .cells [.string (bs n)].toArray 9 (0, 0))], [(f.gf, f.obj)], [(f.now.gs, f.now.sobj)], [(f.now.gm, .map f.now.es f.now.ck)], f.now.fs.map FL.h, f.tc ++ f.more ++ ph f.P]) (by repeat first | exact List.Sublist.refl _ | exact List.nil_sublist _ | apply List.Sublist.cons_cons | apply List.Sublist.cons) ?_
          refine j_perm (S' := [FM.heap ({ f with more := [(g0, .cells [.string (bs n)].toArray 9 (0, 0))] ++ [(g1, .cells [bv2].toArray 23 (0, 0))] ++ f.more, P := Q ++ f.P } : FM), [(g4, .cells [Value.string (bs n)].toArray 9 (0, 0))]]) (by
            classical
            refine List.perm_iff_count.2 fun x => ?_
            simp only [FM.heap, FM.obj, fmcells, SM.heap, ph, List.map_append, List.set, List.flatten_cons, List.flatten_nil, List.append_nil, List.nil_append, List.cons_append, List.count_append, List.count_cons, List.count_nil] <;> omega) ?_
          have hok2 : FM.Ok B ({ f with more := [(g0, .cells [.string (bs n)].toArray 9 (0, 0))] ++ [(g1, .cells [bv2].toArray 23 (0, 0))] ++ f.more, P := Q ++ f.P } : FM) := ⟨hok.row, hok.lt, hok.raw, fun x hx => (hok.vw x hx).more (fun b hb => List.mem_append_right _ hb), hok.lpv⟩
          refine j_call 0 ent34 rfl rfl rfl rfl (fun w' hw' => does_con ({ f with more := [(g0, .cells [.string (bs n)].toArray 9 (0, 0))] ++ [(g1, .cells [bv2].toArray 23 (0, 0))] ++ f.more, P := Q ++ f.P } : FM) B hB 35 #[.pointer (some ⟨g0, 0, none⟩), .pointer (some ⟨g1, 0, none⟩)] (fun s' P' => (∃ (es : Array MapEntry) (ck g : Nat), s' = { writeM f.now n id (clipV xs A2) xs g with es := es, ck := ck }) ∧ Raw s' ∧ P' = Q ++ f.P) w' hok2 hl ent35 (fun w2 hin hdj => (wr_con f.now (Q ++ f.P) n bv2 xs A2 c2 id g0 g1 w2 hok.raw ht (by omega) hid hbe hbc hxl hn (hin (g0, .cells [.string (bs n)].toArray 9 (0, 0)) (by simp)) (hdj g0 (List.mem_map.2 ⟨(g0, .cells [.string (bs n)].toArray 9 (0, 0)), by simp, rfl⟩)) (hin (g1, .cells [bv2].toArray 23 (0, 0)) (by simp)) (hdj g1 (List.mem_map.2 ⟨(g1, .cells [bv2].toArray 23 (0, 0)), by simp, rfl⟩))).mono (fun u S3 hu3 => by
            obtain ⟨es, ck, g, _, e1, e2⟩ := hu3
            exact ⟨_, _, e1, (writeM_gs _ _ _ _ _ _).1, ⟨es, ck, g, rfl⟩, e2, rfl⟩))) (fun u S2 hu2 => ?_)
          obtain ⟨rfl, s', P', tv', tc', rfl, hrow, hgs, hQ, hrw, hP⟩ := hu2
          refine j_subl (S' := [FM.heap (doneF ({ f with more := [(g0, .cells [.string (bs n)].toArray 9 (0, 0))] ++ [(g1, .cells [bv2].toArray 23 (0, 0))] ++ f.more, P := Q ++ f.P } : FM) s' P' (.func (.func 35) #[] #[.pointer (some ⟨g0, 0, none⟩), .pointer (some ⟨g1, 0, none⟩)]) tv' tc')]) (by repeat first | exact List.Sublist.refl _ | exact List.nil_sublist _ | apply List.Sublist.cons_cons | apply List.Sublist.cons) ?_
          refine j_ret_con (vs := [_]) (fun w' hw' => ⟨rfl, trivial⟩) ?_
          subst hP
          exact ⟨rfl, s', A2, [], _, _, _, tv', tc', rfl, hrow, hQ, hrw, ⟨c2, by rw [← hbe]; exact hrv.more (fun b hb => List.mem_append_left _ hb)⟩, (fun b hb => List.mem_append_right _ hb), hgs⟩
end Go.Proofs.Ytckpegkpdepokaa
