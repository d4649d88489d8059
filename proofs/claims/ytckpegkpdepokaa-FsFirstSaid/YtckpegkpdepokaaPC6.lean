/- Part 6. -/
import Derived.Test.YtckpegkpdepokaaPC2
import Derived.Test.YtckpegkpdepokaaPC3
import Derived.Test.YtckpegkpdepokaaPC5
import Derived.Test.YtckpegkpdepokaaPC4
/-! Ft6 -/
namespace Go.Proofs.Ytckpegkpdepokaa
open Go Go.Sx
set_option maxRecDepth 100000
set_option maxHeartbeats 4000000
set_option linter.unusedVariables false
set_option linter.unusedSimpArgs false
attribute [local irreducible] J JQ QS Con W opW
open Go.MapKept Go.WideMaps Go.Maps
def freesA (s : AS) (n : List UInt8) : Nat :=
  match alook s.nm n with
  | none => 0
  | some i => if cntA s.nm i = 1 then (s.dt i).length else 0
def fullA (a : AF) (n xs : List UInt8) : Prop := (alook a.now.nm n = none ∧ 16384 ≤ a.now.nm.length) ∨ a.room < a.now.used - (freesA a.now n : Int) + (xs.length : Int)
instance (a : AF) (n xs : List UInt8) : Decidable (fullA a n xs) := by unfold fullA; infer_instance
def wrE (a : AF) (n xs : List UInt8) : Int := if mayE a.fused a.left [n] ≠ 0 then mayE a.fused a.left [n] else if 1048576 < xs.length then 5 else if fullA a n xs then 6 else 0
theorem letsA_free (s : AS) (n : List UInt8) : alook (letsA s n).nm n = none := by
  unfold letsA
  split
  · rename_i h
    exact h
  · show alook (mdel s.nm n) n = none
    rw [alook_mdel, if_pos rfl]
theorem letsA_none {s : AS} {n : List UInt8} (h : alook s.nm n = none) : letsA s n = s := by
  unfold letsA
  rw [h]
theorem letsA_used (s : AS) (n : List UInt8) : (letsA s n).used = s.used - (freesA s n : Int) := by
  cases h : alook s.nm n with
  | none =>
    rw [letsA_none h]
    simp only [freesA, h]
    omega
  | some i =>
    simp only [letsA, freesA, h]
    split
    · rfl
    · omega
theorem writeA_eq (s : AS) (n xs : List UInt8) (i : Nat) : writeA s n xs i = ⟨(letsA s n).nm ++ [(n, i)], updA (letsA s n).dt i xs, (letsA s n).used + (xs.length : Int)⟩ := by
  have h := letsA_free s n
  unfold writeA givesA
  simp only
  rw [if_neg (by rw [h]; simp)]
  have e : letsA { letsA s n with dt := updA (letsA s n).dt i xs } n = { letsA s n with dt := updA (letsA s n).dt i xs } := letsA_none h
  rw [e]
theorem mdel_len {s : AS} {n : List UInt8} {i : Nat} (hn : (s.nm.map Prod.fst).Nodup) (hl : alook s.nm n = some i) : (mdel s.nm n).length + 1 = s.nm.length := by
  obtain ⟨A, B, e, hA⟩ := alook_split hl
  rw [e] at hn ⊢
  rw [List.map_append, List.map_cons, List.nodup_append, List.nodup_cons] at hn
  have hb : ∀ q ∈ B, q.1 ≠ n := fun q hq e => hn.2.1.1 (by rw [← e]; exact List.mem_map.2 ⟨q, hq, rfl⟩)
  have e1 : mdel (A ++ (n, i) :: B) n = A ++ B := by
    unfold mdel
    rw [List.filter_append, List.filter_cons_of_neg (by simp), List.filter_eq_self.2 (fun q hq => by simpa using hA q hq), List.filter_eq_self.2 (fun q hq => by simpa using hb q hq)]
  rw [e1]
  simp only [List.length_append, List.length_cons]
  omega
theorem write_lim {a : AF} {n xs : List UInt8} {i : Nat} (hn : (a.now.nm.map Prod.fst).Nodup) (hl : limA a.now) (hr : a.room ≤ 1073741824) (hf : ¬ fullA a n xs) : limA (writeA a.now n xs i) := by
  unfold fullA at hf
  rw [not_or] at hf
  rw [writeA_eq]
  refine ⟨?_, ?_⟩
  · show (letsA a.now n).used + (xs.length : Int) ≤ _
    rw [letsA_used]
    have := hf.2
    omega
  · show ((letsA a.now n).nm ++ [(n, i)]).length ≤ _
    rw [List.length_append, List.length_singleton]
    cases h : alook a.now.nm n with
    | none =>
      have e : letsA a.now n = a.now := by unfold letsA; rw [h]
      rw [e]
      have h1 := hf.1
      rw [not_and] at h1
      have := h1 h
      omega
    | some j =>
      have e : (letsA a.now n).nm = mdel a.now.nm n := by unfold letsA; rw [h]
      rw [e]
      have := mdel_len hn h
      have := hl.2
      omega
theorem FR.To.old {w w' : World} {r R1 r' : FR} {S : List SH} (h : FR.To w' R1 r') (hw' : Sig ⟨w, dom r.heap⟩ S w') (k : Nat) (hk : S[k]? = some R1.heap) (hg : R1.gf = r.gf) (hx : ∀ q ∈ r.X, q ∈ R1.X) (hp : ∀ b ∈ r.P, b ∈ R1.P) : FR.To w r r' := by
  refine ⟨h.gf.trans hg, ⟨fun v xs hv => h.gr.1 v xs (hv.more hp), fun o ho hod v xs hv => h.gr.2 o (Nat.lt_of_lt_of_le ho hw'.size) (fun hd => ?_) v xs (hv.more hp)⟩, fun q hq => h.xs q (hx q hq)⟩
  obtain ⟨q, hq, e⟩ := List.mem_map.1 hd
  rcases hw'.dom_ o (List.mem_map.2 ⟨q, mem_flatten_of hk hq, e⟩) with h1 | h1
  · exact hod h1
  · exact absurd ho (Nat.not_lt.2 h1)
theorem write0_con (r : FR) (a : AF) (n : List UInt8) (bv : Value) (xs : List UInt8) (id : Nat) (w : World) (hok : r.Ok a) (hn : strOk n) (hbr : BR w bv xs) (hbd : ∀ (a : Addr) (m c : Nat), bv = .slice (some a) m c → 0 < m → a.block ∉ dom r.heap) (hxl : xs.length ≤ 1000000000) (hB : a.pend.length < 16384) (hrm : a.room ≤ 1073741824) (hid : ∀ q ∈ a.now.nm, q.2 ≠ id) (hlk : alook r.now.ml n = none) : Con Try.prog 13 [r.ptr, .string (bs n), bv] w r.heap fun v S' => v = .int .i64 (wrE a n xs) ∧ ∃ r' : FR, S' = [r'.heap] ∧ r'.Ok (if wrE a n xs = 0 then stepF a (.wr n xs id) else a) ∧ FR.To w r r' := by
  refine con_of_tree mix Try.func13 T13_ok (by kernel_rfl) ?_
  unfold T13
  obtain ⟨A, cap, hbv, hcap⟩ := br_form hbr
  have hone : oneV bv = true := by rw [hbv]; rfl
  have hmay : mayE r.fused r.left [n] = mayE a.fused a.left [n] := by rw [hok.fu, hok.le]
  have hlim := okA_end hok.ok
  have hu1 : a.now.used ≤ 1073741824 := hlim.1
  have hl2 : a.now.nm.length ≤ 16384 := hlim.2
  have hut : r.now.used + 0 = (tot r.now.fs : Int) := hok.now.ex.ut
  have hus : r.now.used = a.now.used := hok.now.rep.us
  have hlen : r.now.ml.length = a.now.nm.length := hok.now.rep.len
  have hrm2 := hok.rm
  refine j_box (l := [.string (bs n)]) rfl (fun g0 hg0 hs0 => ?_)
  refine j_box (l := [bv]) (by show bv.cells = #[bv]; rw [hbv]; rfl) (fun g1 hg1 hs1 => ?_)
  refine j_q (qs_ac) ?_
  refine j_q (qs_load (l := [.string (bs n)]) 1 Try.underlying9 rfl rfl rfl rfl) ?_
  refine j_lit (vs := [.string (bs _)]) Try.underlying41 sz9 zero9 rfl (by simp [oneV]) ⟨rfl, by decide⟩ (fun g4 v4 c4 hv4 hc4 ho4 => ?_)
  subst hv4 hc4
  refine j_q (qs_call ent32 rfl rfl rfl (fun w' hw' => may_con r.fm [n] _ w' (in_own hw' 3 rfl) (rsl_own ho4 0 rfl hw') (by simp))) ?_
  refine j_q (qs_neq rfl rfl) ?_
  refine j_cond rfl (fun hc0 => ?_) (fun hc0 => ?_)
  · skip
    have hm : mayE a.fused a.left [n] ≠ 0 := by
      rw [← hmay]
      simpa using hc0
    refine j_subl (S' := [r.heap]) (by repeat first | exact slR _ | exact slN _ | apply slC | apply slD) ?_
    have hwe : wrE a n xs = mayE a.fused a.left [n] := by
      unfold wrE
      rw [if_pos hm]
    refine j_ret_con (vs := [_]) (fun w' hw' => ⟨rfl, trivial⟩) ?_
    rw [hwe]
    refine ⟨congrArg (Value.int .i64) hmay, r, rfl, ?_, FR.To.refl _ _⟩
    rw [if_neg hm]
    exact hok
  · skip
    have hm : mayE a.fused a.left [n] = 0 := by
      rw [← hmay]
      simpa using hc0
    have hz : a.fused = true → a.left ≠ 0 := fun hf hl => by
      unfold mayE at hm
      rw [hf, hl] at hm
      simp at hm
    refine j_q (qs_load (l := [bv]) 1 Try.underlying23 rfl rfl rfl rfl) ?_
    refine j_q (qs_lenl (n := xs.length) (A := A) (c := cap) Try.underlying23 hbv) ?_
    refine j_q (qs_gtr rfl rfl) ?_
    refine j_cond rfl (fun hc1 => ?_) (fun hc1 => ?_)
    · skip
      have hlong : 1048576 < xs.length := by
        have h5 : (xs.length : Int) > 1048576 := by simpa using hc1
        omega
      refine j_q (qs_ac) ?_
      refine j_subl (S' := [r.heap]) (by repeat first | exact slR _ | exact slN _ | apply slC | apply slD) ?_
      have hwe : wrE a n xs = 5 := by
        unfold wrE
        rw [if_neg (by rw [hm]; simp), if_pos (by omega)]
      refine j_ret_con (vs := [_]) (fun w' hw' => ⟨rfl, trivial⟩) ?_
      rw [hwe]
      refine ⟨rfl, r, rfl, ?_, FR.To.refl _ _⟩
      rw [if_neg (by decide)]
      exact hok
    · skip
      have hlong : ¬ 1048576 < xs.length := by
        have h5 : ¬ (xs.length : Int) > 1048576 := by simpa using hc1
        omega
      refine j_perm (S' := [[(g4, .cells [Value.string (bs n)].toArray 9 (0, 0))], [(g1, .cells [bv].toArray 23 (0, 0))], [(g0, .cells [.string (bs n)].toArray 9 (0, 0))], [(r.gf, r.fm.obj)], [(r.now.gs, r.now.sobj)], [(r.now.gm, .map r.now.es r.now.ck)], r.now.fs.map FL.h, r.tc ++ (r.ls.heap ++ r.X) ++ ph r.P]) (by
        classical
        refine List.perm_iff_count.2 fun x => ?_
        simp only [FM.heap, FM.obj, fmcells, SM.heap, ph, List.map_append, List.set, List.flatten_cons, List.flatten_nil, List.append_nil, List.nil_append, List.cons_append, List.count_append, List.count_cons, List.count_nil] <;> omega) ?_
      refine j_draw ?_
      refine jq_q (qs_nil rfl) ?_
      refine jq_q (qs_field Try.underlying62 rfl sz58 (by decide) rfl) ?_
      refine jq_q (qs_load (l := fmcells r.fm) 3 Try.underlying58 rfl rfl rfl rfl) ?_
      refine jq_q (qs_nil rfl) ?_
      refine jq_q (qs_field Try.underlying66 rfl sz64 (by decide) rfl) ?_
      refine jq_q (qs_load (l := smcells r.now) 4 Try.underlying64 rfl rfl rfl rfl) ?_
      refine jq_q (qs_load (l := [.string (bs n)]) 2 Try.underlying9 rfl rfl rfl rfl) ?_
      refine jq_q (qs_lookup (key := n) strKey 5 Try.underlying64 zv63 rfl rfl rfl hok.now.raw.map hn) ?_
      rw [mlook_map fptr, getD_fptr, hlk]
      refine jq_nil ?_
      refine j_q (qs_ac) ?_
      refine j_q (qs_pnnil Try.underlying63 rfl) ?_
      refine j_gf rfl (by simp) ?_
      refine j_gf rfl (by simp) ?_
      refine j_gf rfl (by simp) ?_
      refine j_gf rfl (by simp) ?_
      refine j_gf rfl (by simp) ?_
      refine j_q (qs_and (b0 := false) (b1 := false) rfl rfl) ?_
      refine j_cond rfl (fun hc2 => ?_) (fun hc2 => ?_)
      · skip
        simp [gd] at hc2
      · skip
        refine j_draw ?_
        refine jq_q (qs_pnil Try.underlying63 rfl) ?_
        refine jq_g rfl (fun hb => qs_mt rfl) ?_
        refine jq_g rfl (fun hb => qs_nil (gd_eq hb)) ?_
        refine jq_g rfl (fun hb => qs_field Try.underlying62 rfl sz58 (by decide) (gd_eq hb)) ?_
        refine jq_g rfl (fun hb => qs_load (l := fmcells r.fm) 3 Try.underlying58 rfl (gd_eq hb) rfl rfl) ?_
        refine jq_g rfl (fun hb => qs_nil (gd_eq hb)) ?_
        refine jq_g rfl (fun hb => qs_field Try.underlying66 rfl sz64 (by decide) (gd_eq hb)) ?_
        refine jq_g rfl (fun hb => qs_load (l := smcells r.now) 4 Try.underlying64 rfl (gd_eq hb) rfl rfl) ?_
        refine jq_g rfl (fun hb => qs_maplen (rdo_mem (o := .map r.now.es r.now.ck) 5 rfl (by simp)) Try.underlying64 (gd_eq hb) hok.now.raw.map) ?_
        refine jq_g rfl (fun hb => qs_geq (gd_eq hb) rfl) ?_
        refine jq_q (qs_and rfl rfl) ?_
        refine jq_g rfl (fun hb => qs_mt rfl) ?_
        refine jq_g rfl (fun hb => qs_nil (gd_eq hb)) ?_
        refine jq_g rfl (fun hb => qs_field Try.underlying62 rfl sz58 (by decide) (gd_eq hb)) ?_
        refine jq_g rfl (fun hb => qs_load (l := fmcells r.fm) 3 Try.underlying58 rfl (gd_eq hb) rfl rfl) ?_
        refine jq_g rfl (fun hb => qs_nil (gd_eq hb)) ?_
        refine jq_g rfl (fun hb => qs_field Try.underlying66 rfl sz3 (by decide) (gd_eq hb)) ?_
        refine jq_g rfl (fun hb => qs_load (l := smcells r.now) 4 Try.underlying3 rfl (gd_eq hb) rfl rfl) ?_
        refine jq_g rfl (fun hb => qs_mt rfl) ?_
        refine jq_g rfl (fun hb => qs_sub64 (gd_eq hb) (gd_eq hb) (by first | omega | (simp only [bnA] at *; omega))) ?_
        refine jq_g rfl (fun hb => qs_load (l := [bv]) 1 Try.underlying23 rfl rfl rfl rfl) ?_
        refine jq_g rfl (fun hb => qs_lenl (n := xs.length) (A := A) (c := cap) Try.underlying23 ((gd_eq hb).trans hbv)) ?_
        refine jq_g rfl (fun hb => qs_add64 (gd_eq hb) (gd_eq hb) (by first | omega | (simp only [bnA] at *; omega))) ?_
        refine jq_g rfl (fun hb => qs_mt rfl) ?_
        refine jq_g rfl (fun hb => qs_nil (gd_eq hb)) ?_
        refine jq_g rfl (fun hb => qs_field Try.underlying62 rfl sz3 (by decide) (gd_eq hb)) ?_
        refine jq_g rfl (fun hb => qs_load (l := fmcells r.fm) 3 Try.underlying3 rfl (gd_eq hb) rfl rfl) ?_
        refine jq_g rfl (fun hb => qs_gtr (gd_eq hb) (gd_eq hb)) ?_
        refine jq_q (qs_or rfl rfl) ?_
        refine jq_nil ?_
        refine j_cond rfl (fun hc4 => ?_) (fun hc4 => ?_)
        · skip
          have hla : alook a.now.nm n = none := by
            rw [← hok.now.rep.look hok.now.raw n, hlk]
            rfl
          have hfr : freesA a.now n = 0 := by unfold freesA; rw [hla]
          have hnf : fullA a n xs := by
            unfold fullA
            rw [hfr]
            simp [gd] at hc4
            rcases hc4 with h6 | h6
            · exact .inl ⟨hla, by omega⟩
            · exact .inr (by rw [← hok.rm, ← hus]; omega)
          refine j_q (qs_ac) ?_
          refine j_subl (S' := r.fm.parts2) (by repeat first | exact slR _ | exact slN _ | apply slC | apply slD) ?_
          refine j_perm (S' := [r.heap]) r.fm.split2.symm ?_
          have hwe : wrE a n xs = 6 := by
            unfold wrE
            rw [if_neg (by rw [hm]; simp), if_neg (by omega), if_pos hnf]
          refine j_ret_con (vs := [_]) (fun w' hw' => ⟨rfl, trivial⟩) ?_
          rw [hwe]
          refine ⟨rfl, r, rfl, ?_, FR.To.refl _ _⟩
          rw [if_neg (by decide)]
          exact hok
        · skip
          have hla : alook a.now.nm n = none := by
            rw [← hok.now.rep.look hok.now.raw n, hlk]
            rfl
          have hfr : freesA a.now n = 0 := by unfold freesA; rw [hla]
          have hnf : ¬ fullA a n xs := by
            unfold fullA
            rw [hfr]
            simp [gd] at hc4
            obtain ⟨h6, h7⟩ := hc4
            rintro (⟨_, h8⟩ | h8)
            · omega
            · rw [← hok.rm, ← hus] at h8
              omega
          refine j_q (qs_load (l := [bv]) 1 Try.underlying23 rfl rfl rfl rfl) ?_
          refine j_call0 ent31 rfl rfl rfl (fun w' hw' => clone_con bv xs w' (br_keep hbr hbd hw') hxl) (fun u S2 hu1 => ?_)
          obtain ⟨Q, rfl, hrv⟩ := hu1
          obtain ⟨bv2, hbv2⟩ : ∃ y, y = u := ⟨_, rfl⟩
          rw [← hbv2] at hrv ⊢
          refine j_subl (S' := [ph Q, [(g4, .cells [Value.string (bs n)].toArray 9 (0, 0))], [(g1, .cells [bv].toArray 23 (0, 0))], [(g0, .cells [.string (bs n)].toArray 9 (0, 0))], [(r.gf, r.fm.obj)], [(r.now.gs, r.now.sobj)], [(r.now.gm, .map r.now.es r.now.ck)], r.now.fs.map FL.h, r.tc ++ (r.ls.heap ++ r.X) ++ ph r.P]) (by repeat first | exact slR _ | exact slN _ | apply slC | apply slD) ?_
          obtain ⟨A2, c2, hbe, hbc, _⟩ := hrv.form
          refine j_store (l := [bv]) 2 sz23 rfl rfl (by show oneV bv2 = true; rw [hbe]; rfl) rfl (by simp) (by simp) ?_
          refine j_q (qs_mkfuncv (vs := [.pointer (some ⟨g0, 0, none⟩), .pointer (some ⟨g1, 0, none⟩)]) rfl) ?_
          refine j_perm (S' := [ph Q, [(g4, .cells [Value.string (bs n)].toArray 9 (0, 0))], [(g1, .cells [bv2].toArray 23 (0, 0))], [(g0, .cells [.string (bs n)].toArray 9 (0, 0))], [(r.gf, r.fm.obj)], [(r.now.gs, r.now.sobj)], [(r.now.gm, .map r.now.es r.now.ck)], r.now.fs.map FL.h, r.tc ++ (r.ls.heap ++ r.X) ++ ph r.P]) (.refl _) ?_
          have hrv2 : RV (Q ++ r.P) (.slice A2 xs.length c2) xs := by
            rw [← hbe]
            exact hrv.more (fun b hb => List.mem_append_left _ hb)
          rw [hbe]
          refine j_perm (S' := [FR.heap ({ r with X := ([(g0, .cells [.string (bs n)].toArray 9 (0, 0))] ++ [(g1, .cells [.slice A2 xs.length c2].toArray 23 (0, 0))]) ++ r.X, P := Q ++ r.P } : FR), [(g4, .cells [Value.string (bs n)].toArray 9 (0, 0))]]) (by
            classical
            refine List.perm_iff_count.2 fun x => ?_
            simp only [FM.heap, FM.obj, fmcells, SM.heap, ph, List.map_append, List.set, List.flatten_cons, List.flatten_nil, List.append_nil, List.nil_append, List.cons_append, List.count_append, List.count_cons, List.count_nil] <;> omega) ?_
          refine j_call 0 ent34 rfl rfl rfl rfl (fun w' hw' => (doesR_con ({ r with X := ([(g0, .cells [.string (bs n)].toArray 9 (0, 0))] ++ [(g1, .cells [.slice A2 xs.length c2].toArray 23 (0, 0))]) ++ r.X, P := Q ++ r.P } : FR) a (.wr n xs id g0 g1 A2 c2) w' (hok.more _ _) hB hz ⟨hn, hrv2, hbc, by omega⟩ (fun q hq => List.mem_append_left _ hq) hid (write_lim (hok.now.rep.nd hok.now.raw) (okA_end hok.ok) hrm hnf)).mono (fun u S5 h5 => by
            obtain ⟨h1, r', h2, h3, h4⟩ := h5
            exact (⟨h1, r', h2, h3, h4.old hw' 0 rfl rfl (fun q hq => List.mem_append_right _ hq) (fun b hb => List.mem_append_right _ hb)⟩ : _ ∧ ∃ r' : FR, S5 = [r'.heap] ∧ r'.Ok (stepF a (.wr n xs id)) ∧ FR.To w r r'))) (fun u S5 h5 => ?_)
          obtain ⟨rfl, r', rfl, hr', hto⟩ := h5
          refine j_subl (S' := [r'.heap]) (by repeat first | exact slR _ | exact slN _ | apply slC | apply slD) ?_
          have hwe : wrE a n xs = 0 := by
            unfold wrE
            rw [if_neg (by rw [hm]; simp), if_neg (by omega), if_neg hnf]
          refine j_ret_con (vs := [_]) (fun w' hw' => ⟨rfl, trivial⟩) ?_
          rw [hwe]
          refine ⟨rfl, r', rfl, ?_, hto⟩
          rw [if_pos rfl]
          exact hr'
theorem write1_con (r : FR) (a : AF) (n : List UInt8) (bv : Value) (xs : List UInt8) (id : Nat) (w : World) (hok : r.Ok a) (hn : strOk n) (hbr : BR w bv xs) (hbd : ∀ (a : Addr) (m c : Nat), bv = .slice (some a) m c → 0 < m → a.block ∉ dom r.heap) (hxl : xs.length ≤ 1000000000) (hB : a.pend.length < 16384) (hrm : a.room ≤ 1073741824) (hid : ∀ q ∈ a.now.nm, q.2 ≠ id) (x : FL) (hx : x ∈ r.now.fs) (hlk : alook r.now.ml n = some (x.g, x.id)) : Con Try.prog 13 [r.ptr, .string (bs n), bv] w r.heap fun v S' => v = .int .i64 (wrE a n xs) ∧ ∃ r' : FR, S' = [r'.heap] ∧ r'.Ok (if wrE a n xs = 0 then stepF a (.wr n xs id) else a) ∧ FR.To w r r' := by
  refine con_of_tree mix Try.func13 T13_ok (by kernel_rfl) ?_
  unfold T13
  obtain ⟨A, cap, hbv, hcap⟩ := br_form hbr
  have hone : oneV bv = true := by rw [hbv]; rfl
  have hmay : mayE r.fused r.left [n] = mayE a.fused a.left [n] := by rw [hok.fu, hok.le]
  have hlim := okA_end hok.ok
  have hu1 : a.now.used ≤ 1073741824 := hlim.1
  have hl2 : a.now.nm.length ≤ 16384 := hlim.2
  have hut : r.now.used + 0 = (tot r.now.fs : Int) := hok.now.ex.ut
  have hus : r.now.used = a.now.used := hok.now.rep.us
  have hlen : r.now.ml.length = a.now.nm.length := hok.now.rep.len
  have hrm2 := hok.rm
  obtain ⟨xA, xc, hxv, hxl2⟩ := hok.now.raw.form x hx
  refine j_box (l := [.string (bs n)]) rfl (fun g0 hg0 hs0 => ?_)
  refine j_box (l := [bv]) (by show bv.cells = #[bv]; rw [hbv]; rfl) (fun g1 hg1 hs1 => ?_)
  refine j_q (qs_ac) ?_
  refine j_q (qs_load (l := [.string (bs n)]) 1 Try.underlying9 rfl rfl rfl rfl) ?_
  refine j_lit (vs := [.string (bs _)]) Try.underlying41 sz9 zero9 rfl (by simp [oneV]) ⟨rfl, by decide⟩ (fun g4 v4 c4 hv4 hc4 ho4 => ?_)
  subst hv4 hc4
  refine j_q (qs_call ent32 rfl rfl rfl (fun w' hw' => may_con r.fm [n] _ w' (in_own hw' 3 rfl) (rsl_own ho4 0 rfl hw') (by simp))) ?_
  refine j_q (qs_neq rfl rfl) ?_
  refine j_cond rfl (fun hc0 => ?_) (fun hc0 => ?_)
  · skip
    have hm : mayE a.fused a.left [n] ≠ 0 := by
      rw [← hmay]
      simpa using hc0
    refine j_subl (S' := [r.heap]) (by repeat first | exact slR _ | exact slN _ | apply slC | apply slD) ?_
    have hwe : wrE a n xs = mayE a.fused a.left [n] := by
      unfold wrE
      rw [if_pos hm]
    refine j_ret_con (vs := [_]) (fun w' hw' => ⟨rfl, trivial⟩) ?_
    rw [hwe]
    refine ⟨congrArg (Value.int .i64) hmay, r, rfl, ?_, FR.To.refl _ _⟩
    rw [if_neg hm]
    exact hok
  · skip
    have hm : mayE a.fused a.left [n] = 0 := by
      rw [← hmay]
      simpa using hc0
    have hz : a.fused = true → a.left ≠ 0 := fun hf hl => by
      unfold mayE at hm
      rw [hf, hl] at hm
      simp at hm
    refine j_q (qs_load (l := [bv]) 1 Try.underlying23 rfl rfl rfl rfl) ?_
    refine j_q (qs_lenl (n := xs.length) (A := A) (c := cap) Try.underlying23 hbv) ?_
    refine j_q (qs_gtr rfl rfl) ?_
    refine j_cond rfl (fun hc1 => ?_) (fun hc1 => ?_)
    · skip
      have hlong : 1048576 < xs.length := by
        have h5 : (xs.length : Int) > 1048576 := by simpa using hc1
        omega
      refine j_q (qs_ac) ?_
      refine j_subl (S' := [r.heap]) (by repeat first | exact slR _ | exact slN _ | apply slC | apply slD) ?_
      have hwe : wrE a n xs = 5 := by
        unfold wrE
        rw [if_neg (by rw [hm]; simp), if_pos (by omega)]
      refine j_ret_con (vs := [_]) (fun w' hw' => ⟨rfl, trivial⟩) ?_
      rw [hwe]
      refine ⟨rfl, r, rfl, ?_, FR.To.refl _ _⟩
      rw [if_neg (by decide)]
      exact hok
    · skip
      have hlong : ¬ 1048576 < xs.length := by
        have h5 : ¬ (xs.length : Int) > 1048576 := by simpa using hc1
        omega
      refine j_perm (S' := [[(g4, .cells [Value.string (bs n)].toArray 9 (0, 0))], [(g1, .cells [bv].toArray 23 (0, 0))], [(g0, .cells [.string (bs n)].toArray 9 (0, 0))], [(r.gf, r.fm.obj)], [(r.now.gs, r.now.sobj)], [(r.now.gm, .map r.now.es r.now.ck)], r.now.fs.map FL.h, r.tc ++ (r.ls.heap ++ r.X) ++ ph r.P]) (by
        classical
        refine List.perm_iff_count.2 fun x => ?_
        simp only [FM.heap, FM.obj, fmcells, SM.heap, ph, List.map_append, List.set, List.flatten_cons, List.flatten_nil, List.append_nil, List.nil_append, List.cons_append, List.count_append, List.count_cons, List.count_nil] <;> omega) ?_
      refine j_draw ?_
      refine jq_q (qs_nil rfl) ?_
      refine jq_q (qs_field Try.underlying62 rfl sz58 (by decide) rfl) ?_
      refine jq_q (qs_load (l := fmcells r.fm) 3 Try.underlying58 rfl rfl rfl rfl) ?_
      refine jq_q (qs_nil rfl) ?_
      refine jq_q (qs_field Try.underlying66 rfl sz64 (by decide) rfl) ?_
      refine jq_q (qs_load (l := smcells r.now) 4 Try.underlying64 rfl rfl rfl rfl) ?_
      refine jq_q (qs_load (l := [.string (bs n)]) 2 Try.underlying9 rfl rfl rfl rfl) ?_
      refine jq_q (qs_lookup (key := n) strKey 5 Try.underlying64 zv63 rfl rfl rfl hok.now.raw.map hn) ?_
      rw [mlook_map fptr, getD_fptr, hlk, Option.map_some]
      refine jq_nil ?_
      refine j_q (qs_ac) ?_
      refine j_q (qs_pnnil Try.underlying63 rfl) ?_
      refine j_g rfl (fun hb => qs_mt rfl) ?_
      refine j_g rfl (fun hb => qs_nil (gd_eq hb)) ?_
      refine j_g rfl (fun hb => qs_field Try.underlying73 rfl sz71 (by decide) (gd_eq hb)) ?_
      refine j_g rfl (fun hb => qs_call ent33 rfl rfl (args1 (gd_eq hb)) (fun w' hw' => aload_con x.g 1 (flcells x) 73 (0, 0) x.k w' (hw'.own x.h (mem_flatten_of (k := 6) rfl (List.mem_map.2 ⟨x, hx, rfl⟩))) rfl)) ?_
      refine j_g rfl (fun hb => qs_eql (gd_eq hb) rfl) ?_
      refine j_q (qs_and rfl rfl) ?_
      refine j_cond rfl (fun hc2 => ?_) (fun hc2 => ?_)
      · skip
        have hk1 : x.k = 1 := by simpa [gd] using hc2
        refine j_q (qs_nil rfl) ?_
        refine j_q (qs_field Try.underlying73 rfl sz23 (by decide) rfl) ?_
        refine j_q (qs_loadO (l := flcells x) (rdo_mem (o := x.h.2) 6 rfl (List.mem_map.2 ⟨x, hx, rfl⟩)) Try.underlying23 rfl rfl rfl) ?_
        refine j_q (qs_lenl (n := x.xs.length) (A := xA) (c := xc) Try.underlying23 hxv) ?_
        refine j_draw ?_
        refine jq_q (qs_pnil Try.underlying63 rfl) ?_
        refine jq_gf rfl (by simp) ?_
        refine jq_gf rfl (by simp) ?_
        refine jq_gf rfl (by simp) ?_
        refine jq_gf rfl (by simp) ?_
        refine jq_gf rfl (by simp) ?_
        refine jq_gf rfl (by simp) ?_
        refine jq_gf rfl (by simp) ?_
        refine jq_gf rfl (by simp) ?_
        refine jq_gf rfl (by simp) ?_
        refine jq_q (qs_and (b0 := false) (b1 := false) rfl rfl) ?_
        refine jq_g rfl (fun hb => qs_mt rfl) ?_
        refine jq_g rfl (fun hb => qs_nil (gd_eq hb)) ?_
        refine jq_g rfl (fun hb => qs_field Try.underlying62 rfl sz58 (by decide) (gd_eq hb)) ?_
        refine jq_g rfl (fun hb => qs_load (l := fmcells r.fm) 3 Try.underlying58 rfl (gd_eq hb) rfl rfl) ?_
        refine jq_g rfl (fun hb => qs_nil (gd_eq hb)) ?_
        refine jq_g rfl (fun hb => qs_field Try.underlying66 rfl sz3 (by decide) (gd_eq hb)) ?_
        refine jq_g rfl (fun hb => qs_load (l := smcells r.now) 4 Try.underlying3 rfl (gd_eq hb) rfl rfl) ?_
        refine jq_g rfl (fun hb => qs_mt rfl) ?_
        refine jq_g rfl (fun hb => qs_sub64 (gd_eq hb) (gd_eq hb) (by first | omega | (simp only [bnA] at *; omega))) ?_
        refine jq_g rfl (fun hb => qs_load (l := [bv]) 1 Try.underlying23 rfl rfl rfl rfl) ?_
        refine jq_g rfl (fun hb => qs_lenl (n := xs.length) (A := A) (c := cap) Try.underlying23 ((gd_eq hb).trans hbv)) ?_
        refine jq_g rfl (fun hb => qs_add64 (gd_eq hb) (gd_eq hb) (by first | omega | (simp only [bnA] at *; omega))) ?_
        refine jq_g rfl (fun hb => qs_mt rfl) ?_
        refine jq_g rfl (fun hb => qs_nil (gd_eq hb)) ?_
        refine jq_g rfl (fun hb => qs_field Try.underlying62 rfl sz3 (by decide) (gd_eq hb)) ?_
        refine jq_g rfl (fun hb => qs_load (l := fmcells r.fm) 3 Try.underlying3 rfl (gd_eq hb) rfl rfl) ?_
        refine jq_g rfl (fun hb => qs_gtr (gd_eq hb) (gd_eq hb)) ?_
        refine jq_q (qs_or rfl rfl) ?_
        refine jq_nil ?_
        refine j_cond rfl (fun hc3 => ?_) (fun hc3 => ?_)
        · skip
          have hla : alook a.now.nm n = some x.id := by
            rw [← hok.now.rep.look hok.now.raw n, hlk]
            rfl
          have hkx : x.k = (cntA a.now.nm x.id : Int) := by
            have h6 : x.k = (cnt r.now.ml x.id : Int) + 0 := hok.now.ex.kc x hx
            rw [hok.now.rep.cnt] at h6
            omega
          have hdx := hok.now.rep.dt x hx
          have hfr : freesA a.now n = x.xs.length := by
            simp only [freesA, hla]
            rw [if_pos (by omega), hdx]
          have hnf : fullA a n xs := by
            unfold fullA
            rw [hfr]
            refine .inr ?_
            rw [← hok.rm, ← hus]
            simp [gd] at hc3
            omega
          refine j_q (qs_ac) ?_
          refine j_subl (S' := r.fm.parts2) (by repeat first | exact slR _ | exact slN _ | apply slC | apply slD) ?_
          refine j_perm (S' := [r.heap]) r.fm.split2.symm ?_
          have hwe : wrE a n xs = 6 := by
            unfold wrE
            rw [if_neg (by rw [hm]; simp), if_neg (by omega), if_pos hnf]
          refine j_ret_con (vs := [_]) (fun w' hw' => ⟨rfl, trivial⟩) ?_
          rw [hwe]
          refine ⟨rfl, r, rfl, ?_, FR.To.refl _ _⟩
          rw [if_neg (by decide)]
          exact hok
        · skip
          have hla : alook a.now.nm n = some x.id := by
            rw [← hok.now.rep.look hok.now.raw n, hlk]
            rfl
          have hkx : x.k = (cntA a.now.nm x.id : Int) := by
            have h6 : x.k = (cnt r.now.ml x.id : Int) + 0 := hok.now.ex.kc x hx
            rw [hok.now.rep.cnt] at h6
            omega
          have hdx := hok.now.rep.dt x hx
          have hfr : freesA a.now n = x.xs.length := by
            simp only [freesA, hla]
            rw [if_pos (by omega), hdx]
          have hnf : ¬ fullA a n xs := by
            unfold fullA
            rw [hfr]
            rintro (⟨h7, _⟩ | h8)
            · rw [hla] at h7
              cases h7
            · rw [← hok.rm, ← hus] at h8
              simp [gd] at hc3
              omega
          refine j_q (qs_load (l := [bv]) 1 Try.underlying23 rfl rfl rfl rfl) ?_
          refine j_call0 ent31 rfl rfl rfl (fun w' hw' => clone_con bv xs w' (br_keep hbr hbd hw') hxl) (fun u S2 hu1 => ?_)
          obtain ⟨Q, rfl, hrv⟩ := hu1
          obtain ⟨bv2, hbv2⟩ : ∃ y, y = u := ⟨_, rfl⟩
          rw [← hbv2] at hrv ⊢
          refine j_subl (S' := [ph Q, [(g4, .cells [Value.string (bs n)].toArray 9 (0, 0))], [(g1, .cells [bv].toArray 23 (0, 0))], [(g0, .cells [.string (bs n)].toArray 9 (0, 0))], [(r.gf, r.fm.obj)], [(r.now.gs, r.now.sobj)], [(r.now.gm, .map r.now.es r.now.ck)], r.now.fs.map FL.h, r.tc ++ (r.ls.heap ++ r.X) ++ ph r.P]) (by repeat first | exact slR _ | exact slN _ | apply slC | apply slD) ?_
          obtain ⟨A2, c2, hbe, hbc, _⟩ := hrv.form
          refine j_store (l := [bv]) 2 sz23 rfl rfl (by show oneV bv2 = true; rw [hbe]; rfl) rfl (by simp) (by simp) ?_
          refine j_q (qs_mkfuncv (vs := [.pointer (some ⟨g0, 0, none⟩), .pointer (some ⟨g1, 0, none⟩)]) rfl) ?_
          refine j_perm (S' := [ph Q, [(g4, .cells [Value.string (bs n)].toArray 9 (0, 0))], [(g1, .cells [bv2].toArray 23 (0, 0))], [(g0, .cells [.string (bs n)].toArray 9 (0, 0))], [(r.gf, r.fm.obj)], [(r.now.gs, r.now.sobj)], [(r.now.gm, .map r.now.es r.now.ck)], r.now.fs.map FL.h, r.tc ++ (r.ls.heap ++ r.X) ++ ph r.P]) (.refl _) ?_
          have hrv2 : RV (Q ++ r.P) (.slice A2 xs.length c2) xs := by
            rw [← hbe]
            exact hrv.more (fun b hb => List.mem_append_left _ hb)
          rw [hbe]
          refine j_perm (S' := [FR.heap ({ r with X := ([(g0, .cells [.string (bs n)].toArray 9 (0, 0))] ++ [(g1, .cells [.slice A2 xs.length c2].toArray 23 (0, 0))]) ++ r.X, P := Q ++ r.P } : FR), [(g4, .cells [Value.string (bs n)].toArray 9 (0, 0))]]) (by
            classical
            refine List.perm_iff_count.2 fun x => ?_
            simp only [FM.heap, FM.obj, fmcells, SM.heap, ph, List.map_append, List.set, List.flatten_cons, List.flatten_nil, List.append_nil, List.nil_append, List.cons_append, List.count_append, List.count_cons, List.count_nil] <;> omega) ?_
          refine j_call 0 ent34 rfl rfl rfl rfl (fun w' hw' => (doesR_con ({ r with X := ([(g0, .cells [.string (bs n)].toArray 9 (0, 0))] ++ [(g1, .cells [.slice A2 xs.length c2].toArray 23 (0, 0))]) ++ r.X, P := Q ++ r.P } : FR) a (.wr n xs id g0 g1 A2 c2) w' (hok.more _ _) hB hz ⟨hn, hrv2, hbc, by omega⟩ (fun q hq => List.mem_append_left _ hq) hid (write_lim (hok.now.rep.nd hok.now.raw) (okA_end hok.ok) hrm hnf)).mono (fun u S5 h5 => by
            obtain ⟨h1, r', h2, h3, h4⟩ := h5
            exact (⟨h1, r', h2, h3, h4.old hw' 0 rfl rfl (fun q hq => List.mem_append_right _ hq) (fun b hb => List.mem_append_right _ hb)⟩ : _ ∧ ∃ r' : FR, S5 = [r'.heap] ∧ r'.Ok (stepF a (.wr n xs id)) ∧ FR.To w r r'))) (fun u S5 h5 => ?_)
          obtain ⟨rfl, r', rfl, hr', hto⟩ := h5
          refine j_subl (S' := [r'.heap]) (by repeat first | exact slR _ | exact slN _ | apply slC | apply slD) ?_
          have hwe : wrE a n xs = 0 := by
            unfold wrE
            rw [if_neg (by rw [hm]; simp), if_neg (by omega), if_neg hnf]
          refine j_ret_con (vs := [_]) (fun w' hw' => ⟨rfl, trivial⟩) ?_
          rw [hwe]
          refine ⟨rfl, r', rfl, ?_, hto⟩
          rw [if_pos rfl]
          exact hr'
      · skip
        have hk1 : x.k ≠ 1 := by simpa [gd] using hc2
        refine j_draw ?_
        refine jq_q (qs_pnil Try.underlying63 rfl) ?_
        refine jq_gf rfl (by simp) ?_
        refine jq_gf rfl (by simp) ?_
        refine jq_gf rfl (by simp) ?_
        refine jq_gf rfl (by simp) ?_
        refine jq_gf rfl (by simp) ?_
        refine jq_gf rfl (by simp) ?_
        refine jq_gf rfl (by simp) ?_
        refine jq_gf rfl (by simp) ?_
        refine jq_gf rfl (by simp) ?_
        refine jq_q (qs_and (b0 := false) (b1 := false) rfl rfl) ?_
        refine jq_g rfl (fun hb => qs_mt rfl) ?_
        refine jq_g rfl (fun hb => qs_nil (gd_eq hb)) ?_
        refine jq_g rfl (fun hb => qs_field Try.underlying62 rfl sz58 (by decide) (gd_eq hb)) ?_
        refine jq_g rfl (fun hb => qs_load (l := fmcells r.fm) 3 Try.underlying58 rfl (gd_eq hb) rfl rfl) ?_
        refine jq_g rfl (fun hb => qs_nil (gd_eq hb)) ?_
        refine jq_g rfl (fun hb => qs_field Try.underlying66 rfl sz3 (by decide) (gd_eq hb)) ?_
        refine jq_g rfl (fun hb => qs_load (l := smcells r.now) 4 Try.underlying3 rfl (gd_eq hb) rfl rfl) ?_
        refine jq_g rfl (fun hb => qs_mt rfl) ?_
        refine jq_g rfl (fun hb => qs_sub64 (gd_eq hb) (gd_eq hb) (by first | omega | (simp only [bnA] at *; omega))) ?_
        refine jq_g rfl (fun hb => qs_load (l := [bv]) 1 Try.underlying23 rfl rfl rfl rfl) ?_
        refine jq_g rfl (fun hb => qs_lenl (n := xs.length) (A := A) (c := cap) Try.underlying23 ((gd_eq hb).trans hbv)) ?_
        refine jq_g rfl (fun hb => qs_add64 (gd_eq hb) (gd_eq hb) (by first | omega | (simp only [bnA] at *; omega))) ?_
        refine jq_g rfl (fun hb => qs_mt rfl) ?_
        refine jq_g rfl (fun hb => qs_nil (gd_eq hb)) ?_
        refine jq_g rfl (fun hb => qs_field Try.underlying62 rfl sz3 (by decide) (gd_eq hb)) ?_
        refine jq_g rfl (fun hb => qs_load (l := fmcells r.fm) 3 Try.underlying3 rfl (gd_eq hb) rfl rfl) ?_
        refine jq_g rfl (fun hb => qs_gtr (gd_eq hb) (gd_eq hb)) ?_
        refine jq_q (qs_or rfl rfl) ?_
        refine jq_nil ?_
        refine j_cond rfl (fun hc4 => ?_) (fun hc4 => ?_)
        · skip
          have hla : alook a.now.nm n = some x.id := by
            rw [← hok.now.rep.look hok.now.raw n, hlk]
            rfl
          have hkx : x.k = (cntA a.now.nm x.id : Int) := by
            have h6 : x.k = (cnt r.now.ml x.id : Int) + 0 := hok.now.ex.kc x hx
            rw [hok.now.rep.cnt] at h6
            omega
          have hdx := hok.now.rep.dt x hx
          have hfr : freesA a.now n = 0 := by
            simp only [freesA, hla]
            rw [if_neg (by omega)]
          have hnf : fullA a n xs := by
            unfold fullA
            rw [hfr]
            refine .inr ?_
            rw [← hok.rm, ← hus]
            simp [gd] at hc4
            omega
          refine j_q (qs_ac) ?_
          refine j_subl (S' := r.fm.parts2) (by repeat first | exact slR _ | exact slN _ | apply slC | apply slD) ?_
          refine j_perm (S' := [r.heap]) r.fm.split2.symm ?_
          have hwe : wrE a n xs = 6 := by
            unfold wrE
            rw [if_neg (by rw [hm]; simp), if_neg (by omega), if_pos hnf]
          refine j_ret_con (vs := [_]) (fun w' hw' => ⟨rfl, trivial⟩) ?_
          rw [hwe]
          refine ⟨rfl, r, rfl, ?_, FR.To.refl _ _⟩
          rw [if_neg (by decide)]
          exact hok
        · skip
          have hla : alook a.now.nm n = some x.id := by
            rw [← hok.now.rep.look hok.now.raw n, hlk]
            rfl
          have hkx : x.k = (cntA a.now.nm x.id : Int) := by
            have h6 : x.k = (cnt r.now.ml x.id : Int) + 0 := hok.now.ex.kc x hx
            rw [hok.now.rep.cnt] at h6
            omega
          have hdx := hok.now.rep.dt x hx
          have hfr : freesA a.now n = 0 := by
            simp only [freesA, hla]
            rw [if_neg (by omega)]
          have hnf : ¬ fullA a n xs := by
            unfold fullA
            rw [hfr]
            rintro (⟨h7, _⟩ | h8)
            · rw [hla] at h7
              cases h7
            · rw [← hok.rm, ← hus] at h8
              simp [gd] at hc4
              omega
          refine j_q (qs_load (l := [bv]) 1 Try.underlying23 rfl rfl rfl rfl) ?_
          refine j_call0 ent31 rfl rfl rfl (fun w' hw' => clone_con bv xs w' (br_keep hbr hbd hw') hxl) (fun u S2 hu1 => ?_)
          obtain ⟨Q, rfl, hrv⟩ := hu1
          obtain ⟨bv2, hbv2⟩ : ∃ y, y = u := ⟨_, rfl⟩
          rw [← hbv2] at hrv ⊢
          refine j_subl (S' := [ph Q, [(g4, .cells [Value.string (bs n)].toArray 9 (0, 0))], [(g1, .cells [bv].toArray 23 (0, 0))], [(g0, .cells [.string (bs n)].toArray 9 (0, 0))], [(r.gf, r.fm.obj)], [(r.now.gs, r.now.sobj)], [(r.now.gm, .map r.now.es r.now.ck)], r.now.fs.map FL.h, r.tc ++ (r.ls.heap ++ r.X) ++ ph r.P]) (by repeat first | exact slR _ | exact slN _ | apply slC | apply slD) ?_
          obtain ⟨A2, c2, hbe, hbc, _⟩ := hrv.form
          refine j_store (l := [bv]) 2 sz23 rfl rfl (by show oneV bv2 = true; rw [hbe]; rfl) rfl (by simp) (by simp) ?_
          refine j_q (qs_mkfuncv (vs := [.pointer (some ⟨g0, 0, none⟩), .pointer (some ⟨g1, 0, none⟩)]) rfl) ?_
          refine j_perm (S' := [ph Q, [(g4, .cells [Value.string (bs n)].toArray 9 (0, 0))], [(g1, .cells [bv2].toArray 23 (0, 0))], [(g0, .cells [.string (bs n)].toArray 9 (0, 0))], [(r.gf, r.fm.obj)], [(r.now.gs, r.now.sobj)], [(r.now.gm, .map r.now.es r.now.ck)], r.now.fs.map FL.h, r.tc ++ (r.ls.heap ++ r.X) ++ ph r.P]) (.refl _) ?_
          have hrv2 : RV (Q ++ r.P) (.slice A2 xs.length c2) xs := by
            rw [← hbe]
            exact hrv.more (fun b hb => List.mem_append_left _ hb)
          rw [hbe]
          refine j_perm (S' := [FR.heap ({ r with X := ([(g0, .cells [.string (bs n)].toArray 9 (0, 0))] ++ [(g1, .cells [.slice A2 xs.length c2].toArray 23 (0, 0))]) ++ r.X, P := Q ++ r.P } : FR), [(g4, .cells [Value.string (bs n)].toArray 9 (0, 0))]]) (by
            classical
            refine List.perm_iff_count.2 fun x => ?_
            simp only [FM.heap, FM.obj, fmcells, SM.heap, ph, List.map_append, List.set, List.flatten_cons, List.flatten_nil, List.append_nil, List.nil_append, List.cons_append, List.count_append, List.count_cons, List.count_nil] <;> omega) ?_
          refine j_call 0 ent34 rfl rfl rfl rfl (fun w' hw' => (doesR_con ({ r with X := ([(g0, .cells [.string (bs n)].toArray 9 (0, 0))] ++ [(g1, .cells [.slice A2 xs.length c2].toArray 23 (0, 0))]) ++ r.X, P := Q ++ r.P } : FR) a (.wr n xs id g0 g1 A2 c2) w' (hok.more _ _) hB hz ⟨hn, hrv2, hbc, by omega⟩ (fun q hq => List.mem_append_left _ hq) hid (write_lim (hok.now.rep.nd hok.now.raw) (okA_end hok.ok) hrm hnf)).mono (fun u S5 h5 => by
            obtain ⟨h1, r', h2, h3, h4⟩ := h5
            exact (⟨h1, r', h2, h3, h4.old hw' 0 rfl rfl (fun q hq => List.mem_append_right _ hq) (fun b hb => List.mem_append_right _ hb)⟩ : _ ∧ ∃ r' : FR, S5 = [r'.heap] ∧ r'.Ok (stepF a (.wr n xs id)) ∧ FR.To w r r'))) (fun u S5 h5 => ?_)
          obtain ⟨rfl, r', rfl, hr', hto⟩ := h5
          refine j_subl (S' := [r'.heap]) (by repeat first | exact slR _ | exact slN _ | apply slC | apply slD) ?_
          have hwe : wrE a n xs = 0 := by
            unfold wrE
            rw [if_neg (by rw [hm]; simp), if_neg (by omega), if_neg hnf]
          refine j_ret_con (vs := [_]) (fun w' hw' => ⟨rfl, trivial⟩) ?_
          rw [hwe]
          refine ⟨rfl, r', rfl, ?_, hto⟩
          rw [if_pos rfl]
          exact hr'
theorem write_con' (r : FR) (a : AF) (n : List UInt8) (bv : Value) (xs : List UInt8) (id : Nat) (w : World) (hok : r.Ok a) (hn : strOk n) (hbr : BR w bv xs) (hbd : ∀ (a : Addr) (m c : Nat), bv = .slice (some a) m c → 0 < m → a.block ∉ dom r.heap) (hxl : xs.length ≤ 1000000000) (hB : a.pend.length < 16384) (hrm : a.room ≤ 1073741824) (hid : ∀ q ∈ a.now.nm, q.2 ≠ id) : Con Try.prog 13 [r.ptr, .string (bs n), bv] w r.heap fun v S' => v = .int .i64 (wrE a n xs) ∧ ∃ r' : FR, S' = [r'.heap] ∧ r'.Ok (if wrE a n xs = 0 then stepF a (.wr n xs id) else a) ∧ FR.To w r r' := by
  cases h : alook a.now.nm n with
  | none => exact write0_con r a n bv xs id w hok hn hbr hbd hxl hB hrm hid (look_rep0 hok.now.raw hok.now.rep h)
  | some i =>
    obtain ⟨f, hf, hl, _, _⟩ := look_rep hok.now.raw hok.now.rep h
    exact write1_con r a n bv xs id w hok hn hbr hbd hxl hB hrm hid f hf hl
end Go.Proofs.Ytckpegkpdepokaa
/-! Ft7 -/
namespace Go.Proofs.Ytckpegkpdepokaa
open Go Go.Sx
set_option maxRecDepth 100000
set_option maxHeartbeats 4000000
set_option linter.unusedVariables false
set_option linter.unusedSimpArgs false
attribute [local irreducible] J JQ QS Con W opW
open Go.MapKept Go.WideMaps Go.Maps
theorem sortS_perm {l l' : List (List UInt8)} (h : l.Perm l') : sortS l = sortS l' := by
  have hs : ∀ l : List (List UInt8), (sortS l).Pairwise (fun a b => a ≤ b) := fun l => by
    have := List.pairwise_mergeSort (le := fun x y : List UInt8 => decide (x ≤ y)) (fun a b c h1 h2 => by simp only [decide_eq_true_eq] at h1 h2 ⊢; exact List.le_trans h1 h2) (fun a b => by simp only [Bool.or_eq_true, decide_eq_true_eq]; exact List.le_total a b) l
    exact this.imp (fun h => by simpa using h)
  refine List.Perm.eq_of_pairwise (le := fun a b => a ≤ b) (fun a b _ _ h1 h2 => List.le_antisymm h1 h2) (hs l) (hs l') ?_
  unfold sortS
  exact (List.mergeSort_perm _ _).trans (h.trans (List.mergeSort_perm _ _).symm)
def preB (p n : List UInt8) : Bool := decide (p.length ≤ n.length) && (n.take p.length == p)
def namesA (s : AS) (p : List UInt8) : List (List UInt8) := sortS ((s.nm.map Prod.fst).filter (preB p))
theorem namesA_perm {s : SM} {a : AS} (h : RepS s a) {done : List (List UInt8 × (Nat × Nat))} (hp : done.Perm s.ml) (p : List UInt8) : sortS ((done.map Prod.fst).filter (preB p)) = namesA a p := by
  unfold namesA
  refine sortS_perm (List.Perm.filter _ ?_)
  have h1 := h.nm.map Prod.fst
  rw [List.map_map] at h1
  exact (hp.map Prod.fst).trans h1
theorem sortN_con {ss : List (List UInt8)} {v : Value} {c : SH} (ho : Sx.Own 9 1 (strs ss) v c) (hsz : ss.length < 4611686018427387904) (w : World) : Con Try.prog 44 [v] w c fun u S' => u = .tuple #[] ∧ ∃ c', S' = [c'] ∧ Sx.Own 9 1 (strs (sortS ss)) v c' :=
  con_sort_own (fun blk off cap ss w hH hblk hsz => Go.Proofs.AnyM.slices_Sort_string Try.sort44 blk off cap ss w hH hblk hsz) (fun p cap w => Go.Proofs.AnyM.slices_Sort_string_none Try.sort44 p cap w) ho hsz w
theorem hasPre0_con (s r : List UInt8) (w : World) (hs : s.length ≤ 9223372036854775807) (hr : r.length ≤ 9223372036854775807) : Con Try.prog 71 [.string (bs r), .string (bs s)] w [] fun v _ => v = .bool (decide (s.length ≤ r.length) && (r.take s.length == s)) := by
  refine con_of_tree mix Try.func71 T71_ok (by kernel_rfl) ?_
  unfold T71
  refine j_q (qs_ac) ?_
  refine j_q (qs_lens Try.underlying9 rfl) ?_
  refine j_q (qs_lens Try.underlying9 rfl) ?_
  refine j_q (qs_geq rfl rfl) ?_
  refine j_g rfl (fun hb => qs_mt rfl) ?_
  refine j_g rfl (fun hb => qs_mt rfl) ?_
  refine j_g rfl (fun hb => qs_lens Try.underlying9 (gd_eq hb)) ?_
  refine j_g rfl (fun hb => qs_cuts (a := 0) (z := s.length) Try.underlying9 (gd_eq hb) rfl ⟨.i64, gd_eq hb⟩ (by omega) (by simp only [bnA] at *; omega)) ?_
  rw [List.drop_zero]
  refine j_g rfl (fun hb => qs_mt rfl) ?_
  refine j_g rfl (fun hb => qs_seql (gd_eq hb) (gd_eq hb)) ?_
  refine j_q (qs_and rfl rfl) ?_
  refine j_ret_con (vs := [_]) (fun w' hw' => ⟨rfl, trivial⟩) ?_
  show Value.bool _ = _
  congr 2
  rw [Bool.eq_iff_iff, decide_eq_true_eq, decide_eq_true_eq]
  omega
theorem hasPre_con (s r : List UInt8) (w : World) (hs : s.length ≤ 9223372036854775807) (hr : r.length ≤ 9223372036854775807) : Con Try.prog 43 [.string (bs r), .string (bs s)] w [] fun v _ => v = .bool (preB s r) := by
  refine con_of_tree mix Try.func43 T43_ok (by kernel_rfl) ?_
  unfold T43
  refine j_q (qs_ac) ?_
  refine j_q (qs_call ent71 rfl rfl rfl (fun w' hw' => hasPre0_con s r w' hs hr)) ?_
  refine j_ret_con (vs := [_]) (fun w' hw' => ⟨rfl, trivial⟩) ?_
  rfl
theorem names_con (r : FR) (a : AF) (p : List UInt8) (w : World) (hin : In w r.heap) (hok : r.Ok a) (hsp : strOk p) : Con Try.prog 19 [r.ptr, .string (bs p)] w [] fun v S' => ∃ c, S' = [c] ∧ Sx.Own 9 1 (strs (namesA a.now p)) v c := by
  refine con_of_tree mix Try.func19 T19_ok (by kernel_rfl) ?_
  unfold T19
  have hraw := hok.now.raw
  have hlen : r.now.ml.length = a.now.nm.length := hok.now.rep.len
  have hl2 : a.now.nm.length ≤ 16384 := (okA_end hok.ok).2
  refine j_q (qs_ac) ?_
  refine j_q (qs_pnil Try.underlying25 rfl) ?_
  refine j_g rfl (fun hb => qs_mt rfl) ?_
  refine j_g rfl (fun hb => qs_nil (gd_eq hb)) ?_
  refine j_g rfl (fun hb => qs_field Try.underlying62 rfl sz58 (by decide) (gd_eq hb)) ?_
  refine j_g rfl (fun hb => qs_loadO (rdo_base (FM.in_gf hin) (by simp)) Try.underlying58 rfl (gd_eq hb) rfl) ?_
  refine j_g rfl (fun hb => qs_pnil Try.underlying58 (gd_eq hb)) ?_
  refine j_q (qs_or rfl rfl) ?_
  refine j_cond rfl (fun hc0 => ?_) (fun hc0 => ?_)
  · skip
    simp [gd] at hc0
  · skip
    refine j_q (qs_ac) ?_
    refine j_q (qs_nil rfl) ?_
    refine j_q (qs_field Try.underlying62 rfl sz58 (by decide) rfl) ?_
    refine j_q (qs_loadO (rdo_base (FM.in_gf hin) (by simp)) Try.underlying58 rfl rfl rfl) ?_
    refine j_q (qs_nil rfl) ?_
    refine j_q (qs_field Try.underlying66 rfl sz64 (by decide) rfl) ?_
    refine j_q (qs_loadO (rdo_base (SM.in_gs (FM.in_now hin)) (by simp)) Try.underlying64 rfl rfl rfl) ?_
    refine j_rangemap Try.underlying64 rfl (rdo_base (SM.in_gm (FM.in_now hin)) (by simp)) (fun g16 hg16 => ?_)
    refine j_loop (fun m vs S' => ∃ (done : List (List UInt8 × (Nat × Nat))) (seen : Array Nat) (c0 : Nat) (v : Value) (c : SH), vs = [v] ∧ S' = [[(g16, .mapIter (some r.now.gm) r.now.ck seen c0)], c] ∧ Sx.Own 9 1 (strs ((done.map Prod.fst).filter (preB p))) v c ∧ ItOk strEnc r.now.es seen (mlv done) ∧ (∀ q ∈ done, q ∈ r.now.ml) ∧ r.now.ck ≤ c0 ∧ m = r.now.ml.length - done.length) ⟨_, [], #[], r.now.ck, .slice none 0 0, [], rfl, rfl, own_nil, itok_nil, (fun q hq => by cases hq), Nat.le_refl _, rfl⟩ ?_
    rintro m vs S' hlen ⟨done, seen, c0, v, c, rfl, rfl, hown, hit, hsub, hc0', rfl⟩
    refine j_nextm 0 strKey.inj rfl rfl (rdo_base (SM.in_gm (FM.in_now hin)) (by simp)) hraw.map hit (Nat.le_refl _) hc0' (fun c1 nvs S2 hnv hcase => ?_)
    refine j_q (qs_ext rfl hnv) ?_
    refine j_cond rfl (fun hc1 => ?_) (fun hc1 => ?_)
    · skip
      subst hc1
      rcases hcase with ⟨hcf, _⟩ | ⟨_, q, e, hp, hnd, he, hek, hev, hit2, rfl⟩
      · cases hcf
      obtain ⟨⟨n, g, id⟩, hq, rfl⟩ := List.mem_map.1 hp
      obtain ⟨y, hy, hyg, hyi⟩ := hraw.has _ hq
      simp only at hyg hyi
      subst hyg hyi
      have hsn : strOk n := hraw.map.keys _ hp
      have e9 : mlv (done ++ [(n, (y.g, y.id))]) = mlv done ++ [(n, fptr (y.g, y.id))] := by rw [mlv, List.map_append]; rfl
      have hdn : (done ++ [(n, (y.g, y.id))]).Nodup := by
        have h9 := hit2.nd
        simp only at h9
        rw [← e9] at h9
        exact nodup_of_map (nodup_of_map h9)
      have hsub2 : ∀ x ∈ done ++ [(n, (y.g, y.id))], x ∈ r.now.ml := fun x hx => by
        rcases List.mem_append.1 hx with hx | hx
        · exact hsub x hx
        · rw [List.mem_singleton] at hx
          rw [hx]
          exact hq
      have hdl := sub_len hdn hsub2
      rw [List.length_append, List.length_singleton] at hdl
      simp only [List.set]
      refine j_q (qs_entry (es := r.now.es) (m := mlv r.now.ml) (p := (n, fptr (y.g, y.id))) (e := e) (seen := seen) (since := r.now.ck) (bm := r.now.gm) (r := g16) rfl (rdo_mem 0 rfl (by simp)) (rdo_base (SM.in_gm (FM.in_now hin)) (by simp)) hraw.map he hek hev) ?_
      refine j_q (qs_ext (vs := [.string (bs n), fptr (y.g, y.id)]) rfl rfl) ?_
      refine j_q (qs_call ent43 rfl rfl rfl (fun w' hw' => hasPre_con p n w' hsp hsn)) ?_
      refine j_cond rfl (fun hc2 => ?_) (fun hc2 => ?_)
      · skip
        have hpre : preB p n = true := hc2
        refine j_lit (vs := [.string (bs _)]) Try.underlying41 sz9 zero9 rfl (by simp [oneV]) ⟨rfl, by decide⟩ (fun g22 v22 c22 hv22 hc22 ho22 => ?_)
        subst hv22 hc22
        refine j_append 2 Try.underlying41 Try.underlying41 (.inr ⟨_, rfl⟩) sb9 zero9 rfl hown rfl (.inl ⟨_, _, rfl, own_rd ho22 0 rfl, rfl⟩) (by intro u hu; rw [List.mem_singleton] at hu; rw [hu]; rfl) ⟨(by rw [strs_length]; simp only [List.length_singleton]; have h8 := List.length_filter_le (preB p) (done.map Prod.fst); rw [List.length_map] at h8; omega), (by decide)⟩ (fun v23 c23 ho23 => ?_)
        refine j_subl (S' := [[(g16, .mapIter (some r.now.gm) r.now.ck (seen.push e.born) r.now.ck)], c23]) (by repeat first | exact slR _ | exact slN _ | apply slC | apply slD) ?_
        refine j_back rfl ?_
        refine ⟨r.now.ml.length - (done ++ [(n, (y.g, y.id))]).length, (by
          have h1 := sub_len (l := (done ++ [(n, (y.g, y.id))])) (L := r.now.ml) hdn hsub2
          have e9 : (done ++ [(n, (y.g, y.id))]).length = done.length + 1 := by rw [List.length_append, List.length_singleton]
          omega), (done ++ [(n, (y.g, y.id))]), seen.push e.born, r.now.ck, v23, c23, rfl, rfl, ?_, e9 ▸ hit2, hsub2, Nat.le_refl _, rfl⟩
        rw [List.map_append, List.filter_append, strs_append]
        simpa [hpre, strs] using ho23
      · skip
        have hpre : preB p n = false := hc2
        refine j_back rfl ?_
        refine ⟨r.now.ml.length - (done ++ [(n, (y.g, y.id))]).length, (by
          have h1 := sub_len (l := (done ++ [(n, (y.g, y.id))])) (L := r.now.ml) hdn hsub2
          have e9 : (done ++ [(n, (y.g, y.id))]).length = done.length + 1 := by rw [List.length_append, List.length_singleton]
          omega), (done ++ [(n, (y.g, y.id))]), seen.push e.born, r.now.ck, v, c, rfl, rfl, ?_, e9 ▸ hit2, hsub2, Nat.le_refl _, rfl⟩
        rw [List.map_append, List.filter_append, strs_append]
        simpa [hpre, strs] using hown
    · skip
      have hcf : c1 = false := by simpa using hc1
      subst hcf
      rcases hcase with ⟨_, rfl, hend⟩ | ⟨hcf, _⟩
      rotate_left
      · cases hcf
      refine j_call 1 ent44 rfl rfl rfl rfl (fun w' hw' => sortN_con hown (by have h8 := List.length_filter_le (preB p) (done.map Prod.fst); rw [List.length_map] at h8; have h9 := sub_len (nodup_of_map (nodup_of_map hit.nd) : done.Nodup) hsub; omega) w') (fun u S3 hu => ?_)
      obtain ⟨rfl, c3, rfl, ho3⟩ := hu
      have hp : done.Perm r.now.ml := sub_perm (nodup_of_map (nodup_of_map hit.nd)) (nodup_of_map hraw.nd) hsub (fun q hq => by
        have := hend (q.1, fptr q.2) (List.mem_map.2 ⟨q, hq, rfl⟩)
        obtain ⟨x, hx, e⟩ := List.mem_map.1 this
        have h1 := alook_of_mem hraw.nd (hsub x hx)
        have h2 := alook_of_mem hraw.nd hq
        injection e with e1 e2
        rw [e1] at h1
        rw [h1] at h2
        injection h2 with h2
        have : x = q := Prod.ext e1 h2
        rw [← this]
        exact hx)
      refine j_subl (S' := [c3]) (by repeat first | exact slR _ | exact slN _ | apply slC | apply slD) ?_
      refine j_ret_con (vs := [_]) (fun w' hw' => ⟨rfl, trivial⟩) ?_
      rw [namesA_perm hok.now.rep hp] at ho3
      exact ⟨c3, rfl, ho3⟩
end Go.Proofs.Ytckpegkpdepokaa
/-! Any7 -/
namespace Go.Proofs.Ytckpegkpdepokaa
open Go Go.Sx Go.MapKept Go.WideMaps Go.Maps
set_option maxRecDepth 100000
set_option maxHeartbeats 4000000
set_option linter.unusedVariables false
attribute [local irreducible] J JQ QS Con W opW
structure RI (f : FM) (i : Nat) : Prop where
  ok : f.Ok i
  fu : f.fused = false
  lf : f.left = 0
  k1 : ∀ x ∈ f.now.fs, x.k = 1
  idl : ∀ x ∈ f.now.fs, x.id < i
  tt : (tot f.now.fs : Int) = f.now.used
  ur : f.now.used ≤ f.room
  rm : f.room ≤ 1073741824
  mll : f.now.ml.length ≤ i
end Go.Proofs.Ytckpegkpdepokaa
/-! Arg7 -/
namespace Go.Proofs.Ytckpegkpdepokaa
open Go Go.Sx Go.ChangeShapes Go.WideShapes Go.ChangeAt Go.RowKit
set_option linter.unusedVariables false
set_option maxRecDepth 100000
def BRz (w : World) (p : Value × List UInt8) : Prop := (p.1 = .slice none 0 0 ∧ p.2 = []) ∨ ∃ a cap, p.1 = .slice (some a) p.2.length cap ∧ p.2.length ≤ cap ∧ Cells w a (ints p.2)
theorem brz_br {w : World} {v : Value} {xs : List UInt8} (h : BRz w (v, xs)) : BR w v xs := by
  rcases h with h | ⟨a, cap, h1, h2, h3⟩
  · exact .inl h
  · refine .inr ⟨a, cap, h1, h2, fun h0 => ?_, h3⟩
    have h4 := h3 0 _ (ints_get_lt h0)
    have h5 : (a.add 0).block = a.block := rfl
    unfold World.cell? at h4
    split at h4
    · rename_i hh
      rw [h5] at hh
      exact (Array.getElem?_eq_some_iff.1 hh).1
    · cases h4
theorem weights_at {H : Type} {P : Program} {ts : List TypeId} {ds : List (DataW H)} (h : (DataW.weightsEach P ts ds).all (· ≤ reachBytes) = true) {j : Nat} {t : TypeId} {d : DataW H} (ht : ts[j]? = some t) (hd : ds[j]? = some d) : (d.weights P t).all (· ≤ reachBytes) = true :=
  List.all_eq_true.2 fun n hn => List.all_eq_true.1 h n (DataW.weights_mem_each ht hd n hn)
theorem row_trod {H : Type} {enc : TypeId × Value → H} {w : World} {b0 : Nat} {sp : Nat → Bool} {held : Bool} (fuel : Nat) (cs : List Value) (y : DataW H × List MemPlace) (h : DataW.trod enc Try.prog w b0 sp held fuel 23 cs = some y) (hw : (y.1.weights Try.prog 23).all (· ≤ reachBytes) = true) :
    ∃ p : Value × List UInt8, (BRz w p ∧ p.2.length ≤ 140737488351232) ∧ cs = [p.1] := by
  rcases open_ints Try.underlying23 Try.underlying5 (by kernel_rfl) h with ⟨hcs, _⟩ | ⟨a, len, cap, zs, hcs, hb, hl, hm, hz, hx, hcell, hsz⟩
  · exact ⟨(.slice none 0 0, []), ⟨.inl ⟨rfl, rfl⟩, Nat.zero_le _⟩, hcs⟩
  · have hlen : len ≤ zs.length := by rw [hz]; split <;> omega
    have hll : ((zs.take len).map by8).length = len := by simp [Nat.min_eq_left hlen]
    have hwl : len ≤ 140737488351232 := by
      have h0 := List.all_eq_true.1 hw (((lits IntKind.u8 (zs.take len) : List (DataW H)).length + (lits IntKind.u8 (zs.drop len) : List (DataW H)).length) * Try.prog.bytesOf 5) (by rw [hx]; simp [DataW.weights, Try.underlying23])
      have hb5 : Try.prog.bytesOf 5 = 1 := by kernel_rfl
      have hreach : reachBytes = 140737488351232 := rfl
      rw [hb5] at h0
      have h1 : (lits IntKind.u8 (zs.take len) : List (DataW H)).length = len := by simp [lits, Nat.min_eq_left hlen]
      rw [h1] at h0
      simp only [decide_eq_true_eq] at h0
      omega
    refine ⟨(.slice (some a) len cap, (zs.take len).map by8), ⟨.inr ⟨a, cap, by simp only [hll], by simp only [hll]; exact hl, fun j u hu => ?_⟩, by simp only [hll]; exact hwl⟩, hcs⟩
    rw [ints_get] at hu
    obtain ⟨c, hc1, rfl⟩ := Option.map_eq_some_iff.1 hu
    rw [List.getElem?_map] at hc1
    obtain ⟨z, hz1, rfl⟩ := Option.map_eq_some_iff.1 hc1
    have hz2 : zs[j]? = some z := by
      rw [List.getElem?_take] at hz1
      split at hz1
      · exact hz1
      · cases hz1
    have hlt := (List.getElem?_eq_some_iff.1 hz2).1
    rw [hcell j hlt]
    have hr := hsz z (List.mem_of_getElem? hz2)
    have hr2 : 0 ≤ z ∧ z ≤ 255 := by
      have h1 : IntKind.u8.min = 0 := rfl
      have h2 : IntKind.u8.max = 255 := rfl
      simp [Lit.wf, h1, h2] at hr
      omega
    have hw : IntKind.u8.wrap z = z := by rw [IntKind.wrap_u8]; omega
    rw [← wrap_by8, hw]
    simp [List.getD_eq_getElem?_getD, hz2]
end Go.Proofs.Ytckpegkpdepokaa
/-! Fs15 -/
namespace Go.Proofs.Ytckpegkpdepokaa
open Go Go.Sx
set_option maxRecDepth 100000
set_option maxHeartbeats 4000000
set_option linter.unusedVariables false
set_option linter.unusedSimpArgs false
attribute [local irreducible] J JQ QS Con W opW
open Go.MapKept Go.WideMaps Go.Maps
end Go.Proofs.Ytckpegkpdepokaa
/-! Ft8 -/
namespace Go.Proofs.Ytckpegkpdepokaa
open Go Go.Sx
set_option maxRecDepth 100000
set_option maxHeartbeats 4000000
set_option linter.unusedVariables false
set_option linter.unusedSimpArgs false
attribute [local irreducible] J JQ QS Con W opW
open Go.MapKept Go.WideMaps Go.Maps
abbrev AS0 : AS := ⟨[], fun _ => [], 0⟩
abbrev AF0 (room : Int) : AF := ⟨room, AS0, [], false, 0⟩
theorem sx0 (gs gm : Nat) : Sx' (SM0 gs gm) AS0 := ⟨raw0 _ _, ⟨(fun f h => by cases h), (fun f h => by cases h), rfl⟩, .nil, (fun f h => by cases h), rfl⟩
def nmF (i : Nat) : List UInt8 := [102, by8 ((i : Int).fdiv (2 ^ min (Int.toNat 8) IntKind.i64.bits)), by8 (i : Int)]
theorem nmF_ok (i : Nat) : nameOk (nmF i) = true ∧ strOk (nmF i) := ⟨rfl, by show 3 ≤ _; decide⟩
theorem by8_nat (m : Nat) : (by8 (m : Int)).toNat = m % 256 := by
  unfold by8
  rw [show IntKind.u8.wrap (m : Int) = ((m % 256 : Nat) : Int) by simp [IntKind.wrap, IntKind.bits, IntKind.signed]]
  rw [Int.toNat_natCast, UInt8.toNat_ofNat']
  omega
theorem nmF_inj {i j : Nat} (hi : i < 65536) (hj : j < 65536) (h : nmF i = nmF j) : i = j := by
  have hd : ∀ k : Nat, (k : Int).fdiv (2 ^ min (Int.toNat 8) IntKind.i64.bits) = ((k / 256 : Nat) : Int) := fun k => by
    rw [show (2 ^ min (Int.toNat 8) IntKind.i64.bits : Int) = 256 by decide, Int.fdiv_eq_ediv_of_nonneg _ (by decide)]
    omega
  unfold nmF at h
  rw [hd, hd] at h
  injection h with _ h
  injection h with h1 h
  injection h with h2 _
  have e1 := congrArg UInt8.toNat h1
  have e2 := congrArg UInt8.toNat h2
  rw [by8_nat, by8_nat] at e1 e2
  omega
structure FI (a : AF) (n : Int) (i t : Nat) : Prop where
  rm : a.room = 1048576
  fu : a.fused = true
  le : a.left = n - min (i : Int) n
  pl : (a.pend.length : Int) = min (i : Int) n
  nl : (a.now.nm.length : Int) = min (i : Int) n
  nms : ∀ q ∈ a.now.nm, ∃ k, k < i ∧ q.1 = nmF k
  ids : ∀ q ∈ a.now.nm, q.2 < i
  us : a.now.used ≤ (t : Int)
theorem FI.may {a : AF} {n : Int} {i t : Nat} (h : FI a n i t) (hn : 0 ≤ n) {ns : List (List UInt8)} (hns : ns.all nameOk = true) : mayE a.fused a.left ns = if (i : Int) < n then 0 else 26 := by
  unfold mayE
  rw [h.fu, h.le, hns]
  by_cases hi : (i : Int) < n
  · rw [if_pos hi, if_neg (by simp; omega), if_pos rfl]
  · rw [if_neg hi, if_pos (by simp; omega)]
theorem FI.fresh {a : AF} {n : Int} {i t : Nat} (h : FI a n i t) (hi : i < 60000) : alook a.now.nm (nmF i) = none := by
  refine alook_none.2 fun q hq e => ?_
  obtain ⟨k, hk, e2⟩ := h.nms q hq
  have := nmF_inj (by omega) (by omega) (e.symm.trans e2)
  omega
theorem FI.wr {a : AF} {n : Int} {i t : Nat} (h : FI a n i t) (hn : 0 ≤ n ∧ n ≤ 1000) (hi : i ≤ 8000) (xs : List UInt8) (hx : t + xs.length ≤ 8000) : wrE a (nmF i) xs = if (i : Int) < n then 0 else 26 := by
  unfold wrE
  rw [h.may hn.1 (by simp [nmF_ok])]
  by_cases hin : (i : Int) < n
  · rw [if_pos hin, if_neg (by simp), if_neg (by omega), if_neg]
    unfold fullA
    have h1 := h.nl
    have h2 := h.us
    have h3 := h.rm
    rintro (⟨_, h4⟩ | h4) <;> omega
  · rw [if_neg hin, if_pos (by decide)]
theorem FI.step {a : AF} {n : Int} {i t : Nat} (h : FI a n i t) (hn : 0 ≤ n ∧ n ≤ 1000) (hi : i ≤ 8000) (xs : List UInt8) (hx : t + xs.length ≤ 8000) : FI (if wrE a (nmF i) xs = 0 then stepF a (.wr (nmF i) xs i) else a) n (i + 1) (t + xs.length) := by
  rw [h.wr hn hi xs hx]
  have h1 := h.nl
  have h2 := h.us
  have h3 := h.le
  have h4 := h.pl
  by_cases hin : (i : Int) < n
  · rw [if_pos hin, if_pos rfl]
    have hnow : (stepF a (.wr (nmF i) xs i)).now = writeA a.now (nmF i) xs i := runA_snoc
    have hfr := letsA_none (h.fresh (by omega))
    rw [writeA_eq, hfr] at hnow
    refine ⟨h.rm, h.fu, ?_, ?_, ?_, ?_, ?_, ?_⟩
    · show burnL a = _
      unfold burnL
      rw [h.fu, if_pos rfl, h3]
      omega
    · show ((a.pend ++ [_]).length : Int) = _
      rw [List.length_append, List.length_singleton]
      omega
    · rw [hnow]
      show (((a.now.nm ++ [(nmF i, i)]).length : Nat) : Int) = _
      rw [List.length_append, List.length_singleton]
      omega
    · rw [hnow]
      intro q hq
      rcases List.mem_append.1 hq with hq | hq
      · obtain ⟨k, hk, e⟩ := h.nms q hq
        exact ⟨k, by omega, e⟩
      · rw [List.mem_singleton] at hq
        rw [hq]
        exact ⟨i, by omega, rfl⟩
    · rw [hnow]
      intro q hq
      rcases List.mem_append.1 hq with hq | hq
      · have := h.ids q hq
        omega
      · rw [List.mem_singleton] at hq
        rw [hq]
        exact Nat.lt_succ_self i
    · rw [hnow]
      show a.now.used + (xs.length : Int) ≤ _
      omega
  · rw [if_neg hin, if_neg (by decide)]
    refine ⟨h.rm, h.fu, by omega, by omega, by omega, fun q hq => ?_, fun q hq => ?_, by omega⟩
    · obtain ⟨k, hk, e⟩ := h.nms q hq
      exact ⟨k, by omega, e⟩
    · have := h.ids q hq
      omega
theorem int_wf {n : Int} (h : (Lit.int .i64 n).wf = true) : -9223372036854775808 ≤ n ∧ n ≤ 9223372036854775807 := by
  have h1 : IntKind.i64.min = -9223372036854775808 := rfl
  have h2 : IntKind.i64.max = 9223372036854775807 := rfl
  simp only [Lit.wf, h1, h2, Bool.and_eq_true, decide_eq_true_eq] at h
  exact h
theorem newR_con (room : Int) (w : World) (h0 : 0 ≤ room) (h1 : room ≤ 1073741824) : Con Try.prog 10 [.int .i64 room] w [] fun v S' => ∃ r : FR, S' = [r.heap] ∧ v = .tuple #[r.ptr, .int .i64 0] ∧ r.Ok (AF0 room) := by
  refine con_of_tree mix Try.func10 T10_ok (by kernel_rfl) ?_
  unfold T10
  refine j_q (qs_ac) ?_
  refine j_q (qs_ac) ?_
  refine j_q (qs_lss rfl rfl) ?_
  refine j_g rfl (fun hb => qs_mt rfl) ?_
  refine j_g rfl (fun hb => qs_gtr (gd_eq hb) rfl) ?_
  refine j_q (qs_or rfl rfl) ?_
  refine j_cond rfl (fun hc0 => ?_) (fun hc0 => ?_)
  · skip
    simp [gd] at hc0
    omega
  · skip
    refine j_call0 ent30 rfl rfl rfl (fun w' hw' => begun_con w') (fun u S2 hu => ?_)
    obtain ⟨gs1, gm1, rfl, rfl⟩ := hu
    refine j_subl (S' := [(SM0 gs1 gm1).heap]) (by repeat first | exact slR _ | exact slN _ | apply slC | apply slD) ?_
    refine j_call0 ent30 rfl rfl rfl (fun w' hw' => begun_con w') (fun u S2 hu => ?_)
    obtain ⟨gs2, gm2, rfl, rfl⟩ := hu
    refine j_subl (S' := [(SM0 gs2 gm2).heap, (SM0 gs1 gm1).heap]) (by repeat first | exact slR _ | exact slN _ | apply slC | apply slD) ?_
    refine j_q (qs_build (places := [(0, 1), (1, 1), (2, 1), (3, 1), (4, 1), (5, 1)]) (offs := [(0, [.int .i64 room]), (1, [(SM0 gs1 gm1).ptr]), (2, [(SM0 gs2 gm2).ptr])]) Try.underlying62 zero62 (by kernel_rfl) rfl (by rintro (_ | _ | _ | j) p q hp hq <;> first | (simp at hp hq; subst hp hq; exact ⟨rfl, rfl, by simp⟩) | (simp at hp))) ?_
    refine j_box (l := fmcells (⟨0, room, (SM0 gs1 gm1).ptr, SM0 gs2 gm2, [], .slice none 0 0, [], false, 0, (SM0 gs1 gm1).heap, []⟩ : FM)) rfl (fun g11 hg11 hs11 => ?_)
    refine j_q (qs_ac) ?_
    refine j_perm (S' := [FR.heap (⟨g11, room, SM0 gs1 gm1, SM0 gs2 gm2, [], .slice none 0 0, [], false, 0, [], []⟩ : FR)]) (List.Perm.of_eq (by simp [FM.heap, ph])) ?_
    refine j_ret_con (vs := [_, _]) (fun w' hw' => ⟨rfl, rfl, trivial⟩) ?_
    exact ⟨(⟨g11, room, SM0 gs1 gm1, SM0 gs2 gm2, [], .slice none 0 0, [], false, 0, [], []⟩ : FR), rfl, rfl, ⟨rfl, rfl, rfl, ⟨Int.le_refl 0, by show (0 : Int) ≤ _; decide⟩, rfl, own_nil, Nat.zero_le _, (fun m h => by cases h), (fun m h => by cases h), ⟨by show (0 : Int) ≤ _; decide, Nat.zero_le _⟩, sx0 _ _, (fun x h => by cases h), sx0 _ _, (fun x h => by cases h)⟩⟩
end Go.Proofs.Ytckpegkpdepokaa
/-! Ft9 -/
namespace Go.Proofs.Ytckpegkpdepokaa
open Go Go.Sx
set_option maxRecDepth 100000
set_option maxHeartbeats 4000000
set_option linter.unusedVariables false
set_option linter.unusedSimpArgs false
attribute [local irreducible] J JQ QS Con W opW
open Go.MapKept Go.WideMaps Go.Maps
def remE (a : AF) (n : List UInt8) : Int := if mayE a.fused a.left [n] ≠ 0 then mayE a.fused a.left [n] else if alook a.now.nm n = none then 7 else 0
def renE (a : AF) (old n : List UInt8) : Int := if mayE a.fused a.left [old, n] ≠ 0 then mayE a.fused a.left [old, n] else if alook a.now.nm old = none then 7 else 0
def linE (a : AF) (old n : List UInt8) : Int := if mayE a.fused a.left [old, n] ≠ 0 then mayE a.fused a.left [old, n] else if alook a.now.nm old = none then 7 else if alook a.now.nm n ≠ none then 8 else if 16384 ≤ a.now.nm.length then 6 else 0
def sizeA (s : AS) (n : List UInt8) : Nat :=
  match alook s.nm n with
  | none => 0
  | some i => (s.dt i).length
def appE (a : AF) (n xs : List UInt8) : Int := if mayE a.fused a.left [n] ≠ 0 then mayE a.fused a.left [n] else if alook a.now.nm n = none then 7 else if 1048576 < sizeA a.now n + xs.length then 5 else if a.room < a.now.used + (xs.length : Int) then 6 else 0
theorem look_none {r : FR} {a : AF} (hok : r.Ok a) (n : List UInt8) : alook r.now.ml n = none ↔ alook a.now.nm n = none := by
  rw [← hok.now.rep.look hok.now.raw n]
  cases alook r.now.ml n <;> simp
theorem mdel_nd {s : AS} (n : List UInt8) (hn : (s.nm.map Prod.fst).Nodup) : ((mdel s.nm n).map Prod.fst).Nodup := List.Nodup.sublist (List.Sublist.map _ List.filter_sublist) hn
theorem letsA_nd {s : AS} (n : List UInt8) (hn : (s.nm.map Prod.fst).Nodup) : ((letsA s n).nm.map Prod.fst).Nodup := by
  unfold letsA
  split
  · exact hn
  · exact mdel_nd n hn
theorem letsA_len {s : AS} (n : List UInt8) (hn : (s.nm.map Prod.fst).Nodup) : (letsA s n).nm.length ≤ s.nm.length := by
  cases h : alook s.nm n with
  | none => rw [letsA_none h]; exact Nat.le_refl _
  | some i =>
    have := mdel_len hn h
    simp only [letsA, h]
    omega
theorem lets_lim {s : AS} (n : List UInt8) (hn : (s.nm.map Prod.fst).Nodup) (hl : limA s) : limA (letsA s n) := by
  refine ⟨?_, Nat.le_trans (letsA_len n hn) hl.2⟩
  rw [letsA_used]
  have := hl.1
  omega
theorem givesA_fresh {s : AS} {n : List UInt8} {i : Nat} (h : alook s.nm n = none) : givesA s n i = { s with nm := s.nm ++ [(n, i)] } := by
  unfold givesA
  rw [if_neg (by rw [h]; simp), letsA_none h]
theorem ren_lim {s : AS} {old n : List UInt8} {i : Nat} (hn : (s.nm.map Prod.fst).Nodup) (hl : limA s) (ho : alook s.nm old = some i) (hne : old ≠ n) : limA (letsA (givesA s n i) old) := by
  by_cases h : alook s.nm n = some i
  · have e : givesA s n i = s := by unfold givesA; rw [if_pos h]
    rw [e]
    exact lets_lim old hn hl
  · have e : givesA s n i = { letsA s n with nm := (letsA s n).nm ++ [(n, i)] } := by unfold givesA; rw [if_neg h]
    have hfree := letsA_free s n
    have hnd : (((givesA s n i).nm).map Prod.fst).Nodup := by
      rw [e]
      show (((letsA s n).nm ++ [(n, i)]).map Prod.fst).Nodup
      rw [List.map_append, List.nodup_append]
      refine ⟨letsA_nd n hn, by simp, fun x hx y hy e3 => ?_⟩
      simp only [List.map_cons, List.map_nil, List.mem_singleton] at hy
      subst hy
      obtain ⟨q, hq, e2⟩ := List.mem_map.1 hx
      exact alook_none.1 hfree q hq (e2.trans e3)
    have hold : alook (givesA s n i).nm old = some i := by
      rw [e]
      show alook ((letsA s n).nm ++ [(n, i)]) old = some i
      have h1 : alook (letsA s n).nm old = some i := by
        cases h2 : alook s.nm n with
        | none => rw [letsA_none h2]; exact ho
        | some j =>
          have h3 : (letsA s n).nm = mdel s.nm n := by simp only [letsA, h2]
          rw [h3, alook_mdel, if_neg (fun e => hne e.symm)]
          exact ho
      rw [alook_app (by rw [h1]; rfl), h1]
    have h5 := mdel_len hnd hold
    refine ⟨?_, ?_⟩
    · rw [letsA_used]
      have h6 : (givesA s n i).used = (letsA s n).used := by rw [e]
      rw [h6, letsA_used]
      have := hl.1
      omega
    · have h6 : (letsA (givesA s n i) old).nm = mdel (givesA s n i).nm old := by simp only [letsA, hold]
      rw [h6]
      have h7 : (givesA s n i).nm.length = (letsA s n).nm.length + 1 := by rw [e]; simp
      have h8 := letsA_len n hn
      have := hl.2
      omega
theorem remove_con (r : FR) (a : AF) (n : List UInt8) (w : World) (hok : r.Ok a) (hB : a.pend.length < 16384) (hn : strOk n) : Con Try.prog 28 [r.ptr, .string (bs n)] w r.heap fun v S' => v = .int .i64 (remE a n) ∧ ∃ r' : FR, S' = [r'.heap] ∧ r'.Ok (if remE a n = 0 then stepF a (.rm n) else a) ∧ FR.To w r r' := by
  refine con_of_tree mix Try.func28 T28_ok (by kernel_rfl) ?_
  unfold T28
  have hmay : mayE r.fused r.left [n] = mayE a.fused a.left [n] := by rw [hok.fu, hok.le]
  have hlim := okA_end hok.ok
  have hu1 : a.now.used ≤ 1073741824 := hlim.1
  have hl2 : a.now.nm.length ≤ 16384 := hlim.2
  have hut : r.now.used + 0 = (tot r.now.fs : Int) := hok.now.ex.ut
  have hus : r.now.used = a.now.used := hok.now.rep.us
  have hlen : r.now.ml.length = a.now.nm.length := hok.now.rep.len
  have hrm2 := hok.rm
  have hnd := hok.now.rep.nd hok.now.raw
  refine j_box (l := [.string (bs n)]) rfl (fun g0 hg0 hs0 => ?_)
  refine j_q (qs_ac) ?_
  refine j_q (qs_load (l := [.string (bs n)]) 0 Try.underlying9 rfl rfl rfl rfl) ?_
  refine j_lit (vs := [.string (bs _)]) Try.underlying41 sz9 zero9 rfl (by simp [oneV]) ⟨rfl, by decide⟩ (fun g3 v3 c3 hv3 hc3 ho3 => ?_)
  subst hv3 hc3
  refine j_q (qs_call ent32 rfl rfl rfl (fun w' hw' => may_con r.fm [n] _ w' (in_own hw' 2 rfl) (rsl_own ho3 0 rfl hw') (by simp))) ?_
  refine j_q (qs_neq rfl rfl) ?_
  refine j_cond rfl (fun hc0 => ?_) (fun hc0 => ?_)
  · skip
    have hm : mayE a.fused a.left [n] ≠ 0 := by
      rw [← hmay]
      simpa using hc0
    refine j_subl (S' := [r.heap]) (by repeat first | exact slR _ | exact slN _ | apply slC | apply slD) ?_
    have hwe : remE a n = mayE a.fused a.left [n] := by
      unfold remE
      rw [if_pos hm]
    refine j_ret_con (vs := [_]) (fun w' hw' => ⟨rfl, trivial⟩) ?_
    rw [hwe]
    refine ⟨congrArg (Value.int .i64) hmay, r, rfl, ?_, FR.To.refl _ _⟩
    rw [if_neg hm]
    exact hok
  · skip
    have hm : mayE a.fused a.left [n] = 0 := by
      rw [← hmay]
      simpa using hc0
    have hz : a.fused = true → a.left ≠ 0 := fun hf hl => by
      unfold mayE at hm
      rw [hf, hl] at hm
      simp at hm
    refine j_perm (S' := [[(g3, .cells [.string (bs n)].toArray 9 (0, 0))], [(g0, .cells [.string (bs n)].toArray 9 (0, 0))], [(r.gf, r.fm.obj)], [(r.now.gs, r.now.sobj)], [(r.now.gm, .map r.now.es r.now.ck)], r.now.fs.map FL.h, r.tc ++ (r.ls.heap ++ r.X) ++ ph r.P]) (by
      classical
      refine List.perm_iff_count.2 fun x => ?_
      simp only [FM.heap, FM.obj, fmcells, SM.heap, ph, List.map_append, List.map_nil, List.set, List.flatten_cons, List.flatten_nil, List.append_nil, List.nil_append, List.cons_append, List.count_append, List.count_cons, List.count_nil] <;> omega) ?_
    refine j_draw ?_
    refine jq_q (qs_nil rfl) ?_
    refine jq_q (qs_field Try.underlying62 rfl sz58 (by decide) rfl) ?_
    refine jq_q (qs_load (l := fmcells r.fm) 2 Try.underlying58 rfl rfl rfl rfl) ?_
    refine jq_q (qs_nil rfl) ?_
    refine jq_q (qs_field Try.underlying66 rfl sz64 (by decide) rfl) ?_
    refine jq_q (qs_load (l := smcells r.now) 3 Try.underlying64 rfl rfl rfl rfl) ?_
    refine jq_q (qs_load (l := [.string (bs n)]) 1 Try.underlying9 rfl rfl rfl rfl) ?_
    refine jq_q (qs_lookup (key := n) strKey 4 Try.underlying64 zv63 rfl rfl rfl hok.now.raw.map hn) ?_
    rw [mlook_map fptr, getD_fptr]
    refine jq_q (qs_pnil Try.underlying63 rfl) ?_
    refine jq_nil ?_
    refine j_cond rfl (fun hc1 => ?_) (fun hc1 => ?_)
    · skip
      have hl0 : alook a.now.nm n = none := by
        rw [← look_none hok]
        cases hx : alook r.now.ml n with
        | none => rfl
        | some p => rw [hx] at hc1; simp at hc1
      refine j_q (qs_ac) ?_
      refine j_subl (S' := r.fm.parts2) (by repeat first | exact slR _ | exact slN _ | apply slC | apply slD) ?_
      refine j_perm (S' := [r.heap]) r.fm.split2.symm ?_
      have hwe : remE a n = 7 := by
        unfold remE
        rw [if_neg (by rw [hm]; simp), if_pos hl0]
      refine j_ret_con (vs := [_]) (fun w' hw' => ⟨rfl, trivial⟩) ?_
      rw [hwe]
      refine ⟨rfl, r, rfl, ?_, FR.To.refl _ _⟩
      rw [if_neg (by decide)]
      exact hok
    · skip
      have hl0 : alook a.now.nm n ≠ none := by
        rw [Ne, ← look_none hok]
        intro hx
        rw [hx] at hc1
        simp at hc1
      refine j_q (qs_mkfuncv (vs := [.pointer (some ⟨g0, 0, none⟩)]) rfl) ?_
      refine j_perm (S' := [FR.heap ({ r with X := ([(g0, .cells [.string (bs n)].toArray 9 (0, 0))]) ++ r.X, P := ([] : List BK) ++ r.P } : FR), [(g3, .cells [.string (bs n)].toArray 9 (0, 0))]]) (by
        classical
        refine List.perm_iff_count.2 fun x => ?_
        simp only [FM.heap, FM.obj, fmcells, SM.heap, ph, List.map_append, List.map_nil, List.set, List.flatten_cons, List.flatten_nil, List.append_nil, List.nil_append, List.cons_append, List.count_append, List.count_cons, List.count_nil] <;> omega) ?_
      refine j_call 0 ent34 rfl rfl rfl rfl (fun w' hw' => (doesR_con ({ r with X := ([(g0, .cells [.string (bs n)].toArray 9 (0, 0))]) ++ r.X, P := ([] : List BK) ++ r.P } : FR) a (.rm n g0) w' (hok.more _ _) hB hz hn (fun q hq => List.mem_append_left _ hq) trivial (lets_lim n hnd hlim)).mono (fun u S5 h5 => by
        obtain ⟨h1, r', h2, h3, h4⟩ := h5
        exact (⟨h1, r', h2, h3, h4.old hw' 0 rfl rfl (fun q hq => List.mem_append_right _ hq) (fun b hb => List.mem_append_right _ hb)⟩ : _ ∧ ∃ r' : FR, S5 = [r'.heap] ∧ r'.Ok (stepF a (.rm n)) ∧ FR.To w r r'))) (fun u S5 h5 => ?_)
      obtain ⟨rfl, r', rfl, hr', hto⟩ := h5
      refine j_subl (S' := [r'.heap]) (by repeat first | exact slR _ | exact slN _ | apply slC | apply slD) ?_
      have hwe : remE a n = 0 := by
        unfold remE
        rw [if_neg (by rw [hm]; simp), if_neg hl0]
      refine j_ret_con (vs := [_]) (fun w' hw' => ⟨rfl, trivial⟩) ?_
      rw [hwe]
      refine ⟨rfl, r', rfl, ?_, hto⟩
      rw [if_pos rfl]
      exact hr'
theorem rename_con (r : FR) (a : AF) (old n : List UInt8) (w : World) (hok : r.Ok a) (hB : a.pend.length < 16384) (hso : strOk old) (hn : strOk n) : Con Try.prog 27 [r.ptr, .string (bs old), .string (bs n)] w r.heap fun v S' => v = .int .i64 (renE a old n) ∧ ∃ r' : FR, S' = [r'.heap] ∧ r'.Ok (if renE a old n = 0 then stepF a (.rn old n) else a) ∧ FR.To w r r' := by
  refine con_of_tree mix Try.func27 T27_ok (by kernel_rfl) ?_
  unfold T27
  have hmay : mayE r.fused r.left [old, n] = mayE a.fused a.left [old, n] := by rw [hok.fu, hok.le]
  have hlim := okA_end hok.ok
  have hu1 : a.now.used ≤ 1073741824 := hlim.1
  have hl2 : a.now.nm.length ≤ 16384 := hlim.2
  have hut : r.now.used + 0 = (tot r.now.fs : Int) := hok.now.ex.ut
  have hus : r.now.used = a.now.used := hok.now.rep.us
  have hlen : r.now.ml.length = a.now.nm.length := hok.now.rep.len
  have hrm2 := hok.rm
  have hnd := hok.now.rep.nd hok.now.raw
  refine j_box (l := [.string (bs old)]) rfl (fun g0 hg0 hs0 => ?_)
  refine j_box (l := [.string (bs n)]) rfl (fun g1 hg1 hs1 => ?_)
  refine j_q (qs_ac) ?_
  refine j_q (qs_load (l := [.string (bs old)]) 1 Try.underlying9 rfl rfl rfl rfl) ?_
  refine j_q (qs_load (l := [.string (bs n)]) 0 Try.underlying9 rfl rfl rfl rfl) ?_
  refine j_lit (vs := [.string (bs _), .string (bs _)]) Try.underlying41 sz9 zero9 rfl (by simp [oneV]) ⟨rfl, by decide⟩ (fun g5 v5 c5 hv5 hc5 ho5 => ?_)
  subst hv5 hc5
  refine j_q (qs_call ent32 rfl rfl rfl (fun w' hw' => may_con r.fm [old, n] _ w' (in_own hw' 3 rfl) (rsl_own ho5 0 rfl hw') (by simp))) ?_
  refine j_q (qs_neq rfl rfl) ?_
  refine j_cond rfl (fun hc0 => ?_) (fun hc0 => ?_)
  · skip
    have hm : mayE a.fused a.left [old, n] ≠ 0 := by
      rw [← hmay]
      simpa using hc0
    refine j_subl (S' := [r.heap]) (by repeat first | exact slR _ | exact slN _ | apply slC | apply slD) ?_
    have hwe : renE a old n = mayE a.fused a.left [old, n] := by
      unfold renE
      rw [if_pos hm]
    refine j_ret_con (vs := [_]) (fun w' hw' => ⟨rfl, trivial⟩) ?_
    rw [hwe]
    refine ⟨congrArg (Value.int .i64) hmay, r, rfl, ?_, FR.To.refl _ _⟩
    rw [if_neg hm]
    exact hok
  · skip
    have hm : mayE a.fused a.left [old, n] = 0 := by
      rw [← hmay]
      simpa using hc0
    have hz : a.fused = true → a.left ≠ 0 := fun hf hl => by
      unfold mayE at hm
      rw [hf, hl] at hm
      simp at hm
    refine j_perm (S' := [[(g5, .cells [Value.string (bs old), Value.string (bs n)].toArray 9 (0, 0))], [(g1, .cells [.string (bs n)].toArray 9 (0, 0))], [(g0, .cells [.string (bs old)].toArray 9 (0, 0))], [(r.gf, r.fm.obj)], [(r.now.gs, r.now.sobj)], [(r.now.gm, .map r.now.es r.now.ck)], r.now.fs.map FL.h, r.tc ++ (r.ls.heap ++ r.X) ++ ph r.P]) (by
      classical
      refine List.perm_iff_count.2 fun x => ?_
      simp only [FM.heap, FM.obj, fmcells, SM.heap, ph, List.map_append, List.map_nil, List.set, List.flatten_cons, List.flatten_nil, List.append_nil, List.nil_append, List.cons_append, List.count_append, List.count_cons, List.count_nil] <;> omega) ?_
    refine j_draw ?_
    refine jq_q (qs_nil rfl) ?_
    refine jq_q (qs_field Try.underlying62 rfl sz58 (by decide) rfl) ?_
    refine jq_q (qs_load (l := fmcells r.fm) 3 Try.underlying58 rfl rfl rfl rfl) ?_
    refine jq_q (qs_nil rfl) ?_
    refine jq_q (qs_field Try.underlying66 rfl sz64 (by decide) rfl) ?_
    refine jq_q (qs_load (l := smcells r.now) 4 Try.underlying64 rfl rfl rfl rfl) ?_
    refine jq_q (qs_load (l := [.string (bs old)]) 2 Try.underlying9 rfl rfl rfl rfl) ?_
    refine jq_q (qs_lookup (key := old) strKey 5 Try.underlying64 zv63 rfl rfl rfl hok.now.raw.map hso) ?_
    rw [mlook_map fptr, getD_fptr]
    refine jq_q (qs_pnil Try.underlying63 rfl) ?_
    refine jq_nil ?_
    refine j_cond rfl (fun hc1 => ?_) (fun hc1 => ?_)
    · skip
      have hl0 : alook a.now.nm old = none := by
        rw [← look_none hok]
        cases hx : alook r.now.ml old with
        | none => rfl
        | some p => rw [hx] at hc1; simp at hc1
      refine j_q (qs_ac) ?_
      refine j_subl (S' := r.fm.parts2) (by repeat first | exact slR _ | exact slN _ | apply slC | apply slD) ?_
      refine j_perm (S' := [r.heap]) r.fm.split2.symm ?_
      have hwe : renE a old n = 7 := by
        unfold renE
        rw [if_neg (by rw [hm]; simp), if_pos hl0]
      refine j_ret_con (vs := [_]) (fun w' hw' => ⟨rfl, trivial⟩) ?_
      rw [hwe]
      refine ⟨rfl, r, rfl, ?_, FR.To.refl _ _⟩
      rw [if_neg (by decide)]
      exact hok
    · skip
      have hl0 : alook a.now.nm old ≠ none := by
        rw [Ne, ← look_none hok]
        intro hx
        rw [hx] at hc1
        simp at hc1
      obtain ⟨i, hi⟩ := Option.ne_none_iff_exists'.1 hl0
      refine j_q (qs_mkfuncv (vs := [.pointer (some ⟨g0, 0, none⟩), .pointer (some ⟨g1, 0, none⟩)]) rfl) ?_
      refine j_perm (S' := [FR.heap ({ r with X := ([(g0, .cells [.string (bs old)].toArray 9 (0, 0))] ++ [(g1, .cells [.string (bs n)].toArray 9 (0, 0))]) ++ r.X, P := ([] : List BK) ++ r.P } : FR), [(g5, .cells [Value.string (bs old), Value.string (bs n)].toArray 9 (0, 0))]]) (by
        classical
        refine List.perm_iff_count.2 fun x => ?_
        simp only [FM.heap, FM.obj, fmcells, SM.heap, ph, List.map_append, List.map_nil, List.set, List.flatten_cons, List.flatten_nil, List.append_nil, List.nil_append, List.cons_append, List.count_append, List.count_cons, List.count_nil] <;> omega) ?_
      refine j_call 0 ent34 rfl rfl rfl rfl (fun w' hw' => (doesR_con ({ r with X := ([(g0, .cells [.string (bs old)].toArray 9 (0, 0))] ++ [(g1, .cells [.string (bs n)].toArray 9 (0, 0))]) ++ r.X, P := ([] : List BK) ++ r.P } : FR) a (.rn old n g0 g1) w' (hok.more _ _) hB hz ⟨hso, hn⟩ (fun q hq => List.mem_append_left _ hq) (by show (alook a.now.nm old).isSome = true; rw [hi]; rfl) (by
        show limA (if old = n then a.now else match alook a.now.nm old with | none => a.now | some i => letsA (givesA a.now n i) old)
        split
        · exact hlim
        · rename_i hne
          rw [hi]
          exact ren_lim hnd hlim hi hne)).mono (fun u S5 h5 => by
        obtain ⟨h1, r', h2, h3, h4⟩ := h5
        exact (⟨h1, r', h2, h3, h4.old hw' 0 rfl rfl (fun q hq => List.mem_append_right _ hq) (fun b hb => List.mem_append_right _ hb)⟩ : _ ∧ ∃ r' : FR, S5 = [r'.heap] ∧ r'.Ok (stepF a (.rn old n)) ∧ FR.To w r r'))) (fun u S5 h5 => ?_)
      obtain ⟨rfl, r', rfl, hr', hto⟩ := h5
      refine j_subl (S' := [r'.heap]) (by repeat first | exact slR _ | exact slN _ | apply slC | apply slD) ?_
      have hwe : renE a old n = 0 := by
        unfold renE
        rw [if_neg (by rw [hm]; simp), if_neg hl0]
      refine j_ret_con (vs := [_]) (fun w' hw' => ⟨rfl, trivial⟩) ?_
      rw [hwe]
      refine ⟨rfl, r', rfl, ?_, hto⟩
      rw [if_pos rfl]
      exact hr'
theorem linkR_con (r : FR) (a : AF) (old n : List UInt8) (w : World) (hok : r.Ok a) (hB : a.pend.length < 16384) (hso : strOk old) (hn : strOk n) : Con Try.prog 15 [r.ptr, .string (bs old), .string (bs n)] w r.heap fun v S' => v = .int .i64 (linE a old n) ∧ ∃ r' : FR, S' = [r'.heap] ∧ r'.Ok (if linE a old n = 0 then stepF a (.li old n) else a) ∧ FR.To w r r' := by
  refine con_of_tree mix Try.func15 T15_ok (by kernel_rfl) ?_
  unfold T15
  have hmay : mayE r.fused r.left [old, n] = mayE a.fused a.left [old, n] := by rw [hok.fu, hok.le]
  have hlim := okA_end hok.ok
  have hu1 : a.now.used ≤ 1073741824 := hlim.1
  have hl2 : a.now.nm.length ≤ 16384 := hlim.2
  have hut : r.now.used + 0 = (tot r.now.fs : Int) := hok.now.ex.ut
  have hus : r.now.used = a.now.used := hok.now.rep.us
  have hlen : r.now.ml.length = a.now.nm.length := hok.now.rep.len
  have hrm2 := hok.rm
  have hnd := hok.now.rep.nd hok.now.raw
  refine j_box (l := [.string (bs old)]) rfl (fun g0 hg0 hs0 => ?_)
  refine j_box (l := [.string (bs n)]) rfl (fun g1 hg1 hs1 => ?_)
  refine j_q (qs_ac) ?_
  refine j_q (qs_load (l := [.string (bs old)]) 1 Try.underlying9 rfl rfl rfl rfl) ?_
  refine j_q (qs_load (l := [.string (bs n)]) 0 Try.underlying9 rfl rfl rfl rfl) ?_
  refine j_lit (vs := [.string (bs _), .string (bs _)]) Try.underlying41 sz9 zero9 rfl (by simp [oneV]) ⟨rfl, by decide⟩ (fun g5 v5 c5 hv5 hc5 ho5 => ?_)
  subst hv5 hc5
  refine j_q (qs_call ent32 rfl rfl rfl (fun w' hw' => may_con r.fm [old, n] _ w' (in_own hw' 3 rfl) (rsl_own ho5 0 rfl hw') (by simp))) ?_
  refine j_q (qs_neq rfl rfl) ?_
  refine j_cond rfl (fun hc0 => ?_) (fun hc0 => ?_)
  · skip
    have hm : mayE a.fused a.left [old, n] ≠ 0 := by
      rw [← hmay]
      simpa using hc0
    refine j_subl (S' := [r.heap]) (by repeat first | exact slR _ | exact slN _ | apply slC | apply slD) ?_
    have hwe : linE a old n = mayE a.fused a.left [old, n] := by
      unfold linE
      rw [if_pos hm]
    refine j_ret_con (vs := [_]) (fun w' hw' => ⟨rfl, trivial⟩) ?_
    rw [hwe]
    refine ⟨congrArg (Value.int .i64) hmay, r, rfl, ?_, FR.To.refl _ _⟩
    rw [if_neg hm]
    exact hok
  · skip
    have hm : mayE a.fused a.left [old, n] = 0 := by
      rw [← hmay]
      simpa using hc0
    have hz : a.fused = true → a.left ≠ 0 := fun hf hl => by
      unfold mayE at hm
      rw [hf, hl] at hm
      simp at hm
    refine j_perm (S' := [[(g5, .cells [Value.string (bs old), Value.string (bs n)].toArray 9 (0, 0))], [(g1, .cells [.string (bs n)].toArray 9 (0, 0))], [(g0, .cells [.string (bs old)].toArray 9 (0, 0))], [(r.gf, r.fm.obj)], [(r.now.gs, r.now.sobj)], [(r.now.gm, .map r.now.es r.now.ck)], r.now.fs.map FL.h, r.tc ++ (r.ls.heap ++ r.X) ++ ph r.P]) (by
      classical
      refine List.perm_iff_count.2 fun x => ?_
      simp only [FM.heap, FM.obj, fmcells, SM.heap, ph, List.map_append, List.map_nil, List.set, List.flatten_cons, List.flatten_nil, List.append_nil, List.nil_append, List.cons_append, List.count_append, List.count_cons, List.count_nil] <;> omega) ?_
    refine j_draw ?_
    refine jq_q (qs_nil rfl) ?_
    refine jq_q (qs_field Try.underlying62 rfl sz58 (by decide) rfl) ?_
    refine jq_q (qs_load (l := fmcells r.fm) 3 Try.underlying58 rfl rfl rfl rfl) ?_
    refine jq_q (qs_nil rfl) ?_
    refine jq_q (qs_field Try.underlying66 rfl sz64 (by decide) rfl) ?_
    refine jq_q (qs_load (l := smcells r.now) 4 Try.underlying64 rfl rfl rfl rfl) ?_
    refine jq_q (qs_load (l := [.string (bs old)]) 2 Try.underlying9 rfl rfl rfl rfl) ?_
    refine jq_q (qs_lookup (key := old) strKey 5 Try.underlying64 zv63 rfl rfl rfl hok.now.raw.map hso) ?_
    rw [mlook_map fptr, getD_fptr]
    refine jq_q (qs_pnil Try.underlying63 rfl) ?_
    refine jq_nil ?_
    refine j_cond rfl (fun hc1 => ?_) (fun hc1 => ?_)
    · skip
      have hl0 : alook a.now.nm old = none := by
        rw [← look_none hok]
        cases hx : alook r.now.ml old with
        | none => rfl
        | some p => rw [hx] at hc1; simp at hc1
      refine j_q (qs_ac) ?_
      refine j_subl (S' := r.fm.parts2) (by repeat first | exact slR _ | exact slN _ | apply slC | apply slD) ?_
      refine j_perm (S' := [r.heap]) r.fm.split2.symm ?_
      have hwe : linE a old n = 7 := by
        unfold linE
        rw [if_neg (by rw [hm]; simp), if_pos hl0]
      refine j_ret_con (vs := [_]) (fun w' hw' => ⟨rfl, trivial⟩) ?_
      rw [hwe]
      refine ⟨rfl, r, rfl, ?_, FR.To.refl _ _⟩
      rw [if_neg (by decide)]
      exact hok
    · skip
      have hl0 : alook a.now.nm old ≠ none := by
        rw [Ne, ← look_none hok]
        intro hx
        rw [hx] at hc1
        simp at hc1
      obtain ⟨i, hi⟩ := Option.ne_none_iff_exists'.1 hl0
      refine j_draw ?_
      refine jq_q (qs_nil rfl) ?_
      refine jq_q (qs_field Try.underlying62 rfl sz58 (by decide) rfl) ?_
      refine jq_q (qs_load (l := fmcells r.fm) 3 Try.underlying58 rfl rfl rfl rfl) ?_
      refine jq_q (qs_nil rfl) ?_
      refine jq_q (qs_field Try.underlying66 rfl sz64 (by decide) rfl) ?_
      refine jq_q (qs_load (l := smcells r.now) 4 Try.underlying64 rfl rfl rfl rfl) ?_
      refine jq_q (qs_load (l := [.string (bs n)]) 1 Try.underlying9 rfl rfl rfl rfl) ?_
      refine jq_q (qs_lookup (key := n) strKey 5 Try.underlying64 zv63 rfl rfl rfl hok.now.raw.map hn) ?_
      rw [mlook_map fptr, getD_fptr]
      refine jq_q (qs_pnnil Try.underlying63 rfl) ?_
      refine jq_nil ?_
      refine j_cond rfl (fun hc2 => ?_) (fun hc2 => ?_)
      · skip
        have hl1 : alook a.now.nm n ≠ none := by
          rw [Ne, ← look_none hok]
          intro hx
          rw [hx] at hc2
          simp at hc2
        refine j_q (qs_ac) ?_
        refine j_subl (S' := r.fm.parts2) (by repeat first | exact slR _ | exact slN _ | apply slC | apply slD) ?_
        refine j_perm (S' := [r.heap]) r.fm.split2.symm ?_
        have hwe : linE a old n = 8 := by
          unfold linE
          rw [if_neg (by rw [hm]; simp), if_neg hl0, if_pos hl1]
        refine j_ret_con (vs := [_]) (fun w' hw' => ⟨rfl, trivial⟩) ?_
        rw [hwe]
        refine ⟨rfl, r, rfl, ?_, FR.To.refl _ _⟩
        rw [if_neg (by decide)]
        exact hok
      · skip
        have hl1 : alook a.now.nm n = none := by
          rw [← look_none hok]
          cases hx : alook r.now.ml n with
          | none => rfl
          | some p => rw [hx] at hc2; simp at hc2
        refine j_q (qs_nil rfl) ?_
        refine j_q (qs_field Try.underlying62 rfl sz58 (by decide) rfl) ?_
        refine j_q (qs_load (l := fmcells r.fm) 3 Try.underlying58 rfl rfl rfl rfl) ?_
        refine j_q (qs_nil rfl) ?_
        refine j_q (qs_field Try.underlying66 rfl sz64 (by decide) rfl) ?_
        refine j_q (qs_load (l := smcells r.now) 4 Try.underlying64 rfl rfl rfl rfl) ?_
        refine j_q (qs_maplen (rdo_mem (o := .map r.now.es r.now.ck) 5 rfl (by simp)) Try.underlying64 rfl hok.now.raw.map) ?_
        refine j_q (qs_geq rfl rfl) ?_
        refine j_cond rfl (fun hc3 => ?_) (fun hc3 => ?_)
        · skip
          have hfl : 16384 ≤ a.now.nm.length := by
            simp at hc3
            omega
          refine j_q (qs_ac) ?_
          refine j_subl (S' := r.fm.parts2) (by repeat first | exact slR _ | exact slN _ | apply slC | apply slD) ?_
          refine j_perm (S' := [r.heap]) r.fm.split2.symm ?_
          have hwe : linE a old n = 6 := by
            unfold linE
            rw [if_neg (by rw [hm]; simp), if_neg hl0, if_neg (by rw [hl1]; simp), if_pos hfl]
          refine j_ret_con (vs := [_]) (fun w' hw' => ⟨rfl, trivial⟩) ?_
          rw [hwe]
          refine ⟨rfl, r, rfl, ?_, FR.To.refl _ _⟩
          rw [if_neg (by decide)]
          exact hok
        · skip
          have hfl : ¬ 16384 ≤ a.now.nm.length := by
            simp at hc3
            omega
          refine j_q (qs_mkfuncv (vs := [.pointer (some ⟨g1, 0, none⟩), .pointer (some ⟨g0, 0, none⟩)]) rfl) ?_
          refine j_perm (S' := [FR.heap ({ r with X := ([(g0, .cells [.string (bs old)].toArray 9 (0, 0))] ++ [(g1, .cells [.string (bs n)].toArray 9 (0, 0))]) ++ r.X, P := ([] : List BK) ++ r.P } : FR), [(g5, .cells [Value.string (bs old), Value.string (bs n)].toArray 9 (0, 0))]]) (by
            classical
            refine List.perm_iff_count.2 fun x => ?_
            simp only [FM.heap, FM.obj, fmcells, SM.heap, ph, List.map_append, List.map_nil, List.set, List.flatten_cons, List.flatten_nil, List.append_nil, List.nil_append, List.cons_append, List.count_append, List.count_cons, List.count_nil] <;> omega) ?_
          refine j_call 0 ent34 rfl rfl rfl rfl (fun w' hw' => (doesR_con ({ r with X := ([(g0, .cells [.string (bs old)].toArray 9 (0, 0))] ++ [(g1, .cells [.string (bs n)].toArray 9 (0, 0))]) ++ r.X, P := ([] : List BK) ++ r.P } : FR) a (.li old n g0 g1) w' (hok.more _ _) hB hz ⟨hso, hn⟩ (fun q hq => List.mem_append_left _ hq) (by show (alook a.now.nm old).isSome = true; rw [hi]; rfl) (by
            show limA (match alook a.now.nm old with | none => a.now | some i => givesA a.now n i)
            rw [hi]
            show limA (givesA a.now n i)
            rw [givesA_fresh hl1]
            refine ⟨hu1, ?_⟩
            show (a.now.nm ++ [(n, i)]).length ≤ _
            rw [List.length_append, List.length_singleton]
            omega)).mono (fun u S5 h5 => by
            obtain ⟨h1, r', h2, h3, h4⟩ := h5
            exact (⟨h1, r', h2, h3, h4.old hw' 0 rfl rfl (fun q hq => List.mem_append_right _ hq) (fun b hb => List.mem_append_right _ hb)⟩ : _ ∧ ∃ r' : FR, S5 = [r'.heap] ∧ r'.Ok (stepF a (.li old n)) ∧ FR.To w r r'))) (fun u S5 h5 => ?_)
          obtain ⟨rfl, r', rfl, hr', hto⟩ := h5
          refine j_subl (S' := [r'.heap]) (by repeat first | exact slR _ | exact slN _ | apply slC | apply slD) ?_
          have hwe : linE a old n = 0 := by
            unfold linE
            rw [if_neg (by rw [hm]; simp), if_neg hl0, if_neg (by rw [hl1]; simp), if_neg hfl]
          refine j_ret_con (vs := [_]) (fun w' hw' => ⟨rfl, trivial⟩) ?_
          rw [hwe]
          refine ⟨rfl, r', rfl, ?_, hto⟩
          rw [if_pos rfl]
          exact hr'
theorem appendR_con (r : FR) (a : AF) (n : List UInt8) (bv : Value) (xs : List UInt8) (w : World) (hok : r.Ok a) (hB : a.pend.length < 16384) (hn : strOk n) (hbr : BR w bv xs) (hbd : ∀ (a : Addr) (m c : Nat), bv = .slice (some a) m c → 0 < m → a.block ∉ dom r.heap) (hxl : xs.length ≤ 1000000000) (hrm : a.room ≤ 1073741824) : Con Try.prog 16 [r.ptr, .string (bs n), bv] w r.heap fun v S' => v = .int .i64 (appE a n xs) ∧ ∃ r' : FR, S' = [r'.heap] ∧ r'.Ok (if appE a n xs = 0 then stepF a (.ap n xs) else a) ∧ FR.To w r r' := by
  refine con_of_tree mix Try.func16 T16_ok (by kernel_rfl) ?_
  unfold T16
  obtain ⟨A, cap, hbv, hcap⟩ := br_form hbr
  have hone : oneV bv = true := by rw [hbv]; rfl
  have hmay : mayE r.fused r.left [n] = mayE a.fused a.left [n] := by rw [hok.fu, hok.le]
  have hlim := okA_end hok.ok
  have hu1 : a.now.used ≤ 1073741824 := hlim.1
  have hl2 : a.now.nm.length ≤ 16384 := hlim.2
  have hut : r.now.used + 0 = (tot r.now.fs : Int) := hok.now.ex.ut
  have hus : r.now.used = a.now.used := hok.now.rep.us
  have hlen : r.now.ml.length = a.now.nm.length := hok.now.rep.len
  have hrm2 := hok.rm
  have hnd := hok.now.rep.nd hok.now.raw
  refine j_box (l := [.string (bs n)]) rfl (fun g0 hg0 hs0 => ?_)
  refine j_box (l := [bv]) (by show bv.cells = #[bv]; rw [hbv]; rfl) (fun g1 hg1 hs1 => ?_)
  refine j_q (qs_ac) ?_
  refine j_q (qs_load (l := [.string (bs n)]) 1 Try.underlying9 rfl rfl rfl rfl) ?_
  refine j_lit (vs := [.string (bs _)]) Try.underlying41 sz9 zero9 rfl (by simp [oneV]) ⟨rfl, by decide⟩ (fun g4 v4 c4 hv4 hc4 ho4 => ?_)
  subst hv4 hc4
  refine j_q (qs_call ent32 rfl rfl rfl (fun w' hw' => may_con r.fm [n] _ w' (in_own hw' 3 rfl) (rsl_own ho4 0 rfl hw') (by simp))) ?_
  refine j_q (qs_neq rfl rfl) ?_
  refine j_cond rfl (fun hc0 => ?_) (fun hc0 => ?_)
  · skip
    have hm : mayE a.fused a.left [n] ≠ 0 := by
      rw [← hmay]
      simpa using hc0
    refine j_subl (S' := [r.heap]) (by repeat first | exact slR _ | exact slN _ | apply slC | apply slD) ?_
    have hwe : appE a n xs = mayE a.fused a.left [n] := by
      unfold appE
      rw [if_pos hm]
    refine j_ret_con (vs := [_]) (fun w' hw' => ⟨rfl, trivial⟩) ?_
    rw [hwe]
    refine ⟨congrArg (Value.int .i64) hmay, r, rfl, ?_, FR.To.refl _ _⟩
    rw [if_neg hm]
    exact hok
  · skip
    have hm : mayE a.fused a.left [n] = 0 := by
      rw [← hmay]
      simpa using hc0
    have hz : a.fused = true → a.left ≠ 0 := fun hf hl => by
      unfold mayE at hm
      rw [hf, hl] at hm
      simp at hm
    refine j_perm (S' := [[(g4, .cells [.string (bs n)].toArray 9 (0, 0))], [(g1, .cells [bv].toArray 23 (0, 0))], [(g0, .cells [.string (bs n)].toArray 9 (0, 0))], [(r.gf, r.fm.obj)], [(r.now.gs, r.now.sobj)], [(r.now.gm, .map r.now.es r.now.ck)], r.now.fs.map FL.h, r.tc ++ (r.ls.heap ++ r.X) ++ ph r.P]) (by
      classical
      refine List.perm_iff_count.2 fun x => ?_
      simp only [FM.heap, FM.obj, fmcells, SM.heap, ph, List.map_append, List.map_nil, List.set, List.flatten_cons, List.flatten_nil, List.append_nil, List.nil_append, List.cons_append, List.count_append, List.count_cons, List.count_nil] <;> omega) ?_
    refine j_draw ?_
    refine jq_q (qs_nil rfl) ?_
    refine jq_q (qs_field Try.underlying62 rfl sz58 (by decide) rfl) ?_
    refine jq_q (qs_load (l := fmcells r.fm) 3 Try.underlying58 rfl rfl rfl rfl) ?_
    refine jq_q (qs_nil rfl) ?_
    refine jq_q (qs_field Try.underlying66 rfl sz64 (by decide) rfl) ?_
    refine jq_q (qs_load (l := smcells r.now) 4 Try.underlying64 rfl rfl rfl rfl) ?_
    refine jq_q (qs_load (l := [.string (bs n)]) 2 Try.underlying9 rfl rfl rfl rfl) ?_
    refine jq_q (qs_lookup (key := n) strKey 5 Try.underlying64 zv63 rfl rfl rfl hok.now.raw.map hn) ?_
    rw [mlook_map fptr, getD_fptr]
    refine jq_nil ?_
    refine j_q (qs_pnil Try.underlying63 rfl) ?_
    refine j_cond rfl (fun hc1 => ?_) (fun hc1 => ?_)
    · skip
      have hl0 : alook a.now.nm n = none := by
        rw [← look_none hok]
        cases hx : alook r.now.ml n with
        | none => rfl
        | some p => rw [hx] at hc1; simp at hc1
      refine j_q (qs_ac) ?_
      refine j_subl (S' := r.fm.parts2) (by repeat first | exact slR _ | exact slN _ | apply slC | apply slD) ?_
      refine j_perm (S' := [r.heap]) r.fm.split2.symm ?_
      have hwe : appE a n xs = 7 := by
        unfold appE
        rw [if_neg (by rw [hm]; simp), if_pos hl0]
      refine j_ret_con (vs := [_]) (fun w' hw' => ⟨rfl, trivial⟩) ?_
      rw [hwe]
      refine ⟨rfl, r, rfl, ?_, FR.To.refl _ _⟩
      rw [if_neg (by decide)]
      exact hok
    · skip
      have hl0 : alook a.now.nm n ≠ none := by
        rw [Ne, ← look_none hok]
        intro hx
        rw [hx] at hc1
        simp at hc1
      obtain ⟨i, hi⟩ := Option.ne_none_iff_exists'.1 hl0
      obtain ⟨x, hx, hlk, rfl, _⟩ := look_rep hok.now.raw hok.now.rep hi
      have hla := hi
      rw [hlk, Option.map_some]
      obtain ⟨xA, xc, hxv, hxl2⟩ := hok.now.raw.form x hx
      have hdx := hok.now.rep.dt x hx
      have hsz : sizeA a.now n = x.xs.length := by simp only [sizeA, hi, hdx]
      refine j_draw ?_
      refine jq_q (qs_load (l := [bv]) 1 Try.underlying23 rfl rfl rfl rfl) ?_
      refine jq_q (qs_lenl (n := xs.length) (A := A) (c := cap) Try.underlying23 hbv) ?_
      refine jq_q (qs_nil rfl) ?_
      refine jq_q (qs_field Try.underlying73 rfl sz23 (by decide) rfl) ?_
      refine jq_q (qs_loadO (l := flcells x) (rdo_mem (o := x.h.2) 6 rfl (List.mem_map.2 ⟨x, hx, rfl⟩)) Try.underlying23 rfl rfl rfl) ?_
      refine jq_q (qs_lenl (n := x.xs.length) (A := xA) (c := xc) Try.underlying23 hxv) ?_
      refine jq_q (qs_sub64 rfl rfl (by first | omega | (simp only [bnA] at *; omega))) ?_
      refine jq_q (qs_gtr rfl rfl) ?_
      refine jq_nil ?_
      refine j_cond rfl (fun hc2 => ?_) (fun hc2 => ?_)
      · skip
        have hbig : 1048576 < sizeA a.now n + xs.length := by
          rw [hsz]
          simp at hc2
          omega
        refine j_q (qs_ac) ?_
        refine j_subl (S' := r.fm.parts2) (by repeat first | exact slR _ | exact slN _ | apply slC | apply slD) ?_
        refine j_perm (S' := [r.heap]) r.fm.split2.symm ?_
        have hwe : appE a n xs = 5 := by
          unfold appE
          rw [if_neg (by rw [hm]; simp), if_neg hl0, if_pos hbig]
        refine j_ret_con (vs := [_]) (fun w' hw' => ⟨rfl, trivial⟩) ?_
        rw [hwe]
        refine ⟨rfl, r, rfl, ?_, FR.To.refl _ _⟩
        rw [if_neg (by decide)]
        exact hok
      · skip
        have hbig : ¬ 1048576 < sizeA a.now n + xs.length := by
          rw [hsz]
          simp at hc2
          omega
        have hbig2 := hbig
        rw [hsz] at hbig2
        refine j_draw ?_
        refine jq_q (qs_nil rfl) ?_
        refine jq_q (qs_field Try.underlying62 rfl sz58 (by decide) rfl) ?_
        refine jq_q (qs_load (l := fmcells r.fm) 3 Try.underlying58 rfl rfl rfl rfl) ?_
        refine jq_q (qs_nil rfl) ?_
        refine jq_q (qs_field Try.underlying66 rfl sz3 (by decide) rfl) ?_
        refine jq_q (qs_load (l := smcells r.now) 4 Try.underlying3 rfl rfl rfl rfl) ?_
        refine jq_q (qs_load (l := [bv]) 1 Try.underlying23 rfl rfl rfl rfl) ?_
        refine jq_q (qs_lenl (n := xs.length) (A := A) (c := cap) Try.underlying23 hbv) ?_
        refine jq_q (qs_add64 rfl rfl (by first | omega | (simp only [bnA] at *; omega))) ?_
        refine jq_q (qs_nil rfl) ?_
        refine jq_q (qs_field Try.underlying62 rfl sz3 (by decide) rfl) ?_
        refine jq_q (qs_load (l := fmcells r.fm) 3 Try.underlying3 rfl rfl rfl rfl) ?_
        refine jq_q (qs_gtr rfl rfl) ?_
        refine jq_nil ?_
        refine j_cond rfl (fun hc3 => ?_) (fun hc3 => ?_)
        · skip
          have hfl : a.room < a.now.used + (xs.length : Int) := by
            rw [← hok.rm, ← hus]
            simp at hc3
            omega
          refine j_q (qs_ac) ?_
          refine j_subl (S' := r.fm.parts2) (by repeat first | exact slR _ | exact slN _ | apply slC | apply slD) ?_
          refine j_perm (S' := [r.heap]) r.fm.split2.symm ?_
          have hwe : appE a n xs = 6 := by
            unfold appE
            rw [if_neg (by rw [hm]; simp), if_neg hl0, if_neg hbig, if_pos hfl]
          refine j_ret_con (vs := [_]) (fun w' hw' => ⟨rfl, trivial⟩) ?_
          rw [hwe]
          refine ⟨rfl, r, rfl, ?_, FR.To.refl _ _⟩
          rw [if_neg (by decide)]
          exact hok
        · skip
          have hfl : ¬ a.room < a.now.used + (xs.length : Int) := by
            rw [← hok.rm, ← hus]
            simp at hc3
            omega
          refine j_q (qs_load (l := [bv]) 1 Try.underlying23 rfl rfl rfl rfl) ?_
          refine j_call0 ent31 rfl rfl rfl (fun w' hw' => clone_con bv xs w' (br_keep hbr hbd hw') hxl) (fun u S2 hu1 => ?_)
          obtain ⟨Q, rfl, hrv⟩ := hu1
          obtain ⟨bv2, hbv2⟩ : ∃ y, y = u := ⟨_, rfl⟩
          rw [← hbv2] at hrv ⊢
          refine j_subl (S' := [ph Q, [(g4, .cells [.string (bs n)].toArray 9 (0, 0))], [(g1, .cells [bv].toArray 23 (0, 0))], [(g0, .cells [.string (bs n)].toArray 9 (0, 0))], [(r.gf, r.fm.obj)], [(r.now.gs, r.now.sobj)], [(r.now.gm, .map r.now.es r.now.ck)], r.now.fs.map FL.h, r.tc ++ (r.ls.heap ++ r.X) ++ ph r.P]) (by repeat first | exact slR _ | exact slN _ | apply slC | apply slD) ?_
          obtain ⟨A2, c2, hbe, hbc, _⟩ := hrv.form
          refine j_store (l := [bv]) 2 sz23 rfl rfl (by show oneV bv2 = true; rw [hbe]; rfl) rfl (by simp) (by simp) ?_
          refine j_q (qs_mkfuncv (vs := [.pointer (some ⟨g0, 0, none⟩), .pointer (some ⟨g1, 0, none⟩)]) rfl) ?_
          refine j_perm (S' := [ph Q, [(g4, .cells [.string (bs n)].toArray 9 (0, 0))], [(g1, .cells [bv2].toArray 23 (0, 0))], [(g0, .cells [.string (bs n)].toArray 9 (0, 0))], [(r.gf, r.fm.obj)], [(r.now.gs, r.now.sobj)], [(r.now.gm, .map r.now.es r.now.ck)], r.now.fs.map FL.h, r.tc ++ (r.ls.heap ++ r.X) ++ ph r.P]) (.refl _) ?_
          have hrv2 : RV (Q ++ r.P) (.slice A2 xs.length c2) xs := by
            rw [← hbe]
            exact hrv.more (fun b hb => List.mem_append_left _ hb)
          rw [hbe]
          refine j_perm (S' := [FR.heap ({ r with X := ([(g0, .cells [.string (bs n)].toArray 9 (0, 0))] ++ [(g1, .cells [.slice A2 xs.length c2].toArray 23 (0, 0))]) ++ r.X, P := Q ++ r.P } : FR), [(g4, .cells [.string (bs n)].toArray 9 (0, 0))]]) (by
            classical
            refine List.perm_iff_count.2 fun x => ?_
            simp only [FM.heap, FM.obj, fmcells, SM.heap, ph, List.map_append, List.map_nil, List.set, List.flatten_cons, List.flatten_nil, List.append_nil, List.nil_append, List.cons_append, List.count_append, List.count_cons, List.count_nil] <;> omega) ?_
          refine j_call 0 ent34 rfl rfl rfl rfl (fun w' hw' => (doesR_con ({ r with X := ([(g0, .cells [.string (bs n)].toArray 9 (0, 0))] ++ [(g1, .cells [.slice A2 xs.length c2].toArray 23 (0, 0))]) ++ r.X, P := Q ++ r.P } : FR) a (.ap n xs g0 g1 A2 c2) w' (hok.more _ _) hB hz ⟨hn, hrv2, hbc, by omega⟩ (fun q hq => List.mem_append_left _ hq) ⟨x.id, hla, by rw [hdx]; omega⟩ (by
            show limA (appA a.now n xs)
            unfold appA
            rw [hla]
            exact ⟨by show a.now.used + (xs.length : Int) ≤ _; omega, hl2⟩)).mono (fun u S5 h5 => by
            obtain ⟨h1, r', h2, h3, h4⟩ := h5
            exact (⟨h1, r', h2, h3, h4.old hw' 0 rfl rfl (fun q hq => List.mem_append_right _ hq) (fun b hb => List.mem_append_right _ hb)⟩ : _ ∧ ∃ r' : FR, S5 = [r'.heap] ∧ r'.Ok (stepF a (.ap n xs)) ∧ FR.To w r r'))) (fun u S5 h5 => ?_)
          obtain ⟨rfl, r', rfl, hr', hto⟩ := h5
          refine j_subl (S' := [r'.heap]) (by repeat first | exact slR _ | exact slN _ | apply slC | apply slD) ?_
          have hwe : appE a n xs = 0 := by
            unfold appE
            rw [if_neg (by rw [hm]; simp), if_neg hl0, if_neg hbig, if_neg hfl]
          refine j_ret_con (vs := [_]) (fun w' hw' => ⟨rfl, trivial⟩) ?_
          rw [hwe]
          refine ⟨rfl, r', rfl, ?_, hto⟩
          rw [if_pos rfl]
          exact hr'
end Go.Proofs.Ytckpegkpdepokaa
/-! Ft10 -/
namespace Go.Proofs.Ytckpegkpdepokaa
open Go Go.Sx
set_option maxRecDepth 100000
set_option maxHeartbeats 4000000
set_option linter.unusedVariables false
set_option linter.unusedSimpArgs false
attribute [local irreducible] J JQ QS Con W opW
open Go.MapKept Go.WideMaps Go.Maps
def FR.own (r : FR) : SH := [(r.gf, r.fm.obj)] ++ r.now.heap ++ r.tc ++ r.ls.heap
theorem rsl_in {w : World} {e : TypeId} {xs : List Value} {v : Value} {c : SH} (ho : Sx.Own e 1 xs v c) (hin : In w c) : RSl w v xs := by
  have hn : (dom c).Nodup := by
    rcases ho with ⟨_, _, rfl⟩ | ⟨g, n, cap, rest, fz, _, rfl, _⟩
    · exact List.nodup_nil
    · simp [dom]
  exact rsl_own (b := ⟨w, dom c⟩) (S := [c]) ho 0 rfl ⟨rfl, rfl, rfl, Nat.le_refl _, fun p hp => hin p (by simpa using hp), by simpa using hn, fun k hk => .inl (by simpa using hk), fun _ _ _ => rfl⟩
end Go.Proofs.Ytckpegkpdepokaa
/-! Ft11 -/
namespace Go.Proofs.Ytckpegkpdepokaa
open Go Go.Sx
set_option maxRecDepth 100000
set_option maxHeartbeats 4000000
set_option linter.unusedVariables false
set_option linter.unusedSimpArgs false
attribute [local irreducible] J JQ QS Con W opW
open Go.MapKept Go.WideMaps Go.Maps
def contA (s : AS) (n : List UInt8) : List UInt8 :=
  match alook s.nm n with
  | none => []
  | some i => s.dt i
def readE (s : AS) (n : List UInt8) : Int := if alook s.nm n = none then 7 else 0
theorem usedR_con (r : FR) (a : AF) (w : World) (hin : In w r.heap) (hok : r.Ok a) : Con Try.prog 12 [r.ptr] w [] fun v _ => v = .int .i64 a.now.used := by
  have h : r.now.used = a.now.used := hok.now.rep.us
  rw [← h]
  exact used_con r.fm w hin
theorem nodeZ_con (f : FM) (B : Nat) (n : List UInt8) (w : World) (hin : In w f.heap) (hok : f.Ok B) (hn : strOk n) (hlk : alook f.now.ml n = none) : Con Try.prog 17 [f.ptr, .string (bs n)] w [] fun u S' => u = .tuple #[.string (bs []), .int .i64 0] ∧ S' = [[]] := by
  refine con_of_tree mix Try.func17 T17_ok (by kernel_rfl) ?_
  unfold T17
  refine j_q (qs_ac) ?_
  refine j_q (qs_ac) ?_
  refine j_q (qs_pnil Try.underlying25 rfl) ?_
  refine j_g rfl (fun hb => qs_mt rfl) ?_
  refine j_g rfl (fun hb => qs_nil (gd_eq hb)) ?_
  refine j_g rfl (fun hb => qs_field Try.underlying62 rfl sz58 (by decide) (gd_eq hb)) ?_
  refine j_g rfl (fun hb => qs_loadO (rdo_base (FM.in_gf hin) (by simp)) Try.underlying58 rfl (gd_eq hb) rfl) ?_
  refine j_g rfl (fun hb => qs_pnil Try.underlying58 (gd_eq hb)) ?_
  refine j_q (qs_or rfl rfl) ?_
  refine j_g rfl (fun hb => qs_mt rfl) ?_
  refine j_g rfl (fun hb => qs_nil (gd_eq hb)) ?_
  refine j_g rfl (fun hb => qs_field Try.underlying62 rfl sz58 (by decide) (gd_eq hb)) ?_
  refine j_g rfl (fun hb => qs_loadO (rdo_base (FM.in_gf hin) (by simp)) Try.underlying58 rfl (gd_eq hb) rfl) ?_
  refine j_g rfl (fun hb => qs_nil (gd_eq hb)) ?_
  refine j_g rfl (fun hb => qs_field Try.underlying66 rfl sz64 (by decide) (gd_eq hb)) ?_
  refine j_g rfl (fun hb => qs_loadO (rdo_base (SM.in_gs (FM.in_now hin)) (by simp)) Try.underlying64 rfl (gd_eq hb) rfl) ?_
  refine j_g rfl (fun hb => qs_mt rfl) ?_
  refine j_g rfl (fun hb => qs_lookupR (key := n) strKey (rdo_base (SM.in_gm (FM.in_now hin)) (by simp)) Try.underlying64 zv63 (gd_eq hb) (gd_eq hb) hok.raw.map hn) ?_
  rw [mlook_map fptr, getD_fptr, hlk, Option.map_none]
  refine j_g rfl (fun hb => qs_pnil Try.underlying63 (gd_eq hb)) ?_
  refine j_q (qs_or rfl rfl) ?_
  refine j_cond rfl (fun hc0 => ?_) (fun hc0 => ?_)
  · skip
    refine j_q (qs_ac) ?_
    refine j_q (qs_ac) ?_
    refine j_ret_con (vs := [_, _]) (fun w' hw' => ⟨rfl, rfl, trivial⟩) ?_
    exact ⟨rfl, rfl⟩
  · skip
    simp [gd] at hc0
end Go.Proofs.Ytckpegkpdepokaa
/-! Ft12 -/
namespace Go.Proofs.Ytckpegkpdepokaa
open Go Go.Sx
set_option maxRecDepth 100000
set_option maxHeartbeats 4000000
set_option linter.unusedVariables false
set_option linter.unusedSimpArgs false
attribute [local irreducible] J JQ QS Con W opW
open Go.MapKept Go.WideMaps Go.Maps
theorem getE_left {α : Type} {l m : List α} {j : Nat} {u : α} (h : l[j]? = some u) : (l ++ m)[j]? = some u := by
  obtain ⟨hlt, _⟩ := List.getElem?_eq_some_iff.1 h
  rw [List.getElem?_append_left hlt]
  exact h
theorem roomy_con (v : Value) (xs : List UInt8) (w : World) (h : BR w v xs) (hl : xs.length ≤ 8000) : Con Try.prog 49 [v] w [] fun u S' => ∃ (g cap : Nat) (c : SH), S' = [c] ∧ Sx.Own 5 1 (ints (xs ++ [171, 171])) (.slice (some ⟨g, 0, none⟩) (xs.length + 2) cap) c ∧ u = .slice (some ⟨g, 0, none⟩) (xs.length + 1) cap := by
  refine con_of_tree mix Try.func49 T49_ok (by kernel_rfl) ?_
  unfold T49
  obtain ⟨A, cap0, hbv, hcap0⟩ := br_form h
  refine j_q (qs_ac) ?_
  refine j_lit (vs := []) Try.underlying23 sz5 zero5 rfl (by simp [oneV]) ⟨rfl, by decide⟩ (fun g1 v1 c1 hv1 hc1 ho1 => ?_)
  subst hv1 hc1
  refine j_append 0 Try.underlying23 Try.underlying23 (.inr ⟨_, rfl⟩) sb5 zero5 rfl ho1 rfl (br_src h) ints_one ⟨(by rw [ints_length]; simp only [List.length_nil]; omega), (by decide)⟩ (fun v2 c2 ho2 => ?_)
  refine j_lit (vs := [.int .u8 _]) Try.underlying23 sz5 zero5 rfl (by simp [oneV]) ⟨rfl, by decide⟩ (fun g3 v3 c3 hv3 hc3 ho3 => ?_)
  subst hv3 hc3
  refine j_append 1 Try.underlying23 Try.underlying23 (.inr ⟨_, rfl⟩) sb5 zero5 rfl ho2 rfl (.inl ⟨_, _, rfl, own_rd ho3 0 rfl, rfl⟩) (by intro u hu; rw [List.mem_singleton] at hu; rw [hu]; rfl) ⟨(by simp only [List.nil_append, ints_length, List.length_singleton]; omega), (by decide)⟩ (fun v4 c4 ho4 => ?_)
  refine j_lit (vs := [.int .u8 _]) Try.underlying23 sz5 zero5 rfl (by simp [oneV]) ⟨rfl, by decide⟩ (fun g5 v5 c5 hv5 hc5 ho5 => ?_)
  subst hv5 hc5
  refine j_append 2 Try.underlying23 Try.underlying23 (.inr ⟨_, rfl⟩) sb5 zero5 rfl ho4 rfl (.inl ⟨_, _, rfl, own_rd ho5 0 rfl, rfl⟩) (by intro u hu; rw [List.mem_singleton] at hu; rw [hu]; rfl) ⟨(by simp only [List.nil_append, List.length_append, ints_length, List.length_singleton]; omega), (by decide)⟩ (fun v6 c6 ho6 => ?_)
  refine j_q (qs_lenl (n := xs.length) (A := A) (c := cap0) Try.underlying23 hbv) ?_
  refine j_q (qs_add64 rfl rfl (by first | omega | (simp only [bnA] at *; omega))) ?_
  rw [List.nil_append] at ho6
  have ex : ints xs ++ [.int .u8 171] ++ [.int .u8 171] = ints (xs ++ [171, 171]) := by rw [ints_append, List.append_assoc]; rfl
  rw [ex] at ho6
  obtain ⟨g6, n6, cap6, hv6⟩ := own_some ho6 (by rw [ints_append]; simp [ints])
  subst hv6
  obtain ⟨n7, A7, cap7, e7, hn7⟩ := own_form ho6 (by decide)
  injection e7 with e71 e72 e73
  rw [ints_length, List.length_append, Nat.mul_one, ← e72] at hn7
  have hn8 : n6 = xs.length + 2 := by
    rw [← hn7]
    rfl
  subst hn8
  have hcap := own_cap ho6
  refine j_q (qs_cutl (a := 0) (z := xs.length + 1) Try.underlying23 sz5 rfl rfl ⟨.i64, rfl⟩ (by omega) (by omega)) ?_
  rw [if_neg (by omega), Nat.sub_zero, Nat.sub_zero]
  refine j_subl (S' := [c6]) (by repeat first | exact slR _ | exact slN _ | apply slC | apply slD) ?_
  refine j_ret_con (vs := [_]) (fun w' hw' => ⟨rfl, trivial⟩) ?_
  exact ⟨g6, cap6, c6, rfl, ho6, rfl⟩
theorem stands_con (g cap : Nat) (v : Value) (xs : List UInt8) (w : World) (hg : g < w.heap.size) (hcl : Cells w ⟨g, 0, none⟩ (ints (xs ++ [171, 171]))) (hcap : xs.length + 2 ≤ cap) (h : BR w v xs) (hl : xs.length ≤ 8000) : Con Try.prog 52 [.slice (some ⟨g, 0, none⟩) (xs.length + 1) cap, v] w [] fun u _ => u = .bool true := by
  refine con_of_tree mix Try.func52 T52_ok (by kernel_rfl) ?_
  unfold T52
  obtain ⟨A, cap0, hbv, hcap0⟩ := br_form h
  have hsub : BR w (.slice (some ⟨g, 0, none⟩) xs.length cap) xs := .inr ⟨_, cap, rfl, by omega, fun _ => hg, fun j u hu => hcl j u (by rw [ints_append]; exact getE_left hu)⟩
  refine j_q (qs_ac) ?_
  refine j_q (qs_lenl Try.underlying23 rfl) ?_
  refine j_q (qs_lenl (n := xs.length) (A := A) (c := cap0) Try.underlying23 hbv) ?_
  refine j_q (qs_add64 rfl rfl (by first | omega | (simp only [bnA] at *; omega))) ?_
  refine j_q (qs_eql rfl rfl) ?_
  rw [show (((xs.length + 1 : Nat) : Int) == (xs.length : Int) + 1) = true by simp]
  refine j_gt rfl (qs_mt rfl) ?_
  refine j_gt rfl (qs_mt rfl) ?_
  refine j_gt rfl (qs_lenl (n := xs.length) (A := A) (c := cap0) Try.underlying23 hbv) ?_
  refine j_gt rfl (qs_cutl (a := 0) (z := xs.length) Try.underlying23 sz5 rfl rfl ⟨.i64, rfl⟩ (by omega) (by omega)) ?_
  rw [if_neg (by omega), Nat.sub_zero, Nat.sub_zero]
  refine j_gt rfl (qs_mt rfl) ?_
  refine j_gt rfl (qs_call ent14 rfl rfl rfl (fun w' hw' => same_con xs xs _ _ w' (br0 hsub hw') (br0 h hw') (by omega))) ?_
  rw [beq_self_eq_true]
  refine j_q (qs_and rfl rfl) ?_
  refine j_gt rfl (qs_mt rfl) ?_
  refine j_gt rfl (qs_mt rfl) ?_
  refine j_gt rfl (qs_lenl (n := xs.length) (A := A) (c := cap0) Try.underlying23 hbv) ?_
  refine j_gt rfl (qs_ixn (g := g) (off := 0) (n := xs.length + 1) (c := cap) (i := xs.length) Try.underlying23 sz5 rfl rfl (by omega)) ?_
  refine j_gt rfl (qs_loadR (v := .int .u8 171) (a := ⟨g, 0, none⟩) (i := xs.length) (rd_cells hcl (by simp)) Try.underlying5 rfl (by rw [add_off]; show Value.pointer (some ⟨g, 0 + xs.length * 1, none⟩) = _; rw [Nat.mul_one]) (by rw [ints_append, List.getElem?_append_right (by rw [ints_length]; exact Nat.le_refl _), ints_length, Nat.sub_self]; rfl)) ?_
  refine j_gt rfl (qs_eql rfl rfl) ?_
  refine j_q (qs_and rfl rfl) ?_
  refine j_ret_con (vs := [_]) (fun w' hw' => ⟨rfl, trivial⟩) ?_
  rfl
theorem texts_con (xs ys : List (List UInt8)) (v1 v2 : Value) (w : World) (h1 : RSl w v1 (strs xs)) (h2 : RSl w v2 (strs ys)) (hl : xs.length ≤ 1000000) (hl2 : ys.length ≤ 1000000) : Con Try.prog 26 [v1, v2] w [] fun u _ => u = .bool (xs == ys) := by
  refine con_of_tree mix Try.func26 T26_ok (by kernel_rfl) ?_
  unfold T26
  obtain ⟨A1, c1, rfl, hc1'⟩ := rsl_form h1
  obtain ⟨A2, c2, rfl, hc2'⟩ := rsl_form h2
  simp only [strs_len] at h1 h2 hc1' hc2' ⊢
  refine j_q (qs_ac) ?_
  refine j_q (qs_lenl Try.underlying41 rfl) ?_
  refine j_q (qs_lenl Try.underlying41 rfl) ?_
  refine j_q (qs_neq rfl rfl) ?_
  refine j_cond rfl (fun hc0 => ?_) (fun hc0 => ?_)
  · skip
    have hne : xs.length ≠ ys.length := fun e => by
      rw [e] at hc0
      simp at hc0
    refine j_q (qs_ac) ?_
    refine j_ret_con (vs := [_]) (fun w' hw' => ⟨rfl, trivial⟩) ?_
    show Value.bool false = _
    congr 1
    symm
    rw [beq_eq_false_iff_ne]
    exact fun e => hne (by rw [e])
  · skip
    have heq : xs.length = ys.length := by
      simp at hc0
      omega
    refine j_q (qs_ac) ?_
    refine j_loop (fun m vs S' => ∃ i : Nat, vs = [.int .i64 (i : Int)] ∧ S' = [[]] ∧ xs.take i = ys.take i ∧ i ≤ xs.length ∧ m = xs.length - i) ⟨_, 0, rfl, rfl, by simp, Nat.zero_le _, rfl⟩ ?_
    rintro m vs S' hlen ⟨i, rfl, rfl, hall, hi, rfl⟩
    refine j_q (qs_lenl Try.underlying41 rfl) ?_
    refine j_q (qs_lss rfl rfl) ?_
    refine j_cond rfl (fun hc1 => ?_) (fun hc1 => ?_)
    · skip
      have hi1 : i < xs.length := by
        simp only [bnA] at *
        omega
      obtain ⟨g1, o1, rfl, _, hcl1⟩ := rsl_addr h1 (by rw [strs_len]; omega)
      obtain ⟨g2, o2, rfl, _, hcl2⟩ := rsl_addr h2 (by rw [strs_len]; omega)
      refine j_draw ?_
      refine jq_q (qs_ixn (g := g1) (off := o1) (n := xs.length) (c := c1) (i := i) Try.underlying41 sz9 rfl rfl (by omega)) ?_
      refine jq_q (qs_loadR (v := .string (bs (xs.getD i []))) (a := ⟨g1, o1, none⟩) (i := i) (rd_cells hcl1 (by simp)) Try.underlying9 rfl (by rw [add_off]; show Value.pointer (some ⟨g1, o1 + i * 1, none⟩) = _; rw [Nat.mul_one]) (str_get (by omega))) ?_
      refine jq_q (qs_ixn (g := g2) (off := o2) (n := ys.length) (c := c2) (i := i) Try.underlying41 sz9 rfl rfl (by omega)) ?_
      refine jq_q (qs_loadR (v := .string (bs (ys.getD i []))) (a := ⟨g2, o2, none⟩) (i := i) (rd_cells hcl2 (by simp)) Try.underlying9 rfl (by rw [add_off]; show Value.pointer (some ⟨g2, o2 + i * 1, none⟩) = _; rw [Nat.mul_one]) (str_get (by omega))) ?_
      refine jq_q (qs_sneq rfl rfl) ?_
      refine jq_nil ?_
      refine j_cond rfl (fun hc2 => ?_) (fun hc2 => ?_)
      · skip
        have hd : xs.getD i [] ≠ ys.getD i [] := fun e => by
          rw [e] at hc2
          simp at hc2
        refine j_q (qs_ac) ?_
        refine j_ret_con (vs := [_]) (fun w' hw' => ⟨rfl, trivial⟩) ?_
        show Value.bool false = _
        congr 1
        symm
        rw [beq_eq_false_iff_ne]
        exact fun e => hd (by rw [e])
      · skip
        have hd : xs.getD i [] = ys.getD i [] := by simpa using hc2
        refine j_q (qs_add64 rfl rfl (by first | omega | (simp only [bnA] at *; omega))) ?_
        refine j_back rfl ?_
        exact ⟨xs.length - (i + 1), by omega, i + 1, rfl, rfl, by
          rw [List.take_add_one, List.take_add_one, hall, List.getElem?_eq_getElem hi1, List.getElem?_eq_getElem (by omega : i < ys.length)]
          rw [List.getD_eq_getElem?_getD, List.getD_eq_getElem?_getD, List.getElem?_eq_getElem hi1, List.getElem?_eq_getElem (by omega : i < ys.length)] at hd
          simp only [Option.getD_some] at hd
          rw [hd], by omega, rfl⟩
    · skip
      have hi1 : i = xs.length := by
        simp only [bnA] at *
        omega
      refine j_q (qs_ac) ?_
      refine j_ret_con (vs := [_]) (fun w' hw' => ⟨rfl, trivial⟩) ?_
      show Value.bool true = _
      congr 1
      symm
      rw [beq_iff_eq]
      rw [hi1, List.take_length, heq, List.take_length] at hall
      exact hall
end Go.Proofs.Ytckpegkpdepokaa
/-! Ft13 -/
namespace Go.Proofs.Ytckpegkpdepokaa
open Go Go.Sx
set_option maxRecDepth 100000
set_option maxHeartbeats 4000000
set_option linter.unusedVariables false
set_option linter.unusedSimpArgs false
attribute [local irreducible] J JQ QS Con W opW
open Go.MapKept Go.WideMaps Go.Maps
theorem cloneO_con (v : Value) (xs : List UInt8) (w : World) (h : BR w v xs) (hl : xs.length ≤ 1000000000) : Con Try.prog 31 [v] w [] fun u S' => ∃ c : SH, S' = [c] ∧ Sx.Own 5 1 (ints xs) u c := by
  refine con_of_tree mix Try.func31 T31_ok (by kernel_rfl) ?_
  unfold T31
  have hf := br_form h
  obtain ⟨A, cap, hv, hcap⟩ := hf
  subst hv
  refine j_q (qs_ac) ?_
  refine j_q (qs_slnil Try.underlying23 rfl) ?_
  refine j_cond rfl (fun hc0 => ?_) (fun hc0 => ?_)
  · skip
    have h0 : A = none := by cases A with
      | none => rfl
      | some a => simp at hc0
    subst h0
    have hx0 : xs = [] := by
      rcases h with ⟨_, h⟩ | ⟨a, c, e, _⟩
      · exact h
      · cases e
    subst hx0
    refine j_q (qs_ac) ?_
    refine j_subl (S' := [[]]) (by simp) ?_
    refine j_ret_con (vs := [_]) (fun w' hw' => ⟨rfl, trivial⟩) ?_
    exact ⟨[], rfl, own_nil⟩
  · skip
    obtain ⟨a, rfl⟩ : ∃ a, A = some a := by
      cases A with
      | none => simp at hc0
      | some a => exact ⟨a, rfl⟩
    have hcl : Cells w a (ints xs) := by
      rcases h with ⟨e, _⟩ | ⟨a', c, e, _, _, h⟩
      · cases e
      · injection e with e1 e2 e3
        injection e1 with e1
        rw [e1]
        exact h
    refine j_lit (vs := []) Try.underlying23 sz5 zero5 rfl (by simp [oneV]) ⟨rfl, by decide⟩ (fun g3 v3 c3 hv3 hc3 ho3 => ?_)
    subst hv3 hc3
    refine j_append 0 Try.underlying23 Try.underlying23 (.inr ⟨_, rfl⟩) sb5 zero5 rfl ho3 rfl (src_sl (rd_cells hcl (by simp)) (by rw [ints_length, Nat.mul_one])) ints_one ⟨(by rw [ints_length]; simp only [List.length_nil]; omega), (by decide)⟩ (fun v4 c4 ho4 => ?_)
    rw [List.nil_append] at ho4
    refine j_subl (S' := [c4]) (by repeat first | exact slR _ | exact slN _ | apply slC | apply slD) ?_
    refine j_ret_con (vs := [_]) (fun w' hw' => ⟨rfl, trivial⟩) ?_
    exact ⟨c4, rfl, ho4⟩
theorem readO_con (f : FM) (B : Nat) (n : List UInt8) (w : World) (hin : In w f.heap) (hok : f.Ok B) (hn : strOk n) (x : FL) (hx : x ∈ f.now.fs) (hlk : alook f.now.ml n = some (x.g, x.id)) : Con Try.prog 11 [f.ptr, .string (bs n)] w [] fun u S' => ∃ (v : Value) (c : SH), u = .tuple #[v, .int .i64 0] ∧ S' = [c] ∧ Sx.Own 5 1 (ints x.xs) v c := by
  refine con_of_tree mix Try.func11 T11_ok (by kernel_rfl) ?_
  unfold T11
  obtain ⟨xA, xc, hxv, hxl⟩ := hok.raw.form x hx
  refine j_q (qs_ac) ?_
  refine j_q (qs_ac) ?_
  refine j_q (qs_pnil Try.underlying25 rfl) ?_
  refine j_g rfl (fun hb => qs_mt rfl) ?_
  refine j_g rfl (fun hb => qs_nil (gd_eq hb)) ?_
  refine j_g rfl (fun hb => qs_field Try.underlying62 rfl sz58 (by decide) (gd_eq hb)) ?_
  refine j_g rfl (fun hb => qs_loadO (rdo_base (FM.in_gf hin) (by simp)) Try.underlying58 rfl (gd_eq hb) rfl) ?_
  refine j_g rfl (fun hb => qs_pnil Try.underlying58 (gd_eq hb)) ?_
  refine j_q (qs_or rfl rfl) ?_
  refine j_g rfl (fun hb => qs_mt rfl) ?_
  refine j_g rfl (fun hb => qs_nil (gd_eq hb)) ?_
  refine j_g rfl (fun hb => qs_field Try.underlying62 rfl sz58 (by decide) (gd_eq hb)) ?_
  refine j_g rfl (fun hb => qs_loadO (rdo_base (FM.in_gf hin) (by simp)) Try.underlying58 rfl (gd_eq hb) rfl) ?_
  refine j_g rfl (fun hb => qs_nil (gd_eq hb)) ?_
  refine j_g rfl (fun hb => qs_field Try.underlying66 rfl sz64 (by decide) (gd_eq hb)) ?_
  refine j_g rfl (fun hb => qs_loadO (rdo_base (SM.in_gs (FM.in_now hin)) (by simp)) Try.underlying64 rfl (gd_eq hb) rfl) ?_
  refine j_g rfl (fun hb => qs_mt rfl) ?_
  refine j_g rfl (fun hb => qs_lookupR (key := n) strKey (rdo_base (SM.in_gm (FM.in_now hin)) (by simp)) Try.underlying64 zv63 (gd_eq hb) (gd_eq hb) hok.raw.map hn) ?_
  rw [mlook_map fptr, getD_fptr, hlk, Option.map_some]
  refine j_g rfl (fun hb => qs_pnil Try.underlying63 (gd_eq hb)) ?_
  refine j_q (qs_or rfl rfl) ?_
  refine j_cond rfl (fun hc0 => ?_) (fun hc0 => ?_)
  · skip
    simp [gd] at hc0
  · skip
    refine j_q (qs_nil rfl) ?_
    refine j_q (qs_field Try.underlying62 rfl sz58 (by decide) rfl) ?_
    refine j_q (qs_loadO (rdo_base (FM.in_gf hin) (by simp)) Try.underlying58 rfl rfl rfl) ?_
    refine j_q (qs_nil rfl) ?_
    refine j_q (qs_field Try.underlying66 rfl sz64 (by decide) rfl) ?_
    refine j_q (qs_loadO (rdo_base (SM.in_gs (FM.in_now hin)) (by simp)) Try.underlying64 rfl rfl rfl) ?_
    refine j_q (qs_lookupR (key := n) strKey (rdo_base (SM.in_gm (FM.in_now hin)) (by simp)) Try.underlying64 zv63 rfl rfl hok.raw.map hn) ?_
    rw [mlook_map fptr, getD_fptr, hlk, Option.map_some]
    refine j_q (qs_nil rfl) ?_
    refine j_q (qs_field Try.underlying73 rfl sz23 (by decide) rfl) ?_
    refine j_q (qs_loadO (rdo_base (SM.in_f (FM.in_now hin) hx) (by simp)) Try.underlying23 rfl rfl rfl) ?_
    refine j_call0 ent31 rfl rfl rfl (fun w' hw' => cloneO_con x.v x.xs w' (br_rv (hok.vw x hx).rv (in_keep0 (FM.in_P hin) hw')) hxl) (fun u S2 hu1 => ?_)
    obtain ⟨Q, rfl, hrv⟩ := hu1
    refine j_subl (S' := [Q]) (by repeat first | exact slR _ | exact slN _ | apply slC | apply slD) ?_
    refine j_q (qs_ac) ?_
    refine j_ret_con (vs := [_, _]) (fun w' hw' => ⟨rfl, rfl, trivial⟩) ?_
    exact ⟨_, Q, rfl, rfl, hrv⟩
theorem readRO_con (r : FR) (a : AF) (n : List UInt8) (w : World) (hin : In w r.heap) (hok : r.Ok a) (hn : strOk n) : Con Try.prog 11 [r.ptr, .string (bs n)] w [] fun u S' => ∃ (v : Value) (c : SH), u = .tuple #[v, .int .i64 (readE a.now n)] ∧ S' = [c] ∧ Sx.Own 5 1 (ints (contA a.now n)) v c := by
  cases h : alook a.now.nm n with
  | none =>
    refine (readZ_con r.fm a.pend.length n w hin (hok.fm (Nat.le_refl _)) hn (look_rep0 hok.now.raw hok.now.rep h)).mono (fun u S' hu => ?_)
    obtain ⟨rfl, rfl⟩ := hu
    refine ⟨.slice none 0 0, [], ?_, rfl, ?_⟩
    · unfold readE
      rw [if_pos h]
    · simp only [contA, h]
      exact own_nil
  | some i =>
    obtain ⟨f, hf, hl, hi, hx⟩ := look_rep hok.now.raw hok.now.rep h
    refine (readO_con r.fm a.pend.length n w hin (hok.fm (Nat.le_refl _)) hn f hf hl).mono (fun u S' hu => ?_)
    obtain ⟨v, Q, rfl, rfl, hv⟩ := hu
    refine ⟨v, Q, ?_, rfl, ?_⟩
    · unfold readE
      rw [if_neg (by rw [h]; simp)]
    · simp only [contA, h]
      rw [← hx]
      exact hv
end Go.Proofs.Ytckpegkpdepokaa
/-! Rg0 -/
namespace Go.Proofs.Ytckpegkpdepokaa
open Go Go.Sx Go.MapKept Go.WideMaps Go.Maps
set_option maxRecDepth 100000
set_option linter.unusedVariables false
set_option linter.unusedSimpArgs false
set_option linter.unusedSectionVars false
theorem less_iff {x y : List UInt8} {r : Bool} (h : Op.bytesLess x y = r) : (x < y) ↔ r = true := by
  rw [← h, bytesLess_eq, decide_eq_true_eq]
section
variable {α β : Type}
abbrev NL (α : Type) := List (List UInt8 × α)
def Rise (nm : NL α) : Prop := nm.Pairwise fun x y => x.1 < y.1
structure Spot (nm : NL α) (n : List UInt8) (k : Nat) : Prop where
  le : k ≤ nm.length
  lo : ∀ p ∈ nm.take k, p.1 < n
  hi : ∀ p ∈ nm.drop k, ¬ p.1 < n
def setN (nm : NL α) (n : List UInt8) (v : α) : NL α := nm.filter (fun p => decide (p.1 < n)) ++ (n, v) :: nm.filter (fun p => decide (n < p.1))
theorem lt_irr (n : List UInt8) : ¬ n < n := List.lt_irrefl n
theorem lt_tri {a b : List UInt8} (h1 : ¬ a < b) (h2 : a ≠ b) : b < a := by
  rcases List.le_iff_lt_or_eq.1 (List.not_lt.1 h1) with h | h
  · exact h
  · exact absurd h.symm h2
theorem Rise.nd {nm : NL α} (h : Rise nm) : (nm.map Prod.fst).Nodup := by
  unfold List.Nodup
  rw [List.pairwise_map]
  exact h.imp fun hab e => by rw [e] at hab; exact lt_irr _ hab
theorem filt_all {nm : NL α} {p : List UInt8 × α → Bool} (h : ∀ q ∈ nm, p q = true) : nm.filter p = nm := List.filter_eq_self.2 h
theorem filt_none {nm : NL α} {p : List UInt8 × α → Bool} (h : ∀ q ∈ nm, ¬ p q = true) : nm.filter p = [] := List.filter_eq_nil_iff.2 h
theorem Spot.low {nm : NL α} {n : List UInt8} {k : Nat} (h : Spot nm n k) : nm.filter (fun p => decide (p.1 < n)) = nm.take k := by
  conv => lhs; rw [← List.take_append_drop k nm]
  rw [List.filter_append, filt_all (fun q hq => by simpa using h.lo q hq), filt_none (fun q hq => by simpa using h.hi q hq), List.append_nil]
theorem drop_hit {nm : NL α} {k : Nat} {p : List UInt8 × α} (h : nm[k]? = some p) : nm.drop k = p :: nm.drop (k + 1) := by
  obtain ⟨hlt, rfl⟩ := List.getElem?_eq_some_iff.1 h
  exact List.drop_eq_getElem_cons hlt
theorem Spot.hit {nm : NL α} (hr : Rise nm) {n : List UInt8} {k : Nat} (h : Spot nm n k) {p : List UInt8 × α} (hp : nm[k]? = some p) (hn : p.1 = n) : nm.filter (fun p => decide (n < p.1)) = nm.drop (k + 1) := by
  conv => lhs; rw [← List.take_append_drop k nm]
  have hd := drop_hit hp
  have hr2 : Rise (nm.drop k) := List.Pairwise.sublist (List.drop_sublist _ _) hr
  rw [hd] at hr2 ⊢
  obtain ⟨h1, h2⟩ := List.pairwise_cons.1 hr2
  rw [List.filter_append, filt_none (fun q hq => by simpa using fun h3 => lt_irr _ (List.lt_trans (h.lo q hq) h3)), List.nil_append, List.filter_cons_of_neg (by simp [hn, lt_irr]), filt_all (fun q hq => by simpa [← hn] using h1 q hq)]
theorem Spot.miss {nm : NL α} (hr : Rise nm) {n : List UInt8} {k : Nat} (h : Spot nm n k) (hn : ∀ q ∈ nm, q.1 ≠ n) : nm.filter (fun p => decide (n < p.1)) = nm.drop k := by
  conv => lhs; rw [← List.take_append_drop k nm]
  rw [List.filter_append, filt_none (fun q hq => by simpa using fun h3 => lt_irr _ (List.lt_trans (h.lo q hq) h3)), List.nil_append, filt_all (fun q hq => by simpa using lt_tri (h.hi q hq) (hn q (List.mem_of_mem_drop hq)))]
theorem Spot.set_hit {nm : NL α} (hr : Rise nm) {n : List UInt8} {k : Nat} (h : Spot nm n k) {p : List UInt8 × α} (hp : nm[k]? = some p) (hn : p.1 = n) (v : α) : setN nm n v = nm.take k ++ (n, v) :: nm.drop (k + 1) := by
  unfold setN
  rw [h.low, h.hit hr hp hn]
theorem Spot.set_miss {nm : NL α} (hr : Rise nm) {n : List UInt8} {k : Nat} (h : Spot nm n k) (hn : ∀ q ∈ nm, q.1 ≠ n) (v : α) : setN nm n v = nm.take k ++ (n, v) :: nm.drop k := by
  unfold setN
  rw [h.low, h.miss hr hn]
theorem Spot.del {nm : NL α} (hr : Rise nm) {n : List UInt8} {k : Nat} (h : Spot nm n k) {p : List UInt8 × α} (hp : nm[k]? = some p) (hn : p.1 = n) : mdel nm n = nm.take k ++ nm.drop (k + 1) := by
  have hd := drop_hit hp
  have hr2 : Rise (nm.drop k) := List.Pairwise.sublist (List.drop_sublist _ _) hr
  rw [hd] at hr2
  obtain ⟨h1, h2⟩ := List.pairwise_cons.1 hr2
  unfold mdel
  conv => lhs; rw [← List.take_append_drop k nm]
  rw [hd, List.filter_append, List.filter_cons_of_neg (by simp [hn]), filt_all (nm := nm.take k) (fun q hq => by simpa using fun e : q.1 = n => lt_irr n (by have := h.lo q hq; rwa [e] at this)), filt_all (nm := nm.drop (k + 1)) (fun q hq => by simpa using fun e : q.1 = n => lt_irr n (by have := h1 q hq; rwa [e, hn] at this))]
theorem Spot.iff {nm : NL α} (hr : Rise nm) {n : List UInt8} {k : Nat} (h : Spot nm n k) : (∃ p, nm[k]? = some p ∧ p.1 = n) ↔ (alook nm n).isSome = true := by
  constructor
  · rintro ⟨⟨a, v⟩, hp, rfl⟩
    rw [alook_of_mem hr.nd (List.mem_of_getElem? hp)]
    rfl
  · intro h1
    obtain ⟨v, hv⟩ := Option.isSome_iff_exists.1 h1
    have hm := alook_mem hv
    rw [← List.take_append_drop k nm] at hm
    rcases List.mem_append.1 hm with hm | hm
    · exact absurd (h.lo _ hm) (lt_irr n)
    · obtain ⟨i, hi, he⟩ := List.getElem_of_mem hm
      rw [List.getElem_drop] at he
      cases i with
      | zero => exact ⟨(n, v), by rw [← he]; exact List.getElem?_eq_getElem _, rfl⟩
      | succ i =>
        exfalso
        rw [List.length_drop] at hi
        have hk : k < nm.length := by omega
        have h2 := List.pairwise_iff_getElem.1 hr k (k + (i + 1)) hk (by omega) (by omega)
        rw [he] at h2
        exact h.hi nm[k] (by rw [List.drop_eq_getElem_cons hk]; exact List.mem_cons_self ..) h2
theorem Spot.val {nm : NL α} (hr : Rise nm) {n : List UInt8} {k : Nat} (h : Spot nm n k) {p : List UInt8 × α} (hp : nm[k]? = some p) (hn : p.1 = n) : alook nm n = some p.2 := by
  subst hn
  exact alook_of_mem hr.nd (List.mem_of_getElem? hp)
theorem rise_set {nm : NL α} (hr : Rise nm) (n : List UInt8) (v : α) : Rise (setN nm n v) := by
  unfold setN
  refine List.pairwise_append.2 ⟨List.Pairwise.sublist List.filter_sublist hr, List.pairwise_cons.2 ⟨fun q hq => ?_, List.Pairwise.sublist List.filter_sublist hr⟩, fun x hx y hy => ?_⟩
  · simpa using (List.mem_filter.1 hq).2
  · have h1 : x.1 < n := by simpa using (List.mem_filter.1 hx).2
    rcases List.mem_cons.1 hy with rfl | hy
    · exact h1
    · exact List.lt_trans h1 (by simpa using (List.mem_filter.1 hy).2)
theorem rise_del {nm : NL α} (hr : Rise nm) (n : List UInt8) : Rise (mdel nm n) := List.Pairwise.sublist List.filter_sublist hr
theorem set_perm (nm : NL α) (n : List UInt8) (v : α) : (setN nm n v).Perm ((n, v) :: mdel nm n) := by
  unfold setN
  refine List.perm_middle.trans (List.Perm.cons _ ?_)
  unfold mdel
  induction nm with
  | nil => exact .nil
  | cons q nm ih =>
    rw [List.filter_cons, List.filter_cons, List.filter_cons]
    by_cases h1 : q.1 < n
    · have h2 : ¬ n < q.1 := fun h => lt_irr _ (List.lt_trans h1 h)
      have h3 : q.1 ≠ n := fun e => by rw [e] at h1; exact lt_irr _ h1
      rw [if_pos (by simpa using h1), if_neg (by simpa using h2), if_pos (by simpa using h3)]
      exact List.Perm.cons _ ih
    · by_cases h2 : n < q.1
      · have h3 : q.1 ≠ n := fun e => by rw [e] at h2; exact lt_irr _ h2
        rw [if_neg (by simpa using h1), if_pos (by simpa using h2), if_pos (by simpa using h3)]
        exact List.perm_middle.trans (List.Perm.cons _ ih)
      · have h3 : q.1 = n := Classical.byContradiction fun h => h2 (lt_tri h1 h)
        rw [if_neg (by simpa using h1), if_neg (by simpa using h2), if_neg (by simpa using h3)]
        exact ih
theorem set_map (f : α → β) (nm : NL α) (n : List UInt8) (v : α) : (setN nm n v).map (fun p => (p.1, f p.2)) = setN (nm.map fun p => (p.1, f p.2)) n (f v) := by
  unfold setN
  rw [List.map_append, List.map_cons, List.filter_map, List.filter_map]
  rfl
theorem set_fst (nm : NL α) (n : List UInt8) (v : α) : ∀ q ∈ setN nm n v, q = (n, v) ∨ q ∈ nm := fun q hq => by
  rcases List.mem_append.1 hq with hq | hq
  · exact .inr (List.mem_filter.1 hq).1
  · rcases List.mem_cons.1 hq with hq | hq
    · exact .inl hq
    · exact .inr (List.mem_filter.1 hq).1
theorem set_len (nm : NL α) (hr : Rise nm) (n : List UInt8) (v : α) : (setN nm n v).length = nm.length + (if alook nm n = none then 1 else 0) := by
  rw [(set_perm nm n v).length_eq, List.length_cons]
  split
  · rename_i h
    unfold mdel
    rw [filt_all (fun q hq => by simpa using alook_none.1 h q hq)]
  · rename_i h
    obtain ⟨i, hi⟩ := Option.ne_none_iff_exists'.1 h
    obtain ⟨A, B, e, hA⟩ := alook_split hi
    have hn := hr.nd
    rw [e] at hn ⊢
    rw [List.map_append, List.map_cons, List.nodup_append, List.nodup_cons] at hn
    have hb : ∀ q ∈ B, q.1 ≠ n := fun q hq e => hn.2.1.1 (by rw [← e]; exact List.mem_map.2 ⟨q, hq, rfl⟩)
    have e1 : mdel (A ++ (n, i) :: B) n = A ++ B := by
      unfold mdel
      rw [List.filter_append, List.filter_cons_of_neg (by simp), filt_all (fun q hq => by simpa using hA q hq), filt_all (fun q hq => by simpa using hb q hq)]
    rw [e1]
    simp only [List.length_append, List.length_cons]
    omega
theorem spot_of {nm : NL α} {n : List UInt8} {k : Nat} (hle : k ≤ nm.length) (h1 : ∀ i, i < k → (nm.map Prod.fst).getD i [] < n) (h2 : ∀ i, k ≤ i → i < nm.length → ¬ (nm.map Prod.fst).getD i [] < n) : Spot nm n k := by
  have hg : ∀ i (hi : i < nm.length), (nm.map Prod.fst).getD i [] = (nm[i]'hi).1 := fun i hi => by
    rw [List.getD_eq_getElem?_getD, List.getElem?_map, List.getElem?_eq_getElem hi]
    rfl
  refine ⟨hle, fun p hp => ?_, fun p hp => ?_⟩
  · obtain ⟨i, hi, rfl⟩ := List.getElem_of_mem hp
    rw [List.length_take] at hi
    rw [List.getElem_take, ← hg i (by omega)]
    exact h1 i (by omega)
  · obtain ⟨i, hi, rfl⟩ := List.getElem_of_mem hp
    rw [List.length_drop] at hi
    rw [List.getElem_drop, ← hg (k + i) (by omega)]
    exact h2 (k + i) (by omega) (by omega)
theorem rise_get {nm : NL α} (hr : Rise nm) {i j : Nat} (hij : i < j) (hj : j < nm.length) : (nm.map Prod.fst).getD i [] < (nm.map Prod.fst).getD j [] := by
  have hg : ∀ i (hi : i < nm.length), (nm.map Prod.fst).getD i [] = (nm[i]'hi).1 := fun i hi => by
    rw [List.getD_eq_getElem?_getD, List.getElem?_map, List.getElem?_eq_getElem hi]
    rfl
  rw [hg i (by omega), hg j hj]
  exact List.pairwise_iff_getElem.1 hr i j (by omega) hj hij
end
theorem ins_eq {xs rest : List Value} {z y : Value} {i n : Nat} (hn : xs.length = n) (hi : i ≤ n) : (((xs ++ [z]) ++ rest).take (i + 1) ++ (((xs ++ [z]).drop i).take (n - i)) ++ ((xs ++ [z]) ++ rest).drop (i + 1 + (n - i))).set i y = (xs.take i ++ y :: xs.drop i) ++ rest := by
  subst hn
  have e1 : ((xs ++ [z]).drop i).take (xs.length - i) = xs.drop i := by
    rw [List.drop_append_of_le_length hi, List.take_append_of_le_length (by rw [List.length_drop]; exact Nat.le_refl _), List.take_of_length_le (by rw [List.length_drop]; exact Nat.le_refl _)]
  have e2 : ((xs ++ [z]) ++ rest).drop (i + 1 + (xs.length - i)) = rest := by
    rw [show i + 1 + (xs.length - i) = (xs ++ [z]).length by simp; omega, List.drop_left]
  have e3 : ((xs ++ [z]) ++ rest).take (i + 1) = xs.take i ++ [((xs ++ [z]) ++ rest)[i]'(by simp; omega)] := by
    rw [List.take_succ_eq_append_getElem (by simp; omega)]
    congr 1
    rw [List.take_append_of_le_length (by simp; omega), List.take_append_of_le_length hi]
  rw [e1, e2, e3, List.append_assoc, List.append_assoc, List.set_append_right _ _ (by rw [List.length_take]; omega), List.length_take, Nat.min_eq_left hi, Nat.sub_self]
  simp
theorem own_set {e : TypeId} {xs : List Value} {n cap g i : Nat} {rest : List Value} {fz : Nat × Nat} {y : Value} (h1 : xs.length = n * 1) (h2 : (xs ++ rest).length = cap * 1) (h3 : n ≤ cap) (h4 : ∀ j, j < (xs ++ rest).length → ¬ (fz.1 ≤ j ∧ j < fz.2)) (hi : i < n) : Sx.Own e 1 (xs.set i y) (.slice (some ⟨g, 0, none⟩) n cap) [(g, .cells ((xs ++ rest).set i y).toArray e fz)] := by
  rw [List.set_append_left _ _ (by omega)]
  exact own_mk (by rw [List.length_set]; exact h1) (by simpa using h2) h3 (by simpa using h4)
section
variable {P : Program} {R : Ending → World → Prop} {env : Env} {b : Base} {S : List SH} {B : JB} {T : Tree} {ty : TypeId}
theorem j_copyZ {t t' e : TypeId} {x y : Operand} {g off dn cap m : Nat} {l news : List Value} {e' : TypeId} {fz : Nat × Nat} (k : Nat) (ht : P.underlying t = some (.slice e)) (hz : (P.info? e).map (·.size) = some 1) (hx : ev env x = .slice (if cap = off then some ⟨g, 0, none⟩ else (some (⟨g, 0, none⟩ : Addr)).map (·.add (off * 1))) dn (cap - off)) (hd : dn ≤ cap - off) (hy : Src b S 1 (ev env y) m news) (hk : S[k]? = some [(g, .cells l.toArray e' fz)])
    (hone : ∀ u ∈ news, oneV u = true) (hi : off + dn ≤ l.length) (hf : ∀ j, j < l.length → ¬ (fz.1 ≤ j ∧ j < fz.2))
    (h : J P R T (.int .i64 (min m dn : Nat) :: env) (S.set k [(g, .cells (l.take off ++ news.take (min m dn) ++ l.drop (off + min m dn)).toArray e' fz)]) b B) :
    J P R (.op (O (.call ⟨.builtin .copy, #[x, y], #[t, t']⟩) ty) T) env S b B := by
  by_cases hc : cap = off
  · rw [if_pos hc] at hx
    obtain rfl : dn = 0 := by omega
    refine j_copy (off := 0) k ht hz hx hy hk hone (by omega) (fun j _ h2 => by omega) ?_
    rw [show min m 0 = 0 by omega] at h ⊢
    simp only [List.take_zero, List.append_nil, Nat.add_zero, List.take_append_drop] at h ⊢
    exact h
  · rw [if_neg hc] at hx
    have e1 : (some (⟨g, 0, none⟩ : Addr)).map (·.add (off * 1)) = some ⟨g, off, none⟩ := by
      rw [Option.map_some, Nat.mul_one, add_off, Nat.zero_add]
    rw [e1] at hx
    exact j_copy k ht hz hx hy hk hone hi (fun j _ h2 => hf j (by omega)) h
end
end Go.Proofs.Ytckpegkpdepokaa
