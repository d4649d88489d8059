/- Part 9. -/
import Derived.Test.YtfebkkmmagbnlaaGreatDoorPW3
import Derived.Test.YtfebkkmmagbnlaaGreatDoorPW4
import Derived.Test.YtfebkkmmagbnlaaGreatDoorPW8
import Derived.Test.YtfebkkmmagbnlaaGreatDoorPW6
import Derived.SliceStrings
import Derived.Test.YtfebkkmmagbnlaaGreatDoorPW5
/-! Jn12 -/
namespace Go.Proofs.YtfebkkmmagbnlaaGreatDoor
open Go Go.Sx
set_option maxRecDepth 100000
set_option maxHeartbeats 4000000
set_option linter.unusedVariables false
set_option linter.unusedSimpArgs false
attribute [local irreducible] J JQ QS Con W opW
structure ComOk (a : JA) (f : AF) (id : Nat) : Prop where
 js : JS a.name a.age a.gs f.now
 ln : a.gs.length ≤ 129
 lg : ∀ g ∈ a.gs, limR g
 dn : limR a.down
 sz : sizeG a.gs ≤ 500000
 by_ : (gsE a.gs).length + (grpE a.down).length ≤ 1048576
 rm : f.room ≤ 1073741824
 us : 0 ≤ f.now.used ∧ f.now.used + ((grpE a.down).length : Int) ≤ f.room
 nm : f.now.nm.length < 16384
 pd : f.pend.length < 16000
 id : ∀ q ∈ f.now.nm, q.2 ≠ id
 ag : a.age < 10000
 nl : a.name.length ≤ 100
theorem com1 {a : JA} {f : AF} {id : Nat} (hd : a.dead = false) (hdn : a.down ≠ []) (hb : burnt f = true) : comE a f id = 26 ∧ comJ a f id = { a with dead := true } ∧ comA a f id = f := by
 unfold comE comJ comA
 rw [hd, hb]
 simp [hdn]
theorem com2 {a : JA} {f : AF} {id : Nat} (hd : a.dead = false) (hdn : a.down ≠ []) (hb : burnt f = false) (hb2 : burnt (stepF f (comT a id)) = true) : comE a f id = 26 ∧ comJ a f id = { a with dead := true } ∧ comA a f id = stepF f (comT a id) := by
 unfold comE comJ comA
 rw [hd, hb, hb2]
 simp [hdn]
theorem com3 {a : JA} {f : AF} {id : Nat} (hd : a.dead = false) (hdn : a.down ≠ []) (hb : burnt f = false) (hb2 : burnt (stepF f (comT a id)) = false) : comE a f id = 0 ∧ comJ a f id = { a with gs := a.gs ++ [a.down], down := [] } ∧ comA a f id = syncF (stepF f (comT a id)) := by
 unfold comE comJ comA
 rw [hd, hb, hb2]
 simp [hdn]
theorem fillE_nil {gs : List (List (List UInt8))} (h : gs = []) : fillE gs = -1 := by rw [fillE, if_pos h]
theorem fillE_cons {gs : List (List (List UInt8))} (h : gs ≠ []) : fillE gs = ((gsE gs).length : Int) := by rw [fillE, if_neg h]
theorem perm_c7 (j : JM) (r : FR) : (j.heap ++ r.heap).Perm ([[(j.gj, j.obj)], [(j.lg, j.lobj)], j.s.c, j.s.gl, j.laid.c, j.laid.lf, r.heap] : List SH).flatten := by
 classical
 refine List.perm_iff_count.2 fun x => ?_
 simp only [RR.heap, GS.heap, JM.heap, List.flatten_cons, List.flatten_nil, List.append_nil, List.nil_append, List.cons_append, List.count_append, List.count_cons, List.count_nil]
 omega
theorem notFull {a : JA} {f : AF} {id : Nat} (h : ComOk a f id) (hg : a.gs = []) : ¬ fullA f (fileN a.name a.age 0) (grpE a.down) := by
 have hno : alook f.now.nm (fileN a.name a.age 0) = none := by
  rcases h.js.f0 with ⟨_, h2⟩ | ⟨h2, _⟩
  ·exact h2
  ·exact absurd hg h2
 have hu := h.us
 have hn := h.nm
 unfold fullA
 rintro (⟨_, h2⟩ | h2)
 ·omega
 ·have : (0 : Int) ≤ (freesA f.now (fileN a.name a.age 0) : Int) := Int.natCast_nonneg _
  have h3 : freesA f.now (fileN a.name a.age 0) = 0 := by
   unfold freesA
   rw [hno]
  rw [h3] at h2
  omega
theorem writeG_con (r : FR) (a : AF) (n : List UInt8) (bv : Value) (xs : List UInt8) (id : Nat) (w : World) (hok : r.Ok a) (hn : strOk n) (hbr : BR w bv xs) (hbd : ∀ (a : Addr) (m c : Nat), bv = .slice (some a) m c → 0 < m → a.block ∉ dom r.heap) (hxl : xs.length ≤ 1000000000) (hB : a.pend.length < 16384) (hrm : a.room ≤ 1073741824) (hid : ∀ q ∈ a.now.nm, q.2 ≠ id) : Con Tryz.prog 75 [r.ptr, .string (bs n), bv] w r.heap fun v S' => v = .int .i64 (wrE a n xs) ∧ ∃ r' : FR, S' = [r'.heap] ∧ r'.Ok (if wrE a n xs = 0 then stepF a (.wr n xs id) else a) ∧ r'.gf = r.gf :=
 (write_con' r a n bv xs id w hok hn hbr hbd hxl hB hrm hid).mono fun u S' hu => by
  obtain ⟨h1, r', h2, h3, h4⟩ := hu
  exact ⟨h1, r', h2, h3, h4.gf⟩
theorem appendG_con (r : FR) (a : AF) (n : List UInt8) (bv : Value) (xs : List UInt8) (w : World) (hok : r.Ok a) (hB : a.pend.length < 16384) (hn : strOk n) (hbr : BR w bv xs) (hbd : ∀ (a : Addr) (m c : Nat), bv = .slice (some a) m c → 0 < m → a.block ∉ dom r.heap) (hxl : xs.length ≤ 1000000000) (hrm : a.room ≤ 1073741824) : Con Tryz.prog 94 [r.ptr, .string (bs n), bv] w r.heap fun v S' => v = .int .i64 (appE a n xs) ∧ ∃ r' : FR, S' = [r'.heap] ∧ r'.Ok (if appE a n xs = 0 then stepF a (.ap n xs) else a) ∧ r'.gf = r.gf :=
 (appendR_con r a n bv xs w hok hB hn hbr hbd hxl hrm).mono fun u S' hu => by
  obtain ⟨h1, r', h2, h3, h4⟩ := hu
  exact ⟨h1, r', h2, h3, h4.gf⟩
theorem syncG_con (r : FR) (a : AF) (w : World) (hok : r.Ok a) : Con Tryz.prog 78 [r.ptr] w r.heap fun v S' => v = .int .i64 (mayE a.fused a.left []) ∧ ∃ r' : FR, S' = [r'.heap] ∧ r'.Ok (if mayE a.fused a.left [] = 0 then syncF a else a) ∧ r'.gf = r.gf :=
 (sync_con r a w hok).mono fun u S' hu => by
  obtain ⟨h1, r', h2, h3, h4⟩ := hu
  exact ⟨h1, r', h2, h3, h4.gf⟩
theorem gsE_nil : gsE [] = [] := rfl
theorem gsE_snoc (gs : List (List (List UInt8))) (g : List (List UInt8)) : gsE (gs ++ [g]) = gsE gs ++ grpE g := by
 unfold gsE
 rw [List.map_append, List.flatten_append, List.map_singleton, List.flatten_singleton]
theorem sizeG_snoc (gs : List (List (List UInt8))) (g : List (List UInt8)) : sizeG (gs ++ [g]) = sizeG gs + sizeR g := by
 unfold sizeG
 rw [List.map_append, List.sum_append]
 simp
theorem jm_fin (j : JM) (r : FR) : ([[(j.gj, j.obj)], [(j.lg, j.lobj)], j.s.c, j.s.gl, r.heap, j.laid.c, j.laid.lf] : List SH).flatten.Perm [j.heap, r.heap].flatten := by
 classical
 refine List.perm_iff_count.2 fun x => ?_
 simp only [RR.heap, GS.heap, JM.heap, List.flatten_cons, List.flatten_nil, List.append_nil, List.nil_append, List.cons_append, List.count_append, List.count_cons, List.count_nil]
 omega
theorem jm_com (j : JM) (r : FR) {fl : Int} {v bv : Value} {c : SH} {g82 g31 : Nat} : ([[(g82, gobj nilS 0 0 0 0 nilS)], [(j.gj, .cells (jl j.fp j.name j.age 0 fl v (((sizeG j.s.gs : Nat) : Int) + ((sizeR j.laid.rs : Nat) : Int)) g82 j.dead).toArray 136 (0, 0))], c, j.s.gl, r.heap, [(g31, gobj j.laid.v ((sizeR j.laid.rs : Nat) : Int) 1 0 0 bv)], j.laid.c, j.laid.lf] : List SH).flatten.Perm [JM.heap ⟨j.gj, g82, j.fp, j.name, j.age, fl, j.s.add v c ⟨g31, j.laid, [.int .i64 ((sizeR j.laid.rs : Nat) : Int), .int .u32 1, .int .i32 0, .int .u32 0, bv]⟩, ⟨nilS, [], []⟩, j.dead⟩, r.heap].flatten := by
 have e1 : JM.obj ⟨j.gj, g82, j.fp, j.name, j.age, fl, j.s.add v c ⟨g31, j.laid, [.int .i64 ((sizeR j.laid.rs : Nat) : Int), .int .u32 1, .int .i32 0, .int .u32 0, bv]⟩, ⟨nilS, [], []⟩, j.dead⟩ = .cells (jl j.fp j.name j.age 0 fl v (((sizeG j.s.gs : Nat) : Int) + ((sizeR j.laid.rs : Nat) : Int)) g82 j.dead).toArray 136 (0, 0) := by
  unfold JM.obj
  simp only
  rw [GS.add_gs, sizeG_snoc, Int.natCast_add]
  rfl
 have e2 : JM.lobj ⟨j.gj, g82, j.fp, j.name, j.age, fl, j.s.add v c ⟨g31, j.laid, [.int .i64 ((sizeR j.laid.rs : Nat) : Int), .int .u32 1, .int .i32 0, .int .u32 0, bv]⟩, ⟨nilS, [], []⟩, j.dead⟩ = gobj nilS 0 0 0 0 nilS := rfl
 have e3 : GS.heap (j.s.add v c ⟨g31, j.laid, [.int .i64 ((sizeR j.laid.rs : Nat) : Int), .int .u32 1, .int .i32 0, .int .u32 0, bv]⟩) = c ++ (j.s.gl ++ ((g31, gobj j.laid.v ((sizeR j.laid.rs : Nat) : Int) 1 0 0 bv) :: (j.laid.c ++ j.laid.lf))) := by
  unfold GS.heap
  rw [GS.add_gl]
  rfl
 have e4 : RR.heap ⟨nilS, [], []⟩ = [] := rfl
 classical
 refine List.perm_iff_count.2 fun x => ?_
 unfold JM.heap
 rw [e1, e2]
 simp only
 rw [e3, e4]
 simp only [List.flatten_cons, List.flatten_nil, List.append_nil, List.nil_append, List.cons_append, List.count_append, List.count_cons, List.count_nil]
 omega
attribute [local irreducible] sum gsE headE fileN contA readE grpE fillE
theorem jcom_con (j : JM) (a : JA) (r : FR) (f : AF) (id : Nat) (w : World) (hok : j.Ok a) (hfo : r.Ok f) (hfp : j.fp = r.ptr) (hd : a.dead = false) (hdn : a.down ≠ []) (hc : ComOk a f id) (hP : P10 w) (h0 : 1 ∉ dom (j.heap ++ r.heap)) : Con Tryz.prog 71 [j.ptr] w (j.heap ++ r.heap) fun u S' => u = .int .i64 (comE a f id) ∧ ∃ (j' : JM) (r' : FR), S' = [j'.heap, r'.heap] ∧ j'.Ok (comJ a f id) ∧ r'.Ok (comA a f id) ∧ j'.gj = j.gj ∧ j'.fp = j.fp ∧ r'.gf = r.gf := by
 refine con_of_tree mix Tryz.func71 T71_ok (by kernel_rfl) ?_
 unfold T71
 obtain ⟨A, cap, hv, hA⟩ := hok.l.form
 have hlr : j.laid.L.length = a.down.length := by
  rw [← hok.dn]
  exact (List.length_map _).symm
 have hdl : 0 < a.down.length := List.length_pos_iff.2 hdn
 have hgr := grpE_lim hc.dn
 have hszl := hc.sz
 have hs2 := hc.dn.2
 have hby := hc.by_
 have hjg : j.s.G.length = a.gs.length := by
  rw [← hok.gs]
  exact (List.length_map _).symm
 have hln := hc.ln
 rw [← hok.gs] at hszl
 rw [← hok.dn] at hs2
 refine j_perm (S' := [[(j.gj, j.obj)], [(j.lg, j.lobj)], j.s.c, j.s.gl, j.laid.c, j.laid.lf, r.heap]) (by simpa using perm_c7 j r) ?_
 refine j_q (qs_ac) ?_
 refine j_q (qs_call ent92 rfl rfl rfl (fun w' hw' => jmay_con j a w' hok (hw'.at_ (k := 0) rfl))) ?_
 refine j_q (qs_neq rfl rfl) ?_
 rw [mayJ, hd, if_neg (show ¬ (false = true) by simp), show ((0 : Int) != 0) = false from rfl]
 refine j_gt rfl (qs_mt rfl) ?_
 refine j_gt rfl (qs_nil rfl) ?_
 refine j_gt rfl (qs_field U136 rfl sz121 (by decide) rfl) ?_
 refine j_gt rfl (qs_load (l := j.jl) (v := .pointer (some ⟨j.lg, 0, none⟩)) 0 U121 rfl rfl rfl rfl) ?_
 refine j_gt rfl (qs_nil rfl) ?_
 refine j_gt rfl (qs_field U133 rfl sz90 (by decide) rfl) ?_
 refine j_gt rfl (qs_load (l := j.ll) (v := .slice A j.laid.L.length cap) 1 U90 rfl rfl rfl (congrArg some hv)) ?_
 refine j_gt rfl (qs_lenl U90 rfl) ?_
 refine j_gt rfl (qs_eql rfl rfl) ?_
 rw [show (((j.laid.L.length : Nat) : Int) == 0) = false by rw [beq_eq_false_iff_ne]; omega]
 refine j_q (qs_or rfl rfl) ?_
 refine j_cond rfl (fun hc0 => ?_) (fun hc0 => ?_)
 ·skip
  simp at hc0
 ·skip
  refine j_q (qs_nil rfl) ?_
  refine j_q (qs_field U136 rfl sz3 (by decide) rfl) ?_
  refine j_q (qs_load (l := j.jl) (v := .int .i64 ((sizeG j.s.gs : Nat) : Int)) 0 U3 rfl rfl rfl rfl) ?_
  refine j_q (qs_geq rfl rfl) ?_
  refine j_cond rfl (fun hc1 => ?_) (fun hc1 => ?_)
  ·skip
   simp at hc1
   omega
  ·skip
   refine j_mix [[(j.gj, .cells (j.jl).toArray 136 (0, 0))], [(j.lg, j.lobj)]] (Le.of_sub (by repeat first | exact slR _ | exact slN _ | apply slC | apply slD)) ?_
   refine j_mq (qs_nil rfl) ?_
   refine j_mq (qs_field U136 rfl sz121 (by decide) rfl) ?_
   refine j_mq (qs_load (l := j.jl) (v := .pointer (some ⟨j.lg, 0, none⟩)) 0 U121 rfl rfl rfl rfl) ?_
   refine j_mq (qs_nil rfl) ?_
   refine j_mq (qs_field U133 rfl sz90 (by decide) rfl) ?_
   refine j_mq (qs_load (l := j.ll) (v := .slice A j.laid.L.length cap) 1 U90 rfl rfl rfl (congrArg some hv)) ?_
   refine j_mq (qs_nil rfl) ?_
   refine j_mq (qs_field U136 rfl sz121 (by decide) rfl) ?_
   refine j_mq (qs_load (l := j.jl) (v := .pointer (some ⟨j.lg, 0, none⟩)) 0 U121 rfl rfl rfl rfl) ?_
   refine j_mq (qs_nil rfl) ?_
   refine j_mq (qs_field U133 rfl sz3 (by decide) rfl) ?_
   refine j_mq (qs_load (l := j.ll) (v := .int .i64 ((sizeR j.laid.rs : Nat) : Int)) 1 U3 rfl rfl rfl rfl) ?_
   refine j_mq (qs_build (places := [(0, 1), (1, 1), (2, 3), (5, 1)]) (offs := [(0, [.slice A j.laid.L.length cap]), (1, [.int .i64 ((sizeR j.laid.rs : Nat) : Int)])]) U133 zero133 (by kernel_rfl) rfl (by rintro (_ | _ | _ | _ | j) p q hp hq <;> first | (simp at hp hq; subst hp hq; exact ⟨rfl, rfl, by simp⟩) | (simp at hp))) ?_
   refine j_box (l := gl (.slice A j.laid.L.length cap) ((sizeR j.laid.rs : Nat) : Int) 0 0 0 nilS) rfl (fun g31 hg31 hs31 => ?_)
   refine j_mR _ (.refl _) ?_
   refine j_mend ?_
   rw [← hv]
   refine j_subl (S' := [[(g31, gobj j.laid.v ((sizeR j.laid.rs : Nat) : Int) 0 0 0 nilS)], [(j.gj, .cells (j.jl).toArray 136 (0, 0))], [(j.lg, j.lobj)], j.s.c, j.s.gl, j.laid.c, j.laid.lf, r.heap]) (by repeat first | exact slR _ | exact slN _ | apply slC | apply slD) ?_
   refine j_perm (S' := [(g31, gobj j.laid.v ((sizeR j.laid.rs : Nat) : Int) 0 0 0 nilS) :: j.laid.heap, [(j.gj, .cells (j.jl).toArray 136 (0, 0))], [(j.lg, j.lobj)], j.s.c, j.s.gl, r.heap]) (by
    classical
    refine List.perm_iff_count.2 fun x => ?_
    simp only [RR.heap, GS.heap, List.set, List.flatten_cons, List.flatten_nil, List.append_nil, List.nil_append, List.cons_append, List.count_append, List.count_cons, List.count_nil]
    omega) ?_
   refine j_call 0 ent93 rfl rfl rfl rfl (fun w' hw' => made_con g31 j.laid ((sizeR j.laid.rs : Nat) : Int) w' hok.l (by rw [hok.dn]; exact hc.dn)) (fun u S2 hu => ?_)
   obtain ⟨bv, cb, rfl, rfl, hcb⟩ := hu
   rw [hok.dn] at hcb
   obtain ⟨nb, Ab, capb, rfl, hnb⟩ := own_form hcb (by decide)
   rw [ints_length, Nat.mul_one] at hnb
   subst hnb
   refine j_perm (S' := [[(j.gj, .cells (j.jl).toArray 136 (0, 0))], [(j.lg, j.lobj)], j.s.c, j.s.gl, r.heap, cb, [(g31, gobj j.laid.v ((sizeR j.laid.rs : Nat) : Int) 1 0 0 (.slice Ab (grpE a.down).length capb))], j.laid.c, j.laid.lf]) (by
    classical
    refine List.perm_iff_count.2 fun x => ?_
    simp only [RR.heap, GS.heap, List.set, List.flatten_cons, List.flatten_nil, List.append_nil, List.nil_append, List.cons_append, List.count_append, List.count_cons, List.count_nil]
    omega) ?_
   refine j_mix [[(j.gj, .cells (j.jl).toArray 136 (0, 0))]] (Le.of_sub (by repeat first | exact slR _ | exact slN _ | apply slC | apply slD)) ?_
   refine j_mq (qs_nil rfl) ?_
   refine j_mq (qs_field U136 rfl sz3 (by decide) rfl) ?_
   refine j_mq (qs_load (l := j.jl) (v := .int .i64 0) 0 U3 rfl rfl rfl rfl) ?_
   refine j_mq (qs_nil rfl) ?_
   refine j_mq (qs_field U136 rfl sz3 (by decide) rfl) ?_
   refine j_mq (qs_load (l := j.jl) (v := .int .i64 j.fl) 0 U3 rfl rfl rfl rfl) ?_
   refine j_mend ?_
   refine j_q (qs_ac) ?_
   refine j_q (qs_lss rfl rfl) ?_
   refine j_cond rfl (fun hc2 => ?_) (fun hc2 => ?_)
   ·skip
    have hg0 : a.gs = [] := by
     rcases Classical.em (a.gs = []) with h | h
     ·exact h
     ·have h8 := hok.fl hd
      rw [fillE_cons h] at h8
      simp only [bnA] at *
      omega
    have hwr := wrE_val (f := f) (nameOk_file hc.nl hc.ag) (show (grpE a.down).length ≤ 1048576 by omega) (notFull hc hg0)
    have hcT : comT a id = .wr (fileN a.name a.age 0) (grpE a.down) id := by rw [comT, if_pos hg0]
    refine j_mix [[(j.gj, .cells (j.jl).toArray 136 (0, 0))]] (Le.of_sub (by repeat first | exact slR _ | exact slN _ | apply slC | apply slD)) ?_
    refine j_mq (qs_nil rfl) ?_
    refine j_mq (qs_field U136 rfl sz23 (by decide) rfl) ?_
    refine j_mq (qs_load (l := j.jl) (v := r.ptr) 0 U23 rfl rfl rfl (congrArg some hfp)) ?_
    refine j_q (qs_call ent64 rfl rfl rfl (fun w' hw' => file_con j.gj j.fp a.name a.age 0 _ w' (by rw [← hok.nm, ← hok.ag]; exact hw'.at_ (k := 0) rfl) (hP.keep hw' h0) hc.ag (by decide) (by have := hc.nl; omega))) ?_
    refine j_mD0 (Le.of_sub (by repeat first | exact slR _ | exact slN _ | apply slC | apply slD)) ?_
    refine j_call 4 ent75 rfl rfl rfl rfl (fun w' hw' => writeG_con r f (fileN a.name a.age 0) _ (grpE a.down) id w' hfo (strOk_file (by have := hc.nl; omega) hc.ag (by decide)) (own_br hcb 5 rfl hw') (sep_own hcb (k := 5) (m := 4) rfl rfl (by decide) hw') (by omega) (by have := hc.pd; omega) hc.rm hc.id) (fun u S2 hu => ?_)
    obtain ⟨rfl, r1, rfl, hr1, hto1⟩ := hu
    rw [hwr] at hr1 ⊢
    rw [← hcT] at hr1
    refine j_mR _ (.refl _) ?_
    refine j_mend ?_
    refine j_perm (S' := [[(j.gj, .cells (j.jl).toArray 136 (0, 0))], [(j.lg, j.lobj)], j.s.c, j.s.gl, r1.heap, cb, [(g31, gobj j.laid.v ((sizeR j.laid.rs : Nat) : Int) 1 0 0 (.slice Ab (grpE a.down).length capb))], j.laid.c, j.laid.lf]) (by
     classical
     refine List.perm_iff_count.2 fun x => ?_
     simp only [RR.heap, GS.heap, List.set, List.flatten_cons, List.flatten_nil, List.append_nil, List.nil_append, List.cons_append, List.count_append, List.count_cons, List.count_nil]
     omega) ?_
    refine j_q (qs_ac) ?_
    refine j_q (qs_neq rfl rfl) ?_
    refine j_cond rfl (fun hc3 => ?_) (fun hc3 => ?_)
    ·skip
     have hb : burnt f = true := by
      cases hx : burnt f
      ·rw [hx] at hc3
       simp at hc3
      ·rfl
     rw [hb] at hr1 ⊢
     rw [if_neg (by simp)] at hr1
     rw [if_pos rfl]
     refine j_call 0 ent95 rfl rfl rfl rfl (fun w' hw' => jmet_con j.gj j.jl j.dead w' rfl) (fun u S2 hu => ?_)
     obtain ⟨rfl, rfl⟩ := hu
     refine j_subl (S' := [[(j.gj, JM.obj ⟨j.gj, j.lg, j.fp, j.name, j.age, j.fl, j.s, j.laid, 1⟩)], [(j.lg, j.lobj)], j.s.c, j.s.gl, r1.heap, j.laid.c, j.laid.lf]) (by repeat first | exact slR _ | exact slN _ | apply slC | apply slD) ?_
     refine j_perm (S' := [JM.heap ⟨j.gj, j.lg, j.fp, j.name, j.age, j.fl, j.s, j.laid, 1⟩, r1.heap]) (jm_fin ⟨j.gj, j.lg, j.fp, j.name, j.age, j.fl, j.s, j.laid, 1⟩ r1) ?_
     refine j_ret_con (vs := [_]) (fun w' hw' => ⟨rfl, trivial⟩) ?_
     have hX := com1 (id := id) hd hdn hb
     exact ⟨by rw [hX.1]; rfl, ⟨j.gj, j.lg, j.fp, j.name, j.age, j.fl, j.s, j.laid, 1⟩, r1, rfl, by rw [hX.2.1]; exact ⟨hok.s, hok.l, hok.nm, hok.ag, hok.gs, hok.dn, rfl, fun h => by simp at h⟩, by rw [hX.2.2]; exact hr1, rfl, rfl, hto1⟩
    ·skip
     have hb : burnt f = false := by
      cases hx : burnt f
      ·rfl
      ·rw [hx] at hc3
       simp at hc3
     rw [hb] at hr1
     rw [if_pos (by simp)] at hr1
     refine j_q (qs_lenl U33 rfl) ?_
     refine j_q (qs_add64 rfl rfl (by first | omega | (simp only [bnA] at *; omega))) ?_
     refine j_q (qs_nil rfl) ?_
     refine j_q (qs_field U136 rfl sz3 (by decide) rfl) ?_
     refine j_store (l := j.jl) 0 sz3 rfl rfl rfl rfl (by simp) (by simp) ?_
     refine j_q (qs_nil rfl) ?_
     refine j_q (qs_field U136 rfl sz3 (by decide) rfl) ?_
     refine j_store (l := j.jl) 0 sz3 rfl rfl rfl rfl (by simp) (by simp) ?_
     refine j_q (qs_nil rfl) ?_
     refine j_q (qs_field U136 rfl sz23 (by decide) rfl) ?_
     refine j_q (qs_load (l := jl j.fp j.name j.age 0 ((0 : Int) + ((grpE a.down).length : Int)) (j.s.v) (((sizeG j.s.gs : Nat) : Int)) j.lg j.dead) (v := r.ptr) 0 U23 rfl rfl rfl (congrArg some hfp)) ?_
     rw [show r.ptr = r1.ptr from by rw [FR.ptr, FR.ptr, hto1]]
     refine j_call 4 ent78 rfl rfl rfl rfl (fun w' hw' => syncG_con r1 (stepF f (comT a id)) w' hr1) (fun u S2 hu => ?_)
     obtain ⟨rfl, r2, rfl, hr2, hto2⟩ := hu
     rw [mayE_b (stepF f (comT a id)) (ns := []) rfl] at hr2 ⊢
     refine j_subl (S' := [r2.heap, [(j.gj, .cells (jl j.fp j.name j.age 0 ((0 : Int) + ((grpE a.down).length : Int)) (j.s.v) (((sizeG j.s.gs : Nat) : Int)) j.lg j.dead).toArray 136 (0, 0))], [(j.lg, j.lobj)], j.s.c, j.s.gl, cb, [(g31, gobj j.laid.v ((sizeR j.laid.rs : Nat) : Int) 1 0 0 (.slice Ab (grpE a.down).length capb))], j.laid.c, j.laid.lf]) (by repeat first | exact slR _ | exact slN _ | apply slC | apply slD) ?_
     refine j_perm (S' := [[(j.gj, .cells (jl j.fp j.name j.age 0 ((0 : Int) + ((grpE a.down).length : Int)) (j.s.v) (((sizeG j.s.gs : Nat) : Int)) j.lg j.dead).toArray 136 (0, 0))], [(j.lg, j.lobj)], j.s.c, j.s.gl, r2.heap, cb, [(g31, gobj j.laid.v ((sizeR j.laid.rs : Nat) : Int) 1 0 0 (.slice Ab (grpE a.down).length capb))], j.laid.c, j.laid.lf]) (by
      classical
      refine List.perm_iff_count.2 fun x => ?_
      simp only [RR.heap, GS.heap, List.set, List.flatten_cons, List.flatten_nil, List.append_nil, List.nil_append, List.cons_append, List.count_append, List.count_cons, List.count_nil]
      omega) ?_
     refine j_q (qs_neq rfl rfl) ?_
     refine j_cond rfl (fun hc4 => ?_) (fun hc4 => ?_)
     ·skip
      have hb2 : burnt (stepF f (comT a id)) = true := by
       cases hx : burnt (stepF f (comT a id))
       ·rw [hx] at hc4
        simp at hc4
       ·rfl
      rw [hb2] at hr2 ⊢
      rw [if_neg (by simp)] at hr2
      rw [if_pos rfl]
      refine j_call 0 ent95 rfl rfl rfl rfl (fun w' hw' => jmet_con j.gj (jl j.fp j.name j.age 0 ((0 : Int) + ((grpE a.down).length : Int)) (j.s.v) (((sizeG j.s.gs : Nat) : Int)) j.lg j.dead) j.dead w' rfl) (fun u S2 hu => ?_)
      obtain ⟨rfl, rfl⟩ := hu
      refine j_subl (S' := [[(j.gj, JM.obj ⟨j.gj, j.lg, j.fp, j.name, j.age, ((0 : Int) + ((grpE a.down).length : Int)), j.s, j.laid, 1⟩)], [(j.lg, j.lobj)], j.s.c, j.s.gl, r2.heap, j.laid.c, j.laid.lf]) (by repeat first | exact slR _ | exact slN _ | apply slC | apply slD) ?_
      refine j_perm (S' := [JM.heap ⟨j.gj, j.lg, j.fp, j.name, j.age, ((0 : Int) + ((grpE a.down).length : Int)), j.s, j.laid, 1⟩, r2.heap]) (jm_fin ⟨j.gj, j.lg, j.fp, j.name, j.age, ((0 : Int) + ((grpE a.down).length : Int)), j.s, j.laid, 1⟩ r2) ?_
      refine j_ret_con (vs := [_]) (fun w' hw' => ⟨rfl, trivial⟩) ?_
      have hX := com2 hd hdn hb hb2
      exact ⟨by rw [hX.1]; rfl, ⟨j.gj, j.lg, j.fp, j.name, j.age, ((0 : Int) + ((grpE a.down).length : Int)), j.s, j.laid, 1⟩, r2, rfl, by rw [hX.2.1]; exact ⟨hok.s, hok.l, hok.nm, hok.ag, hok.gs, hok.dn, rfl, fun h => by simp at h⟩, by rw [hX.2.2]; exact hr2, rfl, rfl, hto2.trans hto1⟩
     ·skip
      have hb2 : burnt (stepF f (comT a id)) = false := by
       cases hx : burnt (stepF f (comT a id))
       ·rfl
       ·rw [hx] at hc4
        simp at hc4
      rw [hb2] at hr2
      rw [if_pos (by simp)] at hr2
      refine j_q (qs_nil rfl) ?_
      refine j_q (qs_field U136 rfl sz134 (by decide) rfl) ?_
      refine j_q (qs_load (l := jl j.fp j.name j.age 0 ((0 : Int) + ((grpE a.down).length : Int)) (j.s.v) (((sizeG j.s.gs : Nat) : Int)) j.lg j.dead) (v := j.s.v) 0 U134 rfl rfl rfl rfl) ?_
      refine j_lit (vs := [.pointer (some ⟨g31, 0, none⟩)]) U134 sz121 zero121 rfl (by simp [oneV]) ⟨rfl, by decide⟩ (fun g66 v66 c66 hv66 hc66 ho66 => ?_)
      subst hv66 hc66
      refine j_append 3 U134 U134 (.inr ⟨_, rfl⟩) sb121 zero121 rfl hok.s.row rfl (.inl ⟨_, _, rfl, rd_own (off := 0) (n := 1) 0 rfl rfl, rfl⟩) (by simp [oneV]) ⟨(by simp only [List.length_map]; simp; omega), (by decide)⟩ (fun v67 c67 ho67 => ?_)
      obtain ⟨n67, A67, cap67, rfl, hn67⟩ := own_form ho67 (by decide)
      refine j_q (qs_nil rfl) ?_
      refine j_q (qs_field U136 rfl sz134 (by decide) rfl) ?_
      refine j_store (l := jl j.fp j.name j.age 0 ((0 : Int) + ((grpE a.down).length : Int)) (j.s.v) (((sizeG j.s.gs : Nat) : Int)) j.lg j.dead) 1 sz134 rfl rfl rfl rfl (by simp) (by simp) ?_
      refine j_mix [[(j.gj, .cells (jl j.fp j.name j.age 0 ((0 : Int) + ((grpE a.down).length : Int)) (.slice A67 n67 cap67) (((sizeG j.s.gs : Nat) : Int)) j.lg j.dead).toArray 136 (0, 0))], [(g31, gobj j.laid.v ((sizeR j.laid.rs : Nat) : Int) 1 0 0 (.slice Ab (grpE a.down).length capb))]] (Le.of_sub (by repeat first | exact slR _ | exact slN _ | apply slC | apply slD)) ?_
      refine j_mq (qs_nil rfl) ?_
      refine j_mq (qs_field U136 rfl sz3 (by decide) rfl) ?_
      refine j_mq (qs_load (l := jl j.fp j.name j.age 0 ((0 : Int) + ((grpE a.down).length : Int)) (.slice A67 n67 cap67) (((sizeG j.s.gs : Nat) : Int)) j.lg j.dead) (v := .int .i64 ((sizeG j.s.gs : Nat) : Int)) 0 U3 rfl rfl rfl rfl) ?_
      refine j_mq (qs_nil rfl) ?_
      refine j_mq (qs_field U133 rfl sz3 (by decide) rfl) ?_
      refine j_mq (qs_load (l := gl j.laid.v ((sizeR j.laid.rs : Nat) : Int) 1 0 0 (.slice Ab (grpE a.down).length capb)) (v := .int .i64 ((sizeR j.laid.rs : Nat) : Int)) 1 U3 rfl rfl rfl rfl) ?_
      refine j_mq (qs_add64 rfl rfl (by first | omega | (simp only [bnA] at *; omega))) ?_
      refine j_mq (qs_nil rfl) ?_
      refine j_mq (qs_field U136 rfl sz3 (by decide) rfl) ?_
      refine j_store (l := jl j.fp j.name j.age 0 ((0 : Int) + ((grpE a.down).length : Int)) (.slice A67 n67 cap67) (((sizeG j.s.gs : Nat) : Int)) j.lg j.dead) 1 sz3 rfl rfl rfl rfl (by simp) (by simp) ?_
      refine j_mR _ (.refl _) ?_
      refine j_mend ?_
      refine j_q (qs_run (v := .agg ([nilS, .int .i64 0, .int .u32 0, .int .i32 0, .int .u32 0, nilS]).toArray) (fun w => by kernel_rfl)) ?_
      refine j_box (l := [nilS, .int .i64 0, .int .u32 0, .int .i32 0, .int .u32 0, nilS]) rfl (fun g82 hg82 hs82 => ?_)
      refine j_q (qs_nil rfl) ?_
      refine j_q (qs_field U136 rfl sz121 (by decide) rfl) ?_
      refine j_store (l := jl j.fp j.name j.age 0 ((0 : Int) + ((grpE a.down).length : Int)) (.slice A67 n67 cap67) (((sizeG j.s.gs : Nat) : Int) + ((sizeR j.laid.rs : Nat) : Int)) j.lg j.dead) 2 sz121 rfl rfl rfl rfl (by simp) (by simp) ?_
      refine j_q (qs_ac) ?_
      refine j_subl (S' := [[(g82, gobj nilS 0 0 0 0 nilS)], [(j.gj, .cells (jl j.fp j.name j.age 0 ((0 : Int) + ((grpE a.down).length : Int)) (.slice A67 n67 cap67) (((sizeG j.s.gs : Nat) : Int) + ((sizeR j.laid.rs : Nat) : Int)) g82 j.dead).toArray 136 (0, 0))], c67, j.s.gl, r2.heap, [(g31, gobj j.laid.v ((sizeR j.laid.rs : Nat) : Int) 1 0 0 (.slice Ab (grpE a.down).length capb))], j.laid.c, j.laid.lf]) (by repeat first | exact slR _ | exact slN _ | apply slC | apply slD) ?_
      refine j_perm (S' := [JM.heap ⟨j.gj, g82, j.fp, j.name, j.age, (0 : Int) + ((grpE a.down).length : Int), j.s.add (.slice A67 n67 cap67) c67 ⟨g31, j.laid, [.int .i64 ((sizeR j.laid.rs : Nat) : Int), .int .u32 1, .int .i32 0, .int .u32 0, .slice Ab (grpE a.down).length capb]⟩, ⟨nilS, [], []⟩, j.dead⟩, r2.heap]) (jm_com j r2) ?_
      refine j_ret_con (vs := [_]) (fun w' hw' => ⟨rfl, trivial⟩) ?_
      have hX := com3 hd hdn hb hb2
      exact ⟨by rw [hX.1]; rfl, ⟨j.gj, g82, j.fp, j.name, j.age, (0 : Int) + ((grpE a.down).length : Int), j.s.add (.slice A67 n67 cap67) c67 ⟨g31, j.laid, [.int .i64 ((sizeR j.laid.rs : Nat) : Int), .int .u32 1, .int .i32 0, .int .u32 0, .slice Ab (grpE a.down).length capb]⟩, ⟨nilS, [], []⟩, j.dead⟩, r2, rfl, by rw [hX.2.1]; exact ⟨hok.s.add ho67 hok.l, rr0, hok.nm, hok.ag, by rw [GS.add_gs, hok.gs, hok.dn], rfl, by rw [hok.dd, hd], by
       intro _
       rw [fillE_cons (by simp), gsE_snoc, List.length_append, Int.natCast_add]
       simp only
       rw [hg0, gsE_nil]
       rfl⟩, by rw [hX.2.2]; exact hr2, rfl, rfl, hto2.trans hto1⟩
   ·skip
    have hg0 : a.gs ≠ [] := fun h => by
     have h8 := hok.fl hd
     rw [fillE_nil h] at h8
     simp only [bnA] at *
     omega
    have hfl : j.fl = ((gsE a.gs).length : Int) := by rw [hok.fl hd, fillE_cons hg0]
    obtain ⟨hyes, hcon⟩ : alook f.now.nm (fileN a.name a.age 0) ≠ none ∧ contA f.now (fileN a.name a.age 0) = gsE a.gs := by
     rcases hc.js.f0 with ⟨h, _⟩ | ⟨_, h, h'⟩
     ·exact absurd h hg0
     ·exact ⟨h, h'⟩
    have hwr := appE_val (f := f) (xs := grpE a.down) (nameOk_file hc.nl hc.ag) hyes (by rw [sizeA_cont, hcon]; exact hc.by_) hc.us.2
    have hcT : comT a id = .ap (fileN a.name a.age 0) (grpE a.down) := by rw [comT, if_neg hg0]
    refine j_q (qs_lenl U33 rfl) ?_
    refine j_q (qs_add64 rfl rfl (by first | omega | (simp only [bnA] at *; omega))) ?_
    refine j_q (qs_gtr rfl rfl) ?_
    refine j_cond rfl (fun hc5 => ?_) (fun hc5 => ?_)
    ·skip
     rw [hfl] at hc5
     simp only [bnA] at *
     omega
    ·skip
     refine j_mix [[(j.gj, .cells (j.jl).toArray 136 (0, 0))]] (Le.of_sub (by repeat first | exact slR _ | exact slN _ | apply slC | apply slD)) ?_
     refine j_mq (qs_nil rfl) ?_
     refine j_mq (qs_field U136 rfl sz23 (by decide) rfl) ?_
     refine j_mq (qs_load (l := j.jl) (v := r.ptr) 0 U23 rfl rfl rfl (congrArg some hfp)) ?_
     refine j_q (qs_call ent64 rfl rfl rfl (fun w' hw' => file_con j.gj j.fp a.name a.age 0 _ w' (by rw [← hok.nm, ← hok.ag]; exact hw'.at_ (k := 0) rfl) (hP.keep hw' h0) hc.ag (by decide) (by have := hc.nl; omega))) ?_
     refine j_mD0 (Le.of_sub (by repeat first | exact slR _ | exact slN _ | apply slC | apply slD)) ?_
     refine j_call 4 ent94 rfl rfl rfl rfl (fun w' hw' => appendG_con r f (fileN a.name a.age 0) _ (grpE a.down) w' hfo (by have := hc.pd; omega) (strOk_file (by have := hc.nl; omega) hc.ag (by decide)) (own_br hcb 5 rfl hw') (sep_own hcb (k := 5) (m := 4) rfl rfl (by decide) hw') (by omega) hc.rm) (fun u S2 hu => ?_)
     obtain ⟨rfl, r1, rfl, hr1, hto1⟩ := hu
     rw [hwr] at hr1 ⊢
     rw [← hcT] at hr1
     refine j_mR _ (.refl _) ?_
     refine j_mend ?_
     refine j_perm (S' := [[(j.gj, .cells (j.jl).toArray 136 (0, 0))], [(j.lg, j.lobj)], j.s.c, j.s.gl, r1.heap, cb, [(g31, gobj j.laid.v ((sizeR j.laid.rs : Nat) : Int) 1 0 0 (.slice Ab (grpE a.down).length capb))], j.laid.c, j.laid.lf]) (by
      classical
      refine List.perm_iff_count.2 fun x => ?_
      simp only [RR.heap, GS.heap, List.set, List.flatten_cons, List.flatten_nil, List.append_nil, List.nil_append, List.cons_append, List.count_append, List.count_cons, List.count_nil]
      omega) ?_
     refine j_q (qs_neq rfl rfl) ?_
     refine j_cond rfl (fun hc8 => ?_) (fun hc8 => ?_)
     ·skip
      have hb : burnt f = true := by
       cases hx : burnt f
       ·rw [hx] at hc8
        simp at hc8
       ·rfl
      rw [hb] at hr1 ⊢
      rw [if_neg (by simp)] at hr1
      rw [if_pos rfl]
      refine j_call 0 ent95 rfl rfl rfl rfl (fun w' hw' => jmet_con j.gj j.jl j.dead w' rfl) (fun u S2 hu => ?_)
      obtain ⟨rfl, rfl⟩ := hu
      refine j_subl (S' := [[(j.gj, JM.obj ⟨j.gj, j.lg, j.fp, j.name, j.age, j.fl, j.s, j.laid, 1⟩)], [(j.lg, j.lobj)], j.s.c, j.s.gl, r1.heap, j.laid.c, j.laid.lf]) (by repeat first | exact slR _ | exact slN _ | apply slC | apply slD) ?_
      refine j_perm (S' := [JM.heap ⟨j.gj, j.lg, j.fp, j.name, j.age, j.fl, j.s, j.laid, 1⟩, r1.heap]) (jm_fin ⟨j.gj, j.lg, j.fp, j.name, j.age, j.fl, j.s, j.laid, 1⟩ r1) ?_
      refine j_ret_con (vs := [_]) (fun w' hw' => ⟨rfl, trivial⟩) ?_
      have hX := com1 (id := id) hd hdn hb
      exact ⟨by rw [hX.1]; rfl, ⟨j.gj, j.lg, j.fp, j.name, j.age, j.fl, j.s, j.laid, 1⟩, r1, rfl, by rw [hX.2.1]; exact ⟨hok.s, hok.l, hok.nm, hok.ag, hok.gs, hok.dn, rfl, fun h => by simp at h⟩, by rw [hX.2.2]; exact hr1, rfl, rfl, hto1⟩
     ·skip
      have hb : burnt f = false := by
       cases hx : burnt f
       ·rfl
       ·rw [hx] at hc8
        simp at hc8
      rw [hb] at hr1
      rw [if_pos (by simp)] at hr1
      refine j_q (qs_lenl U33 rfl) ?_
      refine j_q (qs_add64 rfl rfl (by first | omega | (simp only [bnA] at *; omega))) ?_
      refine j_q (qs_nil rfl) ?_
      refine j_q (qs_field U136 rfl sz3 (by decide) rfl) ?_
      refine j_store (l := j.jl) 0 sz3 rfl rfl rfl rfl (by simp) (by simp) ?_
      refine j_q (qs_nil rfl) ?_
      refine j_q (qs_field U136 rfl sz3 (by decide) rfl) ?_
      refine j_store (l := j.jl) 0 sz3 rfl rfl rfl rfl (by simp) (by simp) ?_
      refine j_q (qs_nil rfl) ?_
      refine j_q (qs_field U136 rfl sz23 (by decide) rfl) ?_
      refine j_q (qs_load (l := jl j.fp j.name j.age 0 (j.fl + ((grpE a.down).length : Int)) (j.s.v) (((sizeG j.s.gs : Nat) : Int)) j.lg j.dead) (v := r.ptr) 0 U23 rfl rfl rfl (congrArg some hfp)) ?_
      rw [show r.ptr = r1.ptr from by rw [FR.ptr, FR.ptr, hto1]]
      refine j_call 4 ent78 rfl rfl rfl rfl (fun w' hw' => syncG_con r1 (stepF f (comT a id)) w' hr1) (fun u S2 hu => ?_)
      obtain ⟨rfl, r2, rfl, hr2, hto2⟩ := hu
      rw [mayE_b (stepF f (comT a id)) (ns := []) rfl] at hr2 ⊢
      refine j_subl (S' := [r2.heap, [(j.gj, .cells (jl j.fp j.name j.age 0 (j.fl + ((grpE a.down).length : Int)) (j.s.v) (((sizeG j.s.gs : Nat) : Int)) j.lg j.dead).toArray 136 (0, 0))], [(j.lg, j.lobj)], j.s.c, j.s.gl, cb, [(g31, gobj j.laid.v ((sizeR j.laid.rs : Nat) : Int) 1 0 0 (.slice Ab (grpE a.down).length capb))], j.laid.c, j.laid.lf]) (by repeat first | exact slR _ | exact slN _ | apply slC | apply slD) ?_
      refine j_perm (S' := [[(j.gj, .cells (jl j.fp j.name j.age 0 (j.fl + ((grpE a.down).length : Int)) (j.s.v) (((sizeG j.s.gs : Nat) : Int)) j.lg j.dead).toArray 136 (0, 0))], [(j.lg, j.lobj)], j.s.c, j.s.gl, r2.heap, cb, [(g31, gobj j.laid.v ((sizeR j.laid.rs : Nat) : Int) 1 0 0 (.slice Ab (grpE a.down).length capb))], j.laid.c, j.laid.lf]) (by
       classical
       refine List.perm_iff_count.2 fun x => ?_
       simp only [RR.heap, GS.heap, List.set, List.flatten_cons, List.flatten_nil, List.append_nil, List.nil_append, List.cons_append, List.count_append, List.count_cons, List.count_nil]
       omega) ?_
      refine j_q (qs_neq rfl rfl) ?_
      refine j_cond rfl (fun hc9 => ?_) (fun hc9 => ?_)
      ·skip
       have hb2 : burnt (stepF f (comT a id)) = true := by
        cases hx : burnt (stepF f (comT a id))
        ·rw [hx] at hc9
         simp at hc9
        ·rfl
       rw [hb2] at hr2 ⊢
       rw [if_neg (by simp)] at hr2
       rw [if_pos rfl]
       refine j_call 0 ent95 rfl rfl rfl rfl (fun w' hw' => jmet_con j.gj (jl j.fp j.name j.age 0 (j.fl + ((grpE a.down).length : Int)) (j.s.v) (((sizeG j.s.gs : Nat) : Int)) j.lg j.dead) j.dead w' rfl) (fun u S2 hu => ?_)
       obtain ⟨rfl, rfl⟩ := hu
       refine j_subl (S' := [[(j.gj, JM.obj ⟨j.gj, j.lg, j.fp, j.name, j.age, (j.fl + ((grpE a.down).length : Int)), j.s, j.laid, 1⟩)], [(j.lg, j.lobj)], j.s.c, j.s.gl, r2.heap, j.laid.c, j.laid.lf]) (by repeat first | exact slR _ | exact slN _ | apply slC | apply slD) ?_
       refine j_perm (S' := [JM.heap ⟨j.gj, j.lg, j.fp, j.name, j.age, (j.fl + ((grpE a.down).length : Int)), j.s, j.laid, 1⟩, r2.heap]) (jm_fin ⟨j.gj, j.lg, j.fp, j.name, j.age, (j.fl + ((grpE a.down).length : Int)), j.s, j.laid, 1⟩ r2) ?_
       refine j_ret_con (vs := [_]) (fun w' hw' => ⟨rfl, trivial⟩) ?_
       have hX := com2 hd hdn hb hb2
       exact ⟨by rw [hX.1]; rfl, ⟨j.gj, j.lg, j.fp, j.name, j.age, (j.fl + ((grpE a.down).length : Int)), j.s, j.laid, 1⟩, r2, rfl, by rw [hX.2.1]; exact ⟨hok.s, hok.l, hok.nm, hok.ag, hok.gs, hok.dn, rfl, fun h => by simp at h⟩, by rw [hX.2.2]; exact hr2, rfl, rfl, hto2.trans hto1⟩
      ·skip
       have hb2 : burnt (stepF f (comT a id)) = false := by
        cases hx : burnt (stepF f (comT a id))
        ·rfl
        ·rw [hx] at hc9
         simp at hc9
       rw [hb2] at hr2
       rw [if_pos (by simp)] at hr2
       refine j_q (qs_nil rfl) ?_
       refine j_q (qs_field U136 rfl sz134 (by decide) rfl) ?_
       refine j_q (qs_load (l := jl j.fp j.name j.age 0 (j.fl + ((grpE a.down).length : Int)) (j.s.v) (((sizeG j.s.gs : Nat) : Int)) j.lg j.dead) (v := j.s.v) 0 U134 rfl rfl rfl rfl) ?_
       refine j_lit (vs := [.pointer (some ⟨g31, 0, none⟩)]) U134 sz121 zero121 rfl (by simp [oneV]) ⟨rfl, by decide⟩ (fun g66 v66 c66 hv66 hc66 ho66 => ?_)
       subst hv66 hc66
       refine j_append 3 U134 U134 (.inr ⟨_, rfl⟩) sb121 zero121 rfl hok.s.row rfl (.inl ⟨_, _, rfl, rd_own (off := 0) (n := 1) 0 rfl rfl, rfl⟩) (by simp [oneV]) ⟨(by simp only [List.length_map]; simp; omega), (by decide)⟩ (fun v162 c162 ho162 => ?_)
       obtain ⟨n67, A67, cap67, rfl, hn67⟩ := own_form ho162 (by decide)
       refine j_q (qs_nil rfl) ?_
       refine j_q (qs_field U136 rfl sz134 (by decide) rfl) ?_
       refine j_store (l := jl j.fp j.name j.age 0 (j.fl + ((grpE a.down).length : Int)) (j.s.v) (((sizeG j.s.gs : Nat) : Int)) j.lg j.dead) 1 sz134 rfl rfl rfl rfl (by simp) (by simp) ?_
       refine j_mix [[(j.gj, .cells (jl j.fp j.name j.age 0 (j.fl + ((grpE a.down).length : Int)) (.slice A67 n67 cap67) (((sizeG j.s.gs : Nat) : Int)) j.lg j.dead).toArray 136 (0, 0))], [(g31, gobj j.laid.v ((sizeR j.laid.rs : Nat) : Int) 1 0 0 (.slice Ab (grpE a.down).length capb))]] (Le.of_sub (by repeat first | exact slR _ | exact slN _ | apply slC | apply slD)) ?_
       refine j_mq (qs_nil rfl) ?_
       refine j_mq (qs_field U136 rfl sz3 (by decide) rfl) ?_
       refine j_mq (qs_load (l := jl j.fp j.name j.age 0 (j.fl + ((grpE a.down).length : Int)) (.slice A67 n67 cap67) (((sizeG j.s.gs : Nat) : Int)) j.lg j.dead) (v := .int .i64 ((sizeG j.s.gs : Nat) : Int)) 0 U3 rfl rfl rfl rfl) ?_
       refine j_mq (qs_nil rfl) ?_
       refine j_mq (qs_field U133 rfl sz3 (by decide) rfl) ?_
       refine j_mq (qs_load (l := gl j.laid.v ((sizeR j.laid.rs : Nat) : Int) 1 0 0 (.slice Ab (grpE a.down).length capb)) (v := .int .i64 ((sizeR j.laid.rs : Nat) : Int)) 1 U3 rfl rfl rfl rfl) ?_
       refine j_mq (qs_add64 rfl rfl (by first | omega | (simp only [bnA] at *; omega))) ?_
       refine j_mq (qs_nil rfl) ?_
       refine j_mq (qs_field U136 rfl sz3 (by decide) rfl) ?_
       refine j_store (l := jl j.fp j.name j.age 0 (j.fl + ((grpE a.down).length : Int)) (.slice A67 n67 cap67) (((sizeG j.s.gs : Nat) : Int)) j.lg j.dead) 1 sz3 rfl rfl rfl rfl (by simp) (by simp) ?_
       refine j_mR _ (.refl _) ?_
       refine j_mend ?_
       refine j_q (qs_run (v := .agg ([nilS, .int .i64 0, .int .u32 0, .int .i32 0, .int .u32 0, nilS]).toArray) (fun w => by kernel_rfl)) ?_
       refine j_box (l := [nilS, .int .i64 0, .int .u32 0, .int .i32 0, .int .u32 0, nilS]) rfl (fun g82 hg82 hs82 => ?_)
       refine j_q (qs_nil rfl) ?_
       refine j_q (qs_field U136 rfl sz121 (by decide) rfl) ?_
       refine j_store (l := jl j.fp j.name j.age 0 (j.fl + ((grpE a.down).length : Int)) (.slice A67 n67 cap67) (((sizeG j.s.gs : Nat) : Int) + ((sizeR j.laid.rs : Nat) : Int)) j.lg j.dead) 2 sz121 rfl rfl rfl rfl (by simp) (by simp) ?_
       refine j_q (qs_ac) ?_
       refine j_subl (S' := [[(g82, gobj nilS 0 0 0 0 nilS)], [(j.gj, .cells (jl j.fp j.name j.age 0 (j.fl + ((grpE a.down).length : Int)) (.slice A67 n67 cap67) (((sizeG j.s.gs : Nat) : Int) + ((sizeR j.laid.rs : Nat) : Int)) g82 j.dead).toArray 136 (0, 0))], c162, j.s.gl, r2.heap, [(g31, gobj j.laid.v ((sizeR j.laid.rs : Nat) : Int) 1 0 0 (.slice Ab (grpE a.down).length capb))], j.laid.c, j.laid.lf]) (by repeat first | exact slR _ | exact slN _ | apply slC | apply slD) ?_
       refine j_perm (S' := [JM.heap ⟨j.gj, g82, j.fp, j.name, j.age, j.fl + ((grpE a.down).length : Int), j.s.add (.slice A67 n67 cap67) c162 ⟨g31, j.laid, [.int .i64 ((sizeR j.laid.rs : Nat) : Int), .int .u32 1, .int .i32 0, .int .u32 0, .slice Ab (grpE a.down).length capb]⟩, ⟨nilS, [], []⟩, j.dead⟩, r2.heap]) (jm_com j r2) ?_
       refine j_ret_con (vs := [_]) (fun w' hw' => ⟨rfl, trivial⟩) ?_
       have hX := com3 hd hdn hb hb2
       exact ⟨by rw [hX.1]; rfl, ⟨j.gj, g82, j.fp, j.name, j.age, j.fl + ((grpE a.down).length : Int), j.s.add (.slice A67 n67 cap67) c162 ⟨g31, j.laid, [.int .i64 ((sizeR j.laid.rs : Nat) : Int), .int .u32 1, .int .i32 0, .int .u32 0, .slice Ab (grpE a.down).length capb]⟩, ⟨nilS, [], []⟩, j.dead⟩, r2, rfl, by rw [hX.2.1]; exact ⟨hok.s.add ho162 hok.l, rr0, hok.nm, hok.ag, by rw [GS.add_gs, hok.gs, hok.dn], rfl, by rw [hok.dd, hd], by
        intro _
        rw [fillE_cons (by simp), gsE_snoc, List.length_append, Int.natCast_add]
        simp only
        rw [hfl]⟩, by rw [hX.2.2]; exact hr2, rfl, rfl, hto2.trans hto1⟩
end Go.Proofs.YtfebkkmmagbnlaaGreatDoor
/-! Jn13 -/
namespace Go.Proofs.YtfebkkmmagbnlaaGreatDoor
open Go Go.Sx
set_option maxRecDepth 100000
set_option maxHeartbeats 4000000
set_option linter.unusedVariables false
set_option linter.unusedSimpArgs false
attribute [local irreducible] J JQ QS Con W opW
attribute [local irreducible] sum gsE headE fileN contA readE grpE fillE
theorem jcomD_con (j : JM) (a : JA) (r : FR) (f : AF) (id : Nat) (w : World) (hok : j.Ok a) (hfo : r.Ok f) (hd : a.dead = true) : Con Tryz.prog 71 [j.ptr] w (j.heap ++ r.heap) fun u S' => u = .int .i64 (comE a f id) ∧ ∃ (j' : JM) (r' : FR), S' = [j'.heap, r'.heap] ∧ j'.Ok (comJ a f id) ∧ r'.Ok (comA a f id) ∧ j'.gj = j.gj ∧ j'.fp = j.fp ∧ r'.gf = r.gf := by
 refine con_of_tree mix Tryz.func71 T71_ok (by kernel_rfl) ?_
 unfold T71
 refine j_perm (S' := [[(j.gj, j.obj)], [(j.lg, j.lobj)], j.s.c, j.s.gl, j.laid.c, j.laid.lf, r.heap]) (by simpa using perm_c7 j r) ?_
 refine j_q (qs_ac) ?_
 refine j_q (qs_call ent92 rfl rfl rfl (fun w' hw' => jmay_con j a w' hok (hw'.at_ (k := 0) rfl))) ?_
 refine j_q (qs_neq rfl rfl) ?_
 rw [mayJ, hd, if_pos rfl, show ((26 : Int) != 0) = true from rfl]
 refine j_gf rfl (by simp) ?_
 refine j_gf rfl (by simp) ?_
 refine j_gf rfl (by simp) ?_
 refine j_gf rfl (by simp) ?_
 refine j_gf rfl (by simp) ?_
 refine j_gf rfl (by simp) ?_
 refine j_gf rfl (by simp) ?_
 refine j_gf rfl (by simp) ?_
 refine j_gf rfl (by simp) ?_
 refine j_q (qs_or (b0 := true) (b1 := false) rfl rfl) ?_
 refine j_cond rfl (fun hc0 => ?_) (fun hc0 => ?_)
 ·skip
  refine j_perm (S' := [j.heap, r.heap]) (by simpa using (perm_c7 j r).symm) ?_
  refine j_ret_con (vs := [_]) (fun w' hw' => ⟨rfl, trivial⟩) ?_
  exact ⟨by rw [show comE a f id = 26 from by simp [comE, hd]]; rfl, j, r, rfl, by simp only [comJ, hd]; simpa using hok, by simp only [comA, hd]; simpa using hfo, rfl, rfl, rfl⟩
 ·skip
  simp at hc0
theorem jcom0_con (j : JM) (a : JA) (r : FR) (f : AF) (id : Nat) (w : World) (hok : j.Ok a) (hfo : r.Ok f) (hd : a.dead = false) (hdn : a.down = []) : Con Tryz.prog 71 [j.ptr] w (j.heap ++ r.heap) fun u S' => u = .int .i64 (comE a f id) ∧ ∃ (j' : JM) (r' : FR), S' = [j'.heap, r'.heap] ∧ j'.Ok (comJ a f id) ∧ r'.Ok (comA a f id) ∧ j'.gj = j.gj ∧ j'.fp = j.fp ∧ r'.gf = r.gf := by
 refine con_of_tree mix Tryz.func71 T71_ok (by kernel_rfl) ?_
 unfold T71
 obtain ⟨A, cap, hv, hA⟩ := hok.l.form
 have hlr : j.laid.L.length = 0 := by
  have h8 : j.laid.rs.length = j.laid.L.length := List.length_map _
  rw [← h8, hok.dn, hdn]
  rfl
 refine j_perm (S' := [[(j.gj, j.obj)], [(j.lg, j.lobj)], j.s.c, j.s.gl, j.laid.c, j.laid.lf, r.heap]) (by simpa using perm_c7 j r) ?_
 refine j_q (qs_ac) ?_
 refine j_q (qs_call ent92 rfl rfl rfl (fun w' hw' => jmay_con j a w' hok (hw'.at_ (k := 0) rfl))) ?_
 refine j_q (qs_neq rfl rfl) ?_
 rw [mayJ, hd, if_neg (show ¬ (false = true) by simp), show ((0 : Int) != 0) = false from rfl]
 refine j_gt rfl (qs_mt rfl) ?_
 refine j_gt rfl (qs_nil rfl) ?_
 refine j_gt rfl (qs_field U136 rfl sz121 (by decide) rfl) ?_
 refine j_gt rfl (qs_load (l := j.jl) (v := .pointer (some ⟨j.lg, 0, none⟩)) 0 U121 rfl rfl rfl rfl) ?_
 refine j_gt rfl (qs_nil rfl) ?_
 refine j_gt rfl (qs_field U133 rfl sz90 (by decide) rfl) ?_
 refine j_gt rfl (qs_load (l := j.ll) (v := .slice A j.laid.L.length cap) 1 U90 rfl rfl rfl (congrArg some hv)) ?_
 refine j_gt rfl (qs_lenl U90 rfl) ?_
 refine j_gt rfl (qs_eql rfl rfl) ?_
 rw [show (((j.laid.L.length : Nat) : Int) == 0) = true by rw [beq_iff_eq]; omega]
 refine j_q (qs_or rfl rfl) ?_
 refine j_cond rfl (fun hc0 => ?_) (fun hc0 => ?_)
 ·skip
  refine j_perm (S' := [j.heap, r.heap]) (by simpa using (perm_c7 j r).symm) ?_
  refine j_ret_con (vs := [_]) (fun w' hw' => ⟨rfl, trivial⟩) ?_
  exact ⟨by rw [show comE a f id = 0 from by simp [comE, hd, hdn]]; rfl, j, r, rfl, by simp only [comJ, hd, hdn]; simpa using hok, by simp only [comA, hd, hdn]; simpa using hfo, rfl, rfl, rfl⟩
 ·skip
  simp at hc0
theorem jcomU_con (j : JM) (a : JA) (r : FR) (f : AF) (id : Nat) (w : World) (hok : j.Ok a) (hfo : r.Ok f) (hfp : j.fp = r.ptr) (hc : a.dead = false → a.down ≠ [] → ComOk a f id) (hP : P10 w) (h0 : 1 ∉ dom (j.heap ++ r.heap)) : Con Tryz.prog 71 [j.ptr] w (j.heap ++ r.heap) fun u S' => u = .int .i64 (comE a f id) ∧ ∃ (j' : JM) (r' : FR), S' = [j'.heap, r'.heap] ∧ j'.Ok (comJ a f id) ∧ r'.Ok (comA a f id) ∧ j'.gj = j.gj ∧ j'.fp = j.fp ∧ r'.gf = r.gf := by
 cases hd : a.dead
 ·by_cases hdn : a.down = []
  ·exact jcom0_con j a r f id w hok hfo hd hdn
  ·exact jcom_con j a r f id w hok hfo hfp hd hdn (hc hd hdn) hP h0
 ·exact jcomD_con j a r f id w hok hfo hd
end Go.Proofs.YtfebkkmmagbnlaaGreatDoor
/-! Jn14 -/
namespace Go.Proofs.YtfebkkmmagbnlaaGreatDoor
open Go Go.Sx
set_option maxRecDepth 100000
set_option maxHeartbeats 4000000
set_option linter.unusedVariables false
set_option linter.unusedSimpArgs false
attribute [local irreducible] J JQ QS Con W opW
def rmF (f : AF) (n : List UInt8) : AF := if remE f n = 0 then stepF f (.rm n) else f
structure ResOk (a : JA) (f : AF) (id : Nat) : Prop where
 nl : 1 ≤ a.name.length ∧ a.name.length ≤ 100
 ag : a.age + 1 < 10000
 rm : f.room ≤ 1073741824
 us : 0 ≤ f.now.used ∧ f.now.used + 100 ≤ f.room
 nm : f.now.nm.length < 16000
 pd : f.pend.length < 16000
 id : ∀ q ∈ f.now.nm, q.2 ≠ id
attribute [local irreducible] sum gsE headE fileN contA readE grpE fillE
end Go.Proofs.YtfebkkmmagbnlaaGreatDoor
/-! Jn15 -/
namespace Go.Proofs.YtfebkkmmagbnlaaGreatDoor
open Go Go.Sx
set_option maxRecDepth 100000
set_option maxHeartbeats 4000000
set_option linter.unusedVariables false
set_option linter.unusedSimpArgs false
attribute [local irreducible] J JQ QS Con W opW
def NR.heap (n : NR) : SH := n.c ++ n.lf
theorem br_srcD {w : World} {D : List Nat} {S : List SH} {v : Value} {xs : List UInt8} (h : BR w v xs) (hd : ∀ (a : Addr) (m c : Nat), v = .slice (some a) m c → 0 < m → a.block ∉ D) : Src (⟨w, D⟩ : Base) S 1 v xs.length (ints xs) := by
 rcases h with ⟨rfl, rfl⟩ | ⟨a, cap, rfl, _, _, h⟩
 ·exact .inr (.inl ⟨0, rfl, rfl, rfl⟩)
 ·refine .inl ⟨a, cap, rfl, ?_, by rw [ints_length, Nat.mul_one]⟩
  rcases Nat.eq_zero_or_pos xs.length with h0 | h0
  ·rw [List.eq_nil_of_length_eq_zero h0]
   intro w' _ j u hu
   simp [ints] at hu
  ·exact rd_cells h (hd a _ _ rfl h0)
attribute [local irreducible] sum gsE headE fileN contA readE grpE fillE
end Go.Proofs.YtfebkkmmagbnlaaGreatDoor
/-! Jn16 -/
namespace Go.Proofs.YtfebkkmmagbnlaaGreatDoor
open Go Go.Sx
set_option maxRecDepth 100000
set_option maxHeartbeats 4000000
set_option linter.unusedVariables false
set_option linter.unusedSimpArgs false
attribute [local irreducible] J JQ QS Con W opW
theorem NR.Ok.form {s : NR} (h : s.Ok) : ∃ A cap, s.v = .slice A s.L.length cap ∧ (0 < s.L.length → ∃ g, A = some ⟨g, 0, none⟩) := by
 rcases h.row with ⟨h1, h2, h3⟩ | ⟨g, n, cap, rest, fz, h1, h2, h3, h4, h5, h6⟩
 ·have : s.L = [] := by simpa using h2
  exact ⟨none, 0, by rw [h1, this]; rfl, fun hp => by rw [this] at hp; simp at hp⟩
 ·rw [List.length_map, Nat.mul_one] at h3
  exact ⟨_, cap, by rw [h1, h3], fun _ => ⟨g, rfl⟩⟩
theorem NR.in_get {n : NR} {w : World} (h : In w n.lf) {x : RR} (hx : x ∈ n.L) : In w x.heap := fun q hq => h q (List.mem_flatten.2 ⟨_, List.mem_map.2 ⟨x, hx, rfl⟩, hq⟩)
attribute [local irreducible] sum gsE headE fileN contA readE grpE fillE
end Go.Proofs.YtfebkkmmagbnlaaGreatDoor
/-! Jn17 -/
namespace Go.Proofs.YtfebkkmmagbnlaaGreatDoor
open Go Go.Sx
set_option maxRecDepth 100000
set_option maxHeartbeats 4000000
set_option linter.unusedVariables false
set_option linter.unusedSimpArgs false
attribute [local irreducible] J JQ QS Con W opW
def SeenL {α : Type} (R : World → Value → α → Prop) (w : World) (v : Value) (l : List α) : Prop :=
 ∃ (A : Option Addr) (cap : Nat) (vs : List Value), v = .slice A l.length cap ∧ vs.length = l.length ∧ (0 < l.length → ∃ a, A = some a ∧ Cells w a vs) ∧ ∀ (i : Nat) (x : α) (u : Value), l[i]? = some x → vs[i]? = some u → R w u x
abbrev BRR : World → Value → List (List UInt8) → Prop := SeenL BR
abbrev BGG : World → Value → List (List (List UInt8)) → Prop := SeenL BRR
theorem RR.Ok.seen {r : RR} (h : r.Ok) {w : World} (hin : In w r.heap) : BRR w r.v r.rs := by
 obtain ⟨A, cap, hv, hA⟩ := h.form
 refine ⟨A, cap, r.L.map fun t => t.2.1, by rw [hv, RR.rs, List.length_map], by rw [RR.rs, List.length_map, List.length_map], fun hp => ?_, fun i x u hx hu => ?_⟩
 ·rw [RR.rs, List.length_map] at hp
  obtain ⟨g, hg⟩ := hA hp
  have hrow := h.row
  rw [hv, hg] at hrow
  exact ⟨_, hg, own_cellsI hrow fun q hq => hin q (List.mem_append_left _ hq)⟩
 ·rw [RR.rs, List.getElem?_map] at hx
  rw [List.getElem?_map] at hu
  cases ht : r.L[i]? with
  | none => rw [ht] at hx; cases hx
  | some t =>
   rw [ht] at hx hu
   cases hx
   cases hu
   exact h.br (fun q hq => hin q (List.mem_append_right _ hq)) (List.mem_of_getElem? ht)
theorem NR.Ok.seen {n : NR} (h : n.Ok) {w : World} (hin : In w n.heap) : BGG w n.v n.gs := by
 obtain ⟨A, cap, hv, hA⟩ := h.form
 refine ⟨A, cap, n.L.map RR.v, by rw [hv, NR.gs, List.length_map], by rw [NR.gs, List.length_map, List.length_map], fun hp => ?_, fun i x u hx hu => ?_⟩
 ·rw [NR.gs, List.length_map] at hp
  obtain ⟨g, hg⟩ := hA hp
  have hrow := h.row
  rw [hv, hg] at hrow
  exact ⟨_, hg, own_cellsI hrow fun q hq => hin q (List.mem_append_left _ hq)⟩
 ·rw [NR.gs, List.getElem?_map] at hx
  rw [List.getElem?_map] at hu
  cases ht : n.L[i]? with
  | none => rw [ht] at hx; cases hx
  | some t =>
   rw [ht] at hx hu
   cases hx
   cases hu
   have htm := List.mem_of_getElem? ht
   exact (h.rr t htm).seen (NR.in_get (fun q hq => hin q (List.mem_append_right _ hq)) htm)
theorem SeenL.form {α : Type} {R : World → Value → α → Prop} {w : World} {v : Value} {l : List α} (h : SeenL R w v l) : ∃ A cap, v = .slice A l.length cap := by
 obtain ⟨A, cap, _, h1, _⟩ := h
 exact ⟨A, cap, h1⟩
theorem SeenL.at {α : Type} {R : World → Value → α → Prop} {w : World} {A : Option Addr} {cap : Nat} {l : List α} (h : SeenL R w (.slice A l.length cap) l) {i : Nat} (hi : i < l.length) : ∃ (a : Addr) (vs : List Value) (u : Value), A = some a ∧ Cells w a vs ∧ vs[i]? = some u ∧ R w u l[i] := by
 obtain ⟨A', cap', vs, h1, h2, h3, h4⟩ := h
 injection h1 with e1 e2 e3
 obtain ⟨a, ha, hc⟩ := h3 (by omega)
 have hv : vs[i]? = some vs[i] := List.getElem?_eq_getElem (by omega)
 exact ⟨a, vs, vs[i], e1.trans ha, hc, hv, h4 i _ _ (List.getElem?_eq_getElem hi) hv⟩
attribute [local irreducible] sum gsE headE fileN contA readE grpE fillE
end Go.Proofs.YtfebkkmmagbnlaaGreatDoor
/-! Jn18 -/
namespace Go.Proofs.YtfebkkmmagbnlaaGreatDoor
open Go Go.Sx Go.MapKept Go.WideMaps Go.Maps
set_option maxRecDepth 100000
set_option linter.unusedVariables false
theorem alook_lets {a : AS} {n k : List UInt8} : alook (letsA a n).nm k = if n = k then none else alook a.nm k := by
 unfold letsA
 cases h : alook a.nm n with
 | none =>
  simp only
  split
  ·rename_i e
   rw [← e, h]
  ·rfl
 | some i =>
  simp only
  exact alook_mdel _ _ _
theorem alook_snoc (m : List (List UInt8 × Nat)) (n k : List UInt8) (i : Nat) (h : alook m n = none) : alook (m ++ [(n, i)]) k = if n = k then some i else alook m k := by
 split
 ·rename_i e
  rw [← e]
  exact alook_append_hit (fun q hq => alook_none.1 h q hq)
 ·rename_i e
  cases hk : alook m k with
  | some v => rw [alook_app (by rw [hk]; rfl), hk]
  | none =>
   refine alook_none.2 fun p hp => ?_
   rcases List.mem_append.1 hp with hp | hp
   ·exact alook_none.1 hk p hp
   ·rw [List.mem_singleton.1 hp]
    exact e
theorem alook_gives {a : AS} {n k : List UInt8} {i : Nat} : alook (givesA a n i).nm k = if n = k then some i else alook a.nm k := by
 unfold givesA
 split
 ·rename_i h
  split
  ·rename_i e
   rw [← e, h]
  ·rfl
 ·rename_i h
  simp only
  rw [alook_snoc _ _ _ _ (by rw [alook_lets, if_pos rfl]), alook_lets]
  split
  ·rfl
  ·rfl
theorem alook_write {a : AS} {n xs k : List UInt8} {i : Nat} : alook (writeA a n xs i).nm k = if n = k then some i else alook a.nm k := by
 unfold writeA
 simp only
 rw [alook_gives]
 split
 ·rfl
 ·rename_i e
  simp only
  rw [alook_lets, if_neg e]
theorem letsA_dt {a : AS} {n : List UInt8} : (letsA a n).dt = a.dt := by
 unfold letsA
 split <;> rfl
theorem givesA_dt {a : AS} {n : List UInt8} {i : Nat} : (givesA a n i).dt = a.dt := by
 unfold givesA
 split
 ·rfl
 ·exact letsA_dt
theorem dt_write {a : AS} {n xs : List UInt8} {i : Nat} : (writeA a n xs i).dt = updA a.dt i xs := by
 unfold writeA
 simp only
 rw [givesA_dt, letsA_dt]
theorem cont_write {a : AS} {n xs k : List UInt8} {i : Nat} (hf : ∀ q ∈ a.nm, q.2 ≠ i) : contA (writeA a n xs i) k = if n = k then xs else contA a k := by
 unfold contA
 rw [alook_write, dt_write]
 split
 ·rename_i e
  split at e
  ·cases e
  ·rename_i h
   rw [if_neg h, e]
 ·rename_i j e
  split at e
  ·rename_i h
   injection e with e
   rw [if_pos h, ← e]
   unfold updA
   rw [if_pos rfl]
  ·rename_i h
   rw [if_neg h, e]
   simp only
   unfold updA
   rw [if_neg (hf _ (alook_mem e))]
theorem alook_appA {a : AS} {n xs k : List UInt8} : alook (appA a n xs).nm k = alook a.nm k := by
 unfold appA
 split <;> rfl
def Sole (a : AS) : Prop := ∀ k k' i, alook a.nm k = some i → alook a.nm k' = some i → k = k'
theorem cont_app {a : AS} {n xs k : List UInt8} (hs : Sole a) (hn : alook a.nm n ≠ none) : contA (appA a n xs) k = if n = k then contA a n ++ xs else contA a k := by
 obtain ⟨i, hi⟩ := Option.ne_none_iff_exists'.1 hn
 unfold contA
 rw [alook_appA]
 have hd : (appA a n xs).dt = updA a.dt i (a.dt i ++ xs) := by
  unfold appA
  rw [hi]
 rw [hd]
 split
 ·rename_i e
  rw [hi]
  split
  ·rename_i h
   rw [← h, hi] at e
   cases e
  ·rfl
 ·rename_i j e
  rw [hi]
  split
  ·rename_i h
   rw [← h, hi] at e
   injection e with e
   simp only
   rw [← e]
   unfold updA
   rw [if_pos rfl]
  ·rename_i h
   unfold updA
   rw [if_neg]
   intro hj
   rw [hj] at e
   exact h (hs _ _ _ hi e)
theorem cont_lets {a : AS} {n k : List UInt8} (h : n ≠ k) : contA (letsA a n) k = contA a k := by
 unfold contA
 rw [alook_lets, if_neg h, letsA_dt]
theorem Sole.write {a : AS} (h : Sole a) {n xs : List UInt8} {i : Nat} (hf : ∀ q ∈ a.nm, q.2 ≠ i) : Sole (writeA a n xs i) := fun k k' j h1 h2 => by
 rw [alook_write] at h1 h2
 split at h1 <;> split at h2
 ·rename_i e1 e2
  rw [← e1, e2]
 ·injection h1 with h1
  exact absurd h1.symm (hf _ (alook_mem h2))
 ·injection h2 with h2
  exact absurd h2.symm (hf _ (alook_mem h1))
 ·exact h k k' j h1 h2
theorem Sole.app {a : AS} (h : Sole a) {n xs : List UInt8} : Sole (appA a n xs) := fun k k' j h1 h2 => by
 rw [alook_appA] at h1 h2
 exact h k k' j h1 h2
theorem Sole.lets {a : AS} (h : Sole a) {n : List UInt8} : Sole (letsA a n) := fun k k' j h1 h2 => by
 rw [alook_lets] at h1 h2
 split at h1
 ·cases h1
 ·split at h2
  ·cases h2
  ·exact h k k' j h1 h2
end Go.Proofs.YtfebkkmmagbnlaaGreatDoor
/-! Jn19 -/
namespace Go.Proofs.YtfebkkmmagbnlaaGreatDoor
open Go Go.Sx Go.MapKept Go.WideMaps Go.Maps
set_option maxRecDepth 100000
set_option linter.unusedVariables false
def valD (l : List UInt8) : Nat := l.foldl (fun n c => n * 10 + (c.toNat - 48)) 0
theorem valD_snoc (l : List UInt8) (c : UInt8) : valD (l ++ [c]) = valD l * 10 + (c.toNat - 48) := by
 unfold valD
 rw [List.foldl_append]
 rfl
theorem dig_nat {d : Nat} (h : d < 10) : (UInt8.ofNat (48 + d)).toNat = 48 + d := by
 rw [UInt8.toNat_ofNat']
 omega
theorem valD_dec (n : Nat) : valD (dec n) = n := by
 induction n using Nat.strongRecOn with
 | _ n ih =>
  by_cases h : n < 10
  ·rw [dec_small h]
   show 0 * 10 + ((UInt8.ofNat (48 + n)).toNat - 48) = n
   rw [dig_nat h]
   omega
  ·rw [dec_big (by omega), valD_snoc, ih (n / 10) (by omega), dig_nat (Nat.mod_lt _ (by decide))]
   omega
theorem dec_dig (n : Nat) : ∀ c ∈ dec n, c ≠ 46 := by
 induction n using Nat.strongRecOn with
 | _ n ih =>
  intro c hc e
  by_cases h : n < 10
  ·rw [dec_small h, List.mem_singleton] at hc
   rw [hc] at e
   have := congrArg UInt8.toNat e
   rw [dig_nat h] at this
   simp at this
   omega
  ·rw [dec_big (by omega)] at hc
   rcases List.mem_append.1 hc with hc | hc
   ·exact ih (n / 10) (by omega) c hc e
   ·rw [List.mem_singleton] at hc
    rw [hc] at e
    have := congrArg UInt8.toNat e
    rw [dig_nat (Nat.mod_lt _ (by decide))] at this
    simp at this
    omega
theorem dec_inj {n m : Nat} (h : dec n = dec m) : n = m := by rw [← valD_dec n, h, valD_dec]
theorem split46 {a b c d : List UInt8} (ha : ∀ x ∈ a, x ≠ 46) (hb : ∀ x ∈ b, x ≠ 46) (h : a ++ 46 :: c = b ++ 46 :: d) : a = b ∧ c = d := by
 induction a generalizing b with
 | nil =>
  cases b with
  | nil => exact ⟨rfl, by simpa using h⟩
  | cons y b =>
   rw [List.nil_append, List.cons_append] at h
   injection h with h1 h2
   exact absurd h1.symm (hb y (List.mem_cons_self ..))
 | cons x a ih =>
  cases b with
  | nil =>
   rw [List.nil_append, List.cons_append] at h
   injection h with h1 h2
   exact absurd h1 (ha x (List.mem_cons_self ..))
  | cons y b =>
   rw [List.cons_append, List.cons_append] at h
   injection h with h1 h2
   obtain ⟨h3, h4⟩ := ih (fun z hz => ha z (List.mem_cons_of_mem _ hz)) (fun z hz => hb z (List.mem_cons_of_mem _ hz)) h2
   exact ⟨by rw [h1, h3], h4⟩
theorem fileN_inj {name : List UInt8} {a p a' p' : Nat} (h : fileN name a p = fileN name a' p') : a = a' ∧ p = p' := by
 unfold fileN at h
 simp only [List.append_assoc, List.cons_append, List.nil_append] at h
 have h1 := List.append_cancel_left h
 injection h1 with _ h2
 obtain ⟨h3, h4⟩ := split46 (dec_dig a) (dec_dig a') h2
 exact ⟨dec_inj h3, dec_inj h4⟩
theorem fileN_ne (name : List UInt8) (a p : Nat) : fileN name a p ≠ name := fun h => by
 have := congrArg List.length h
 unfold fileN at this
 simp only [List.length_append, List.length_cons, List.length_nil] at this
 omega
theorem JS.rm {name : List UInt8} {age : Nat} {s : AS} (h : JS name age [] s) {n : List UInt8} (hn : n ≠ name) : JS name age [] (letsA s n) := by
 have hno : ∀ k, alook s.nm k = none → alook (letsA s n).nm k = none := fun k hk => by
  rw [alook_lets]
  split
  ·rfl
  ·exact hk
 refine ⟨?_, .inl ⟨rfl, ?_⟩, hno _ h.f1, fun a ha p => hno _ (h.nx a ha p)⟩
 ·rcases h.hd with ⟨h1, h2⟩ | ⟨h1, h2⟩
  ·exact .inl ⟨h1, hno _ h2⟩
  ·refine .inr ⟨?_, by rw [cont_lets hn]; exact h2⟩
   rw [alook_lets, if_neg hn]
   exact h1
 ·rcases h.f0 with ⟨_, h2⟩ | ⟨h2, _⟩
  ·exact hno _ h2
  ·exact absurd rfl h2
theorem JS.com {a : JA} {s : AS} (h : JS a.name a.age a.gs s) (hs : Sole s) {id : Nat} (hf : ∀ q ∈ s.nm, q.2 ≠ id) : JS a.name a.age (a.gs ++ [a.down]) (doA s (comT a id)) := by
 have h1 : ∀ p, fileN a.name a.age 0 ≠ fileN a.name a.age (p + 1) := fun p e => by have := (fileN_inj e).2; omega
 have h2 : ∀ b p, a.age < b → fileN a.name a.age 0 ≠ fileN a.name b p := fun b p hb e => by have := (fileN_inj e).1; omega
 have h3 := fileN_ne a.name a.age 0
 unfold comT
 by_cases hg : a.gs = []
 ·rw [if_pos hg]
  show JS _ _ _ (writeA s _ _ id)
  refine ⟨?_, .inr ⟨by simp, by rw [alook_write, if_pos rfl]; simp, by rw [cont_write hf, if_pos rfl, hg, gsE_snoc, gsE_nil, List.nil_append]⟩, ?_, fun b hb p => ?_⟩
  ·rw [alook_write, if_neg h3, cont_write hf, if_neg h3]
   exact h.hd
  ·rw [alook_write, if_neg (h1 0)]
   exact h.f1
  ·rw [alook_write, if_neg (h2 b p hb)]
   exact h.nx b hb p
 ·rw [if_neg hg]
  obtain ⟨hy, hc⟩ : alook s.nm (fileN a.name a.age 0) ≠ none ∧ contA s (fileN a.name a.age 0) = gsE a.gs := by
   rcases h.f0 with ⟨h4, _⟩ | ⟨_, h4, h5⟩
   ·exact absurd h4 hg
   ·exact ⟨h4, h5⟩
  show JS _ _ _ (appA s _ _)
  refine ⟨?_, .inr ⟨by simp, by rw [alook_appA]; exact hy, by rw [cont_app hs hy, if_pos rfl, hc, gsE_snoc]⟩, ?_, fun b hb p => ?_⟩
  ·rw [alook_appA, cont_app hs hy, if_neg h3]
   exact h.hd
  ·rw [alook_appA]
   exact h.f1
  ·rw [alook_appA]
   exact h.nx b hb p
end Go.Proofs.YtfebkkmmagbnlaaGreatDoor
/-! Jn20 -/
namespace Go.Proofs.YtfebkkmmagbnlaaGreatDoor
open Go Go.Sx Go.MapKept Go.WideMaps Go.Maps
set_option maxRecDepth 100000
set_option linter.unusedVariables false
structure Bd (a : AS) (u : Int) (n i : Nat) : Prop where
 us : a.used ≤ u
 nm : a.nm.length ≤ n
 id : ∀ q ∈ a.nm, q.2 < i
theorem mdel_le {β : Type} (m : List (List UInt8 × β)) (k : List UInt8) : (mdel m k).length ≤ m.length := by
 unfold mdel
 exact List.length_filter_le _ _
theorem mem_mdel {β : Type} {m : List (List UInt8 × β)} {k : List UInt8} {q : List UInt8 × β} (h : q ∈ mdel m k) : q ∈ m := by
 unfold mdel at h
 exact (List.mem_filter.1 h).1
theorem Bd.lets {a : AS} {u : Int} {n i : Nat} (h : Bd a u n i) (k : List UInt8) : Bd (letsA a k) u n i := by
 unfold letsA
 cases hk : alook a.nm k with
 | none => exact h
 | some j =>
  refine ⟨?_, Nat.le_trans (mdel_le _ _) h.nm, fun q hq => h.id q (mem_mdel hq)⟩
  simp only
  have := h.us
  split
  ·have : (0 : Int) ≤ ((a.dt j).length : Int) := Int.natCast_nonneg _
   omega
  ·exact this
theorem Bd.gives {a : AS} {u : Int} {n i : Nat} (h : Bd a u n i) (k : List UInt8) {j : Nat} (hj : j < i) : Bd (givesA a k j) u (n + 1) i := by
 unfold givesA
 split
 ·exact ⟨h.us, Nat.le_succ_of_le h.nm, h.id⟩
 ·have h1 := h.lets k
  refine ⟨h1.us, ?_, fun q hq => ?_⟩
  ·simp only [List.length_append, List.length_cons, List.length_nil]
   have := h1.nm
   omega
  ·rcases List.mem_append.1 hq with hq | hq
   ·exact h1.id q hq
   ·rw [List.mem_singleton.1 hq]
    exact hj
theorem Bd.mono {a : AS} {u u' : Int} {n n' i i' : Nat} (h : Bd a u n i) (hu : u ≤ u') (hn : n ≤ n') (hi : i ≤ i') : Bd a u' n' i' :=
 ⟨Int.le_trans h.us hu, Nat.le_trans h.nm hn, fun q hq => Nat.lt_of_lt_of_le (h.id q hq) hi⟩
theorem Bd.write {a : AS} {u : Int} {n i : Nat} (h : Bd a u n i) (k xs : List UInt8) : Bd (writeA a k xs i) (u + (xs.length : Int)) (n + 1) (i + 1) := by
 have h1 := (h.lets k).mono (Int.le_refl _) (Nat.le_refl _) (Nat.le_succ i)
 have h2 : Bd { letsA a k with dt := updA (letsA a k).dt i xs } u n (i + 1) := ⟨h1.us, h1.nm, h1.id⟩
 have h3 := h2.gives k (j := i) (Nat.lt_succ_self i)
 unfold writeA
 exact ⟨Int.add_le_add_right h3.us _, h3.nm, h3.id⟩
theorem Bd.app {a : AS} {u : Int} {n i : Nat} (h : Bd a u n i) (k xs : List UInt8) : Bd (appA a k xs) (u + (xs.length : Int)) n i := by
 unfold appA
 have := h.us
 split
 ·exact ⟨by omega, h.nm, h.id⟩
 ·exact ⟨by simp only; omega, h.nm, h.id⟩
end Go.Proofs.YtfebkkmmagbnlaaGreatDoor
/-! Jn21 -/
namespace Go.Proofs.YtfebkkmmagbnlaaGreatDoor
open Go Go.Sx Go.MapKept Go.WideMaps Go.Maps
set_option maxRecDepth 100000
set_option linter.unusedVariables false
def AllF (P : AS → Prop) (f : AF) : Prop := ∀ k, k ≤ f.pend.length → P (runA f.base (f.pend.take k))
theorem AllF.now {P : AS → Prop} {f : AF} (h : AllF P f) : P f.now := by
 have := h f.pend.length (Nat.le_refl _)
 rwa [List.take_length] at this
theorem AllF.mono {P Q : AS → Prop} {f : AF} (h : AllF P f) (hq : ∀ s, P s → Q s) : AllF Q f := fun k hk => hq _ (h k hk)
theorem AllF.and {P Q : AS → Prop} {f : AF} (h : AllF P f) (h2 : AllF Q f) : AllF (fun s => P s ∧ Q s) f := fun k hk => ⟨h k hk, h2 k hk⟩
theorem AllF.step {P : AS → Prop} {f : AF} (h : AllF P f) {t : AT} (ht : P (doA f.now t)) : AllF P (stepF f t) := fun k hk => by
 have hk' : k ≤ f.pend.length + 1 := by simpa [stepF] using hk
 show P (runA f.base ((f.pend ++ [t]).take k))
 rcases Nat.lt_or_ge k (f.pend.length + 1) with h1 | h1
 ·rw [List.take_append_of_le_length (by omega)]
  exact h k (by omega)
 ·rw [List.take_of_length_le (by rw [List.length_append]; simp; omega), runA_snoc]
  exact ht
theorem AllF.sync {P : AS → Prop} {f : AF} (h : P f.now) : AllF P (syncF f) := fun k hk => by
 have hk' : k ≤ 0 := by simpa [syncF] using hk
 have h0 : k = 0 := by omega
 subst h0
 exact h
theorem AllF.crash {P : AS → Prop} {f : AF} (h : AllF P f) (keep : Int) : AllF P (crashF f keep) := fun k hk => by
 have hk' : k ≤ 0 := by simpa [crashF] using hk
 have h0 : k = 0 := by omega
 subst h0
 show P (runA f.base (f.pend.take (keepN f.pend.length keep)))
 rcases Nat.le_total (keepN f.pend.length keep) f.pend.length with h1 | h1
 ·exact h _ h1
 ·rw [List.take_of_length_le h1, ← List.take_length (l := f.pend)]
  exact h _ (Nat.le_refl _)
theorem AllF.rm {P : AS → Prop} {f : AF} (h : AllF P f) {n : List UInt8} (ht : P (letsA f.now n)) : AllF P (rmF f n) := by
 unfold rmF
 split
 ·exact h.step ht
 ·exact h
theorem AllF.fuse {P : AS → Prop} {f : AF} (h : AllF P f) (n : Int) : AllF P (fuseF f n) := h
theorem AllF.new {P : AS → Prop} {room : Int} (h : P AS0) : AllF P (AF0 room) := fun k hk => by
 have hk' : k ≤ 0 := by simpa [AF0] using hk
 have h0 : k = 0 := by omega
 subst h0
 exact h
end Go.Proofs.YtfebkkmmagbnlaaGreatDoor
/-! Jn22 -/
namespace Go.Proofs.YtfebkkmmagbnlaaGreatDoor
open Go Go.Sx Go.MapKept Go.WideMaps Go.Maps
set_option maxRecDepth 100000
set_option linter.unusedVariables false
def JI (u : Int) (n i : Nat) (a : JA) (f : AF) : Prop := AllF (fun s => JS a.name a.age a.gs s ∧ Sole s ∧ Bd s u n i) f
theorem Bd.fresh {s : AS} {u : Int} {n i : Nat} (h : Bd s u n i) : ∀ q ∈ s.nm, q.2 ≠ i := fun q hq => Nat.ne_of_lt (h.id q hq)
theorem JI.mono {u u' : Int} {n n' i i' : Nat} {a : JA} {f : AF} (h : JI u n i a f) (hu : u ≤ u') (hn : n ≤ n') (hi : i ≤ i') : JI u' n' i' a f :=
 AllF.mono h fun s hs => ⟨hs.1, hs.2.1, hs.2.2.mono hu hn hi⟩
theorem JI.comNow {u : Int} {n i : Nat} {a : JA} {f : AF} (h : JI u n i a f) : JS a.name a.age (a.gs ++ [a.down]) (doA f.now (comT a i)) ∧ Sole (doA f.now (comT a i)) ∧ Bd (doA f.now (comT a i)) (u + ((grpE a.down).length : Int)) (n + 1) (i + 1) := by
 obtain ⟨h1, h2, h3⟩ := AllF.now h
 refine ⟨h1.com h2 h3.fresh, ?_, ?_⟩
 ·unfold comT
  split
  ·exact h2.write h3.fresh
  ·exact h2.app
 ·unfold comT
  split
  ·exact h3.write _ _
  ·exact (h3.app _ _).mono (Int.le_refl _) (Nat.le_succ n) (Nat.le_succ i)
theorem JI.com {u : Int} {n i : Nat} {a : JA} {f : AF} (h : JI u n i a f) (he : comE a f i = 0) : JI (u + ((grpE a.down).length : Int)) (n + 1) (i + 1) (comJ a f i) (comA a f i) := by
 have h0 := h.mono (show u ≤ u + ((grpE a.down).length : Int) by have : (0 : Int) ≤ ((grpE a.down).length : Int) := Int.natCast_nonneg _; omega) (Nat.le_succ n) (Nat.le_succ i)
 cases hd : a.dead
 ·by_cases hdn : a.down = []
  ·have e1 : comJ a f i = a := by simp [comJ, hd, hdn]
   have e2 : comA a f i = f := by simp [comA, hd, hdn]
   rw [e1, e2]
   exact h0
  ·cases hb : burnt f
   ·cases hb2 : burnt (stepF f (comT a i))
    ·obtain ⟨_, e1, e2⟩ := com3 (id := i) hd hdn hb hb2
     rw [e1, e2]
     refine AllF.sync ?_
     show _ ∧ _
     have := h.comNow
     have e : (stepF f (comT a i)).now = doA f.now (comT a i) := runA_snoc
     rw [e]
     exact this
    ·obtain ⟨e0, _⟩ := com2 (id := i) hd hdn hb hb2
     rw [e0] at he
     cases he
   ·obtain ⟨e0, _⟩ := com1 (id := i) hd hdn hb
    rw [e0] at he
    cases he
 ·have e0 : comE a f i = 26 := by simp [comE, hd]
  rw [e0] at he
  cases he
theorem JI.comBad {u : Int} {n i : Nat} {a : JA} {f : AF} (h : JI u n i a f) : AllF (fun s => JS a.name a.age a.gs s ∨ JS a.name a.age (a.gs ++ [a.down]) s) (comA a f i) := by
 have h0 : AllF (fun s => JS a.name a.age a.gs s ∨ JS a.name a.age (a.gs ++ [a.down]) s) f := AllF.mono h fun s hs => .inl hs.1
 have hs : AllF (fun s => JS a.name a.age a.gs s ∨ JS a.name a.age (a.gs ++ [a.down]) s) (stepF f (comT a i)) := h0.step (.inr h.comNow.1)
 unfold comA
 split
 ·exact h0
 ·split
  ·exact h0
  ·split
   ·exact h0
   ·split
    ·exact hs
    ·exact AllF.sync hs.now
end Go.Proofs.YtfebkkmmagbnlaaGreatDoor
/-! Jn23 -/
namespace Go.Proofs.YtfebkkmmagbnlaaGreatDoor
open Go Go.Sx Go.MapKept Go.WideMaps Go.Maps
set_option maxRecDepth 100000
set_option linter.unusedVariables false
theorem JI.crash {u : Int} {n i : Nat} {a : JA} {f : AF} (h : JI u n i a f) (keep : Int) : JI u n i { a with down := [] } (crashF f keep) := AllF.crash h keep
theorem JI.new {name : List UInt8} {room : Int} : JI 0 0 0 ⟨name, 0, [], [], false⟩ (AF0 room) := AllF.new ⟨⟨.inl ⟨rfl, rfl⟩, .inl ⟨rfl, rfl⟩, rfl, fun _ _ _ => rfl⟩, (fun k k' i h _ => by cases h), ⟨Int.le_refl _, Nat.le_refl _, fun q hq => by cases hq⟩⟩
end Go.Proofs.YtfebkkmmagbnlaaGreatDoor
/-! Jn24 -/
namespace Go.Proofs.YtfebkkmmagbnlaaGreatDoor
open Go Go.Sx Go.MapKept Go.WideMaps Go.Maps
set_option maxRecDepth 100000
set_option linter.unusedVariables false
theorem crashG_con (r : FR) (a : AF) (keep : Int) (w : World) (hok : r.Ok a) : Con Tryz.prog 24 [r.ptr, .int .i64 keep] w r.heap fun _ S' => ∃ r' : FR, S' = [r'.heap] ∧ r'.Ok (crashF a keep) ∧ r'.gf = r.gf :=
 (crash_con r a keep w hok).mono fun u S' hu => by
  obtain ⟨r', h2, h3, h4⟩ := hu
  exact ⟨r', h2, h3, h4.gf⟩
theorem fuseG_con (r : FR) (a : AF) (n : Int) (w : World) (hok : r.Ok a) (hn : -9223372036854775808 ≤ n ∧ n ≤ 9223372036854775807) : Con Tryz.prog 15 [r.ptr, .int .i64 n] w r.heap fun _ S' => ∃ r' : FR, S' = [r'.heap] ∧ r'.Ok (fuseF a n) ∧ r'.gf = r.gf :=
 (fuse_con r a n w hok hn).mono fun u S' hu => by
  obtain ⟨r', h2, h3, h4⟩ := hu
  exact ⟨r', h2, h3, h4.gf⟩
end Go.Proofs.YtfebkkmmagbnlaaGreatDoor
/-! Pg0 -/
namespace Go.Proofs.YtfebkkmmagbnlaaGreatDoor
open Go Go.Sx
set_option maxRecDepth 100000
set_option linter.unusedVariables false
theorem odd_part (x : Nat) (h : x ≠ 0) : ∃ k m, x = 2 ^ k * (2 * m + 1) := by
 induction x using Nat.strongRecOn with
 | ind x ih =>
  rcases Nat.mod_two_eq_zero_or_one x with h0 | h1
  ·obtain ⟨k, m, e⟩ := ih (x / 2) (by omega) (by omega)
   refine ⟨k + 1, m, ?_⟩
   rw [Nat.pow_succ, Nat.mul_comm (2 ^ k) 2, Nat.mul_assoc, ← e]
   omega
  ·exact ⟨0, x / 2, by rw [Nat.pow_zero, Nat.one_mul]; omega⟩
theorem tb_even (a j : Nat) : (2 * a).testBit j = (decide (0 < j) && a.testBit (j - 1)) := by
 cases j with
 | zero => simp
 | succ j => simp [Nat.testBit_succ]
theorem tb_odd (a j : Nat) : (2 * a + 1).testBit j = (decide (j = 0) || a.testBit (j - 1)) := by
 cases j with
 | zero => simp
 | succ j =>
  rw [Nat.testBit_succ, show (2 * a + 1) / 2 = a by omega]
  simp
theorem and_ee (a b : Nat) : (2 * a) &&& (2 * b) = 2 * (a &&& b) := by
 apply Nat.eq_of_testBit_eq
 intro j
 rw [Nat.testBit_and, tb_even, tb_even, tb_even, Nat.testBit_and]
 cases j <;> simp
theorem and_eo (a b : Nat) : (2 * a) &&& (2 * b + 1) = 2 * (a &&& b) := by
 apply Nat.eq_of_testBit_eq
 intro j
 rw [Nat.testBit_and, tb_even, tb_odd, tb_even, Nat.testBit_and]
 cases j <;> simp
theorem and_oe (a b : Nat) : (2 * a + 1) &&& (2 * b) = 2 * (a &&& b) := by
 rw [Nat.and_comm, and_eo, Nat.and_comm]
theorem and_oo (a b : Nat) : (2 * a + 1) &&& (2 * b + 1) = 2 * (a &&& b) + 1 := by
 apply Nat.eq_of_testBit_eq
 intro j
 rw [Nat.testBit_and, tb_odd, tb_odd, tb_odd, Nat.testBit_and]
 cases j <;> simp
theorem pow_pos2 (k : Nat) : 0 < 2 ^ k := Nat.pow_pos (by decide)
theorem and_pred (k m : Nat) : (2 ^ k * (2 * m + 1)) &&& (2 ^ k * (2 * m + 1) - 1) = 2 ^ (k + 1) * m := by
 induction k with
 | zero =>
  rw [Nat.pow_zero, Nat.one_mul, Nat.add_sub_cancel, and_oe, Nat.and_self, Nat.pow_one]
 | succ k ih =>
  have hp : 0 < 2 ^ k * (2 * m + 1) := Nat.mul_pos (pow_pos2 k) (by omega)
  rw [Nat.pow_succ, Nat.mul_comm (2 ^ k) 2, Nat.mul_assoc, show 2 * (2 ^ k * (2 * m + 1)) - 1 = 2 * (2 ^ k * (2 * m + 1) - 1) + 1 by omega, and_eo, ih]
  rw [Nat.pow_succ 2 (k + 1), Nat.mul_comm (2 ^ (k + 1)) 2, Nat.mul_assoc]
theorem and_compl (n m : Nat) (h : m < 2 ^ n) : m &&& (2 ^ n - (m + 1)) = 0 := by
 apply Nat.eq_of_testBit_eq
 intro j
 rw [Nat.testBit_and, Nat.testBit_two_pow_sub_succ h]
 cases m.testBit j <;> simp
theorem and_neg (n k m : Nat) (h : 2 ^ k * (2 * m + 1) < 2 ^ n) : (2 ^ k * (2 * m + 1)) &&& (2 ^ n - 2 ^ k * (2 * m + 1)) = 2 ^ k := by
 induction k generalizing n with
 | zero =>
  rw [Nat.pow_zero, Nat.one_mul] at h ⊢
  cases n with
  | zero => rw [Nat.pow_zero] at h; omega
  | succ n =>
   rw [Nat.pow_succ] at h ⊢
   rw [show 2 ^ n * 2 - (2 * m + 1) = 2 * (2 ^ n - (m + 1)) + 1 by omega, and_oo, and_compl n m (by omega)]
 | succ k ih =>
  have hp : 0 < 2 ^ k * (2 * m + 1) := Nat.mul_pos (pow_pos2 k) (by omega)
  cases n with
  | zero =>
   rw [Nat.pow_succ, Nat.mul_comm (2 ^ k) 2, Nat.mul_assoc, Nat.pow_zero] at h
   omega
  | succ n =>
   rw [Nat.pow_succ, Nat.mul_comm (2 ^ k) 2, Nat.mul_assoc] at h ⊢
   rw [Nat.pow_succ] at h ⊢
   rw [show 2 ^ n * 2 - 2 * (2 ^ k * (2 * m + 1)) = 2 * (2 ^ n - 2 ^ k * (2 * m + 1)) by omega, and_ee, ih n (by omega)]
theorem filter_first {n k : Nat} {p q : Nat → Bool} (hk : k < n) (h1 : ∀ j, j < k → p j = false) (h2 : p k = true) (h3 : ∀ j, j ≤ k → q j = false) (h4 : ∀ j, k < j → p j = q j) : (List.range n).filter p = k :: (List.range n).filter q := by
 induction n with
 | zero => omega
 | succ n ih =>
  rw [List.range_succ, List.filter_append, List.filter_append]
  rcases Nat.lt_or_ge k n with h | h
  ·rw [ih h]
   have : [n].filter p = [n].filter q := by simp [List.filter_cons, h4 n h]
   rw [this, List.cons_append]
  ·obtain rfl : k = n := by omega
   have e1 : (List.range k).filter p = [] := List.filter_eq_nil_iff.2 fun j hj => by simp [h1 j (List.mem_range.1 hj)]
   have e2 : (List.range k).filter q = [] := List.filter_eq_nil_iff.2 fun j hj => by simp [h3 j (by have := List.mem_range.1 hj; omega)]
   rw [e1, e2]
   simp [h2, h3 k (Nat.le_refl _)]
def bitsOf (i x : Nat) : List Nat := ((List.range 64).filter fun j => x.testBit j).map (i * 64 + ·)
theorem bits_zero (i : Nat) : bitsOf i 0 = [] := by
 unfold bitsOf
 rw [List.filter_eq_nil_iff.2 fun j hj => by simp]
 rfl
theorem tb_low (k m j : Nat) (h : j < k) : (2 ^ k * m).testBit j = false := by
 rw [Nat.testBit_two_pow_mul]
 have h1 : decide (j ≥ k) = false := by simp; omega
 rw [h1]
 rfl
theorem bits_step (i k m : Nat) (h : 2 ^ k * (2 * m + 1) < 2 ^ 64) : k < 64 ∧ bitsOf i (2 ^ k * (2 * m + 1)) = (i * 64 + k) :: bitsOf i (2 ^ (k + 1) * m) := by
 have hk : k < 64 := by
  rcases Nat.lt_or_ge k 64 with h1 | h1
  ·exact h1
  ·have h2 : 2 ^ 64 ≤ 2 ^ k := Nat.pow_le_pow_right (by decide) h1
   have h3 : 2 ^ k * 1 ≤ 2 ^ k * (2 * m + 1) := Nat.mul_le_mul_left _ (by omega)
   omega
 refine ⟨hk, ?_⟩
 unfold bitsOf
 rw [filter_first hk (q := fun j => (2 ^ (k + 1) * m).testBit j) (fun j hj => tb_low k _ j hj) ?_ (fun j hj => tb_low (k + 1) _ j (by omega)) (fun j hj => ?_)]
 ·rfl
 ·rw [Nat.testBit_two_pow_mul]
  simp
 ·rw [Nat.testBit_two_pow_mul, Nat.testBit_two_pow_mul, tb_odd]
  have h1 : decide (j ≥ k) = true := by simp; omega
  have h2 : decide (j ≥ k + 1) = true := by simp; omega
  have h3 : decide (j - k = 0) = false := by simp; omega
  rw [h1, h2, h3, show j - (k + 1) = j - k - 1 by omega]
  simp
theorem mem_bits {i x n : Nat} : n ∈ bitsOf i x ↔ n / 64 = i ∧ x.testBit (n % 64) = true := by
 unfold bitsOf
 rw [List.mem_map]
 constructor
 ·rintro ⟨j, hj, rfl⟩
  have h := List.mem_filter.1 hj
  have h1 := List.mem_range.1 h.1
  rw [show (i * 64 + j) / 64 = i by omega, show (i * 64 + j) % 64 = j by omega]
  exact ⟨rfl, h.2⟩
 ·rintro ⟨h1, h2⟩
  exact ⟨n % 64, List.mem_filter.2 ⟨List.mem_range.2 (Nat.mod_lt _ (by decide)), h2⟩, by omega⟩
theorem bits_nodup (i x : Nat) : (bitsOf i x).Nodup := by
 unfold bitsOf
 refine List.Pairwise.map _ (fun a b h => ?_) ((List.nodup_range).filter _)
 omega
def bitsL : List Nat → Nat → List Nat
 | [], _ => []
 | x :: l, i => bitsOf i x ++ bitsL l (i + 1)
theorem bitsL_append (l l2 : List Nat) (i : Nat) : bitsL (l ++ l2) i = bitsL l i ++ bitsL l2 (i + l.length) := by
 induction l generalizing i with
 | nil => rfl
 | cons x l ih => rw [List.cons_append, bitsL, bitsL, ih, List.append_assoc, List.length_cons, show i + 1 + l.length = i + (l.length + 1) by omega]
theorem mem_bitsL {l : List Nat} {i n : Nat} : n ∈ bitsL l i ↔ i ≤ n / 64 ∧ (l.getD (n / 64 - i) 0).testBit (n % 64) = true := by
 induction l generalizing i with
 | nil => simp [bitsL]
 | cons x l ih =>
  rw [bitsL, List.mem_append, mem_bits, ih]
  constructor
  ·rintro (⟨h1, h2⟩ | ⟨h1, h2⟩)
   ·refine ⟨by omega, ?_⟩
    rw [show n / 64 - i = 0 by omega]
    exact h2
   ·refine ⟨by omega, ?_⟩
    rw [show n / 64 - i = (n / 64 - (i + 1)) + 1 by omega, List.getD_cons_succ]
    exact h2
  ·rintro ⟨h1, h2⟩
   rcases Nat.lt_or_ge i (n / 64) with h | h
   ·refine .inr ⟨h, ?_⟩
    rw [show n / 64 - i = (n / 64 - (i + 1)) + 1 by omega, List.getD_cons_succ] at h2
    exact h2
   ·refine .inl ⟨by omega, ?_⟩
    rw [show n / 64 - i = 0 by omega] at h2
    exact h2
theorem bitsL_nodup (l : List Nat) (i : Nat) : (bitsL l i).Nodup := by
 induction l generalizing i with
 | nil => exact List.nodup_nil
 | cons x l ih =>
  rw [bitsL]
  refine List.nodup_append.2 ⟨bits_nodup i x, ih (i + 1), fun a ha b hb e => ?_⟩
  have h1 := (mem_bits.1 ha).1
  have h2 := (mem_bitsL.1 hb).1
  omega
theorem mem_bits_set {l : List Nat} {n k : Nat} (hn : n / 64 < l.length) : k ∈ bitsL (l.set (n / 64) (l.getD (n / 64) 0 ||| 2 ^ (n % 64))) 0 ↔ k = n ∨ k ∈ bitsL l 0 := by
 rw [mem_bitsL, mem_bitsL, Nat.sub_zero]
 simp only [Nat.zero_le, true_and]
 have hp : ∀ j, (2 ^ (n % 64)).testBit j = decide (n % 64 = j) := fun j => Nat.testBit_two_pow
 by_cases h : k / 64 = n / 64
 ·have e : (l.set (n / 64) (l.getD (n / 64) 0 ||| 2 ^ (n % 64))).getD (k / 64) 0 = l.getD (n / 64) 0 ||| 2 ^ (n % 64) := by
   rw [h, List.getD_eq_getElem?_getD, List.getElem?_set_self hn, Option.getD_some]
  rw [e, Nat.testBit_or, hp, h, Bool.or_eq_true, decide_eq_true_eq]
  constructor
  ·rintro (h1 | h1)
   ·exact .inr h1
   ·exact .inl (by omega)
  ·rintro (h1 | h1)
   ·exact .inr (by omega)
   ·exact .inl h1
 ·have e : (l.set (n / 64) (l.getD (n / 64) 0 ||| 2 ^ (n % 64))).getD (k / 64) 0 = l.getD (k / 64) 0 := by
   rw [List.getD_eq_getElem?_getD, List.getElem?_set_ne (fun h2 => h h2.symm), ← List.getD_eq_getElem?_getD]
  rw [e]
  constructor
  ·exact .inr
  ·rintro (h1 | h1)
   ·exact absurd (by rw [h1]) h
   ·exact h1
def dbTab : List UInt8 := [0, 1, 56, 2, 57, 49, 28, 3, 61, 58, 42, 50, 38, 29, 17, 4, 62, 47, 59, 36, 45, 43, 51, 22, 53, 39, 33, 30, 24, 18, 12, 5, 63, 55, 48, 27, 60, 41, 37, 16, 46, 35, 44, 21, 52, 32, 23, 11, 54, 26, 40, 15, 34, 20, 31, 10, 25, 14, 19, 9, 13, 8, 7, 6]
theorem db_all : ∀ k, k < 64 → (dbTab.getD (2 ^ k * 285870213051353865 % 18446744073709551616 / 288230376151711744) 0).toNat = k := by decide
end Go.Proofs.YtfebkkmmagbnlaaGreatDoor
/-! Pg1 -/
namespace Go.Proofs.YtfebkkmmagbnlaaGreatDoor
open Go Go.Sx
set_option maxRecDepth 100000
set_option linter.unusedVariables false
abbrev PE := Bool × List UInt8
def PE0 : PE := (false, [])
def applyP (l : List PE) (n : Nat) (x : PE) : List PE := (l ++ List.replicate (n + 1 - l.length) PE0).set n x
def replayG (l : List PE) (g : List (Nat × PE)) : List PE := g.foldl (fun l r => applyP l r.1 r.2) l
def replay (G : List (List (Nat × PE))) : List PE := G.foldl replayG []
theorem applyP_len (l : List PE) (n : Nat) (x : PE) : (applyP l n x).length = max l.length (n + 1) := by
 unfold applyP
 rw [List.length_set, List.length_append, List.length_replicate]
 omega
theorem getD_fill (l : List PE) (k m : Nat) : (l ++ List.replicate k PE0).getD m PE0 = l.getD m PE0 := by
 rw [List.getD_eq_getElem?_getD, List.getD_eq_getElem?_getD]
 rcases Nat.lt_or_ge m l.length with h | h
 ·rw [List.getElem?_append_left h]
 ·rw [List.getElem?_append_right h, List.getElem?_eq_none h]
  rcases Nat.lt_or_ge (m - l.length) k with h2 | h2
  ·rw [List.getElem?_replicate, if_pos h2]
   rfl
  ·rw [List.getElem?_eq_none (by rw [List.length_replicate]; exact h2)]
theorem getD_set {α : Type} (l : List α) (n m : Nat) (x d : α) (h : n < l.length) : (l.set n x).getD m d = if m = n then x else l.getD m d := by
 rw [List.getD_eq_getElem?_getD, List.getD_eq_getElem?_getD]
 split
 ·rename_i e
  rw [e, List.getElem?_set_self h]
  rfl
 ·rename_i e
  rw [List.getElem?_set_ne (fun h2 => e h2.symm)]
theorem applyP_get (l : List PE) (n m : Nat) (x : PE) : (applyP l n x).getD m PE0 = if m = n then x else l.getD m PE0 := by
 unfold applyP
 rw [getD_set _ _ _ _ _ (by rw [List.length_append, List.length_replicate]; omega), getD_fill]
theorem replayG_get (cur : List PE) (D : List Nat) : ∀ (l : List PE) (m : Nat), (replayG l (D.map fun n => (n, cur.getD n PE0))).getD m PE0 = if m ∈ D then cur.getD m PE0 else l.getD m PE0 := by
 induction D with
 | nil => intro l m; simp [replayG]
 | cons n D ih =>
  intro l m
  show (replayG (applyP l n (cur.getD n PE0)) (D.map fun n => (n, cur.getD n PE0))).getD m PE0 = _
  rw [ih, applyP_get]
  by_cases h : m ∈ D
  ·rw [if_pos h, if_pos (List.mem_cons_of_mem _ h)]
  ·rw [if_neg h]
   by_cases h2 : m = n
   ·rw [if_pos h2, if_pos (by rw [h2]; exact List.mem_cons_self ..), h2]
   ·rw [if_neg h2, if_neg (fun h3 => (List.mem_cons.1 h3).elim h2 h)]
theorem replayG_len (cur : List PE) (D : List Nat) : ∀ (l : List PE), l.length ≤ (replayG l (D.map fun n => (n, cur.getD n PE0))).length ∧ (∀ n ∈ D, n < (replayG l (D.map fun n => (n, cur.getD n PE0))).length) ∧ ∀ k, l.length ≤ k → (∀ n ∈ D, n < k) → (replayG l (D.map fun n => (n, cur.getD n PE0))).length ≤ k := by
 induction D with
 | nil => intro l; exact ⟨Nat.le_refl _, (fun n h => by cases h), fun k h _ => h⟩
 | cons n D ih =>
  intro l
  obtain ⟨h1, h2, h3⟩ := ih (applyP l n (cur.getD n PE0))
  have h4 := applyP_len l n (cur.getD n PE0)
  refine ⟨Nat.le_trans (by omega) h1, fun m hm => ?_, fun k hk hd => ?_⟩
  ·rcases List.mem_cons.1 hm with rfl | hm
   ·exact Nat.lt_of_lt_of_le (by omega) h1
   ·exact h2 m hm
  ·exact h3 k (by have := hd n (List.mem_cons_self ..); omega) fun m hm => hd m (List.mem_cons_of_mem _ hm)
structure PR (last cur : List PE) (D : List Nat) : Prop where
 ll : last.length ≤ cur.length
 lt : ∀ n ∈ D, n < cur.length
 eq : ∀ n, n < cur.length → n ∉ D → n < last.length ∧ last.getD n PE0 = cur.getD n PE0
theorem ext_getD {l l2 : List PE} (h1 : l.length = l2.length) (h2 : ∀ m, l.getD m PE0 = l2.getD m PE0) : l = l2 := by
 refine List.ext_getElem h1 fun i a b => ?_
 have := h2 i
 rw [List.getD_eq_getElem?_getD, List.getD_eq_getElem?_getD, List.getElem?_eq_getElem a, List.getElem?_eq_getElem b] at this
 exact this
theorem PR.replay {last cur : List PE} {D : List Nat} (h : PR last cur D) : replayG last (D.map fun n => (n, cur.getD n PE0)) = cur := by
 obtain ⟨h1, h2, h3⟩ := replayG_len cur D last
 have h4 := h3 cur.length h.ll h.lt
 refine ext_getD ?_ fun m => ?_
 ·rcases Nat.lt_or_ge last.length cur.length with h5 | h5
  ·have h6 : cur.length - 1 ∈ D := by
    by_cases h7 : cur.length - 1 ∈ D
    ·exact h7
    ·have := (h.eq (cur.length - 1) (by omega) h7).1
     omega
   have := h2 _ h6
   omega
  ·omega
 ·rw [replayG_get]
  by_cases h5 : m ∈ D
  ·rw [if_pos h5]
  ·rw [if_neg h5]
   rcases Nat.lt_or_ge m cur.length with h6 | h6
   ·exact (h.eq m h6 h5).2
   ·have := h.ll
    rw [List.getD_eq_getElem?_getD, List.getD_eq_getElem?_getD, List.getElem?_eq_none h6, List.getElem?_eq_none (by omega)]
theorem PR.refl (l : List PE) : PR l l [] := ⟨Nat.le_refl _, (fun n h => by cases h), fun n h _ => ⟨h, rfl⟩⟩
theorem PR.set {last cur : List PE} {D D' : List Nat} (h : PR last cur D) {n : Nat} (hn : n < cur.length) (x : PE) (hD : ∀ k, k ∈ D' ↔ k = n ∨ k ∈ D) : PR last (cur.set n x) D' := by
 refine ⟨by rw [List.length_set]; exact h.ll, fun k hk => ?_, fun k hk hkD => ?_⟩
 ·rw [List.length_set]
  rcases (hD k).1 hk with rfl | hk
  ·exact hn
  ·exact h.lt k hk
 ·rw [List.length_set] at hk
  have h1 : k ≠ n := fun e => hkD ((hD k).2 (.inl e))
  rw [getD_set _ _ _ _ _ hn, if_neg h1]
  exact h.eq k hk fun h2 => hkD ((hD k).2 (.inr h2))
theorem PR.push {last cur : List PE} {D D' : List Nat} (h : PR last cur D) (x : PE) (hD : ∀ k, k ∈ D' ↔ k = cur.length ∨ k ∈ D) : PR last (cur ++ [x]) D' := by
 refine ⟨by rw [List.length_append]; exact Nat.le_trans h.ll (Nat.le_add_right _ _), fun k hk => ?_, fun k hk hkD => ?_⟩
 ·rw [List.length_append, List.length_singleton]
  rcases (hD k).1 hk with rfl | hk
  ·omega
  ·have := h.lt k hk
   omega
 ·rw [List.length_append, List.length_singleton] at hk
  have h1 : k ≠ cur.length := fun e => hkD ((hD k).2 (.inl e))
  have h2 := h.eq k (by omega) fun h2 => hkD ((hD k).2 (.inr h2))
  refine ⟨h2.1, ?_⟩
  rw [h2.2, List.getD_eq_getElem?_getD, List.getD_eq_getElem?_getD, List.getElem?_append_left (by omega)]
theorem replay_snoc (G : List (List (Nat × PE))) (g : List (Nat × PE)) : replay (G ++ [g]) = replayG (replay G) g := by
 unfold replay
 rw [List.foldl_append]
 rfl
def szD (cur : List PE) (D : List Nat) : Nat := (D.map fun n => (cur.getD n PE0).2.length).sum
theorem sum_perm {l l' : List Nat} (h : l.Perm l') : l.sum = l'.sum := by
 induction h with
 | nil => rfl
 | cons x _ ih => rw [List.sum_cons, List.sum_cons, ih]
 | swap x y l => rw [List.sum_cons, List.sum_cons, List.sum_cons, List.sum_cons]; omega
 | trans _ _ ih1 ih2 => exact ih1.trans ih2
theorem sum_filter (f : Nat → Nat) (p : Nat → Bool) (l : List Nat) : ((l.filter p).map f).sum ≤ (l.map f).sum := by
 induction l with
 | nil => exact Nat.le_refl _
 | cons x l ih =>
  rw [List.filter_cons]
  split
  ·rw [List.map_cons, List.sum_cons, List.map_cons, List.sum_cons]; omega
  ·rw [List.map_cons, List.sum_cons]; omega
theorem szD_perm (cur : List PE) {D D' : List Nat} (h : D.Perm D') : szD cur D = szD cur D' := sum_perm (h.map _)
theorem szD_congr {cur cur' : List PE} {D : List Nat} (h : ∀ n ∈ D, cur.getD n PE0 = cur'.getD n PE0) : szD cur D = szD cur' D := by
 unfold szD
 rw [List.map_congr_left fun n hn => by rw [h n hn]]
theorem nodup_perm {D D' : List Nat} (h1 : D.Nodup) (h2 : D'.Nodup) (h : ∀ k, k ∈ D ↔ k ∈ D') : D.Perm D' := (List.perm_ext_iff_of_nodup h1 h2).2 h
theorem szD_add {cur cur' : List PE} {D D' : List Nat} {n : Nat} {x : PE} (h1 : D.Nodup) (h2 : D'.Nodup) (hD : ∀ k, k ∈ D' ↔ k = n ∨ k ∈ D) (hx : cur'.getD n PE0 = x) (hc : ∀ k, k ≠ n → k ∈ D → cur'.getD k PE0 = cur.getD k PE0) : szD cur' D' ≤ szD cur D + x.2.length ∧ D'.length ≤ D.length + 1 := by
 have e : D'.Perm (n :: D.filter (· ≠ n)) := by
  refine nodup_perm h2 (List.nodup_cons.2 ⟨by simp, h1.filter _⟩) fun k => ?_
  rw [hD, List.mem_cons, List.mem_filter]
  constructor
  ·rintro (h | h)
   ·exact .inl h
   ·by_cases hk : k = n
    ·exact .inl hk
    ·exact .inr ⟨h, by simpa using hk⟩
  ·rintro (h | h)
   ·exact .inl h
   ·exact .inr h.1
 have h3 : szD cur' (D.filter (· ≠ n)) = szD cur (D.filter (· ≠ n)) := szD_congr fun k hk => by
  have := List.mem_filter.1 hk
  exact hc k (by simpa using this.2) this.1
 have h4 : szD cur (D.filter (· ≠ n)) ≤ szD cur D := by
  unfold szD
  exact sum_filter _ _ _
 have h5 := (List.length_filter_le (fun k => decide (k ≠ n)) D)
 refine ⟨?_, ?_⟩
 ·rw [szD_perm cur' e]
  have h6 : szD cur' (n :: D.filter (· ≠ n)) = x.2.length + szD cur' (D.filter (· ≠ n)) := by
   unfold szD
   rw [List.map_cons, List.sum_cons, hx]
  omega
 ·rw [e.length_eq, List.length_cons]
  omega
end Go.Proofs.YtfebkkmmagbnlaaGreatDoor
/-! SxT -/
namespace Go.Sx
open Go Go.ChangeShapes Go.WideShapes Go.ChangeAt Go.RowKit
set_option linter.unusedVariables false
end Go.Sx
/-! Pg2 -/
namespace Go.Proofs.YtfebkkmmagbnlaaGreatDoor
open Go Go.Sx
set_option maxRecDepth 100000
set_option maxHeartbeats 4000000
set_option linter.unusedVariables false
set_option linter.unusedSimpArgs false
attribute [local irreducible] J JQ QS Con W opW
theorem bw_and64 (a b : Nat) (ha : a < 18446744073709551616) (hb : b < 18446744073709551616) : bw .and .u64 (a : Int) (b : Int) = ((a &&& b : Nat) : Int) := by
 have e : bw .and .u64 (a : Int) (b : Int) = IntKind.u64.wrap (((BitVec.ofInt 64 (a : Int) &&& BitVec.ofInt 64 (b : Int)).toNat : Nat) : Int) := rfl
 have hlt : a &&& b < 18446744073709551616 := Nat.lt_of_le_of_lt Nat.and_le_left ha
 have e1 : ((a : Int) % ((2 ^ 64 : Nat) : Int)).toNat = a := by omega
 have e2 : ((b : Int) % ((2 ^ 64 : Nat) : Int)).toNat = b := by omega
 rw [e, BitVec.toNat_and, BitVec.toNat_ofInt, BitVec.toNat_ofInt, e1, e2, IntKind.wrap_u64]
 omega
def TB (w : World) : Prop := 0 < w.heap.size ∧ Cells w ⟨0, 0, none⟩ (ints dbTab)
theorem TB.keep {w w' : World} {D : List Nat} {S : List SH} (h : TB w) (hs : Sig ⟨w, D⟩ S w') (hD : 0 ∉ D) : TB w' := ⟨Nat.lt_of_lt_of_le h.1 hs.size, cells_stay h.2 hs hD⟩
theorem mul_db (k : Nat) : IntKind.u64.wrap (((2 ^ k : Nat) : Int) * 285870213051353865) = ((2 ^ k * 285870213051353865 % 18446744073709551616 : Nat) : Int) := by
 rw [IntKind.wrap_u64, show ((2 ^ k : Nat) : Int) * 285870213051353865 = ((2 ^ k * 285870213051353865 : Nat) : Int) by rw [Int.natCast_mul]; rfl]
 generalize 2 ^ k * 285870213051353865 = y
 omega
theorem shr_db (y : Nat) : ((y : Nat) : Int).fdiv (2 ^ min (Int.toNat 58) IntKind.u64.bits) = ((y / 288230376151711744 : Nat) : Int) := by
 rw [show (2 : Int) ^ min (Int.toNat 58) IntKind.u64.bits = 288230376151711744 by decide, Int.fdiv_eq_ediv_of_nonneg _ (by decide)]
 omega
def pjName (name : List UInt8) : List UInt8 := name ++ [46, 106] ++ dec 0
theorem uload_con (g i : Nat) (l : List Value) (e : TypeId) (fz : Nat × Nat) (n : Int) (w : World) (hc : w.heap[g]? = some (.cells l.toArray e fz)) (hi : l[i]? = some (.int .u64 n)) : Con Tryz.prog 66 [.pointer (some ⟨g, i, none⟩)] w [] fun v _ => v = .int .u64 n := by
 refine con_of_tree mix Tryz.func66 T66_ok (by kernel_rfl) ?_
 unfold T66
 refine j_q (qs_ac) ?_
 refine j_q (qs_nil rfl) ?_
 refine j_q (qs_field U74 rfl sz64 (by decide) rfl) ?_
 refine j_q (qs_extw (f := 91) (fn := Tryz.f91) (e := fun _ => pure .nilIface) rfl rfl rfl (fun w' hw' => run_call_load Tryz.func91 (by kernel_rfl) (by kernel_rfl) (by kernel_rfl) .u64 (by kernel_rfl) (by rw [cell_of ((hw'.frame g (lt_of_get hc) (by simp)).trans hc)]; exact hi))) ?_
 refine j_ret_con (vs := [_]) (fun w' hw' => ⟨rfl, trivial⟩) ?_
 rfl
theorem ustore_con (g i : Nat) (l : List Value) (e : TypeId) (n v : Int) (w : World) (hi : l[i]? = some (.int .u64 n)) : Con Tryz.prog 44 [.pointer (some ⟨g, i, none⟩), .int .u64 v] w [(g, .cells l.toArray e (0, 0))] fun u S' => u = .tuple #[] ∧ S' = [[(g, .cells (l.set i (.int .u64 v)).toArray e (0, 0))]] := by
 refine con_of_tree mix Tryz.func44 T44_ok (by kernel_rfl) ?_
 unfold T44
 refine j_q (qs_nil rfl) ?_
 refine j_q (qs_field U74 rfl sz64 (by decide) rfl) ?_
 refine j_extset (u := .int .u64 v) 0 rfl rfl rfl rfl (fun w' hw' => run_call_store Tryz.func79 (by kernel_rfl) (by kernel_rfl) (by kernel_rfl) (by kernel_rfl) (k := .u64) (y := v) (by rw [cell_of hw']; exact hi) (notFrozen hw')) ?_
 refine j_ret_con (vs := []) (fun w' hw' => trivial) ?_
 exact ⟨rfl, rfl⟩
theorem tz_con (k m : Nat) (w : World) (h : 2 ^ k * (2 * m + 1) < 2 ^ 64) (hT : TB w) : Con Tryz.prog 67 [.int .u64 ((2 ^ k * (2 * m + 1) : Nat) : Int)] w [] fun v _ => v = .int .i64 (k : Int) := by
 refine con_of_tree mix Tryz.func67 T67_ok (by kernel_rfl) ?_
 unfold T67
 have hk := (bits_step 0 k m h).1
 have hdb := db_all k hk
 obtain ⟨x, hx⟩ : ∃ x, x = 2 ^ k * (2 * m + 1) := ⟨_, rfl⟩
 have hp : 0 < x := by rw [hx]; exact Nat.mul_pos (pow_pos2 k) (by omega)
 have han := and_neg 64 k m h
 rw [← hx] at h han ⊢
 have h2 : x < 18446744073709551616 := h
 have hneg : IntKind.u64.wrap (0 - (x : Int)) = ((18446744073709551616 - x : Nat) : Int) := by
  rw [IntKind.wrap_u64]
  omega
 have hand : bw .and .u64 (x : Int) ((18446744073709551616 - x : Nat) : Int) = ((2 ^ k : Nat) : Int) := by
  rw [bw_and64 _ _ h2 (by omega)]
  exact congrArg _ han
 obtain ⟨j, hj⟩ : ∃ j, j = 2 ^ k * 285870213051353865 % 18446744073709551616 / 288230376151711744 := ⟨_, rfl⟩
 rw [← hj] at hdb
 have hj64 : j < 64 := by omega
 refine j_q (qs_ac) ?_
 refine j_q (qs_eql rfl rfl) ?_
 refine j_cond rfl (fun hc0 => ?_) (fun hc0 => ?_)
 ·skip
  rw [beq_iff_eq] at hc0
  omega
 ·skip
  refine j_q (qs_neg rfl) ?_
  rw [hneg]
  refine j_q (qs_and_ rfl rfl) ?_
  rw [hand]
  refine j_q (qs_mul rfl rfl) ?_
  rw [mul_db]
  refine j_q (qs_shr rfl rfl (by decide)) ?_
  rw [shr_db, ← hj]
  refine j_q (qs_ix0 U164 sz5 rfl rfl (by omega)) ?_
  refine j_q (qs_loadro8 (g := 0) (i := j) (l := dbTab) (rd_cells hT.2 (by simp)) U5 (by show Value.pointer (some ⟨0, (j : Int).toNat, none⟩) = _; rw [Int.toNat_natCast]) (by show j < 64; exact hj64)) ?_
  rw [hdb]
  refine j_q (qs_conv U5 U3 rfl) ?_
  rw [show IntKind.i64.wrap (k : Int) = (k : Int) by rw [IntKind.wrap_i64]; omega]
  refine j_ret_con (vs := [_]) (fun w' hw' => ⟨rfl, trivial⟩) ?_
  rfl
theorem plog_con (g : Nat) (l : List Value) (name : List UInt8) (e : TypeId) (fz : Nat × Nat) (w : World) (hc : w.heap[g]? = some (.cells l.toArray e fz)) (hi : l[1]? = some (.string (bs name))) (hl : name.length ≤ 1000) (hP : P10 w) : Con Tryz.prog 33 [.pointer (some ⟨g, 0, none⟩), .int .u64 0] w [] fun v _ => v = .string (bs (pjName name)) := by
 refine con_of_tree mix Tryz.func33 T33_ok (by kernel_rfl) ?_
 unfold T33
 have hd0 := dec_len (show 0 < 10000 by decide)
 refine j_q (qs_ac) ?_
 refine j_draw ?_
 refine jq_q (qs_nil rfl) ?_
 refine jq_q (qs_field U78 rfl sz9 (by decide) rfl) ?_
 refine jq_q (qs_loadR (v := .string (bs name)) (a := ⟨g, 0, none⟩) (i := 1) (rd_cells (fun j u hj => by rw [add_off, Nat.zero_add, cell_of hc]; exact hj) (by simp)) U9 rfl rfl hi) ?_
 refine jq_q (qs_sadd (l := name) (l' := [46, 106]) rfl rfl (by show name.length + 2 ≤ _; omega)) ?_
 refine jq_q (qs_call ent62 rfl rfl rfl (fun w' hw' => fmtU_con 0 w' (hP.keep hw' (by simp)) (by decide))) ?_
 refine jq_q (qs_sadd (l := name ++ [46, 106]) (l' := dec 0) rfl rfl (by rw [List.length_append]; show name.length + 2 + _ ≤ _; omega)) ?_
 refine jq_nil ?_
 refine j_ret_con (vs := [_]) (fun w' hw' => ⟨rfl, trivial⟩) ?_
 unfold pjName
 rfl
end Go.Proofs.YtfebkkmmagbnlaaGreatDoor
/-! Pg3 -/
namespace Go.Proofs.YtfebkkmmagbnlaaGreatDoor
open Go Go.Sx
set_option maxRecDepth 100000
set_option maxHeartbeats 4000000
set_option linter.unusedVariables false
set_option linter.unusedSimpArgs false
attribute [local irreducible] J JQ QS Con W opW
theorem qs_ixa1 {P : Program} {env : Env} {b : Base} {S : List SH} {ty : TypeId} {t e : TypeId} {x y : Operand} {n g off i : Nat} {k : IntKind} (ht : P.underlying t = some (.array n e)) (hz : (P.info? e).map (·.size) = some 1) (hx : ev env x = .pointer (some ⟨g, off, none⟩)) (hy : ev env y = .int k (i : Int)) (h1 : i < n) :
  QS P (O (.indexAddr t x y) ty) env b S (.pointer (some ⟨g, off + i, none⟩)) := by
 have h := qs_ixa (P := P) (env := env) (b := b) (S := S) (ty := ty) ht hz hx hy (by omega) (by omega)
 rwa [Int.toNat_natCast, Nat.mul_one] at h
theorem off2 (g i k : Nat) : (⟨g, 0 + i * 2 + k, none⟩ : Addr) = (⟨g, 0, none⟩ : Addr).add (i * 2 + k) := by rw [add_off, Nat.add_assoc]
structure PV where
 t : Bool
 v : Value
 xs : List UInt8
def encP (x : PV) : List Value := [.bool x.t, x.v]
theorem encP_len (x : PV) : (encP x).length = 2 := rfl
abbrev PV0 : PV := ⟨false, nilS, []⟩
def PV.pe (x : PV) : PE := (x.t, x.xs)
def PVok (P : SH) (x : PV) : Prop := ∃ c, Sx.Own 5 1 (ints x.xs) x.v c ∧ (∀ q ∈ c, q ∈ P) ∧ x.xs.length ≤ 100000
theorem PVok.mono {P P' : SH} {x : PV} (h : PVok P x) (hs : ∀ q ∈ P, q ∈ P') : PVok P' x := by
 obtain ⟨c, h1, h2, h3⟩ := h
 exact ⟨c, h1, fun q hq => hs q (h2 q hq), h3⟩
theorem PVok.le {P : SH} {x : PV} (h : PVok P x) : x.xs.length ≤ 100000 := by
 obtain ⟨c, _, _, h3⟩ := h
 exact h3
theorem PVok.br {P : SH} {x : PV} (h : PVok P x) {w : World} (hin : In w P) : BR w x.v x.xs := by
 obtain ⟨c, h1, h2, _⟩ := h
 exact own_brI h1 fun q hq => hin q (h2 q hq)
theorem PVok.one {P : SH} {x : PV} (h : PVok P x) : oneV x.v = true := by
 obtain ⟨c, h1, _⟩ := h
 obtain ⟨n, A, cap, e, _⟩ := own_form h1 (by decide)
 rw [e]
 rfl
theorem pv0_ok (P : SH) : PVok P PV0 := ⟨[], own_nil, (fun q hq => by cases hq), Nat.zero_le _⟩
theorem enc_one {P : SH} {x : PV} (h : PVok P x) : ∀ u ∈ encP x, oneV u = true := fun u hu => by
 rcases List.mem_cons.1 hu with rfl | hu
 ·rfl
 ·rw [List.mem_singleton.1 hu]
  exact h.one
theorem flat_one {P : SH} {l : List PV} (h : ∀ x ∈ l, PVok P x) : ∀ u ∈ (l.map encP).flatten, oneV u = true := fun u hu => by
 obtain ⟨s, hs, hu⟩ := List.mem_flatten.1 hu
 obtain ⟨x, hx, rfl⟩ := List.mem_map.1 hs
 exact enc_one (h x hx) u hu
theorem pv_get {l : List PV} {i k : Nat} {u : Value} (h : i < l.length) (hk : (encP (l.getD i PV0))[k]? = some u) : ((l.map encP).flatten)[i * 2 + k]? = some u := by
 have hk4 : k < 2 := by
  have := (List.getElem?_eq_some_iff.1 hk).1
  rw [encP_len] at this
  exact this
 rw [flat_get encP_len l i k hk4, List.getElem?_eq_getElem h]
 rw [List.getD_eq_getElem?_getD, List.getElem?_eq_getElem h] at hk
 exact hk
theorem getD_mem {α : Type} {l : List α} {i : Nat} {d : α} (h : i < l.length) : l.getD i d ∈ l := by
 rw [List.getD_eq_getElem?_getD, List.getElem?_eq_getElem h]
 exact List.getElem_mem h
def pl (fp : Value) (name : List UInt8) (jp cv : Value) (free : Int) (lv : Value) (ws : List Nat) (bh : List Value) (dead : Bool) : List Value :=
 (fp :: .string (bs name) :: .int .u64 0 :: List.replicate 256 (.int .u64 0)) ++ ((jp :: cv :: .int .i64 free :: lv :: ws.map (fun x : Nat => Value.int .u64 (x : Int))) ++ (bh ++ [Value.bool dead]))
section
variable {fp : Value} {name : List UInt8} {jp cv : Value} {free : Int} {lv : Value} {ws : List Nat} {bh : List Value} {dead : Bool}
theorem hd_len : (fp :: .string (bs name) :: .int .u64 0 :: List.replicate 256 (Value.int .u64 0)).length = 259 := by
 simp only [List.length_cons, List.length_replicate]
theorem pl_at (i : Nat) : (pl fp name jp cv free lv ws bh dead)[259 + i]? = ((jp :: cv :: .int .i64 free :: lv :: ws.map (fun x : Nat => Value.int .u64 (x : Int))) ++ (bh ++ [Value.bool dead]))[i]? := by
 unfold pl
 rw [List.getElem?_append_right (by rw [hd_len]; omega), hd_len, Nat.add_sub_cancel_left]
theorem pl_j : (pl fp name jp cv free lv ws bh dead)[259]? = some jp := pl_at 0
theorem pl_cv : (pl fp name jp cv free lv ws bh dead)[260]? = some cv := pl_at 1
theorem pl_free : (pl fp name jp cv free lv ws bh dead)[261]? = some (.int .i64 free) := pl_at 2
theorem pl_lv : (pl fp name jp cv free lv ws bh dead)[262]? = some lv := pl_at 3
theorem pl_w {i : Nat} (h : i < ws.length) : (pl fp name jp cv free lv ws bh dead)[263 + i]? = some (.int .u64 ((ws.getD i 0 : Nat) : Int)) := by
 rw [show 263 + i = 259 + (4 + i) by omega, pl_at, List.getElem?_append_left (by simp only [List.length_cons, List.length_map]; omega)]
 rw [show 4 + i = i + 1 + 1 + 1 + 1 by omega]
 simp only [List.getElem?_cons_succ, List.getElem?_map, List.getElem?_eq_getElem h, Option.map_some, List.getD_eq_getElem?_getD, Option.getD_some]
theorem pl_dead (hw : ws.length = 256) (hb : bh.length = 256) : (pl fp name jp cv free lv ws bh dead)[775]? = some (.bool dead) := by
 rw [show 775 = 259 + 516 from rfl, pl_at, List.getElem?_append_right (by simp only [List.length_cons, List.length_map]; omega), List.getElem?_append_right (by simp only [List.length_cons, List.length_map]; omega)]
 simp only [List.length_cons, List.length_map, hw, hb]
 rfl
theorem pl_set (i : Nat) (v : Value) : (pl fp name jp cv free lv ws bh dead).set (259 + i) v = (fp :: .string (bs name) :: .int .u64 0 :: List.replicate 256 (.int .u64 0)) ++ (((jp :: cv :: .int .i64 free :: lv :: ws.map (fun x : Nat => Value.int .u64 (x : Int))) ++ (bh ++ [Value.bool dead])).set i v) := by
 unfold pl
 rw [List.set_append_right _ _ (by rw [hd_len]; omega), hd_len, Nat.add_sub_cancel_left]
theorem pl_set_j (v : Value) : (pl fp name jp cv free lv ws bh dead).set 259 v = pl fp name v cv free lv ws bh dead := pl_set 0 v
theorem pl_set_cv (v : Value) : (pl fp name jp cv free lv ws bh dead).set 260 v = pl fp name jp v free lv ws bh dead := pl_set 1 v
theorem pl_set_free (n : Int) : (pl fp name jp cv free lv ws bh dead).set 261 (.int .i64 n) = pl fp name jp cv n lv ws bh dead := pl_set 2 _
theorem pl_set_lv (v : Value) : (pl fp name jp cv free lv ws bh dead).set 262 v = pl fp name jp cv free v ws bh dead := pl_set 3 v
theorem pl_set_w {i : Nat} (h : i < ws.length) (n : Nat) : (pl fp name jp cv free lv ws bh dead).set (263 + i) (.int .u64 (n : Int)) = pl fp name jp cv free lv (ws.set i n) bh dead := by
 rw [show 263 + i = 259 + (4 + i) by omega, pl_set, List.set_append_left _ _ (by simp only [List.length_cons, List.length_map]; omega), show 4 + i = i + 1 + 1 + 1 + 1 by omega]
 unfold pl
 simp only [List.set_cons_succ, List.map_set]
theorem pl_set_bh (hw : ws.length = 256) {i : Nat} (h : i < bh.length) (v : Value) : (pl fp name jp cv free lv ws bh dead).set (519 + i) v = pl fp name jp cv free lv ws (bh.set i v) dead := by
 rw [show 519 + i = 259 + (260 + i) by omega, pl_set, List.set_append_right _ _ (by simp only [List.length_cons, List.length_map]; omega)]
 simp only [List.length_cons, List.length_map, hw]
 rw [List.set_append_left _ _ (by omega), show 260 + i - (256 + 1 + 1 + 1 + 1) = i by omega]
 rfl
theorem pl_set_dead (hw : ws.length = 256) (hb : bh.length = 256) (d : Bool) : (pl fp name jp cv free lv ws bh dead).set 775 (.bool d) = pl fp name jp cv free lv ws bh d := by
 rw [show 775 = 259 + 516 from rfl, pl_set, List.set_append_right _ _ (by simp only [List.length_cons, List.length_map]; omega)]
 simp only [List.length_cons, List.length_map, hw]
 rw [List.set_append_right _ _ (by omega), hb]
 rfl
end
structure PM where
 g : Nat
 fp : Value
 name : List UInt8
 jp : Value
 cv : Value
 cc : SH
 cur : List PV
 free : Int
 lv : Value
 lc : SH
 last : List PV
 ws : List Nat
 bh : List Value
 dead : Bool
 P : SH
abbrev PM.ptr (p : PM) : Value := .pointer (some ⟨p.g, 0, none⟩)
abbrev PM.l (p : PM) : List Value := pl p.fp p.name p.jp p.cv p.free p.lv p.ws p.bh p.dead
abbrev PM.obj (p : PM) : Obj := .cells p.l.toArray 78 (0, 0)
def PM.heap (p : PM) : SH := (p.g, p.obj) :: (p.cc ++ (p.lc ++ p.P))
def PM.c (p : PM) : List PE := p.cur.map PV.pe
def PM.k (p : PM) : List PE := p.last.map PV.pe
structure PM.Ok0 (p : PM) : Prop where
 cu : Sx.Own 92 2 ((p.cur.map encP).flatten) p.cv p.cc
 la : Sx.Own 92 2 ((p.last.map encP).flatten) p.lv p.lc
 pc : ∀ x ∈ p.cur, PVok p.P x
 pl : ∀ x ∈ p.last, PVok p.P x
 wl : p.ws.length = 256
 wb : ∀ x ∈ p.ws, x < 2 ^ 64
 bl : p.bh.length = 256
 nl : p.cur.length ≤ 16384 ∧ p.last.length ≤ 16384
 nm : p.name.length ≤ 1000
def freeN (l : List PE) : Nat := (l.filter fun x => !x.1).length
structure PM.Ok (p : PM) : Prop where
 o : p.Ok0
 fr : p.free = ((freeN p.c : Nat) : Int)
def hasB (l : List PE) (n : Int) : Bool := decide (0 ≤ n) && (decide (n < (l.length : Int)) && (l.getD n.toNat PE0).1)
theorem perm_pm (p : PM) : p.heap.Perm ([[(p.g, p.obj)], p.cc, p.lc, p.P] : List SH).flatten := by simp [PM.heap]
theorem PM.in_o {p : PM} {w : World} (h : In w p.heap) : w.heap[p.g]? = some p.obj := h (p.g, p.obj) (List.mem_cons_self ..)
theorem PM.cells {p : PM} {w : World} (h : In w p.heap) : Cells w ⟨p.g, 0, none⟩ p.l := fun j u hj => by
 rw [add_off, Nat.zero_add, cell_of (PM.in_o h)]
 exact hj
theorem PM.in_c {p : PM} {w : World} (h : In w p.heap) : In w p.cc := fun q hq => h q (List.mem_cons_of_mem _ (List.mem_append_left _ hq))
theorem PM.in_P {p : PM} {w : World} (h : In w p.heap) : In w p.P := fun q hq => h q (List.mem_cons_of_mem _ (List.mem_append_right _ (List.mem_append_right _ hq)))
theorem own_cellsN {e : TypeId} {sz : Nat} {xs : List Value} {g n cap : Nat} {c : SH} {w : World} (h : Sx.Own e sz xs (.slice (some ⟨g, 0, none⟩) n cap) c) (hin : In w c) : Cells w ⟨g, 0, none⟩ xs := by
 obtain ⟨rest, fz, rfl, _⟩ := own_row h
 intro j u hu
 rw [add_off, Nat.zero_add, cell_of (hin _ (List.mem_singleton.2 rfl))]
 show (xs ++ rest)[j]? = some u
 rw [List.getElem?_append_left (List.getElem?_eq_some_iff.1 hu).1]
 exact hu
theorem row_form {l : List PV} {v : Value} {c : SH} (h : Sx.Own 92 2 ((l.map encP).flatten) v c) : ∃ A cap, v = .slice A l.length cap ∧ (0 < l.length → ∃ g, A = some ⟨g, 0, none⟩) := by
 rcases h with ⟨h1, h2, h3⟩ | ⟨g, n, cap, rest, fz, h1, h2, h3, h4, h5, h6⟩
 ·have h9 : (l.map encP).flatten.length = l.length * 2 := flat_len encP_len l
  rw [h2] at h9
  have h8 : l.length = 0 := by
   have : ([] : List Value).length = 0 := rfl
   omega
  exact ⟨none, 0, by rw [h1, h8], fun h => by omega⟩
 ·rw [flat_len encP_len l] at h3
  obtain rfl : n = l.length := by omega
  exact ⟨_, cap, h1, fun _ => ⟨g, rfl⟩⟩
theorem c_len (p : PM) : p.c.length = p.cur.length := List.length_map _
theorem c_get (p : PM) {i : Nat} (h : i < p.cur.length) : p.c.getD i PE0 = (p.cur.getD i PV0).pe := by
 unfold PM.c
 rw [List.getD_eq_getElem?_getD, List.getElem?_map, List.getElem?_eq_getElem h, List.getD_eq_getElem?_getD, List.getElem?_eq_getElem h]
 rfl
theorem bw_or_pow (a k : Nat) (ha : a < 2 ^ 64) (hk : k < 64) : bw .or .u64 (a : Int) (IntKind.u64.wrap (1 * 2 ^ min (Int.toNat (k : Int)) IntKind.u64.bits)) = ((a ||| 2 ^ k : Nat) : Int) := by
 have h1 : (2 : Nat) ^ k < 2 ^ 64 := Nat.pow_lt_pow_right (by decide) hk
 have h2 : IntKind.u64.wrap (1 * 2 ^ min (Int.toNat (k : Int)) IntKind.u64.bits) = ((2 ^ k : Nat) : Int) := by
  rw [Int.toNat_natCast, show min k IntKind.u64.bits = k by show min k 64 = k; omega, Int.one_mul, show (2 : Int) ^ k = ((2 ^ k : Nat) : Int) by rw [Int.natCast_pow]; rfl, IntKind.wrap_u64]
  have h3 : (2 : Nat) ^ 64 = 18446744073709551616 := by decide
  rw [h3] at h1
  generalize (2 : Nat) ^ k = y at *
  omega
 rw [h2, bw_or64 _ _ ha h1]
theorem or_lt (a k : Nat) (ha : a < 2 ^ 64) (hk : k < 64) : a ||| 2 ^ k < 2 ^ 64 := Nat.or_lt_two_pow ha (Nat.pow_lt_pow_right (by decide) hk)
def PM.lay (p : PM) (n : Nat) (x : PV) (cc : SH) : PM := { p with cur := p.cur.set n x, cc := cc, ws := p.ws.set (n / 64) (p.ws.getD (n / 64) 0 ||| 2 ^ (n % 64)) }
theorem lay_ok {p : PM} (h : p.Ok0) {n : Nat} (hn : n < p.cur.length) {x : PV} {cc : SH} (hx : PVok p.P x) (hc : Sx.Own 92 2 (((p.cur.set n x).map encP).flatten) p.cv cc) : (p.lay n x cc).Ok0 := by
 have hn2 := h.nl.1
 have hw : n / 64 < p.ws.length := by rw [h.wl]; omega
 refine ⟨hc, h.la, fun y hy => ?_, h.pl, by show (List.set _ _ _).length = _; rw [List.length_set]; exact h.wl, fun y hy => ?_, h.bl, ⟨by show (List.set _ _ _).length ≤ _; rw [List.length_set]; exact h.nl.1, h.nl.2⟩, h.nm⟩
 ·rcases List.mem_or_eq_of_mem_set hy with hy | rfl
  ·exact h.pc y hy
  ·exact hx
 ·rcases List.mem_or_eq_of_mem_set hy with hy | rfl
  ·exact h.wb y hy
  ·exact or_lt _ _ (h.wb _ (getD_mem hw)) (Nat.mod_lt _ (by decide))
theorem lay_c (p : PM) (n : Nat) (x : PV) (cc : SH) : (p.lay n x cc).c = p.c.set n x.pe := by
 unfold PM.c PM.lay
 rw [List.map_set]
theorem pmay_con (p : PM) (w : World) (hc : w.heap[p.g]? = some p.obj) (hw : p.ws.length = 256) (hb : p.bh.length = 256) : Con Tryz.prog 36 [p.ptr] w [] fun u _ => u = .int .i64 (if p.dead then 26 else 0) := by
 refine con_of_tree mix Tryz.func36 T36_ok (by kernel_rfl) ?_
 unfold T36
 refine j_q (qs_ac) ?_
 refine j_q (qs_pnil U27 rfl) ?_
 refine j_cond rfl (fun hc0 => ?_) (fun hc0 => ?_)
 ·skip
  simp at hc0
 ·skip
  refine j_q (qs_nil rfl) ?_
  refine j_q (qs_field U78 rfl sz4 (by decide) rfl) ?_
  refine j_q (qs_loadR (v := .bool p.dead) (a := ⟨p.g, 0, none⟩) (i := 775) (vs := p.l) (rd_cells (fun j u hj => by rw [add_off, Nat.zero_add, cell_of hc]; exact hj) (by simp)) U4 rfl rfl (pl_dead hw hb)) ?_
  refine j_cond rfl (fun hc1 => ?_) (fun hc1 => ?_)
  ·skip
   refine j_q (qs_ac) ?_
   refine j_ret_con (vs := [_]) (fun w' hw' => ⟨rfl, trivial⟩) ?_
   rw [if_pos hc1]
   rfl
  ·skip
   refine j_q (qs_ac) ?_
   refine j_ret_con (vs := [_]) (fun w' hw' => ⟨rfl, trivial⟩) ?_
   rw [hc1]
   rfl
theorem has_con (p : PM) (n : Int) (w : World) (hin : In w p.heap) (hok : p.Ok0) (hn : -9223372036854775808 ≤ n ∧ n ≤ 9223372036854775807) : Con Tryz.prog 38 [p.ptr, .int .i64 n] w [] fun u _ => u = .bool (hasB p.c n) := by
 refine con_of_tree mix Tryz.func38 T38_ok (by kernel_rfl) ?_
 unfold T38
 obtain ⟨A, cap, hcv, hA⟩ := row_form hok.cu
 obtain ⟨g, hg⟩ : ∃ g, 0 < p.cur.length → A = some ⟨g, 0, none⟩ := by
  rcases Nat.eq_zero_or_pos p.cur.length with h | h
  ·exact ⟨0, fun h2 => by omega⟩
  ·obtain ⟨g, hg⟩ := hA h
   exact ⟨g, fun _ => hg⟩
 have hbd : (decide (n ≥ 0) && decide (n < (p.cur.length : Int))) = true → 0 ≤ n ∧ n < (p.cur.length : Int) := fun h => by
  simp only [Bool.and_eq_true, decide_eq_true_eq] at h
  omega
 refine j_q (qs_ac) ?_
 refine j_q (qs_geq rfl rfl) ?_
 refine j_g rfl (fun hb => qs_mt rfl) ?_
 refine j_g rfl (fun hb => qs_mt rfl) ?_
 refine j_g rfl (fun hb => qs_nil (gd_eq hb)) ?_
 refine j_g rfl (fun hb => qs_field U78 rfl sz69 (by decide) (gd_eq hb)) ?_
 refine j_g rfl (fun hb => (qs_loadR (v := .slice A p.cur.length cap) (a := ⟨p.g, 0, none⟩) (i := 260) (vs := p.l) (rd_cells (PM.cells hin) (by simp)) U69 rfl (gd_eq hb) (by rw [← hcv]; exact pl_cv))) ?_
 refine j_g rfl (fun hb => qs_lenl U69 (gd_eq hb)) ?_
 refine j_g rfl (fun hb => qs_lss (gd_eq hb) (gd_eq hb)) ?_
 refine j_q (qs_and rfl rfl) ?_
 refine j_g rfl (fun hb => qs_mt rfl) ?_
 refine j_g rfl (fun hb => qs_nil (gd_eq hb)) ?_
 refine j_g rfl (fun hb => qs_field U78 rfl sz69 (by decide) (gd_eq hb)) ?_
 refine j_g rfl (fun hb => (qs_loadR (v := .slice A p.cur.length cap) (a := ⟨p.g, 0, none⟩) (i := 260) (vs := p.l) (rd_cells (PM.cells hin) (by simp)) U69 rfl (gd_eq hb) (by rw [← hcv]; exact pl_cv))) ?_
 refine j_g rfl (fun hb => qs_mt rfl) ?_
 refine j_g rfl (fun hb => qs_ixn (g := g) (off := 0) (n := p.cur.length) (c := cap) (i := n.toNat) U69 sz92 (by have h8 := hg (by have h9 := hbd hb; omega); rw [← h8]; exact gd_eq hb) (by rw [Int.toNat_of_nonneg (hbd hb).1]; exact gd_eq hb) (by have h9 := hbd hb; omega)) ?_
 refine j_g rfl (fun hb => qs_field U92 rfl sz4 (by decide) (gd_eq hb)) ?_
 refine j_g (v := .bool (p.cur.getD n.toNat PV0).t) rfl (fun hb => by
  have h9 := hbd hb
  have hrow := hok.cu
  rw [hcv, hg (by omega)] at hrow
  exact qs_loadR (a := ⟨g, 0, none⟩) (i := n.toNat * 2 + 0) (rd_cells (own_cellsN hrow (PM.in_c hin)) (by simp)) U4 rfl ((gd_eq hb).trans (congrArg (fun z => Value.pointer (some z)) (off2 g n.toNat 0))) (pv_get (by omega) rfl)) ?_
 refine j_q (qs_and rfl rfl) ?_
 refine j_ret_con (vs := [_]) (fun w' hw' => ⟨rfl, trivial⟩) ?_
 unfold hasB
 rw [c_len]
 by_cases h1 : 0 ≤ n
 ·by_cases h2 : n < (p.cur.length : Int)
  ·rw [c_get p (by omega)]
   simp [h1, h2, gd, PV.pe] <;> rfl
  ·simp [h1, h2, gd] <;> rfl
 ·simp [h1, gd] <;> rfl
theorem lay_con (p : PM) (n : Nat) (x : PV) (w : World) (hok : p.Ok0) (hn : n < p.cur.length) (hx : PVok p.P x) : Con Tryz.prog 37 [p.ptr, .int .i64 (n : Int), .agg (encP x).toArray] w p.heap fun u S' => u = .tuple #[] ∧ ∃ cc, S' = [(p.lay n x cc).heap] ∧ (p.lay n x cc).Ok0 := by
 refine con_of_tree mix Tryz.func37 T37_ok (by kernel_rfl) ?_
 unfold T37
 obtain ⟨A, cap, hcv, hA⟩ := row_form hok.cu
 obtain ⟨g, rfl⟩ := hA (by omega)
 have hrow := hok.cu
 rw [hcv] at hrow
 have hn2 := hok.nl.1
 have hwl := hok.wl
 have hwi : n / 64 < p.ws.length := by omega
 have hwb := hok.wb _ (getD_mem (d := 0) hwi)
 refine j_perm (S' := [[(p.g, p.obj)], p.cc, p.lc, p.P]) (by simpa using perm_pm p) ?_
 refine j_box (l := encP x) rfl (fun g0 hg0 hs0 => ?_)
 refine j_mix [[(g0, .cells (encP x).toArray 92 (0, 0))], [(p.g, p.obj)]] (Le.of_sub (by repeat first | exact slR _ | exact slN _ | apply slC | apply slD)) ?_
 refine j_mq (qs_nil rfl) ?_
 refine j_mq (qs_field U78 rfl sz69 (by decide) rfl) ?_
 refine j_mq (qs_load (l := p.l) (v := .slice (some ⟨g, 0, none⟩) p.cur.length cap) 1 U69 rfl rfl rfl (by rw [← hcv]; exact pl_cv)) ?_
 refine j_mq (qs_loadw 0 U92 rfl sz92 rfl rfl rfl) ?_
 refine j_mq (qs_ixn (g := g) (off := 0) (n := p.cur.length) (c := cap) (i := n) U69 sz92 rfl rfl hn) ?_
 refine j_storerecw (g := g) (i := n) (rs := p.cur) x 2 encP_len hrow rfl hn sz92 rfl rfl (enc_one hx) (fun c6 ho6 => ?_)
 refine j_subl (S' := [[(g0, .cells (encP x).toArray 92 (0, 0))], [(p.g, p.obj)], c6, p.lc, p.P]) (by repeat first | exact slR _ | exact slN _ | apply slC | apply slD) ?_
 refine j_mR _ (.refl _) ?_
 refine j_mend ?_
 refine j_q (qs_quo64 rfl rfl (by omega) (by decide) (by omega)) ?_
 rw [show ((n : Int) / 64) = ((n / 64 : Nat) : Int) by omega]
 refine j_q (qs_nil rfl) ?_
 refine j_q (qs_field U78 rfl sz75 (by decide) rfl) ?_
 refine j_q (v := .pointer (some ⟨p.g, 263 + n / 64, none⟩)) (qs_ixa1 (i := n / 64) U75 sz74 rfl rfl (by omega)) ?_
 refine j_mix [] (Le.of_sub (by repeat first | exact slR _ | exact slN _ | apply slC | apply slD)) ?_
 refine j_mq (qs_rem64 rfl rfl (by first | omega | (simp only [bnA] at *; omega)) (by first | omega | (simp only [bnA] at *; omega))) ?_
 refine j_mq (qs_shl rfl rfl (by omega)) ?_
 refine j_q (qs_call ent66 rfl rfl rfl (fun w' hw' => uload_con p.g (263 + n / 64) p.l 78 (0, 0) (((p.ws.getD (n / 64) 0) : Nat) : Int) w' (hw'.at_ (k := 1) rfl) (pl_w hwi))) ?_
 refine j_mD0 (Le.of_sub (by repeat first | exact slR _ | exact slN _ | apply slC | apply slD)) ?_
 refine j_mq (qs_or_ rfl rfl) ?_
 rw [show ((n : Int) % 64) = ((n % 64 : Nat) : Int) by omega, bw_or_pow _ _ hwb (Nat.mod_lt _ (by decide))]
 refine j_call 1 ent44 rfl rfl rfl rfl (fun w' hw' => ustore_con p.g (263 + n / 64) p.l 78 _ (((p.ws.getD (n / 64) 0) ||| 2 ^ (n % 64) : Nat) : Int) w' (pl_w hwi)) (fun u S2 hu => ?_)
 obtain ⟨rfl, rfl⟩ := hu
 rw [pl_set_w hwi]
 refine j_subl (S' := [[(p.g, (p.lay n x c6).obj)], c6, p.lc, p.P]) (by repeat first | exact slR _ | exact slN _ | apply slC | apply slD) ?_
 refine j_mR _ (.refl _) ?_
 refine j_mend ?_
 refine j_perm (S' := [(p.lay n x c6).heap]) (by simp [PM.heap, PM.lay]) ?_
 refine j_ret_con (vs := []) (fun w' hw' => trivial) ?_
 exact ⟨rfl, c6, rfl, lay_ok hok hn hx (by rw [hcv]; exact ho6)⟩
end Go.Proofs.YtfebkkmmagbnlaaGreatDoor
