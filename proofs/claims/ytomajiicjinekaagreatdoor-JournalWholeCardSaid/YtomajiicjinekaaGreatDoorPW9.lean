/- Part 9. -/
import Derived.Test.YtomajiicjinekaaGreatDoorPW3
import Derived.Test.YtomajiicjinekaaGreatDoorPW8
import Derived.Test.YtomajiicjinekaaGreatDoorPW6
/-! Jn12 -/
namespace Go.Proofs.YtomajiicjinekaaGreatDoor
open Go Go.Sx
set_option maxRecDepth 100000
set_option maxHeartbeats 4000000
set_option linter.unusedVariables false
set_option linter.unusedSimpArgs false
attribute [local irreducible] J JQ QS Con W opW
structure ComOk (a : JA) (f : AF) (id : Nat) : Prop where
  js : JS a.name a.age a.gs f.now
  ln : a.gs.length ≤ 99
  lg : ∀ g ∈ a.gs, limR g
  dn : limR a.down
  sz : sizeG a.gs ≤ 500000
  by_ : (gsE a.gs).length + (grpE a.down).length ≤ 1048576
  rm : f.room ≤ 1073741824
  us : 0 ≤ f.now.used ∧ f.now.used + ((grpE a.down).length : Int) ≤ f.room
  nm : f.now.nm.length < 16384
  pd : f.pend.length < 16000
  id : ∀ q ∈ f.now.nm, q.2 ≠ id
  ag : a.age < 10000
  nl : a.name.length ≤ 100
theorem com1 {a : JA} {f : AF} {id : Nat} (hd : a.dead = false) (hdn : a.down ≠ []) (hb : burnt f = true) : comE a f id = 26 ∧ comJ a f id = { a with dead := true } ∧ comA a f id = f := by
  unfold comE comJ comA
  rw [hd, hb]
  simp [hdn]
theorem com2 {a : JA} {f : AF} {id : Nat} (hd : a.dead = false) (hdn : a.down ≠ []) (hb : burnt f = false) (hb2 : burnt (stepF f (comT a id)) = true) : comE a f id = 26 ∧ comJ a f id = { a with dead := true } ∧ comA a f id = stepF f (comT a id) := by
  unfold comE comJ comA
  rw [hd, hb, hb2]
  simp [hdn]
theorem com3 {a : JA} {f : AF} {id : Nat} (hd : a.dead = false) (hdn : a.down ≠ []) (hb : burnt f = false) (hb2 : burnt (stepF f (comT a id)) = false) : comE a f id = 0 ∧ comJ a f id = { a with gs := a.gs ++ [a.down], down := [] } ∧ comA a f id = syncF (stepF f (comT a id)) := by
  unfold comE comJ comA
  rw [hd, hb, hb2]
  simp [hdn]
theorem fillE_nil {gs : List (List (List UInt8))} (h : gs = []) : fillE gs = -1 := by rw [fillE, if_pos h]
theorem fillE_cons {gs : List (List (List UInt8))} (h : gs ≠ []) : fillE gs = ((gsE gs).length : Int) := by rw [fillE, if_neg h]
theorem perm_c7 (j : JM) (r : FR) : (j.heap ++ r.heap).Perm ([[(j.gj, j.obj)], [(j.lg, j.lobj)], j.s.c, j.s.gl, j.laid.c, j.laid.lf, r.heap] : List SH).flatten := by
  classical
  refine List.perm_iff_count.2 fun x => ?_
  simp only [RR.heap, GS.heap, JM.heap, List.flatten_cons, List.flatten_nil, List.append_nil, List.nil_append, List.cons_append, List.count_append, List.count_cons, List.count_nil]
  omega
theorem notFull {a : JA} {f : AF} {id : Nat} (h : ComOk a f id) (hg : a.gs = []) : ¬ fullA f (fileN a.name a.age 0) (grpE a.down) := by
  have hno : alook f.now.nm (fileN a.name a.age 0) = none := by
    rcases h.js.f0 with ⟨_, h2⟩ | ⟨h2, _⟩
    · exact h2
    · exact absurd hg h2
  have hu := h.us
  have hn := h.nm
  unfold fullA
  rintro (⟨_, h2⟩ | h2)
  · omega
  · have : (0 : Int) ≤ (freesA f.now (fileN a.name a.age 0) : Int) := Int.natCast_nonneg _
    have h3 : freesA f.now (fileN a.name a.age 0) = 0 := by
      unfold freesA
      rw [hno]
    rw [h3] at h2
    omega
theorem writeG_con (r : FR) (a : AF) (n : List UInt8) (bv : Value) (xs : List UInt8) (id : Nat) (w : World) (hok : r.Ok a) (hn : strOk n) (hbr : BR w bv xs) (hbd : ∀ (a : Addr) (m c : Nat), bv = .slice (some a) m c → 0 < m → a.block ∉ dom r.heap) (hxl : xs.length ≤ 1000000000) (hB : a.pend.length < 16384) (hrm : a.room ≤ 1073741824) (hid : ∀ q ∈ a.now.nm, q.2 ≠ id) : Con Tryz.prog 32 [r.ptr, .string (bs n), bv] w r.heap fun v S' => v = .int .i64 (wrE a n xs) ∧ ∃ r' : FR, S' = [r'.heap] ∧ r'.Ok (if wrE a n xs = 0 then stepF a (.wr n xs id) else a) ∧ r'.gf = r.gf :=
  (write_con' r a n bv xs id w hok hn hbr hbd hxl hB hrm hid).mono fun u S' hu => by
    obtain ⟨h1, r', h2, h3, h4⟩ := hu
    exact ⟨h1, r', h2, h3, h4.gf⟩
theorem appendG_con (r : FR) (a : AF) (n : List UInt8) (bv : Value) (xs : List UInt8) (w : World) (hok : r.Ok a) (hB : a.pend.length < 16384) (hn : strOk n) (hbr : BR w bv xs) (hbd : ∀ (a : Addr) (m c : Nat), bv = .slice (some a) m c → 0 < m → a.block ∉ dom r.heap) (hxl : xs.length ≤ 1000000000) (hrm : a.room ≤ 1073741824) : Con Tryz.prog 34 [r.ptr, .string (bs n), bv] w r.heap fun v S' => v = .int .i64 (appE a n xs) ∧ ∃ r' : FR, S' = [r'.heap] ∧ r'.Ok (if appE a n xs = 0 then stepF a (.ap n xs) else a) ∧ r'.gf = r.gf :=
  (appendR_con r a n bv xs w hok hB hn hbr hbd hxl hrm).mono fun u S' hu => by
    obtain ⟨h1, r', h2, h3, h4⟩ := hu
    exact ⟨h1, r', h2, h3, h4.gf⟩
theorem syncG_con (r : FR) (a : AF) (w : World) (hok : r.Ok a) : Con Tryz.prog 36 [r.ptr] w r.heap fun v S' => v = .int .i64 (mayE a.fused a.left []) ∧ ∃ r' : FR, S' = [r'.heap] ∧ r'.Ok (if mayE a.fused a.left [] = 0 then syncF a else a) ∧ r'.gf = r.gf :=
  (sync_con r a w hok).mono fun u S' hu => by
    obtain ⟨h1, r', h2, h3, h4⟩ := hu
    exact ⟨h1, r', h2, h3, h4.gf⟩
theorem gsE_nil : gsE [] = [] := rfl
theorem gsE_snoc (gs : List (List (List UInt8))) (g : List (List UInt8)) : gsE (gs ++ [g]) = gsE gs ++ grpE g := by
  unfold gsE
  rw [List.map_append, List.flatten_append, List.map_singleton, List.flatten_singleton]
theorem sizeG_snoc (gs : List (List (List UInt8))) (g : List (List UInt8)) : sizeG (gs ++ [g]) = sizeG gs + sizeR g := by
  unfold sizeG
  rw [List.map_append, List.sum_append]
  simp
theorem jm_fin (j : JM) (r : FR) : ([[(j.gj, j.obj)], [(j.lg, j.lobj)], j.s.c, j.s.gl, r.heap, j.laid.c, j.laid.lf] : List SH).flatten.Perm [j.heap, r.heap].flatten := by
  classical
  refine List.perm_iff_count.2 fun x => ?_
  simp only [RR.heap, GS.heap, JM.heap, List.flatten_cons, List.flatten_nil, List.append_nil, List.nil_append, List.cons_append, List.count_append, List.count_cons, List.count_nil]
  omega
theorem jm_com (j : JM) (r : FR) {fl : Int} {v bv : Value} {c : SH} {g82 g31 : Nat} : ([[(g82, gobj nilS 0 0 0 0 nilS)], [(j.gj, .cells (jl j.fp j.name j.age 0 fl v (((sizeG j.s.gs : Nat) : Int) + ((sizeR j.laid.rs : Nat) : Int)) g82 j.dead).toArray 68 (0, 0))], c, j.s.gl, r.heap, [(g31, gobj j.laid.v ((sizeR j.laid.rs : Nat) : Int) 1 0 0 bv)], j.laid.c, j.laid.lf] : List SH).flatten.Perm [JM.heap ⟨j.gj, g82, j.fp, j.name, j.age, fl, j.s.add v c ⟨g31, j.laid, [.int .i64 ((sizeR j.laid.rs : Nat) : Int), .int .u32 1, .int .i32 0, .int .u32 0, bv]⟩, ⟨nilS, [], []⟩, j.dead⟩, r.heap].flatten := by
  have e1 : JM.obj ⟨j.gj, g82, j.fp, j.name, j.age, fl, j.s.add v c ⟨g31, j.laid, [.int .i64 ((sizeR j.laid.rs : Nat) : Int), .int .u32 1, .int .i32 0, .int .u32 0, bv]⟩, ⟨nilS, [], []⟩, j.dead⟩ = .cells (jl j.fp j.name j.age 0 fl v (((sizeG j.s.gs : Nat) : Int) + ((sizeR j.laid.rs : Nat) : Int)) g82 j.dead).toArray 68 (0, 0) := by
    unfold JM.obj
    simp only
    rw [GS.add_gs, sizeG_snoc, Int.natCast_add]
    rfl
  have e2 : JM.lobj ⟨j.gj, g82, j.fp, j.name, j.age, fl, j.s.add v c ⟨g31, j.laid, [.int .i64 ((sizeR j.laid.rs : Nat) : Int), .int .u32 1, .int .i32 0, .int .u32 0, bv]⟩, ⟨nilS, [], []⟩, j.dead⟩ = gobj nilS 0 0 0 0 nilS := rfl
  have e3 : GS.heap (j.s.add v c ⟨g31, j.laid, [.int .i64 ((sizeR j.laid.rs : Nat) : Int), .int .u32 1, .int .i32 0, .int .u32 0, bv]⟩) = c ++ (j.s.gl ++ ((g31, gobj j.laid.v ((sizeR j.laid.rs : Nat) : Int) 1 0 0 bv) :: (j.laid.c ++ j.laid.lf))) := by
    unfold GS.heap
    rw [GS.add_gl]
    rfl
  have e4 : RR.heap ⟨nilS, [], []⟩ = [] := rfl
  classical
  refine List.perm_iff_count.2 fun x => ?_
  unfold JM.heap
  rw [e1, e2]
  simp only
  rw [e3, e4]
  simp only [List.flatten_cons, List.flatten_nil, List.append_nil, List.nil_append, List.cons_append, List.count_append, List.count_cons, List.count_nil]
  omega
attribute [local irreducible] sum gsE headE fileN contA readE grpE fillE
theorem jcom_con (j : JM) (a : JA) (r : FR) (f : AF) (id : Nat) (w : World) (hok : j.Ok a) (hfo : r.Ok f) (hfp : j.fp = r.ptr) (hd : a.dead = false) (hdn : a.down ≠ []) (hc : ComOk a f id) (hP : P10 w) (h0 : 0 ∉ dom (j.heap ++ r.heap)) : Con Tryz.prog 18 [j.ptr] w (j.heap ++ r.heap) fun u S' => u = .int .i64 (comE a f id) ∧ ∃ (j' : JM) (r' : FR), S' = [j'.heap, r'.heap] ∧ j'.Ok (comJ a f id) ∧ r'.Ok (comA a f id) ∧ j'.gj = j.gj ∧ j'.fp = j.fp ∧ r'.gf = r.gf := by
  refine con_of_tree mix Tryz.func18 T18_ok (by kernel_rfl) ?_
  unfold T18
  obtain ⟨A, cap, hv, hA⟩ := hok.l.form
  have hlr : j.laid.L.length = a.down.length := by
    rw [← hok.dn]
    exact (List.length_map _).symm
  have hdl : 0 < a.down.length := List.length_pos_iff.2 hdn
  have hgr := grpE_lim hc.dn
  have hszl := hc.sz
  have hs2 := hc.dn.2
  have hby := hc.by_
  have hjg : j.s.G.length = a.gs.length := by
    rw [← hok.gs]
    exact (List.length_map _).symm
  have hln := hc.ln
  rw [← hok.gs] at hszl
  rw [← hok.dn] at hs2
  refine j_perm (S' := [[(j.gj, j.obj)], [(j.lg, j.lobj)], j.s.c, j.s.gl, j.laid.c, j.laid.lf, r.heap]) (by simpa using perm_c7 j r) ?_
  refine j_q (qs_ac) ?_
  refine j_q (qs_call ent29 rfl rfl rfl (fun w' hw' => jmay_con j a w' hok (hw'.at_ (k := 0) rfl))) ?_
  refine j_q (qs_neq rfl rfl) ?_
  rw [mayJ, hd, if_neg (show ¬ (false = true) by simp), show ((0 : Int) != 0) = false from rfl]
  refine j_gt rfl (qs_mt rfl) ?_
  refine j_gt rfl (qs_nil rfl) ?_
  refine j_gt rfl (qs_field Tryz.underlying68 rfl sz61 (by decide) rfl) ?_
  refine j_gt rfl (qs_load (l := j.jl) (v := .pointer (some ⟨j.lg, 0, none⟩)) 0 Tryz.underlying61 rfl rfl rfl rfl) ?_
  refine j_gt rfl (qs_nil rfl) ?_
  refine j_gt rfl (qs_field Tryz.underlying77 rfl sz34 (by decide) rfl) ?_
  refine j_gt rfl (qs_load (l := j.ll) (v := .slice A j.laid.L.length cap) 1 Tryz.underlying34 rfl rfl rfl (congrArg some hv)) ?_
  refine j_gt rfl (qs_lenl Tryz.underlying34 rfl) ?_
  refine j_gt rfl (qs_eql rfl rfl) ?_
  rw [show (((j.laid.L.length : Nat) : Int) == 0) = false by rw [beq_eq_false_iff_ne]; omega]
  refine j_q (qs_or rfl rfl) ?_
  refine j_cond rfl (fun hc0 => ?_) (fun hc0 => ?_)
  · skip
    simp at hc0
  · skip
    refine j_q (qs_nil rfl) ?_
    refine j_q (qs_field Tryz.underlying68 rfl sz3 (by decide) rfl) ?_
    refine j_q (qs_load (l := j.jl) (v := .int .i64 ((sizeG j.s.gs : Nat) : Int)) 0 Tryz.underlying3 rfl rfl rfl rfl) ?_
    refine j_q (qs_geq rfl rfl) ?_
    refine j_cond rfl (fun hc1 => ?_) (fun hc1 => ?_)
    · skip
      simp at hc1
      omega
    · skip
      refine j_mix [[(j.gj, .cells (j.jl).toArray 68 (0, 0))], [(j.lg, j.lobj)]] (Le.of_sub (by repeat first | exact slR _ | exact slN _ | apply slC | apply slD)) ?_
      refine j_mq (qs_nil rfl) ?_
      refine j_mq (qs_field Tryz.underlying68 rfl sz61 (by decide) rfl) ?_
      refine j_mq (qs_load (l := j.jl) (v := .pointer (some ⟨j.lg, 0, none⟩)) 0 Tryz.underlying61 rfl rfl rfl rfl) ?_
      refine j_mq (qs_nil rfl) ?_
      refine j_mq (qs_field Tryz.underlying77 rfl sz34 (by decide) rfl) ?_
      refine j_mq (qs_load (l := j.ll) (v := .slice A j.laid.L.length cap) 1 Tryz.underlying34 rfl rfl rfl (congrArg some hv)) ?_
      refine j_mq (qs_nil rfl) ?_
      refine j_mq (qs_field Tryz.underlying68 rfl sz61 (by decide) rfl) ?_
      refine j_mq (qs_load (l := j.jl) (v := .pointer (some ⟨j.lg, 0, none⟩)) 0 Tryz.underlying61 rfl rfl rfl rfl) ?_
      refine j_mq (qs_nil rfl) ?_
      refine j_mq (qs_field Tryz.underlying77 rfl sz3 (by decide) rfl) ?_
      refine j_mq (qs_load (l := j.ll) (v := .int .i64 ((sizeR j.laid.rs : Nat) : Int)) 1 Tryz.underlying3 rfl rfl rfl rfl) ?_
      refine j_mq (qs_build (places := [(0, 1), (1, 1), (2, 3), (5, 1)]) (offs := [(0, [.slice A j.laid.L.length cap]), (1, [.int .i64 ((sizeR j.laid.rs : Nat) : Int)])]) Tryz.underlying77 zero77 (by kernel_rfl) rfl (by rintro (_ | _ | _ | _ | j) p q hp hq <;> first | (simp at hp hq; subst hp hq; exact ⟨rfl, rfl, by simp⟩) | (simp at hp))) ?_
      refine j_box (l := gl (.slice A j.laid.L.length cap) ((sizeR j.laid.rs : Nat) : Int) 0 0 0 nilS) rfl (fun g31 hg31 hs31 => ?_)
      refine j_mR _ (.refl _) ?_
      refine j_mend ?_
      rw [← hv]
      refine j_subl (S' := [[(g31, gobj j.laid.v ((sizeR j.laid.rs : Nat) : Int) 0 0 0 nilS)], [(j.gj, .cells (j.jl).toArray 68 (0, 0))], [(j.lg, j.lobj)], j.s.c, j.s.gl, j.laid.c, j.laid.lf, r.heap]) (by repeat first | exact slR _ | exact slN _ | apply slC | apply slD) ?_
      refine j_perm (S' := [(g31, gobj j.laid.v ((sizeR j.laid.rs : Nat) : Int) 0 0 0 nilS) :: j.laid.heap, [(j.gj, .cells (j.jl).toArray 68 (0, 0))], [(j.lg, j.lobj)], j.s.c, j.s.gl, r.heap]) (by
        classical
        refine List.perm_iff_count.2 fun x => ?_
        simp only [RR.heap, GS.heap, List.set, List.flatten_cons, List.flatten_nil, List.append_nil, List.nil_append, List.cons_append, List.count_append, List.count_cons, List.count_nil]
        omega) ?_
      refine j_call 0 ent31 rfl rfl rfl rfl (fun w' hw' => made_con g31 j.laid ((sizeR j.laid.rs : Nat) : Int) w' hok.l (by rw [hok.dn]; exact hc.dn)) (fun u S2 hu => ?_)
      obtain ⟨bv, cb, rfl, rfl, hcb⟩ := hu
      rw [hok.dn] at hcb
      obtain ⟨nb, Ab, capb, rfl, hnb⟩ := own_form hcb (by decide)
      rw [ints_length, Nat.mul_one] at hnb
      subst hnb
      refine j_perm (S' := [[(j.gj, .cells (j.jl).toArray 68 (0, 0))], [(j.lg, j.lobj)], j.s.c, j.s.gl, r.heap, cb, [(g31, gobj j.laid.v ((sizeR j.laid.rs : Nat) : Int) 1 0 0 (.slice Ab (grpE a.down).length capb))], j.laid.c, j.laid.lf]) (by
        classical
        refine List.perm_iff_count.2 fun x => ?_
        simp only [RR.heap, GS.heap, List.set, List.flatten_cons, List.flatten_nil, List.append_nil, List.nil_append, List.cons_append, List.count_append, List.count_cons, List.count_nil]
        omega) ?_
      refine j_mix [[(j.gj, .cells (j.jl).toArray 68 (0, 0))]] (Le.of_sub (by repeat first | exact slR _ | exact slN _ | apply slC | apply slD)) ?_
      refine j_mq (qs_nil rfl) ?_
      refine j_mq (qs_field Tryz.underlying68 rfl sz3 (by decide) rfl) ?_
      refine j_mq (qs_load (l := j.jl) (v := .int .i64 0) 0 Tryz.underlying3 rfl rfl rfl rfl) ?_
      refine j_mq (qs_nil rfl) ?_
      refine j_mq (qs_field Tryz.underlying68 rfl sz3 (by decide) rfl) ?_
      refine j_mq (qs_load (l := j.jl) (v := .int .i64 j.fl) 0 Tryz.underlying3 rfl rfl rfl rfl) ?_
      refine j_mend ?_
      refine j_q (qs_ac) ?_
      refine j_q (qs_lss rfl rfl) ?_
      refine j_cond rfl (fun hc2 => ?_) (fun hc2 => ?_)
      · skip
        have hg0 : a.gs = [] := by
          rcases Classical.em (a.gs = []) with h | h
          · exact h
          · have h8 := hok.fl hd
            rw [fillE_cons h] at h8
            simp only [bnA] at *
            omega
        have hwr := wrE_val (f := f) (nameOk_file hc.nl hc.ag) (show (grpE a.down).length ≤ 1048576 by omega) (notFull hc hg0)
        have hcT : comT a id = .wr (fileN a.name a.age 0) (grpE a.down) id := by rw [comT, if_pos hg0]
        refine j_mix [[(j.gj, .cells (j.jl).toArray 68 (0, 0))]] (Le.of_sub (by repeat first | exact slR _ | exact slN _ | apply slC | apply slD)) ?_
        refine j_mq (qs_nil rfl) ?_
        refine j_mq (qs_field Tryz.underlying68 rfl sz25 (by decide) rfl) ?_
        refine j_mq (qs_load (l := j.jl) (v := r.ptr) 0 Tryz.underlying25 rfl rfl rfl (congrArg some hfp)) ?_
        refine j_q (qs_call ent33 rfl rfl rfl (fun w' hw' => file_con j.gj j.fp a.name a.age 0 _ w' (by rw [← hok.nm, ← hok.ag]; exact hw'.at_ (k := 0) rfl) (hP.keep hw' h0) hc.ag (by decide) (by have := hc.nl; omega))) ?_
        refine j_mD0 (Le.of_sub (by repeat first | exact slR _ | exact slN _ | apply slC | apply slD)) ?_
        refine j_call 4 ent32 rfl rfl rfl rfl (fun w' hw' => writeG_con r f (fileN a.name a.age 0) _ (grpE a.down) id w' hfo (strOk_file (by have := hc.nl; omega) hc.ag (by decide)) (own_br hcb 5 rfl hw') (sep_own hcb (k := 5) (m := 4) rfl rfl (by decide) hw') (by omega) (by have := hc.pd; omega) hc.rm hc.id) (fun u S2 hu => ?_)
        obtain ⟨rfl, r1, rfl, hr1, hto1⟩ := hu
        rw [hwr] at hr1 ⊢
        rw [← hcT] at hr1
        refine j_mR _ (.refl _) ?_
        refine j_mend ?_
        refine j_perm (S' := [[(j.gj, .cells (j.jl).toArray 68 (0, 0))], [(j.lg, j.lobj)], j.s.c, j.s.gl, r1.heap, cb, [(g31, gobj j.laid.v ((sizeR j.laid.rs : Nat) : Int) 1 0 0 (.slice Ab (grpE a.down).length capb))], j.laid.c, j.laid.lf]) (by
          classical
          refine List.perm_iff_count.2 fun x => ?_
          simp only [RR.heap, GS.heap, List.set, List.flatten_cons, List.flatten_nil, List.append_nil, List.nil_append, List.cons_append, List.count_append, List.count_cons, List.count_nil]
          omega) ?_
        refine j_q (qs_ac) ?_
        refine j_q (qs_neq rfl rfl) ?_
        refine j_cond rfl (fun hc3 => ?_) (fun hc3 => ?_)
        · skip
          have hb : burnt f = true := by
            cases hx : burnt f
            · rw [hx] at hc3
              simp at hc3
            · rfl
          rw [hb] at hr1 ⊢
          rw [if_neg (by simp)] at hr1
          rw [if_pos rfl]
          refine j_call 0 ent35 rfl rfl rfl rfl (fun w' hw' => jmet_con j.gj j.jl j.dead w' rfl) (fun u S2 hu => ?_)
          obtain ⟨rfl, rfl⟩ := hu
          refine j_subl (S' := [[(j.gj, JM.obj ⟨j.gj, j.lg, j.fp, j.name, j.age, j.fl, j.s, j.laid, 1⟩)], [(j.lg, j.lobj)], j.s.c, j.s.gl, r1.heap, j.laid.c, j.laid.lf]) (by repeat first | exact slR _ | exact slN _ | apply slC | apply slD) ?_
          refine j_perm (S' := [JM.heap ⟨j.gj, j.lg, j.fp, j.name, j.age, j.fl, j.s, j.laid, 1⟩, r1.heap]) (jm_fin ⟨j.gj, j.lg, j.fp, j.name, j.age, j.fl, j.s, j.laid, 1⟩ r1) ?_
          refine j_ret_con (vs := [_]) (fun w' hw' => ⟨rfl, trivial⟩) ?_
          have hX := com1 (id := id) hd hdn hb
          exact ⟨by rw [hX.1]; rfl, ⟨j.gj, j.lg, j.fp, j.name, j.age, j.fl, j.s, j.laid, 1⟩, r1, rfl, by rw [hX.2.1]; exact ⟨hok.s, hok.l, hok.nm, hok.ag, hok.gs, hok.dn, rfl, fun h => by simp at h⟩, by rw [hX.2.2]; exact hr1, rfl, rfl, hto1⟩
        · skip
          have hb : burnt f = false := by
            cases hx : burnt f
            · rfl
            · rw [hx] at hc3
              simp at hc3
          rw [hb] at hr1
          rw [if_pos (by simp)] at hr1
          refine j_q (qs_lenl Tryz.underlying39 rfl) ?_
          refine j_q (qs_add64 rfl rfl (by first | omega | (simp only [bnA] at *; omega))) ?_
          refine j_q (qs_nil rfl) ?_
          refine j_q (qs_field Tryz.underlying68 rfl sz3 (by decide) rfl) ?_
          refine j_store (l := j.jl) 0 sz3 rfl rfl rfl rfl (by simp) (by simp) ?_
          refine j_q (qs_nil rfl) ?_
          refine j_q (qs_field Tryz.underlying68 rfl sz3 (by decide) rfl) ?_
          refine j_store (l := j.jl) 0 sz3 rfl rfl rfl rfl (by simp) (by simp) ?_
          refine j_q (qs_nil rfl) ?_
          refine j_q (qs_field Tryz.underlying68 rfl sz25 (by decide) rfl) ?_
          refine j_q (qs_load (l := jl j.fp j.name j.age 0 ((0 : Int) + ((grpE a.down).length : Int)) (j.s.v) (((sizeG j.s.gs : Nat) : Int)) j.lg j.dead) (v := r.ptr) 0 Tryz.underlying25 rfl rfl rfl (congrArg some hfp)) ?_
          rw [show r.ptr = r1.ptr from by rw [FR.ptr, FR.ptr, hto1]]
          refine j_call 4 ent36 rfl rfl rfl rfl (fun w' hw' => syncG_con r1 (stepF f (comT a id)) w' hr1) (fun u S2 hu => ?_)
          obtain ⟨rfl, r2, rfl, hr2, hto2⟩ := hu
          rw [mayE_b (stepF f (comT a id)) (ns := []) rfl] at hr2 ⊢
          refine j_subl (S' := [r2.heap, [(j.gj, .cells (jl j.fp j.name j.age 0 ((0 : Int) + ((grpE a.down).length : Int)) (j.s.v) (((sizeG j.s.gs : Nat) : Int)) j.lg j.dead).toArray 68 (0, 0))], [(j.lg, j.lobj)], j.s.c, j.s.gl, cb, [(g31, gobj j.laid.v ((sizeR j.laid.rs : Nat) : Int) 1 0 0 (.slice Ab (grpE a.down).length capb))], j.laid.c, j.laid.lf]) (by repeat first | exact slR _ | exact slN _ | apply slC | apply slD) ?_
          refine j_perm (S' := [[(j.gj, .cells (jl j.fp j.name j.age 0 ((0 : Int) + ((grpE a.down).length : Int)) (j.s.v) (((sizeG j.s.gs : Nat) : Int)) j.lg j.dead).toArray 68 (0, 0))], [(j.lg, j.lobj)], j.s.c, j.s.gl, r2.heap, cb, [(g31, gobj j.laid.v ((sizeR j.laid.rs : Nat) : Int) 1 0 0 (.slice Ab (grpE a.down).length capb))], j.laid.c, j.laid.lf]) (by
            classical
            refine List.perm_iff_count.2 fun x => ?_
            simp only [RR.heap, GS.heap, List.set, List.flatten_cons, List.flatten_nil, List.append_nil, List.nil_append, List.cons_append, List.count_append, List.count_cons, List.count_nil]
            omega) ?_
          refine j_q (qs_neq rfl rfl) ?_
          refine j_cond rfl (fun hc4 => ?_) (fun hc4 => ?_)
          · skip
            have hb2 : burnt (stepF f (comT a id)) = true := by
              cases hx : burnt (stepF f (comT a id))
              · rw [hx] at hc4
                simp at hc4
              · rfl
            rw [hb2] at hr2 ⊢
            rw [if_neg (by simp)] at hr2
            rw [if_pos rfl]
            refine j_call 0 ent35 rfl rfl rfl rfl (fun w' hw' => jmet_con j.gj (jl j.fp j.name j.age 0 ((0 : Int) + ((grpE a.down).length : Int)) (j.s.v) (((sizeG j.s.gs : Nat) : Int)) j.lg j.dead) j.dead w' rfl) (fun u S2 hu => ?_)
            obtain ⟨rfl, rfl⟩ := hu
            refine j_subl (S' := [[(j.gj, JM.obj ⟨j.gj, j.lg, j.fp, j.name, j.age, ((0 : Int) + ((grpE a.down).length : Int)), j.s, j.laid, 1⟩)], [(j.lg, j.lobj)], j.s.c, j.s.gl, r2.heap, j.laid.c, j.laid.lf]) (by repeat first | exact slR _ | exact slN _ | apply slC | apply slD) ?_
            refine j_perm (S' := [JM.heap ⟨j.gj, j.lg, j.fp, j.name, j.age, ((0 : Int) + ((grpE a.down).length : Int)), j.s, j.laid, 1⟩, r2.heap]) (jm_fin ⟨j.gj, j.lg, j.fp, j.name, j.age, ((0 : Int) + ((grpE a.down).length : Int)), j.s, j.laid, 1⟩ r2) ?_
            refine j_ret_con (vs := [_]) (fun w' hw' => ⟨rfl, trivial⟩) ?_
            have hX := com2 hd hdn hb hb2
            exact ⟨by rw [hX.1]; rfl, ⟨j.gj, j.lg, j.fp, j.name, j.age, ((0 : Int) + ((grpE a.down).length : Int)), j.s, j.laid, 1⟩, r2, rfl, by rw [hX.2.1]; exact ⟨hok.s, hok.l, hok.nm, hok.ag, hok.gs, hok.dn, rfl, fun h => by simp at h⟩, by rw [hX.2.2]; exact hr2, rfl, rfl, hto2.trans hto1⟩
          · skip
            have hb2 : burnt (stepF f (comT a id)) = false := by
              cases hx : burnt (stepF f (comT a id))
              · rfl
              · rw [hx] at hc4
                simp at hc4
            rw [hb2] at hr2
            rw [if_pos (by simp)] at hr2
            refine j_q (qs_nil rfl) ?_
            refine j_q (qs_field Tryz.underlying68 rfl sz60 (by decide) rfl) ?_
            refine j_q (qs_load (l := jl j.fp j.name j.age 0 ((0 : Int) + ((grpE a.down).length : Int)) (j.s.v) (((sizeG j.s.gs : Nat) : Int)) j.lg j.dead) (v := j.s.v) 0 Tryz.underlying60 rfl rfl rfl rfl) ?_
            refine j_lit (vs := [.pointer (some ⟨g31, 0, none⟩)]) Tryz.underlying60 sz61 zero61 rfl (by simp [oneV]) ⟨rfl, by decide⟩ (fun g66 v66 c66 hv66 hc66 ho66 => ?_)
            subst hv66 hc66
            refine j_append 3 Tryz.underlying60 Tryz.underlying60 (.inr ⟨_, rfl⟩) sb61 zero61 rfl hok.s.row rfl (.inl ⟨_, _, rfl, rd_own (off := 0) (n := 1) 0 rfl rfl, rfl⟩) (by simp [oneV]) ⟨(by simp only [List.length_map]; simp; omega), (by decide)⟩ (fun v67 c67 ho67 => ?_)
            obtain ⟨n67, A67, cap67, rfl, hn67⟩ := own_form ho67 (by decide)
            refine j_q (qs_nil rfl) ?_
            refine j_q (qs_field Tryz.underlying68 rfl sz60 (by decide) rfl) ?_
            refine j_store (l := jl j.fp j.name j.age 0 ((0 : Int) + ((grpE a.down).length : Int)) (j.s.v) (((sizeG j.s.gs : Nat) : Int)) j.lg j.dead) 1 sz60 rfl rfl rfl rfl (by simp) (by simp) ?_
            refine j_mix [[(j.gj, .cells (jl j.fp j.name j.age 0 ((0 : Int) + ((grpE a.down).length : Int)) (.slice A67 n67 cap67) (((sizeG j.s.gs : Nat) : Int)) j.lg j.dead).toArray 68 (0, 0))], [(g31, gobj j.laid.v ((sizeR j.laid.rs : Nat) : Int) 1 0 0 (.slice Ab (grpE a.down).length capb))]] (Le.of_sub (by repeat first | exact slR _ | exact slN _ | apply slC | apply slD)) ?_
            refine j_mq (qs_nil rfl) ?_
            refine j_mq (qs_field Tryz.underlying68 rfl sz3 (by decide) rfl) ?_
            refine j_mq (qs_load (l := jl j.fp j.name j.age 0 ((0 : Int) + ((grpE a.down).length : Int)) (.slice A67 n67 cap67) (((sizeG j.s.gs : Nat) : Int)) j.lg j.dead) (v := .int .i64 ((sizeG j.s.gs : Nat) : Int)) 0 Tryz.underlying3 rfl rfl rfl rfl) ?_
            refine j_mq (qs_nil rfl) ?_
            refine j_mq (qs_field Tryz.underlying77 rfl sz3 (by decide) rfl) ?_
            refine j_mq (qs_load (l := gl j.laid.v ((sizeR j.laid.rs : Nat) : Int) 1 0 0 (.slice Ab (grpE a.down).length capb)) (v := .int .i64 ((sizeR j.laid.rs : Nat) : Int)) 1 Tryz.underlying3 rfl rfl rfl rfl) ?_
            refine j_mq (qs_add64 rfl rfl (by first | omega | (simp only [bnA] at *; omega))) ?_
            refine j_mq (qs_nil rfl) ?_
            refine j_mq (qs_field Tryz.underlying68 rfl sz3 (by decide) rfl) ?_
            refine j_store (l := jl j.fp j.name j.age 0 ((0 : Int) + ((grpE a.down).length : Int)) (.slice A67 n67 cap67) (((sizeG j.s.gs : Nat) : Int)) j.lg j.dead) 1 sz3 rfl rfl rfl rfl (by simp) (by simp) ?_
            refine j_mR _ (.refl _) ?_
            refine j_mend ?_
            refine j_q (qs_run (v := .agg ([nilS, .int .i64 0, .int .u32 0, .int .i32 0, .int .u32 0, nilS]).toArray) (fun w => by kernel_rfl)) ?_
            refine j_box (l := [nilS, .int .i64 0, .int .u32 0, .int .i32 0, .int .u32 0, nilS]) rfl (fun g82 hg82 hs82 => ?_)
            refine j_q (qs_nil rfl) ?_
            refine j_q (qs_field Tryz.underlying68 rfl sz61 (by decide) rfl) ?_
            refine j_store (l := jl j.fp j.name j.age 0 ((0 : Int) + ((grpE a.down).length : Int)) (.slice A67 n67 cap67) (((sizeG j.s.gs : Nat) : Int) + ((sizeR j.laid.rs : Nat) : Int)) j.lg j.dead) 2 sz61 rfl rfl rfl rfl (by simp) (by simp) ?_
            refine j_q (qs_ac) ?_
            refine j_subl (S' := [[(g82, gobj nilS 0 0 0 0 nilS)], [(j.gj, .cells (jl j.fp j.name j.age 0 ((0 : Int) + ((grpE a.down).length : Int)) (.slice A67 n67 cap67) (((sizeG j.s.gs : Nat) : Int) + ((sizeR j.laid.rs : Nat) : Int)) g82 j.dead).toArray 68 (0, 0))], c67, j.s.gl, r2.heap, [(g31, gobj j.laid.v ((sizeR j.laid.rs : Nat) : Int) 1 0 0 (.slice Ab (grpE a.down).length capb))], j.laid.c, j.laid.lf]) (by repeat first | exact slR _ | exact slN _ | apply slC | apply slD) ?_
            refine j_perm (S' := [JM.heap ⟨j.gj, g82, j.fp, j.name, j.age, (0 : Int) + ((grpE a.down).length : Int), j.s.add (.slice A67 n67 cap67) c67 ⟨g31, j.laid, [.int .i64 ((sizeR j.laid.rs : Nat) : Int), .int .u32 1, .int .i32 0, .int .u32 0, .slice Ab (grpE a.down).length capb]⟩, ⟨nilS, [], []⟩, j.dead⟩, r2.heap]) (jm_com j r2) ?_
            refine j_ret_con (vs := [_]) (fun w' hw' => ⟨rfl, trivial⟩) ?_
            have hX := com3 hd hdn hb hb2
            exact ⟨by rw [hX.1]; rfl, ⟨j.gj, g82, j.fp, j.name, j.age, (0 : Int) + ((grpE a.down).length : Int), j.s.add (.slice A67 n67 cap67) c67 ⟨g31, j.laid, [.int .i64 ((sizeR j.laid.rs : Nat) : Int), .int .u32 1, .int .i32 0, .int .u32 0, .slice Ab (grpE a.down).length capb]⟩, ⟨nilS, [], []⟩, j.dead⟩, r2, rfl, by rw [hX.2.1]; exact ⟨hok.s.add ho67 hok.l, rr0, hok.nm, hok.ag, by rw [GS.add_gs, hok.gs, hok.dn], rfl, by rw [hok.dd, hd], by
              intro _
              rw [fillE_cons (by simp), gsE_snoc, List.length_append, Int.natCast_add]
              simp only
              rw [hg0, gsE_nil]
              rfl⟩, by rw [hX.2.2]; exact hr2, rfl, rfl, hto2.trans hto1⟩
      · skip
        have hg0 : a.gs ≠ [] := fun h => by
          have h8 := hok.fl hd
          rw [fillE_nil h] at h8
          simp only [bnA] at *
          omega
        have hfl : j.fl = ((gsE a.gs).length : Int) := by rw [hok.fl hd, fillE_cons hg0]
        obtain ⟨hyes, hcon⟩ : alook f.now.nm (fileN a.name a.age 0) ≠ none ∧ contA f.now (fileN a.name a.age 0) = gsE a.gs := by
          rcases hc.js.f0 with ⟨h, _⟩ | ⟨_, h, h'⟩
          · exact absurd h hg0
          · exact ⟨h, h'⟩
        have hwr := appE_val (f := f) (xs := grpE a.down) (nameOk_file hc.nl hc.ag) hyes (by rw [sizeA_cont, hcon]; exact hc.by_) hc.us.2
        have hcT : comT a id = .ap (fileN a.name a.age 0) (grpE a.down) := by rw [comT, if_neg hg0]
        refine j_q (qs_lenl Tryz.underlying39 rfl) ?_
        refine j_q (qs_add64 rfl rfl (by first | omega | (simp only [bnA] at *; omega))) ?_
        refine j_q (qs_gtr rfl rfl) ?_
        refine j_cond rfl (fun hc5 => ?_) (fun hc5 => ?_)
        · skip
          rw [hfl] at hc5
          simp only [bnA] at *
          omega
        · skip
          refine j_mix [[(j.gj, .cells (j.jl).toArray 68 (0, 0))]] (Le.of_sub (by repeat first | exact slR _ | exact slN _ | apply slC | apply slD)) ?_
          refine j_mq (qs_nil rfl) ?_
          refine j_mq (qs_field Tryz.underlying68 rfl sz25 (by decide) rfl) ?_
          refine j_mq (qs_load (l := j.jl) (v := r.ptr) 0 Tryz.underlying25 rfl rfl rfl (congrArg some hfp)) ?_
          refine j_q (qs_call ent33 rfl rfl rfl (fun w' hw' => file_con j.gj j.fp a.name a.age 0 _ w' (by rw [← hok.nm, ← hok.ag]; exact hw'.at_ (k := 0) rfl) (hP.keep hw' h0) hc.ag (by decide) (by have := hc.nl; omega))) ?_
          refine j_mD0 (Le.of_sub (by repeat first | exact slR _ | exact slN _ | apply slC | apply slD)) ?_
          refine j_call 4 ent34 rfl rfl rfl rfl (fun w' hw' => appendG_con r f (fileN a.name a.age 0) _ (grpE a.down) w' hfo (by have := hc.pd; omega) (strOk_file (by have := hc.nl; omega) hc.ag (by decide)) (own_br hcb 5 rfl hw') (sep_own hcb (k := 5) (m := 4) rfl rfl (by decide) hw') (by omega) hc.rm) (fun u S2 hu => ?_)
          obtain ⟨rfl, r1, rfl, hr1, hto1⟩ := hu
          rw [hwr] at hr1 ⊢
          rw [← hcT] at hr1
          refine j_mR _ (.refl _) ?_
          refine j_mend ?_
          refine j_perm (S' := [[(j.gj, .cells (j.jl).toArray 68 (0, 0))], [(j.lg, j.lobj)], j.s.c, j.s.gl, r1.heap, cb, [(g31, gobj j.laid.v ((sizeR j.laid.rs : Nat) : Int) 1 0 0 (.slice Ab (grpE a.down).length capb))], j.laid.c, j.laid.lf]) (by
            classical
            refine List.perm_iff_count.2 fun x => ?_
            simp only [RR.heap, GS.heap, List.set, List.flatten_cons, List.flatten_nil, List.append_nil, List.nil_append, List.cons_append, List.count_append, List.count_cons, List.count_nil]
            omega) ?_
          refine j_q (qs_neq rfl rfl) ?_
          refine j_cond rfl (fun hc8 => ?_) (fun hc8 => ?_)
          · skip
            have hb : burnt f = true := by
              cases hx : burnt f
              · rw [hx] at hc8
                simp at hc8
              · rfl
            rw [hb] at hr1 ⊢
            rw [if_neg (by simp)] at hr1
            rw [if_pos rfl]
            refine j_call 0 ent35 rfl rfl rfl rfl (fun w' hw' => jmet_con j.gj j.jl j.dead w' rfl) (fun u S2 hu => ?_)
            obtain ⟨rfl, rfl⟩ := hu
            refine j_subl (S' := [[(j.gj, JM.obj ⟨j.gj, j.lg, j.fp, j.name, j.age, j.fl, j.s, j.laid, 1⟩)], [(j.lg, j.lobj)], j.s.c, j.s.gl, r1.heap, j.laid.c, j.laid.lf]) (by repeat first | exact slR _ | exact slN _ | apply slC | apply slD) ?_
            refine j_perm (S' := [JM.heap ⟨j.gj, j.lg, j.fp, j.name, j.age, j.fl, j.s, j.laid, 1⟩, r1.heap]) (jm_fin ⟨j.gj, j.lg, j.fp, j.name, j.age, j.fl, j.s, j.laid, 1⟩ r1) ?_
            refine j_ret_con (vs := [_]) (fun w' hw' => ⟨rfl, trivial⟩) ?_
            have hX := com1 (id := id) hd hdn hb
            exact ⟨by rw [hX.1]; rfl, ⟨j.gj, j.lg, j.fp, j.name, j.age, j.fl, j.s, j.laid, 1⟩, r1, rfl, by rw [hX.2.1]; exact ⟨hok.s, hok.l, hok.nm, hok.ag, hok.gs, hok.dn, rfl, fun h => by simp at h⟩, by rw [hX.2.2]; exact hr1, rfl, rfl, hto1⟩
          · skip
            have hb : burnt f = false := by
              cases hx : burnt f
              · rfl
              · rw [hx] at hc8
                simp at hc8
            rw [hb] at hr1
            rw [if_pos (by simp)] at hr1
            refine j_q (qs_lenl Tryz.underlying39 rfl) ?_
            refine j_q (qs_add64 rfl rfl (by first | omega | (simp only [bnA] at *; omega))) ?_
            refine j_q (qs_nil rfl) ?_
            refine j_q (qs_field Tryz.underlying68 rfl sz3 (by decide) rfl) ?_
            refine j_store (l := j.jl) 0 sz3 rfl rfl rfl rfl (by simp) (by simp) ?_
            refine j_q (qs_nil rfl) ?_
            refine j_q (qs_field Tryz.underlying68 rfl sz3 (by decide) rfl) ?_
            refine j_store (l := j.jl) 0 sz3 rfl rfl rfl rfl (by simp) (by simp) ?_
            refine j_q (qs_nil rfl) ?_
            refine j_q (qs_field Tryz.underlying68 rfl sz25 (by decide) rfl) ?_
            refine j_q (qs_load (l := jl j.fp j.name j.age 0 (j.fl + ((grpE a.down).length : Int)) (j.s.v) (((sizeG j.s.gs : Nat) : Int)) j.lg j.dead) (v := r.ptr) 0 Tryz.underlying25 rfl rfl rfl (congrArg some hfp)) ?_
            rw [show r.ptr = r1.ptr from by rw [FR.ptr, FR.ptr, hto1]]
            refine j_call 4 ent36 rfl rfl rfl rfl (fun w' hw' => syncG_con r1 (stepF f (comT a id)) w' hr1) (fun u S2 hu => ?_)
            obtain ⟨rfl, r2, rfl, hr2, hto2⟩ := hu
            rw [mayE_b (stepF f (comT a id)) (ns := []) rfl] at hr2 ⊢
            refine j_subl (S' := [r2.heap, [(j.gj, .cells (jl j.fp j.name j.age 0 (j.fl + ((grpE a.down).length : Int)) (j.s.v) (((sizeG j.s.gs : Nat) : Int)) j.lg j.dead).toArray 68 (0, 0))], [(j.lg, j.lobj)], j.s.c, j.s.gl, cb, [(g31, gobj j.laid.v ((sizeR j.laid.rs : Nat) : Int) 1 0 0 (.slice Ab (grpE a.down).length capb))], j.laid.c, j.laid.lf]) (by repeat first | exact slR _ | exact slN _ | apply slC | apply slD) ?_
            refine j_perm (S' := [[(j.gj, .cells (jl j.fp j.name j.age 0 (j.fl + ((grpE a.down).length : Int)) (j.s.v) (((sizeG j.s.gs : Nat) : Int)) j.lg j.dead).toArray 68 (0, 0))], [(j.lg, j.lobj)], j.s.c, j.s.gl, r2.heap, cb, [(g31, gobj j.laid.v ((sizeR j.laid.rs : Nat) : Int) 1 0 0 (.slice Ab (grpE a.down).length capb))], j.laid.c, j.laid.lf]) (by
              classical
              refine List.perm_iff_count.2 fun x => ?_
              simp only [RR.heap, GS.heap, List.set, List.flatten_cons, List.flatten_nil, List.append_nil, List.nil_append, List.cons_append, List.count_append, List.count_cons, List.count_nil]
              omega) ?_
            refine j_q (qs_neq rfl rfl) ?_
            refine j_cond rfl (fun hc9 => ?_) (fun hc9 => ?_)
            · skip
              have hb2 : burnt (stepF f (comT a id)) = true := by
                cases hx : burnt (stepF f (comT a id))
                · rw [hx] at hc9
                  simp at hc9
                · rfl
              rw [hb2] at hr2 ⊢
              rw [if_neg (by simp)] at hr2
              rw [if_pos rfl]
              refine j_call 0 ent35 rfl rfl rfl rfl (fun w' hw' => jmet_con j.gj (jl j.fp j.name j.age 0 (j.fl + ((grpE a.down).length : Int)) (j.s.v) (((sizeG j.s.gs : Nat) : Int)) j.lg j.dead) j.dead w' rfl) (fun u S2 hu => ?_)
              obtain ⟨rfl, rfl⟩ := hu
              refine j_subl (S' := [[(j.gj, JM.obj ⟨j.gj, j.lg, j.fp, j.name, j.age, (j.fl + ((grpE a.down).length : Int)), j.s, j.laid, 1⟩)], [(j.lg, j.lobj)], j.s.c, j.s.gl, r2.heap, j.laid.c, j.laid.lf]) (by repeat first | exact slR _ | exact slN _ | apply slC | apply slD) ?_
              refine j_perm (S' := [JM.heap ⟨j.gj, j.lg, j.fp, j.name, j.age, (j.fl + ((grpE a.down).length : Int)), j.s, j.laid, 1⟩, r2.heap]) (jm_fin ⟨j.gj, j.lg, j.fp, j.name, j.age, (j.fl + ((grpE a.down).length : Int)), j.s, j.laid, 1⟩ r2) ?_
              refine j_ret_con (vs := [_]) (fun w' hw' => ⟨rfl, trivial⟩) ?_
              have hX := com2 hd hdn hb hb2
              exact ⟨by rw [hX.1]; rfl, ⟨j.gj, j.lg, j.fp, j.name, j.age, (j.fl + ((grpE a.down).length : Int)), j.s, j.laid, 1⟩, r2, rfl, by rw [hX.2.1]; exact ⟨hok.s, hok.l, hok.nm, hok.ag, hok.gs, hok.dn, rfl, fun h => by simp at h⟩, by rw [hX.2.2]; exact hr2, rfl, rfl, hto2.trans hto1⟩
            · skip
              have hb2 : burnt (stepF f (comT a id)) = false := by
                cases hx : burnt (stepF f (comT a id))
                · rfl
                · rw [hx] at hc9
                  simp at hc9
              rw [hb2] at hr2
              rw [if_pos (by simp)] at hr2
              refine j_q (qs_nil rfl) ?_
              refine j_q (qs_field Tryz.underlying68 rfl sz60 (by decide) rfl) ?_
              refine j_q (qs_load (l := jl j.fp j.name j.age 0 (j.fl + ((grpE a.down).length : Int)) (j.s.v) (((sizeG j.s.gs : Nat) : Int)) j.lg j.dead) (v := j.s.v) 0 Tryz.underlying60 rfl rfl rfl rfl) ?_
              refine j_lit (vs := [.pointer (some ⟨g31, 0, none⟩)]) Tryz.underlying60 sz61 zero61 rfl (by simp [oneV]) ⟨rfl, by decide⟩ (fun g66 v66 c66 hv66 hc66 ho66 => ?_)
              subst hv66 hc66
              refine j_append 3 Tryz.underlying60 Tryz.underlying60 (.inr ⟨_, rfl⟩) sb61 zero61 rfl hok.s.row rfl (.inl ⟨_, _, rfl, rd_own (off := 0) (n := 1) 0 rfl rfl, rfl⟩) (by simp [oneV]) ⟨(by simp only [List.length_map]; simp; omega), (by decide)⟩ (fun v162 c162 ho162 => ?_)
              obtain ⟨n67, A67, cap67, rfl, hn67⟩ := own_form ho162 (by decide)
              refine j_q (qs_nil rfl) ?_
              refine j_q (qs_field Tryz.underlying68 rfl sz60 (by decide) rfl) ?_
              refine j_store (l := jl j.fp j.name j.age 0 (j.fl + ((grpE a.down).length : Int)) (j.s.v) (((sizeG j.s.gs : Nat) : Int)) j.lg j.dead) 1 sz60 rfl rfl rfl rfl (by simp) (by simp) ?_
              refine j_mix [[(j.gj, .cells (jl j.fp j.name j.age 0 (j.fl + ((grpE a.down).length : Int)) (.slice A67 n67 cap67) (((sizeG j.s.gs : Nat) : Int)) j.lg j.dead).toArray 68 (0, 0))], [(g31, gobj j.laid.v ((sizeR j.laid.rs : Nat) : Int) 1 0 0 (.slice Ab (grpE a.down).length capb))]] (Le.of_sub (by repeat first | exact slR _ | exact slN _ | apply slC | apply slD)) ?_
              refine j_mq (qs_nil rfl) ?_
              refine j_mq (qs_field Tryz.underlying68 rfl sz3 (by decide) rfl) ?_
              refine j_mq (qs_load (l := jl j.fp j.name j.age 0 (j.fl + ((grpE a.down).length : Int)) (.slice A67 n67 cap67) (((sizeG j.s.gs : Nat) : Int)) j.lg j.dead) (v := .int .i64 ((sizeG j.s.gs : Nat) : Int)) 0 Tryz.underlying3 rfl rfl rfl rfl) ?_
              refine j_mq (qs_nil rfl) ?_
              refine j_mq (qs_field Tryz.underlying77 rfl sz3 (by decide) rfl) ?_
              refine j_mq (qs_load (l := gl j.laid.v ((sizeR j.laid.rs : Nat) : Int) 1 0 0 (.slice Ab (grpE a.down).length capb)) (v := .int .i64 ((sizeR j.laid.rs : Nat) : Int)) 1 Tryz.underlying3 rfl rfl rfl rfl) ?_
              refine j_mq (qs_add64 rfl rfl (by first | omega | (simp only [bnA] at *; omega))) ?_
              refine j_mq (qs_nil rfl) ?_
              refine j_mq (qs_field Tryz.underlying68 rfl sz3 (by decide) rfl) ?_
              refine j_store (l := jl j.fp j.name j.age 0 (j.fl + ((grpE a.down).length : Int)) (.slice A67 n67 cap67) (((sizeG j.s.gs : Nat) : Int)) j.lg j.dead) 1 sz3 rfl rfl rfl rfl (by simp) (by simp) ?_
              refine j_mR _ (.refl _) ?_
              refine j_mend ?_
              refine j_q (qs_run (v := .agg ([nilS, .int .i64 0, .int .u32 0, .int .i32 0, .int .u32 0, nilS]).toArray) (fun w => by kernel_rfl)) ?_
              refine j_box (l := [nilS, .int .i64 0, .int .u32 0, .int .i32 0, .int .u32 0, nilS]) rfl (fun g82 hg82 hs82 => ?_)
              refine j_q (qs_nil rfl) ?_
              refine j_q (qs_field Tryz.underlying68 rfl sz61 (by decide) rfl) ?_
              refine j_store (l := jl j.fp j.name j.age 0 (j.fl + ((grpE a.down).length : Int)) (.slice A67 n67 cap67) (((sizeG j.s.gs : Nat) : Int) + ((sizeR j.laid.rs : Nat) : Int)) j.lg j.dead) 2 sz61 rfl rfl rfl rfl (by simp) (by simp) ?_
              refine j_q (qs_ac) ?_
              refine j_subl (S' := [[(g82, gobj nilS 0 0 0 0 nilS)], [(j.gj, .cells (jl j.fp j.name j.age 0 (j.fl + ((grpE a.down).length : Int)) (.slice A67 n67 cap67) (((sizeG j.s.gs : Nat) : Int) + ((sizeR j.laid.rs : Nat) : Int)) g82 j.dead).toArray 68 (0, 0))], c162, j.s.gl, r2.heap, [(g31, gobj j.laid.v ((sizeR j.laid.rs : Nat) : Int) 1 0 0 (.slice Ab (grpE a.down).length capb))], j.laid.c, j.laid.lf]) (by repeat first | exact slR _ | exact slN _ | apply slC | apply slD) ?_
              refine j_perm (S' := [JM.heap ⟨j.gj, g82, j.fp, j.name, j.age, j.fl + ((grpE a.down).length : Int), j.s.add (.slice A67 n67 cap67) c162 ⟨g31, j.laid, [.int .i64 ((sizeR j.laid.rs : Nat) : Int), .int .u32 1, .int .i32 0, .int .u32 0, .slice Ab (grpE a.down).length capb]⟩, ⟨nilS, [], []⟩, j.dead⟩, r2.heap]) (jm_com j r2) ?_
              refine j_ret_con (vs := [_]) (fun w' hw' => ⟨rfl, trivial⟩) ?_
              have hX := com3 hd hdn hb hb2
              exact ⟨by rw [hX.1]; rfl, ⟨j.gj, g82, j.fp, j.name, j.age, j.fl + ((grpE a.down).length : Int), j.s.add (.slice A67 n67 cap67) c162 ⟨g31, j.laid, [.int .i64 ((sizeR j.laid.rs : Nat) : Int), .int .u32 1, .int .i32 0, .int .u32 0, .slice Ab (grpE a.down).length capb]⟩, ⟨nilS, [], []⟩, j.dead⟩, r2, rfl, by rw [hX.2.1]; exact ⟨hok.s.add ho162 hok.l, rr0, hok.nm, hok.ag, by rw [GS.add_gs, hok.gs, hok.dn], rfl, by rw [hok.dd, hd], by
                intro _
                rw [fillE_cons (by simp), gsE_snoc, List.length_append, Int.natCast_add]
                simp only
                rw [hfl]⟩, by rw [hX.2.2]; exact hr2, rfl, rfl, hto2.trans hto1⟩
end Go.Proofs.YtomajiicjinekaaGreatDoor
/-! Jn13 -/
namespace Go.Proofs.YtomajiicjinekaaGreatDoor
open Go Go.Sx
set_option maxRecDepth 100000
set_option maxHeartbeats 4000000
set_option linter.unusedVariables false
set_option linter.unusedSimpArgs false
attribute [local irreducible] J JQ QS Con W opW
attribute [local irreducible] sum gsE headE fileN contA readE grpE fillE
theorem jcomD_con (j : JM) (a : JA) (r : FR) (f : AF) (id : Nat) (w : World) (hok : j.Ok a) (hfo : r.Ok f) (hd : a.dead = true) : Con Tryz.prog 18 [j.ptr] w (j.heap ++ r.heap) fun u S' => u = .int .i64 (comE a f id) ∧ ∃ (j' : JM) (r' : FR), S' = [j'.heap, r'.heap] ∧ j'.Ok (comJ a f id) ∧ r'.Ok (comA a f id) ∧ j'.gj = j.gj ∧ j'.fp = j.fp ∧ r'.gf = r.gf := by
  refine con_of_tree mix Tryz.func18 T18_ok (by kernel_rfl) ?_
  unfold T18
  refine j_perm (S' := [[(j.gj, j.obj)], [(j.lg, j.lobj)], j.s.c, j.s.gl, j.laid.c, j.laid.lf, r.heap]) (by simpa using perm_c7 j r) ?_
  refine j_q (qs_ac) ?_
  refine j_q (qs_call ent29 rfl rfl rfl (fun w' hw' => jmay_con j a w' hok (hw'.at_ (k := 0) rfl))) ?_
  refine j_q (qs_neq rfl rfl) ?_
  rw [mayJ, hd, if_pos rfl, show ((26 : Int) != 0) = true from rfl]
  refine j_gf rfl (by simp) ?_
  refine j_gf rfl (by simp) ?_
  refine j_gf rfl (by simp) ?_
  refine j_gf rfl (by simp) ?_
  refine j_gf rfl (by simp) ?_
  refine j_gf rfl (by simp) ?_
  refine j_gf rfl (by simp) ?_
  refine j_gf rfl (by simp) ?_
  refine j_gf rfl (by simp) ?_
  refine j_q (qs_or (b0 := true) (b1 := false) rfl rfl) ?_
  refine j_cond rfl (fun hc0 => ?_) (fun hc0 => ?_)
  · skip
    refine j_perm (S' := [j.heap, r.heap]) (by simpa using (perm_c7 j r).symm) ?_
    refine j_ret_con (vs := [_]) (fun w' hw' => ⟨rfl, trivial⟩) ?_
    exact ⟨by rw [show comE a f id = 26 from by simp [comE, hd]]; rfl, j, r, rfl, by simp only [comJ, hd]; simpa using hok, by simp only [comA, hd]; simpa using hfo, rfl, rfl, rfl⟩
  · skip
    simp at hc0
theorem jcom0_con (j : JM) (a : JA) (r : FR) (f : AF) (id : Nat) (w : World) (hok : j.Ok a) (hfo : r.Ok f) (hd : a.dead = false) (hdn : a.down = []) : Con Tryz.prog 18 [j.ptr] w (j.heap ++ r.heap) fun u S' => u = .int .i64 (comE a f id) ∧ ∃ (j' : JM) (r' : FR), S' = [j'.heap, r'.heap] ∧ j'.Ok (comJ a f id) ∧ r'.Ok (comA a f id) ∧ j'.gj = j.gj ∧ j'.fp = j.fp ∧ r'.gf = r.gf := by
  refine con_of_tree mix Tryz.func18 T18_ok (by kernel_rfl) ?_
  unfold T18
  obtain ⟨A, cap, hv, hA⟩ := hok.l.form
  have hlr : j.laid.L.length = 0 := by
    have h8 : j.laid.rs.length = j.laid.L.length := List.length_map _
    rw [← h8, hok.dn, hdn]
    rfl
  refine j_perm (S' := [[(j.gj, j.obj)], [(j.lg, j.lobj)], j.s.c, j.s.gl, j.laid.c, j.laid.lf, r.heap]) (by simpa using perm_c7 j r) ?_
  refine j_q (qs_ac) ?_
  refine j_q (qs_call ent29 rfl rfl rfl (fun w' hw' => jmay_con j a w' hok (hw'.at_ (k := 0) rfl))) ?_
  refine j_q (qs_neq rfl rfl) ?_
  rw [mayJ, hd, if_neg (show ¬ (false = true) by simp), show ((0 : Int) != 0) = false from rfl]
  refine j_gt rfl (qs_mt rfl) ?_
  refine j_gt rfl (qs_nil rfl) ?_
  refine j_gt rfl (qs_field Tryz.underlying68 rfl sz61 (by decide) rfl) ?_
  refine j_gt rfl (qs_load (l := j.jl) (v := .pointer (some ⟨j.lg, 0, none⟩)) 0 Tryz.underlying61 rfl rfl rfl rfl) ?_
  refine j_gt rfl (qs_nil rfl) ?_
  refine j_gt rfl (qs_field Tryz.underlying77 rfl sz34 (by decide) rfl) ?_
  refine j_gt rfl (qs_load (l := j.ll) (v := .slice A j.laid.L.length cap) 1 Tryz.underlying34 rfl rfl rfl (congrArg some hv)) ?_
  refine j_gt rfl (qs_lenl Tryz.underlying34 rfl) ?_
  refine j_gt rfl (qs_eql rfl rfl) ?_
  rw [show (((j.laid.L.length : Nat) : Int) == 0) = true by rw [beq_iff_eq]; omega]
  refine j_q (qs_or rfl rfl) ?_
  refine j_cond rfl (fun hc0 => ?_) (fun hc0 => ?_)
  · skip
    refine j_perm (S' := [j.heap, r.heap]) (by simpa using (perm_c7 j r).symm) ?_
    refine j_ret_con (vs := [_]) (fun w' hw' => ⟨rfl, trivial⟩) ?_
    exact ⟨by rw [show comE a f id = 0 from by simp [comE, hd, hdn]]; rfl, j, r, rfl, by simp only [comJ, hd, hdn]; simpa using hok, by simp only [comA, hd, hdn]; simpa using hfo, rfl, rfl, rfl⟩
  · skip
    simp at hc0
theorem jcomU_con (j : JM) (a : JA) (r : FR) (f : AF) (id : Nat) (w : World) (hok : j.Ok a) (hfo : r.Ok f) (hfp : j.fp = r.ptr) (hc : a.dead = false → a.down ≠ [] → ComOk a f id) (hP : P10 w) (h0 : 0 ∉ dom (j.heap ++ r.heap)) : Con Tryz.prog 18 [j.ptr] w (j.heap ++ r.heap) fun u S' => u = .int .i64 (comE a f id) ∧ ∃ (j' : JM) (r' : FR), S' = [j'.heap, r'.heap] ∧ j'.Ok (comJ a f id) ∧ r'.Ok (comA a f id) ∧ j'.gj = j.gj ∧ j'.fp = j.fp ∧ r'.gf = r.gf := by
  cases hd : a.dead
  · by_cases hdn : a.down = []
    · exact jcom0_con j a r f id w hok hfo hd hdn
    · exact jcom_con j a r f id w hok hfo hfp hd hdn (hc hd hdn) hP h0
  · exact jcomD_con j a r f id w hok hfo hd
end Go.Proofs.YtomajiicjinekaaGreatDoor
/-! Jn14 -/
namespace Go.Proofs.YtomajiicjinekaaGreatDoor
open Go Go.Sx
set_option maxRecDepth 100000
set_option maxHeartbeats 4000000
set_option linter.unusedVariables false
set_option linter.unusedSimpArgs false
attribute [local irreducible] J JQ QS Con W opW
def rmF (f : AF) (n : List UInt8) : AF := if remE f n = 0 then stepF f (.rm n) else f
def rmsF (f : AF) (ns : List (List UInt8)) : AF := ns.foldl rmF f
def resT (a : JA) (id : Nat) : AT := .wr a.name (headE (a.age + 1)) id
def resE (a : JA) (f : AF) (id : Nat) : Int := if a.dead then 26 else if burnt f then 26 else if burnt (stepF f (resT a id)) then 26 else 0
def resJ (a : JA) (f : AF) (id : Nat) : JA := if a.dead then a else if burnt f then { a with dead := true } else if burnt (stepF f (resT a id)) then { a with dead := true } else { a with age := a.age + 1, gs := [] }
def resA (a : JA) (f : AF) (id : Nat) : AF := if a.dead then f else if burnt f then f else if burnt (stepF f (resT a id)) then stepF f (resT a id) else rmsF (syncF (stepF f (resT a id))) (namesA f.now (a.name ++ [46]))
structure ResOk (a : JA) (f : AF) (id : Nat) : Prop where
  nl : 1 ≤ a.name.length ∧ a.name.length ≤ 100
  ag : a.age + 1 < 10000
  rm : f.room ≤ 1073741824
  us : 0 ≤ f.now.used ∧ f.now.used + 100 ≤ f.room
  nm : f.now.nm.length < 16000
  pd : f.pend.length < 16000
  id : ∀ q ∈ f.now.nm, q.2 ≠ id
theorem rmF_pend (f : AF) (n : List UInt8) : (rmF f n).pend.length ≤ f.pend.length + 1 := by
  unfold rmF
  split
  · unfold stepF
    simp
  · omega
theorem rmsF_snoc (f : AF) (ns : List (List UInt8)) (n : List UInt8) : rmsF f (ns ++ [n]) = rmF (rmsF f ns) n := by
  unfold rmsF
  rw [List.foldl_append]
  rfl
theorem rmsF_pend (f : AF) (ns : List (List UInt8)) : (rmsF f ns).pend.length ≤ f.pend.length + ns.length := by
  induction ns generalizing f with
  | nil => exact Nat.le_refl _
  | cons n ns ih =>
    have h1 := ih (rmF f n)
    have h2 := rmF_pend f n
    show (rmsF (rmF f n) ns).pend.length ≤ _
    rw [List.length_cons]
    omega
theorem namesA_len (s : AS) (p : List UInt8) : (namesA s p).length ≤ s.nm.length := by
  unfold namesA sortS
  rw [List.length_mergeSort]
  exact Nat.le_trans (List.length_filter_le _ _) (by rw [List.length_map]; exact Nat.le_refl _)
theorem res1 {a : JA} {f : AF} {id : Nat} (hd : a.dead = false) (hb : burnt f = true) : resE a f id = 26 ∧ resJ a f id = { a with dead := true } ∧ resA a f id = f := by
  unfold resE resJ resA
  rw [hd, hb]
  simp
theorem res2 {a : JA} {f : AF} {id : Nat} (hd : a.dead = false) (hb : burnt f = false) (hb2 : burnt (stepF f (resT a id)) = true) : resE a f id = 26 ∧ resJ a f id = { a with dead := true } ∧ resA a f id = stepF f (resT a id) := by
  unfold resE resJ resA
  rw [hd, hb, hb2]
  simp
theorem res3 {a : JA} {f : AF} {id : Nat} (hd : a.dead = false) (hb : burnt f = false) (hb2 : burnt (stepF f (resT a id)) = false) : resE a f id = 0 ∧ resJ a f id = { a with age := a.age + 1, gs := [] } ∧ resA a f id = rmsF (syncF (stepF f (resT a id))) (namesA f.now (a.name ++ [46])) := by
  unfold resE resJ resA
  rw [hd, hb, hb2]
  simp
theorem removeG_con (r : FR) (a : AF) (n : List UInt8) (w : World) (hok : r.Ok a) (hB : a.pend.length < 16384) (hn : strOk n) : Con Tryz.prog 39 [r.ptr, .string (bs n)] w r.heap fun v S' => v = .int .i64 (remE a n) ∧ ∃ r' : FR, S' = [r'.heap] ∧ r'.Ok (rmF a n) ∧ r'.gf = r.gf :=
  (remove_con r a n w hok hB hn).mono fun u S' hu => by
    obtain ⟨h1, r', h2, h3, h4⟩ := hu
    exact ⟨h1, r', h2, h3, h4.gf⟩
theorem notFullR {a : JA} {f : AF} {id : Nat} (h : ResOk a f id) : ¬ fullA f a.name (headE (a.age + 1)) := by
  have hu := h.us
  have hn := h.nm
  have hl := headE_len (a.age + 1)
  have hnl := num_len (show a.age + 1 < 268435456 by have := h.ag; omega)
  unfold fullA
  rintro (⟨_, h2⟩ | h2)
  · omega
  · have : (0 : Int) ≤ (freesA f.now a.name : Int) := Int.natCast_nonneg _
    omega
theorem jm_fin2 (j : JM) (r : FR) : ([[(j.gj, j.obj)], [(j.lg, j.lobj)], j.s.c, j.s.gl, j.laid.c, j.laid.lf, r.heap] : List SH).flatten.Perm [j.heap, r.heap].flatten := by
  simpa using (perm_c7 j r).symm
theorem jm_res (j : JM) (r : FR) {age : Nat} : ([[(j.gj, .cells (jl j.fp j.name age 0 (-1) nilS 0 j.lg j.dead).toArray 68 (0, 0))], [(j.lg, j.lobj)], j.laid.c, j.laid.lf, r.heap] : List SH).flatten.Perm [JM.heap ⟨j.gj, j.lg, j.fp, j.name, age, -1, ⟨nilS, [], []⟩, j.laid, j.dead⟩, r.heap].flatten := by
  have e1 : JM.obj ⟨j.gj, j.lg, j.fp, j.name, age, -1, ⟨nilS, [], []⟩, j.laid, j.dead⟩ = .cells (jl j.fp j.name age 0 (-1) nilS 0 j.lg j.dead).toArray 68 (0, 0) := rfl
  have e2 : JM.lobj ⟨j.gj, j.lg, j.fp, j.name, age, -1, ⟨nilS, [], []⟩, j.laid, j.dead⟩ = j.lobj := rfl
  have e3 : GS.heap ⟨nilS, [], []⟩ = [] := rfl
  classical
  refine List.perm_iff_count.2 fun x => ?_
  unfold JM.heap
  rw [e1, e2]
  simp only
  rw [e3]
  simp only [RR.heap, List.flatten_cons, List.flatten_nil, List.append_nil, List.nil_append, List.cons_append, List.count_append, List.count_cons, List.count_nil]
  omega
attribute [local irreducible] sum gsE headE fileN contA readE grpE fillE namesA
theorem jreset_con (j : JM) (a : JA) (r : FR) (f : AF) (id : Nat) (w : World) (hok : j.Ok a) (hfo : r.Ok f) (hfp : j.fp = r.ptr) (hd : a.dead = false) (hc : ResOk a f id) (hstr : ∀ n ∈ namesA f.now (a.name ++ [46]), strOk n) : Con Tryz.prog 20 [j.ptr] w (j.heap ++ r.heap) fun u S' => u = .int .i64 (resE a f id) ∧ ∃ (j' : JM) (r' : FR), S' = [j'.heap, r'.heap] ∧ j'.Ok (resJ a f id) ∧ r'.Ok (resA a f id) ∧ j'.gj = j.gj ∧ j'.fp = j.fp ∧ r'.gf = r.gf := by
  refine con_of_tree mix Tryz.func20 T20_ok (by kernel_rfl) ?_
  unfold T20
  have hhl := headE_len (a.age + 1)
  have hnl2 := num_len (show a.age + 1 < 268435456 by have := hc.ag; omega)
  have hwr := wrE_val (f := f) (n := a.name) (xs := headE (a.age + 1)) (by have := hc.nl; unfold nameOk; rw [decide_eq_true (by omega), decide_eq_true (by omega)]; rfl) (by omega) (notFullR hc)
  refine j_perm (S' := [[(j.gj, j.obj)], [(j.lg, j.lobj)], j.s.c, j.s.gl, j.laid.c, j.laid.lf, r.heap]) (by simpa using perm_c7 j r) ?_
  refine j_q (qs_ac) ?_
  refine j_q (qs_call ent29 rfl rfl rfl (fun w' hw' => jmay_con j a w' hok (hw'.at_ (k := 0) rfl))) ?_
  refine j_q (qs_neq rfl rfl) ?_
  rw [mayJ, hd, if_neg (show ¬ (false = true) by simp), show ((0 : Int) != 0) = false from rfl]
  refine j_cond rfl (fun hc0 => ?_) (fun hc0 => ?_)
  · skip
    simp at hc0
  · skip
    refine j_mix [[(j.gj, .cells (j.jl).toArray 68 (0, 0))]] (Le.of_sub (by repeat first | exact slR _ | exact slN _ | apply slC | apply slD)) ?_
    refine j_mq (qs_nil rfl) ?_
    refine j_mq (qs_field Tryz.underlying68 rfl sz25 (by decide) rfl) ?_
    refine j_mq (qs_load (l := j.jl) (v := r.ptr) 0 Tryz.underlying25 rfl rfl rfl (congrArg some hfp)) ?_
    refine j_mq (qs_nil rfl) ?_
    refine j_mq (qs_field Tryz.underlying68 rfl sz9 (by decide) rfl) ?_
    refine j_mq (qs_load (l := j.jl) (v := .string (bs a.name)) 0 Tryz.underlying9 rfl rfl rfl (congrArg (fun n => some (Value.string (bs n))) hok.nm)) ?_
    refine j_mq (qs_sadd (l := a.name) (l' := [46]) rfl rfl (by have := hc.nl; simp only [List.length_cons, List.length_nil]; omega)) ?_
    refine j_call0 ent37 rfl rfl rfl (fun w' hw' => names_con r f (a.name ++ [46]) w' (in_own hw' 6 rfl) hfo (by have := hc.nl; show (a.name ++ [46]).length ≤ _; rw [List.length_append]; simp only [List.length_cons, List.length_nil]; omega)) (fun u S2 hu => ?_)
    obtain ⟨c10, rfl, ho10⟩ := hu
    refine j_mR _ (.refl _) ?_
    refine j_mend ?_
    refine j_mix [[(j.gj, .cells (j.jl).toArray 68 (0, 0))]] (Le.of_sub (by repeat first | exact slR _ | exact slN _ | apply slC | apply slD)) ?_
    refine j_mq (qs_nil rfl) ?_
    refine j_mq (qs_field Tryz.underlying68 rfl sz25 (by decide) rfl) ?_
    refine j_mq (qs_load (l := j.jl) (v := r.ptr) 0 Tryz.underlying25 rfl rfl rfl (congrArg some hfp)) ?_
    refine j_mq (qs_nil rfl) ?_
    refine j_mq (qs_field Tryz.underlying68 rfl sz9 (by decide) rfl) ?_
    refine j_mq (qs_load (l := j.jl) (v := .string (bs a.name)) 0 Tryz.underlying9 rfl rfl rfl (congrArg (fun n => some (Value.string (bs n))) hok.nm)) ?_
    refine j_mq (qs_nil rfl) ?_
    refine j_mq (qs_field Tryz.underlying68 rfl sz59 (by decide) rfl) ?_
    refine j_mq (qs_load (l := j.jl) (v := .int .u64 (a.age : Int)) 0 Tryz.underlying59 rfl rfl rfl (congrArg (fun n : Nat => some (Value.int .u64 (n : Int))) hok.ag)) ?_
    refine j_mq (qs_add rfl rfl) ?_
    rw [show IntKind.u64.wrap ((a.age : Int) + 1) = ((a.age + 1 : Nat) : Int) from by have := hc.ag; rw [IntWalk.u64_in _ (by omega)]; rfl]
    refine j_call0 ent38 rfl rfl rfl (fun w' hw' => head_con (a.age + 1) w' (by have := hc.ag; omega)) (fun u S2 hu => ?_)
    obtain ⟨c21, rfl, ho21⟩ := hu
    refine j_mD0 (Le.of_sub (by repeat first | exact slR _ | exact slN _ | apply slC | apply slD)) ?_
    refine j_call 8 ent32 rfl rfl rfl rfl (fun w' hw' => writeG_con r f a.name _ (headE (a.age + 1)) id w' hfo (by have := hc.nl; show a.name.length ≤ _; omega) (own_br ho21 0 rfl hw') (sep_own ho21 (k := 0) (m := 8) rfl rfl (by decide) hw') (by omega) (by have := hc.pd; omega) hc.rm hc.id) (fun u S2 hu => ?_)
    obtain ⟨rfl, r1, rfl, hr1, hto1⟩ := hu
    rw [hwr] at hr1 ⊢
    refine j_mR _ (.refl _) ?_
    refine j_mend ?_
    refine j_subl (S' := [r1.heap, c10, [(j.gj, .cells (j.jl).toArray 68 (0, 0))], [(j.lg, j.lobj)], j.s.c, j.s.gl, j.laid.c, j.laid.lf]) (by repeat first | exact slR _ | exact slN _ | apply slC | apply slD) ?_
    refine j_perm (S' := [c10, [(j.gj, .cells (j.jl).toArray 68 (0, 0))], [(j.lg, j.lobj)], j.s.c, j.s.gl, j.laid.c, j.laid.lf, r1.heap]) (by
      classical
      refine List.perm_iff_count.2 fun x => ?_
      simp only [RR.heap, GS.heap, List.set, List.flatten_cons, List.flatten_nil, List.append_nil, List.nil_append, List.cons_append, List.count_append, List.count_cons, List.count_nil]
      omega) ?_
    refine j_q (qs_neq rfl rfl) ?_
    refine j_cond rfl (fun hc1 => ?_) (fun hc1 => ?_)
    · skip
      have hb : burnt f = true := by
        cases hx : burnt f
        · rw [hx] at hc1
          simp at hc1
        · rfl
      rw [hb] at hr1 ⊢
      rw [if_neg (by simp)] at hr1
      rw [if_pos rfl]
      refine j_call 1 ent35 rfl rfl rfl rfl (fun w' hw' => jmet_con j.gj j.jl j.dead w' rfl) (fun u S2 hu => ?_)
      obtain ⟨rfl, rfl⟩ := hu
      refine j_subl (S' := [[(j.gj, JM.obj ⟨j.gj, j.lg, j.fp, j.name, j.age, j.fl, j.s, j.laid, 1⟩)], [(j.lg, j.lobj)], j.s.c, j.s.gl, j.laid.c, j.laid.lf, r1.heap]) (by repeat first | exact slR _ | exact slN _ | apply slC | apply slD) ?_
      refine j_perm (S' := [JM.heap ⟨j.gj, j.lg, j.fp, j.name, j.age, j.fl, j.s, j.laid, 1⟩, r1.heap]) (jm_fin2 ⟨j.gj, j.lg, j.fp, j.name, j.age, j.fl, j.s, j.laid, 1⟩ r1) ?_
      refine j_ret_con (vs := [_]) (fun w' hw' => ⟨rfl, trivial⟩) ?_
      have hX := res1 (id := id) hd hb
      exact ⟨by rw [hX.1]; rfl, ⟨j.gj, j.lg, j.fp, j.name, j.age, j.fl, j.s, j.laid, 1⟩, r1, rfl, by rw [hX.2.1]; exact ⟨hok.s, hok.l, hok.nm, hok.ag, hok.gs, hok.dn, rfl, fun h => by simp at h⟩, by rw [hX.2.2]; exact hr1, rfl, rfl, hto1⟩
    · skip
      have hb : burnt f = false := by
        cases hx : burnt f
        · rfl
        · rw [hx] at hc1
          simp at hc1
      rw [hb] at hr1
      rw [if_pos (by simp)] at hr1
      refine j_q (qs_nil rfl) ?_
      refine j_q (qs_field Tryz.underlying68 rfl sz25 (by decide) rfl) ?_
      refine j_q (qs_load (l := j.jl) (v := r.ptr) 1 Tryz.underlying25 rfl rfl rfl (congrArg some hfp)) ?_
      rw [show r.ptr = r1.ptr from by rw [FR.ptr, FR.ptr, hto1]]
      refine j_call 7 ent36 rfl rfl rfl rfl (fun w' hw' => syncG_con r1 (stepF f (resT a id)) w' hr1) (fun u S2 hu => ?_)
      obtain ⟨rfl, r2, rfl, hr2, hto2⟩ := hu
      rw [mayE_b (stepF f (resT a id)) (ns := []) rfl] at hr2 ⊢
      refine j_subl (S' := [r2.heap, c10, [(j.gj, .cells (j.jl).toArray 68 (0, 0))], [(j.lg, j.lobj)], j.s.c, j.s.gl, j.laid.c, j.laid.lf]) (by repeat first | exact slR _ | exact slN _ | apply slC | apply slD) ?_
      refine j_perm (S' := [c10, [(j.gj, .cells (j.jl).toArray 68 (0, 0))], [(j.lg, j.lobj)], j.s.c, j.s.gl, j.laid.c, j.laid.lf, r2.heap]) (by
        classical
        refine List.perm_iff_count.2 fun x => ?_
        simp only [RR.heap, GS.heap, List.set, List.flatten_cons, List.flatten_nil, List.append_nil, List.nil_append, List.cons_append, List.count_append, List.count_cons, List.count_nil]
        omega) ?_
      refine j_q (qs_neq rfl rfl) ?_
      refine j_cond rfl (fun hc2 => ?_) (fun hc2 => ?_)
      · skip
        have hb2 : burnt (stepF f (resT a id)) = true := by
          cases hx : burnt (stepF f (resT a id))
          · rw [hx] at hc2
            simp at hc2
          · rfl
        rw [hb2] at hr2 ⊢
        rw [if_neg (by simp)] at hr2
        rw [if_pos rfl]
        refine j_call 1 ent35 rfl rfl rfl rfl (fun w' hw' => jmet_con j.gj j.jl j.dead w' rfl) (fun u S2 hu => ?_)
        obtain ⟨rfl, rfl⟩ := hu
        refine j_subl (S' := [[(j.gj, JM.obj ⟨j.gj, j.lg, j.fp, j.name, j.age, j.fl, j.s, j.laid, 1⟩)], [(j.lg, j.lobj)], j.s.c, j.s.gl, j.laid.c, j.laid.lf, r2.heap]) (by repeat first | exact slR _ | exact slN _ | apply slC | apply slD) ?_
        refine j_perm (S' := [JM.heap ⟨j.gj, j.lg, j.fp, j.name, j.age, j.fl, j.s, j.laid, 1⟩, r2.heap]) (jm_fin2 ⟨j.gj, j.lg, j.fp, j.name, j.age, j.fl, j.s, j.laid, 1⟩ r2) ?_
        refine j_ret_con (vs := [_]) (fun w' hw' => ⟨rfl, trivial⟩) ?_
        have hX := res2 hd hb hb2
        exact ⟨by rw [hX.1]; rfl, ⟨j.gj, j.lg, j.fp, j.name, j.age, j.fl, j.s, j.laid, 1⟩, r2, rfl, by rw [hX.2.1]; exact ⟨hok.s, hok.l, hok.nm, hok.ag, hok.gs, hok.dn, rfl, fun h => by simp at h⟩, by rw [hX.2.2]; exact hr2, rfl, rfl, hto2.trans hto1⟩
      · skip
        have hb2 : burnt (stepF f (resT a id)) = false := by
          cases hx : burnt (stepF f (resT a id))
          · rfl
          · rw [hx] at hc2
            simp at hc2
        rw [hb2] at hr2
        rw [if_pos (by simp)] at hr2
        refine j_q (qs_nil rfl) ?_
        refine j_q (qs_field Tryz.underlying68 rfl sz59 (by decide) rfl) ?_
        refine j_q (qs_load (l := j.jl) (v := .int .u64 (a.age : Int)) 1 Tryz.underlying59 rfl rfl rfl (congrArg (fun n : Nat => some (Value.int .u64 (n : Int))) hok.ag)) ?_
        refine j_q (qs_add rfl rfl) ?_
        rw [show IntKind.u64.wrap ((a.age : Int) + 1) = ((a.age + 1 : Nat) : Int) from by have := hc.ag; rw [IntWalk.u64_in _ (by omega)]; rfl]
        refine j_q (qs_nil rfl) ?_
        refine j_q (qs_field Tryz.underlying68 rfl sz59 (by decide) rfl) ?_
        refine j_store (l := j.jl) 1 sz59 rfl rfl rfl rfl (by simp) (by simp) ?_
        refine j_q (qs_nil rfl) ?_
        refine j_q (qs_field Tryz.underlying68 rfl sz60 (by decide) rfl) ?_
        refine j_store (l := jl j.fp j.name (a.age + 1) 0 (j.fl) (j.s.v) (((sizeG j.s.gs : Nat) : Int)) j.lg j.dead) 1 sz60 rfl rfl rfl rfl (by simp) (by simp) ?_
        refine j_q (qs_nil rfl) ?_
        refine j_q (qs_field Tryz.underlying68 rfl sz3 (by decide) rfl) ?_
        refine j_store (l := jl j.fp j.name (a.age + 1) 0 (j.fl) (nilS) (((sizeG j.s.gs : Nat) : Int)) j.lg j.dead) 1 sz3 rfl rfl rfl rfl (by simp) (by simp) ?_
        refine j_q (qs_nil rfl) ?_
        refine j_q (qs_field Tryz.underlying68 rfl sz3 (by decide) rfl) ?_
        refine j_store (l := jl j.fp j.name (a.age + 1) 0 (j.fl) (nilS) (0) j.lg j.dead) 1 sz3 rfl rfl rfl rfl (by simp) (by simp) ?_
        refine j_q (qs_nil rfl) ?_
        refine j_q (qs_field Tryz.underlying68 rfl sz3 (by decide) rfl) ?_
        refine j_store (l := jl j.fp j.name (a.age + 1) 0 (j.fl) (nilS) (0) j.lg j.dead) 1 sz3 rfl rfl rfl rfl (by simp) (by simp) ?_
        obtain ⟨n10, A10, cap10, rfl, hn10⟩ := own_form ho10 (by decide)
        rw [strs_len, Nat.mul_one] at hn10
        have hnn := namesA_len f.now (a.name ++ [46])
        have hnm := hc.nm
        refine j_subl (S' := [c10, [(j.gj, .cells (jl j.fp j.name (a.age + 1) 0 (-1) (nilS) (0) j.lg j.dead).toArray 68 (0, 0))], [(j.lg, j.lobj)], j.laid.c, j.laid.lf, r2.heap]) (by repeat first | exact slR _ | exact slN _ | apply slC | apply slD) ?_
        refine j_q (qs_lenl Tryz.underlying83 rfl) ?_
        refine j_q (qs_mc) ?_
        refine j_loop (fun m vs S' => ∃ (i : Nat) (r3 : FR), vs = [.int .i64 (i : Int)] ∧ S' = [c10, [(j.gj, .cells (jl j.fp j.name (a.age + 1) 0 (-1) (nilS) (0) j.lg j.dead).toArray 68 (0, 0))], [(j.lg, j.lobj)], j.laid.c, j.laid.lf, r3.heap] ∧ r3.Ok (rmsF (syncF (stepF f (resT a id))) ((namesA f.now (a.name ++ [46])).take i)) ∧ r3.gf = r.gf ∧ i ≤ (namesA f.now (a.name ++ [46])).length ∧ m = (namesA f.now (a.name ++ [46])).length - i) ⟨_, 0, r2, rfl, rfl, hr2, hto2.trans hto1, Nat.zero_le _, rfl⟩ ?_
        rintro m vs S' hlen ⟨i, r3, rfl, rfl, hr3, hto3, hin, rfl⟩
        refine j_q (qs_lss rfl rfl) ?_
        refine j_cond rfl (fun hc3 => ?_) (fun hc3 => ?_)
        · skip
          have hi : i < (namesA f.now (a.name ++ [46])).length := by
            simp only [bnA] at *
            omega
          obtain ⟨g0, hg0⟩ : ∃ g, A10 = some ⟨g, 0, none⟩ := by
            rcases ho10 with ⟨h1, h2, _⟩ | ⟨g, _, _, _, _, h1, _⟩
            · have h3 := congrArg List.length h2
              rw [strs_len, List.length_nil] at h3
              omega
            · injection h1 with h1
              exact ⟨g, h1⟩
          have hrow := ho10
          rw [hg0] at hrow
          have hpd := rmsF_pend (syncF (stepF f (resT a id))) ((namesA f.now (a.name ++ [46])).take i)
          have hpl : ((namesA f.now (a.name ++ [46])).take i).length ≤ 16000 := by
            rw [List.length_take]
            have h8 := namesA_len f.now (a.name ++ [46])
            have h9 := hc.nm
            omega
          have hp0 : (syncF (stepF f (resT a id))).pend.length = 0 := rfl
          refine j_q (qs_ixl0 (a := ⟨g0, 0, none⟩) (n := n10) (c := cap10) Tryz.underlying83 sz9 (by show Value.slice A10 _ _ = _; rw [hg0]) rfl (by omega)) ?_
          refine j_q (qs_loadR (v := .string (bs ((namesA f.now (a.name ++ [46])).getD i []))) (a := ⟨g0, 0, none⟩) (i := i) (own_rd hrow 0 rfl) Tryz.underlying9 rfl (by show Value.pointer (some (Addr.add ⟨g0, 0, none⟩ (i : Int).toNat)) = _; rw [Int.toNat_natCast]) (str_get hi)) ?_
          refine j_q (qs_nil rfl) ?_
          refine j_q (qs_field Tryz.underlying68 rfl sz25 (by decide) rfl) ?_
          refine j_q (qs_load (l := jl j.fp j.name (a.age + 1) 0 (-1) (nilS) (0) j.lg j.dead) (v := r.ptr) 1 Tryz.underlying25 rfl rfl rfl (congrArg some hfp)) ?_
          rw [show r.ptr = r3.ptr from by rw [FR.ptr, FR.ptr, hto3]]
          refine j_call 5 ent39 rfl rfl rfl rfl (fun w' hw' => removeG_con r3 _ ((namesA f.now (a.name ++ [46])).getD i []) w' hr3 (by omega) (hstr _ (by rw [List.getD_eq_getElem?_getD, List.getElem?_eq_getElem hi]; exact List.getElem_mem hi))) (fun u S2 hu => ?_)
          obtain ⟨rfl, r4, rfl, hr4, hto4⟩ := hu
          refine j_q (qs_add64 rfl rfl (by omega)) ?_
          refine j_subl (S' := [r4.heap, c10, [(j.gj, .cells (jl j.fp j.name (a.age + 1) 0 (-1) (nilS) (0) j.lg j.dead).toArray 68 (0, 0))], [(j.lg, j.lobj)], j.laid.c, j.laid.lf]) (by repeat first | exact slR _ | exact slN _ | apply slC | apply slD) ?_
          refine j_perm (S' := [c10, [(j.gj, .cells (jl j.fp j.name (a.age + 1) 0 (-1) (nilS) (0) j.lg j.dead).toArray 68 (0, 0))], [(j.lg, j.lobj)], j.laid.c, j.laid.lf, r4.heap]) (by
            classical
            refine List.perm_iff_count.2 fun x => ?_
            simp only [RR.heap, GS.heap, List.set, List.flatten_cons, List.flatten_nil, List.append_nil, List.nil_append, List.cons_append, List.count_append, List.count_cons, List.count_nil]
            omega) ?_
          refine j_back rfl ?_
          refine ⟨_, by omega, i + 1, r4, rfl, rfl, ?_, hto4.trans hto3, by omega, rfl⟩
          rw [List.take_add_one, List.getElem?_eq_getElem hi]
          rw [List.getD_eq_getElem?_getD, List.getElem?_eq_getElem hi] at hr4
          show r4.Ok (rmsF _ (_ ++ [_]))
          rw [rmsF_snoc]
          exact hr4
        · skip
          have hi : i = (namesA f.now (a.name ++ [46])).length := by
            simp only [bnA] at *
            omega
          rw [hi, List.take_length] at hr3
          refine j_q (qs_ac) ?_
          refine j_subl (S' := [[(j.gj, .cells (jl j.fp j.name (a.age + 1) 0 (-1) (nilS) (0) j.lg j.dead).toArray 68 (0, 0))], [(j.lg, j.lobj)], j.laid.c, j.laid.lf, r3.heap]) (by repeat first | exact slR _ | exact slN _ | apply slC | apply slD) ?_
          refine j_perm (S' := [JM.heap ⟨j.gj, j.lg, j.fp, j.name, a.age + 1, -1, ⟨nilS, [], []⟩, j.laid, j.dead⟩, r3.heap]) (jm_res j r3) ?_
          refine j_ret_con (vs := [_]) (fun w' hw' => ⟨rfl, trivial⟩) ?_
          have hX := res3 hd hb hb2
          exact ⟨by rw [hX.1]; rfl, ⟨j.gj, j.lg, j.fp, j.name, a.age + 1, -1, ⟨nilS, [], []⟩, j.laid, j.dead⟩, r3, rfl, by rw [hX.2.1]; exact ⟨gs0, hok.l, hok.nm, rfl, rfl, hok.dn, by rw [hok.dd, hd], fun _ => (fillE_nil rfl).symm⟩, by rw [hX.2.2]; exact hr3, rfl, rfl, hto3⟩
end Go.Proofs.YtomajiicjinekaaGreatDoor
/-! Jn15 -/
namespace Go.Proofs.YtomajiicjinekaaGreatDoor
open Go Go.Sx
set_option maxRecDepth 100000
set_option maxHeartbeats 4000000
set_option linter.unusedVariables false
set_option linter.unusedSimpArgs false
attribute [local irreducible] J JQ QS Con W opW
structure WM where
  g : Nat
  n : NR
  d : RR
abbrev WM.ptr (m : WM) : Value := .pointer (some ⟨m.g, 0, none⟩)
abbrev WM.obj (m : WM) : Obj := .cells [m.n.v, m.d.v].toArray 36 (0, 0)
def NR.heap (n : NR) : SH := n.c ++ n.lf
def WM.heap (m : WM) : SH := (m.g, m.obj) :: (m.n.heap ++ m.d.heap)
structure WM.Ok (m : WM) (gs : List (List (List UInt8))) (dn : List (List UInt8)) : Prop where
  n : m.n.Ok
  d : m.d.Ok
  gs : m.n.gs = gs
  dn : m.d.rs = dn
theorem perm_w (m : WM) : m.heap.Perm ([[(m.g, m.obj)], m.n.heap, m.d.c, m.d.lf] : List SH).flatten := by
  simp [WM.heap, RR.heap]
theorem in_rr {b : Base} {S : List SH} {w : World} {r : RR} (hw : Sig b S w) {k m : Nat} (hk : S[k]? = some r.c) (hm : S[m]? = some r.lf) : In w r.heap := fun q hq => by
  rcases List.mem_append.1 hq with h | h
  · exact in_own hw k hk q h
  · exact in_own hw m hm q h
theorem br_srcD {w : World} {D : List Nat} {S : List SH} {v : Value} {xs : List UInt8} (h : BR w v xs) (hd : ∀ (a : Addr) (m c : Nat), v = .slice (some a) m c → 0 < m → a.block ∉ D) : Src (⟨w, D⟩ : Base) S 1 v xs.length (ints xs) := by
  rcases h with ⟨rfl, rfl⟩ | ⟨a, cap, rfl, _, _, h⟩
  · exact .inr (.inl ⟨0, rfl, rfl, rfl⟩)
  · refine .inl ⟨a, cap, rfl, ?_, by rw [ints_length, Nat.mul_one]⟩
    rcases Nat.eq_zero_or_pos xs.length with h0 | h0
    · rw [List.eq_nil_of_length_eq_zero h0]
      intro w' _ j u hu
      simp [ints] at hu
    · exact rd_cells h (hd a _ _ rfl h0)
theorem wadd_perm (m : WM) {v : Value} {c : SH} {xs : List UInt8} {xv : Value} {xc : SH} : ([xc, [(m.g, .cells [m.n.v, v].toArray 36 (0, 0))], m.n.heap, c, m.d.lf] : List SH).flatten.Perm [WM.heap ⟨m.g, m.n, m.d.add v c xs xv xc⟩].flatten := by
  have e1 : WM.obj ⟨m.g, m.n, m.d.add v c xs xv xc⟩ = .cells [m.n.v, v].toArray 36 (0, 0) := rfl
  have e2 : RR.heap (m.d.add v c xs xv xc) = c ++ (m.d.lf ++ xc) := by
    unfold RR.heap
    rw [RR.add_lf]
    rfl
  classical
  refine List.perm_iff_count.2 fun x => ?_
  unfold WM.heap
  rw [e1]
  simp only
  rw [e2]
  simp only [List.flatten_cons, List.flatten_nil, List.append_nil, List.nil_append, List.cons_append, List.count_append, List.count_cons, List.count_nil]
  omega
attribute [local irreducible] sum gsE headE fileN contA readE grpE fillE namesA
theorem wsize_con (r : RR) (w : World) (hok : r.Ok) (hin : In w r.heap) (hl : sizeR r.rs ≤ 1000000) (hn : r.L.length ≤ 1000000) : Con Tryz.prog 30 [r.v] w [] fun u _ => u = .int .i64 ((sizeR r.rs : Nat) : Int) := by
  refine con_of_tree mix Tryz.func30 T30_ok (by kernel_rfl) ?_
  unfold T30
  obtain ⟨A, cap, hv, hA⟩ := hok.form
  rw [hv]
  have hxn : r.rs.length = r.L.length := List.length_map _
  refine j_q (qs_ac) ?_
  refine j_q (qs_ac) ?_
  refine j_q (qs_ac) ?_
  refine j_loop (fun m vs S' => ∃ (i : Nat), vs = [.int .i64 ((sizeR (r.rs.take i) : Nat) : Int), .int .i64 (i : Int)] ∧ S' = [[]] ∧ i ≤ r.L.length ∧ m = r.L.length - i) ⟨_, 0, rfl, rfl, Nat.zero_le _, rfl⟩ ?_
  rintro m vs S' hlen ⟨i, rfl, rfl, hi0, rfl⟩
  have hst : sizeR (r.rs.take i) ≤ sizeR r.rs := by
    have h1 : sizeR r.rs = sizeR (r.rs.take i) + sizeR (r.rs.drop i) := by
      unfold sizeR
      rw [← List.sum_append, ← List.map_append, List.take_append_drop]
    omega
  refine j_q (qs_lenl Tryz.underlying34 rfl) ?_
  refine j_q (qs_lss rfl rfl) ?_
  refine j_cond rfl (fun hc0 => ?_) (fun hc0 => ?_)
  · skip
    have hi : i < r.L.length := by
      simp only [bnA] at *
      omega
    obtain ⟨g1, hg1⟩ := hA (by omega)
    have hrow := hok.row
    rw [hv, hg1] at hrow
    have hcl := own_cellsI hrow (fun q hq => hin q (List.mem_append_left _ hq))
    obtain ⟨t, ht⟩ : ∃ t, t = r.L[i] := ⟨_, rfl⟩
    have htm : t ∈ r.L := by rw [ht]; exact List.getElem_mem hi
    have htx : r.L[i]? = some t := by rw [ht]; exact List.getElem?_eq_getElem hi
    obtain ⟨nt, At, capt, htv, hnt⟩ := own_form (hok.own t htm) (by decide)
    rw [ints_length, Nat.mul_one] at hnt
    subst hnt
    have htl : t.1.length ≤ sizeR r.rs := sizeR_get (rs := r.rs) (List.mem_map.2 ⟨t, htm, rfl⟩)
    have htg : r.rs.getD i [] = t.1 := by
      rw [List.getD_eq_getElem?_getD]
      unfold RR.rs
      rw [List.getElem?_map, htx]
      rfl
    refine j_q (qs_ixl0 (a := ⟨g1, 0, none⟩) (n := r.L.length) (c := cap) Tryz.underlying34 sz39 (by show Value.slice A _ _ = _; rw [hg1]) rfl (by omega)) ?_
    refine j_q (qs_loadR (v := t.2.1) (a := ⟨g1, 0, none⟩) (i := i) (rd_cells hcl (by simp)) Tryz.underlying39 rfl (by show Value.pointer (some (Addr.add ⟨g1, 0, none⟩ (i : Int).toNat)) = _; rw [Int.toNat_natCast]) (by rw [List.getElem?_map, htx]; rfl)) ?_
    rw [htv]
    refine j_q (qs_lenl Tryz.underlying39 rfl) ?_
    refine j_q (qs_add64 rfl rfl (by first | omega | (simp only [bnA] at *; omega))) ?_
    refine j_q (qs_add64 rfl rfl (by first | omega | (simp only [bnA] at *; omega))) ?_
    refine j_back rfl ?_
    refine ⟨_, by omega, i + 1, ?_, rfl, by omega, rfl⟩
    rw [sizeR_take (by omega), htg, Int.natCast_add]
    rfl
  · skip
    have hi : i = r.L.length := by
      simp only [bnA] at *
      omega
    refine j_ret_con (vs := [_]) (fun w' hw' => ⟨rfl, trivial⟩) ?_
    rw [hi, ← hxn, List.take_length]
    rfl
theorem wadd_con (m : WM) (gs : List (List (List UInt8))) (dn : List (List UInt8)) (bv : Value) (xs : List UInt8) (w : World) (hok : m.Ok gs dn) (hbr : BR w bv xs) (hbd : ∀ (a : Addr) (n c : Nat), bv = .slice (some a) n c → 0 < n → a.block ∉ dom m.heap) (hsz : sizeR dn + xs.length ≤ 24000) (hdn : dn.length ≤ 1000) : Con Tryz.prog 17 [m.ptr, bv] w m.heap fun u S' => u = .int .i64 0 ∧ ∃ m' : WM, S' = [m'.heap] ∧ m'.Ok gs (dn ++ [xs]) ∧ m'.g = m.g := by
  refine con_of_tree mix Tryz.func17 T17_ok (by kernel_rfl) ?_
  unfold T17
  obtain ⟨Ab, capb, rfl, hcapb⟩ := br_form hbr
  obtain ⟨A, cap, hv, hA⟩ := hok.d.form
  have hlr : m.d.L.length = dn.length := by
    rw [← hok.dn]
    exact (List.length_map _).symm
  rw [← hok.dn] at hsz
  refine j_perm (S' := [[(m.g, m.obj)], m.n.heap, m.d.c, m.d.lf]) (by simpa using perm_w m) ?_
  refine j_q (qs_ac) ?_
  refine j_q (qs_nil rfl) ?_
  refine j_q (qs_field Tryz.underlying36 rfl sz34 (by decide) rfl) ?_
  refine j_q (qs_load (l := [m.n.v, m.d.v]) (v := m.d.v) 0 Tryz.underlying34 rfl rfl rfl rfl) ?_
  refine j_q (qs_call ent30 rfl rfl rfl (fun w' hw' => wsize_con m.d w' hok.d (in_rr hw' (k := 2) (m := 3) rfl rfl) (by omega) (by omega))) ?_
  refine j_q (qs_lenl Tryz.underlying39 rfl) ?_
  refine j_q (qs_add64 rfl rfl (by first | omega | (simp only [bnA] at *; omega))) ?_
  refine j_q (qs_gtr rfl rfl) ?_
  rw [decide_eq_false (show ¬ ((sizeR m.d.rs : Nat) : Int) + (xs.length : Int) > 524288 by omega)]
  refine j_gt rfl (qs_mt rfl) ?_
  refine j_gt rfl (qs_nil rfl) ?_
  refine j_gt rfl (qs_field Tryz.underlying36 rfl sz34 (by decide) rfl) ?_
  refine j_gt rfl (qs_load (l := [m.n.v, m.d.v]) (v := .slice A m.d.L.length cap) 0 Tryz.underlying34 rfl rfl rfl (congrArg some hv)) ?_
  refine j_gt rfl (qs_lenl Tryz.underlying34 rfl) ?_
  refine j_gt rfl (qs_geq rfl rfl) ?_
  rw [decide_eq_false (show ¬ ((m.d.L.length : Nat) : Int) ≥ 4096 by omega)]
  refine j_q (qs_or rfl rfl) ?_
  refine j_cond rfl (fun hc0 => ?_) (fun hc0 => ?_)
  · skip
    simp at hc0
  · skip
    refine j_mix [[(m.g, m.obj)]] (Le.of_sub (by repeat first | exact slR _ | exact slN _ | apply slC | apply slD)) ?_
    refine j_mq (qs_nil rfl) ?_
    refine j_mq (qs_field Tryz.underlying36 rfl sz34 (by decide) rfl) ?_
    refine j_mq (qs_load (l := [m.n.v, m.d.v]) (v := m.d.v) 0 Tryz.underlying34 rfl rfl rfl rfl) ?_
    refine j_lit (vs := []) Tryz.underlying39 sz5 zero5 rfl (by simp [oneV]) ⟨rfl, by decide⟩ (fun g19 v19 c19 hv19 hc19 ho19 => ?_)
    subst hv19 hc19
    refine j_mD0 (Le.of_sub (by repeat first | exact slR _ | exact slN _ | apply slC | apply slD)) ?_
    refine j_append 0 Tryz.underlying39 Tryz.underlying39 (.inr ⟨_, rfl⟩) sb5 zero5 rfl ho19 rfl (br_srcD hbr hbd) ints_one ⟨(by simp only [ints_length, List.length_nil]; omega), (by decide)⟩ (fun v20 c20 ho20 => ?_)
    rw [List.nil_append] at ho20
    obtain ⟨n20, A20, cap20, rfl, hn20⟩ := own_form ho20 (by decide)
    refine j_mD0 (Le.of_sub (by repeat first | exact slR _ | exact slN _ | apply slC | apply slD)) ?_
    refine j_lit (vs := [.slice A20 n20 cap20]) Tryz.underlying34 sz39 zero39 rfl (by simp [oneV]) ⟨rfl, by decide⟩ (fun g21 v21 c21 hv21 hc21 ho21 => ?_)
    subst hv21 hc21
    refine j_mD0 (Le.of_sub (by repeat first | exact slR _ | exact slN _ | apply slC | apply slD)) ?_
    refine j_append 4 Tryz.underlying34 Tryz.underlying34 (.inr ⟨_, rfl⟩) sb39 zero39 rfl hok.d.row rfl (.inl ⟨_, _, rfl, rd_own (off := 0) (n := 1) 0 rfl rfl, rfl⟩) (by simp [oneV]) ⟨(by simp only [List.length_map]; simp; omega), (by decide)⟩ (fun v22 c22 ho22 => ?_)
    obtain ⟨n22, A22, cap22, rfl, hn22⟩ := own_form ho22 (by decide)
    refine j_mD0 (Le.of_sub (by repeat first | exact slR _ | exact slN _ | apply slC | apply slD)) ?_
    refine j_mq (qs_nil rfl) ?_
    refine j_mq (qs_field Tryz.underlying36 rfl sz34 (by decide) rfl) ?_
    refine j_store (l := [m.n.v, m.d.v]) 2 sz34 rfl rfl rfl rfl (by simp) (by simp) ?_
    refine j_mR _ (.refl _) ?_
    refine j_mend ?_
    refine j_q (qs_ac) ?_
    refine j_subl (S' := [c20, [(m.g, .cells [m.n.v, .slice A22 n22 cap22].toArray 36 (0, 0))], m.n.heap, c22, m.d.lf]) (by repeat first | exact slR _ | exact slN _ | apply slC | apply slD) ?_
    refine j_perm (S' := [WM.heap ⟨m.g, m.n, m.d.add (.slice A22 n22 cap22) c22 xs (.slice A20 n20 cap20) c20⟩]) (wadd_perm m) ?_
    refine j_ret_con (vs := [_]) (fun w' hw' => ⟨rfl, trivial⟩) ?_
    exact ⟨rfl, ⟨m.g, m.n, m.d.add (.slice A22 n22 cap22) c22 xs (.slice A20 n20 cap20) c20⟩, rfl, ⟨hok.n, hok.d.add ho22 ho20, hok.gs, by rw [RR.add_rs, hok.dn]⟩, rfl⟩
end Go.Proofs.YtomajiicjinekaaGreatDoor
/-! Jn16 -/
namespace Go.Proofs.YtomajiicjinekaaGreatDoor
open Go Go.Sx
set_option maxRecDepth 100000
set_option maxHeartbeats 4000000
set_option linter.unusedVariables false
set_option linter.unusedSimpArgs false
attribute [local irreducible] J JQ QS Con W opW
theorem NR.Ok.form {s : NR} (h : s.Ok) : ∃ A cap, s.v = .slice A s.L.length cap ∧ (0 < s.L.length → ∃ g, A = some ⟨g, 0, none⟩) := by
  rcases h.row with ⟨h1, h2, h3⟩ | ⟨g, n, cap, rest, fz, h1, h2, h3, h4, h5, h6⟩
  · have : s.L = [] := by simpa using h2
    exact ⟨none, 0, by rw [h1, this]; rfl, fun hp => by rw [this] at hp; simp at hp⟩
  · rw [List.length_map, Nat.mul_one] at h3
    exact ⟨_, cap, by rw [h1, h3], fun _ => ⟨g, rfl⟩⟩
theorem NR.in_get {n : NR} {w : World} (h : In w n.lf) {x : RR} (hx : x ∈ n.L) : In w x.heap := fun q hq => h q (List.mem_flatten.2 ⟨_, List.mem_map.2 ⟨x, hx, rfl⟩, hq⟩)
theorem perm_w5 (m : WM) : m.heap.Perm ([[(m.g, m.obj)], m.n.c, m.n.lf, m.d.c, m.d.lf] : List SH).flatten := by
  simp [WM.heap, RR.heap, NR.heap]
theorem wcom_perm (m : WM) {v : Value} {c : SH} : ([[(m.g, .cells [v, nilS].toArray 36 (0, 0))], c, m.n.lf, m.d.c, m.d.lf] : List SH).flatten.Perm [WM.heap ⟨m.g, m.n.add v c m.d, ⟨nilS, [], []⟩⟩].flatten := by
  have e1 : WM.obj ⟨m.g, m.n.add v c m.d, ⟨nilS, [], []⟩⟩ = .cells [v, nilS].toArray 36 (0, 0) := rfl
  have e2 : NR.heap (m.n.add v c m.d) = c ++ (m.n.lf ++ m.d.heap) := by
    unfold NR.heap
    rw [NR.add_lf]
    rfl
  have e4 : RR.heap ⟨nilS, [], []⟩ = [] := rfl
  classical
  refine List.perm_iff_count.2 fun x => ?_
  unfold WM.heap
  rw [e1]
  simp only
  rw [e2, e4]
  simp only [RR.heap, List.flatten_cons, List.flatten_nil, List.append_nil, List.nil_append, List.cons_append, List.count_append, List.count_cons, List.count_nil]
theorem sizeG_mono (gs : List (List (List UInt8))) (i : Nat) : sizeG (gs.take i) ≤ sizeG gs := by
  have h1 : sizeG gs = sizeG (gs.take i) + sizeG (gs.drop i) := by
    unfold sizeG
    rw [← List.sum_append, ← List.map_append, List.take_append_drop]
  omega
attribute [local irreducible] sum gsE headE fileN contA readE grpE fillE namesA
theorem wcom0_con (q : WM) (gs : List (List (List UInt8))) (dn : List (List UInt8)) (w : World) (hok : q.Ok gs dn) (hdn : dn = []) : Con Tryz.prog 19 [q.ptr] w q.heap fun u S' => u = .int .i64 0 ∧ ∃ m' : WM, S' = [m'.heap] ∧ m'.Ok gs dn ∧ m'.g = q.g := by
  refine con_of_tree mix Tryz.func19 T19_ok (by kernel_rfl) ?_
  unfold T19
  obtain ⟨A, cap, hv, hA⟩ := hok.n.form
  obtain ⟨Ad, capd, hdv, hAd⟩ := hok.d.form
  have hlr : q.d.L.length = dn.length := by
    rw [← hok.dn]
    exact (List.length_map _).symm
  have hgl : q.n.L.length = gs.length := by
    rw [← hok.gs]
    exact (List.length_map _).symm
  refine j_perm (S' := [[(q.g, q.obj)], q.n.c, q.n.lf, q.d.c, q.d.lf]) (by simpa using perm_w5 q) ?_
  have hl0 : q.d.L.length = 0 := by rw [hlr, hdn]; rfl
  refine j_q (qs_ac) ?_
  refine j_q (qs_nil rfl) ?_
  refine j_q (qs_field Tryz.underlying36 rfl sz34 (by decide) rfl) ?_
  refine j_q (qs_load (l := [q.n.v, q.d.v]) (v := (.slice Ad q.d.L.length capd)) 0 Tryz.underlying34 rfl rfl rfl (congrArg some hdv)) ?_
  refine j_q (qs_lenl Tryz.underlying34 rfl) ?_
  refine j_q (qs_eql rfl rfl) ?_
  refine j_cond rfl (fun hc0 => ?_) (fun hc0 => ?_)
  · skip
    refine j_q (qs_ac) ?_
    refine j_perm (S' := [q.heap]) (by simpa using (perm_w5 q).symm) ?_
    refine j_ret_con (vs := [_]) (fun w' hw' => ⟨rfl, trivial⟩) ?_
    exact ⟨rfl, q, rfl, hok, rfl⟩
  · skip
    rw [beq_eq_false_iff_ne] at hc0
    omega
theorem wcom_con (q : WM) (gs : List (List (List UInt8))) (dn : List (List UInt8)) (w : World) (hok : q.Ok gs dn) (hdn : dn ≠ []) (hsz : sizeG gs ≤ 500000) (hgn : gs.length ≤ 1000) (hrn : ∀ g ∈ gs, g.length ≤ 1000) : Con Tryz.prog 19 [q.ptr] w q.heap fun u S' => u = .int .i64 0 ∧ ∃ m' : WM, S' = [m'.heap] ∧ m'.Ok (gs ++ [dn]) [] ∧ m'.g = q.g := by
  refine con_of_tree mix Tryz.func19 T19_ok (by kernel_rfl) ?_
  unfold T19
  obtain ⟨A, cap, hv, hA⟩ := hok.n.form
  obtain ⟨Ad, capd, hdv, hAd⟩ := hok.d.form
  have hlr : q.d.L.length = dn.length := by
    rw [← hok.dn]
    exact (List.length_map _).symm
  have hgl : q.n.L.length = gs.length := by
    rw [← hok.gs]
    exact (List.length_map _).symm
  refine j_perm (S' := [[(q.g, q.obj)], q.n.c, q.n.lf, q.d.c, q.d.lf]) (by simpa using perm_w5 q) ?_
  have hl0 : 0 < dn.length := List.length_pos_iff.2 hdn
  rw [← hok.gs] at hsz
  refine j_q (qs_ac) ?_
  refine j_q (qs_nil rfl) ?_
  refine j_q (qs_field Tryz.underlying36 rfl sz34 (by decide) rfl) ?_
  refine j_q (qs_load (l := [q.n.v, q.d.v]) (v := (.slice Ad q.d.L.length capd)) 0 Tryz.underlying34 rfl rfl rfl (congrArg some hdv)) ?_
  refine j_q (qs_lenl Tryz.underlying34 rfl) ?_
  refine j_q (qs_eql rfl rfl) ?_
  refine j_cond rfl (fun hc0 => ?_) (fun hc0 => ?_)
  · skip
    rw [beq_iff_eq] at hc0
    omega
  · skip
    refine j_q (qs_ac) ?_
    refine j_q (qs_ac) ?_
    refine j_loop (fun m vs S' => ∃ (i : Nat), vs = [.int .i64 ((sizeG (q.n.gs.take i) : Nat) : Int), .int .i64 (i : Int)] ∧ S' = [[(q.g, q.obj)], q.n.c, q.n.lf, q.d.c, q.d.lf] ∧ i ≤ q.n.L.length ∧ m = q.n.L.length - i) ⟨_, 0, rfl, rfl, Nat.zero_le _, rfl⟩ ?_
    rintro m vs S' hlen ⟨i, rfl, rfl, hi0, rfl⟩
    have hgs : q.n.gs.length = q.n.L.length := List.length_map _
    refine j_q (qs_nil rfl) ?_
    refine j_q (qs_field Tryz.underlying36 rfl sz33 (by decide) rfl) ?_
    refine j_q (qs_load (l := [q.n.v, q.d.v]) (v := (.slice A q.n.L.length cap)) 0 Tryz.underlying33 rfl rfl rfl (congrArg some hv)) ?_
    refine j_q (qs_lenl Tryz.underlying33 rfl) ?_
    refine j_q (qs_lss rfl rfl) ?_
    refine j_cond rfl (fun hc1 => ?_) (fun hc1 => ?_)
    · skip
      have hi : i < q.n.L.length := by
        simp only [bnA] at *
        omega
      obtain ⟨g1, hg1⟩ := hA (by omega)
      have hrow := hok.n.row
      rw [hv, hg1] at hrow
      obtain ⟨x, hx⟩ : ∃ x, x = q.n.L[i] := ⟨_, rfl⟩
      have hxm : x ∈ q.n.L := by rw [hx]; exact List.getElem_mem hi
      have hxx : q.n.L[i]? = some x := by rw [hx]; exact List.getElem?_eq_getElem hi
      have hxg : q.n.gs.getD i [] = x.rs := by
        rw [List.getD_eq_getElem?_getD]
        unfold NR.gs
        rw [List.getElem?_map, hxx]
        rfl
      have hxl : x.L.length ≤ 1000 := by
        have h8 : x.rs.length = x.L.length := List.length_map _
        rw [← h8]
        refine hrn _ ?_
        rw [← hok.gs]
        exact List.mem_map.2 ⟨x, hxm, rfl⟩
      have hst := sizeG_take (gs := q.n.gs) (i := i) (by omega)
      rw [hxg] at hst
      have hs2 := sizeG_mono q.n.gs (i + 1)
      refine j_q (qs_nil rfl) ?_
      refine j_q (qs_field Tryz.underlying36 rfl sz33 (by decide) rfl) ?_
      refine j_q (qs_load (l := [q.n.v, q.d.v]) (v := (.slice A q.n.L.length cap)) 0 Tryz.underlying33 rfl rfl rfl (congrArg some hv)) ?_
      refine j_q (qs_ixl0 (a := ⟨g1, 0, none⟩) (n := q.n.L.length) (c := cap) Tryz.underlying33 sz34 (by show Value.slice A _ _ = _; rw [hg1]) rfl (by omega)) ?_
      refine j_q (qs_loadR (v := x.v) (a := ⟨g1, 0, none⟩) (i := i) (own_rd hrow 1 rfl) Tryz.underlying34 rfl (by show Value.pointer (some (Addr.add ⟨g1, 0, none⟩ (i : Int).toNat)) = _; rw [Int.toNat_natCast]) (by rw [List.getElem?_map, hxx]; rfl)) ?_
      refine j_q (qs_call ent30 rfl rfl rfl (fun w' hw' => wsize_con x w' (hok.n.rr x hxm) (NR.in_get (in_own hw' 2 rfl) hxm) (by omega) (by omega))) ?_
      refine j_q (qs_add64 rfl rfl (by first | omega | (simp only [bnA] at *; omega))) ?_
      refine j_q (qs_add64 rfl rfl (by first | omega | (simp only [bnA] at *; omega))) ?_
      refine j_back rfl ?_
      refine ⟨_, by omega, i + 1, ?_, rfl, by omega, rfl⟩
      rw [hst, Int.natCast_add]
      rfl
    · skip
      have hi : i = q.n.L.length := by
        simp only [bnA] at *
        omega
      have hrow0 := hok.n.row
      rw [hv] at hrow0
      refine j_q (qs_geq rfl rfl) ?_
      refine j_cond rfl (fun hc2 => ?_) (fun hc2 => ?_)
      · skip
        rw [hi, ← hgs, List.take_length] at hc2
        simp only [bnA] at *
        omega
      · skip
        refine j_mix [[(q.g, q.obj)]] (Le.of_sub (by repeat first | exact slR _ | exact slN _ | apply slC | apply slD)) ?_
        refine j_mq (qs_nil rfl) ?_
        refine j_mq (qs_field Tryz.underlying36 rfl sz33 (by decide) rfl) ?_
        refine j_mq (qs_load (l := [q.n.v, q.d.v]) (v := (.slice A q.n.L.length cap)) 0 Tryz.underlying33 rfl rfl rfl (congrArg some hv)) ?_
        refine j_mq (qs_nil rfl) ?_
        refine j_mq (qs_field Tryz.underlying36 rfl sz34 (by decide) rfl) ?_
        refine j_mq (qs_load (l := [q.n.v, q.d.v]) (v := (.slice Ad q.d.L.length capd)) 0 Tryz.underlying34 rfl rfl rfl (congrArg some hdv)) ?_
        refine j_lit (vs := [(.slice Ad q.d.L.length capd)]) Tryz.underlying33 sz34 zero34 rfl (by simp [oneV]) ⟨rfl, by decide⟩ (fun g30 v30 c30 hv30 hc30 ho30 => ?_)
        subst hv30 hc30
        refine j_mD0 (Le.of_sub (by repeat first | exact slR _ | exact slN _ | apply slC | apply slD)) ?_
        refine j_append 2 Tryz.underlying33 Tryz.underlying33 (.inr ⟨_, rfl⟩) sb34 zero34 rfl hrow0 rfl (.inl ⟨_, _, rfl, rd_own (off := 0) (n := 1) 0 rfl rfl, rfl⟩) (by simp [oneV]) ⟨(by simp only [List.length_map]; simp; omega), (by decide)⟩ (fun v31 c31 ho31 => ?_)
        obtain ⟨n31, A31, cap31, rfl, hn31⟩ := own_form ho31 (by decide)
        refine j_mD0 (Le.of_sub (by repeat first | exact slR _ | exact slN _ | apply slC | apply slD)) ?_
        refine j_mq (qs_nil rfl) ?_
        refine j_mq (qs_field Tryz.underlying36 rfl sz33 (by decide) rfl) ?_
        refine j_store (l := [q.n.v, q.d.v]) 1 sz33 rfl rfl rfl rfl (by simp) (by simp) ?_
        refine j_mR _ (.refl _) ?_
        refine j_mend ?_
        refine j_q (qs_nil rfl) ?_
        refine j_q (qs_field Tryz.underlying36 rfl sz34 (by decide) rfl) ?_
        refine j_store (l := [.slice A31 n31 cap31, q.d.v]) 1 sz34 rfl rfl rfl rfl (by simp) (by simp) ?_
        refine j_q (qs_ac) ?_
        refine j_subl (S' := [[(q.g, .cells [.slice A31 n31 cap31, nilS].toArray 36 (0, 0))], c31, q.n.lf, q.d.c, q.d.lf]) (by repeat first | exact slR _ | exact slN _ | apply slC | apply slD) ?_
        refine j_perm (S' := [WM.heap ⟨q.g, q.n.add (.slice A31 n31 cap31) c31 q.d, ⟨nilS, [], []⟩⟩]) (wcom_perm q) ?_
        refine j_ret_con (vs := [_]) (fun w' hw' => ⟨rfl, trivial⟩) ?_
        exact ⟨rfl, ⟨q.g, q.n.add (.slice A31 n31 cap31) c31 q.d, ⟨nilS, [], []⟩⟩, rfl, ⟨hok.n.add (by rw [hdv]; exact ho31) hok.d, rr0, by rw [NR.add_gs, hok.gs, hok.dn], rfl⟩, rfl⟩
end Go.Proofs.YtomajiicjinekaaGreatDoor
/-! Jn17 -/
namespace Go.Proofs.YtomajiicjinekaaGreatDoor
open Go Go.Sx
set_option maxRecDepth 100000
set_option maxHeartbeats 4000000
set_option linter.unusedVariables false
set_option linter.unusedSimpArgs false
attribute [local irreducible] J JQ QS Con W opW
def SeenL {α : Type} (R : World → Value → α → Prop) (w : World) (v : Value) (l : List α) : Prop :=
  ∃ (A : Option Addr) (cap : Nat) (vs : List Value), v = .slice A l.length cap ∧ vs.length = l.length ∧ (0 < l.length → ∃ a, A = some a ∧ Cells w a vs) ∧ ∀ (i : Nat) (x : α) (u : Value), l[i]? = some x → vs[i]? = some u → R w u x
abbrev BRR : World → Value → List (List UInt8) → Prop := SeenL BR
abbrev BGG : World → Value → List (List (List UInt8)) → Prop := SeenL BRR
theorem RR.Ok.seen {r : RR} (h : r.Ok) {w : World} (hin : In w r.heap) : BRR w r.v r.rs := by
  obtain ⟨A, cap, hv, hA⟩ := h.form
  refine ⟨A, cap, r.L.map fun t => t.2.1, by rw [hv, RR.rs, List.length_map], by rw [RR.rs, List.length_map, List.length_map], fun hp => ?_, fun i x u hx hu => ?_⟩
  · rw [RR.rs, List.length_map] at hp
    obtain ⟨g, hg⟩ := hA hp
    have hrow := h.row
    rw [hv, hg] at hrow
    exact ⟨_, hg, own_cellsI hrow fun q hq => hin q (List.mem_append_left _ hq)⟩
  · rw [RR.rs, List.getElem?_map] at hx
    rw [List.getElem?_map] at hu
    cases ht : r.L[i]? with
    | none => rw [ht] at hx; cases hx
    | some t =>
      rw [ht] at hx hu
      cases hx
      cases hu
      exact h.br (fun q hq => hin q (List.mem_append_right _ hq)) (List.mem_of_getElem? ht)
theorem NR.Ok.seen {n : NR} (h : n.Ok) {w : World} (hin : In w n.heap) : BGG w n.v n.gs := by
  obtain ⟨A, cap, hv, hA⟩ := h.form
  refine ⟨A, cap, n.L.map RR.v, by rw [hv, NR.gs, List.length_map], by rw [NR.gs, List.length_map, List.length_map], fun hp => ?_, fun i x u hx hu => ?_⟩
  · rw [NR.gs, List.length_map] at hp
    obtain ⟨g, hg⟩ := hA hp
    have hrow := h.row
    rw [hv, hg] at hrow
    exact ⟨_, hg, own_cellsI hrow fun q hq => hin q (List.mem_append_left _ hq)⟩
  · rw [NR.gs, List.getElem?_map] at hx
    rw [List.getElem?_map] at hu
    cases ht : n.L[i]? with
    | none => rw [ht] at hx; cases hx
    | some t =>
      rw [ht] at hx hu
      cases hx
      cases hu
      have htm := List.mem_of_getElem? ht
      exact (h.rr t htm).seen (NR.in_get (fun q hq => hin q (List.mem_append_right _ hq)) htm)
theorem SeenL.form {α : Type} {R : World → Value → α → Prop} {w : World} {v : Value} {l : List α} (h : SeenL R w v l) : ∃ A cap, v = .slice A l.length cap := by
  obtain ⟨A, cap, _, h1, _⟩ := h
  exact ⟨A, cap, h1⟩
theorem SeenL.at {α : Type} {R : World → Value → α → Prop} {w : World} {A : Option Addr} {cap : Nat} {l : List α} (h : SeenL R w (.slice A l.length cap) l) {i : Nat} (hi : i < l.length) : ∃ (a : Addr) (vs : List Value) (u : Value), A = some a ∧ Cells w a vs ∧ vs[i]? = some u ∧ R w u l[i] := by
  obtain ⟨A', cap', vs, h1, h2, h3, h4⟩ := h
  injection h1 with e1 e2 e3
  obtain ⟨a, ha, hc⟩ := h3 (by omega)
  have hv : vs[i]? = some vs[i] := List.getElem?_eq_getElem (by omega)
  exact ⟨a, vs, vs[i], e1.trans ha, hc, hv, h4 i _ _ (List.getElem?_eq_getElem hi) hv⟩
attribute [local irreducible] sum gsE headE fileN contA readE grpE fillE namesA
theorem groups_con (xs ys : List (List (List UInt8))) (v1 v2 : Value) (w : World) (h1 : BGG w v1 xs) (h2 : BGG w v2 ys) (hl : xs.length ≤ 1000000) (hl2 : ∀ g ∈ xs, g.length ≤ 1000000 ∧ ∀ r ∈ g, r.length ≤ 1000000) : Con Tryz.prog 13 [v1, v2] w [] fun u _ => ∃ b, u = .bool b ∧ (xs = ys → b = true) := by
  refine con_of_tree mix Tryz.func13 T13_ok (by kernel_rfl) ?_
  unfold T13
  obtain ⟨A1, c1, hv1⟩ := h1.form
  obtain ⟨A2, c2, hv2⟩ := h2.form
  subst hv1 hv2
  refine j_q (qs_ac) ?_
  refine j_q (qs_lenl Tryz.underlying33 rfl) ?_
  refine j_q (qs_lenl Tryz.underlying33 rfl) ?_
  refine j_q (qs_neq rfl rfl) ?_
  refine j_cond rfl (fun hc0 => ?_) (fun hc0 => ?_)
  · skip
    have hne : xs.length ≠ ys.length := by
      simp only [bnA] at *
      omega
    refine j_q (qs_ac) ?_
    refine j_ret_con (vs := [_]) (fun w' hw' => ⟨rfl, trivial⟩) ?_
    exact ⟨false, rfl, fun e => absurd (congrArg List.length e) hne⟩
  · skip
    have heq : xs.length = ys.length := by
      simp only [bnA] at *
      omega
    refine j_q (qs_ac) ?_
    refine j_loop (fun m vs S' => ∃ i : Nat, vs = [.int .i64 (i : Int)] ∧ S' = [[]] ∧ i ≤ xs.length ∧ m = xs.length - i) ⟨_, 0, rfl, rfl, Nat.zero_le _, rfl⟩ ?_
    rintro m vs S' hlen ⟨i, rfl, rfl, hin, rfl⟩
    refine j_q (qs_lenl Tryz.underlying33 rfl) ?_
    refine j_q (qs_lss rfl rfl) ?_
    refine j_cond rfl (fun hc1 => ?_) (fun hc1 => ?_)
    · skip
      have hi : i < xs.length := by
        simp only [bnA] at *
        omega
      have hi2 : i < ys.length := by omega
      obtain ⟨a1, vs1, u1, ha1, hq1, hu1, hR1⟩ := h1.at hi
      obtain ⟨a2, vs2, u2, ha2, hq2, hu2, hR2⟩ := h2.at hi2
      obtain ⟨p1, hp1⟩ : ∃ p, p = xs[i] := ⟨_, rfl⟩
      obtain ⟨p2, hp2⟩ : ∃ p, p = ys[i] := ⟨_, rfl⟩
      rw [← hp1] at hR1
      rw [← hp2] at hR2
      obtain ⟨B1, d1, hf1⟩ := hR1.form
      obtain ⟨B2, d2, hf2⟩ := hR2.form
      rw [hf1] at hR1
      rw [hf2] at hR2
      have hlx := hl2 p1 (by rw [hp1]; exact List.getElem_mem hi)
      have hL : ∀ k (h : k < p1.length), p1[k].length ≤ 1000000 := fun k h => hlx.2 _ (List.getElem_mem h)
      have hpl := hlx.1
      have hpe : xs = ys → p1 = p2 := fun e => by subst e; rw [hp1, hp2]
      refine j_draw ?_
      refine jq_q (qs_ixl0 (a := a1) (n := xs.length) (c := c1) Tryz.underlying33 sz34 (by show Value.slice A1 _ _ = _; rw [ha1]) rfl (by omega)) ?_
      refine jq_q (qs_loadR (v := u1) (a := a1) (i := i) (rd_cells hq1 (by simp)) Tryz.underlying34 rfl (by show Value.pointer (some (Addr.add a1 (i : Int).toNat)) = _; rw [Int.toNat_natCast]) hu1) ?_
      rw [hf1]
      refine jq_q (qs_lenl Tryz.underlying34 rfl) ?_
      refine jq_q (qs_ixl0 (a := a2) (n := ys.length) (c := c2) Tryz.underlying33 sz34 (by show Value.slice A2 _ _ = _; rw [ha2]) rfl (by omega)) ?_
      refine jq_q (qs_loadR (v := u2) (a := a2) (i := i) (rd_cells hq2 (by simp)) Tryz.underlying34 rfl (by show Value.pointer (some (Addr.add a2 (i : Int).toNat)) = _; rw [Int.toNat_natCast]) hu2) ?_
      rw [hf2]
      refine jq_q (qs_lenl Tryz.underlying34 rfl) ?_
      refine jq_q (qs_neq rfl rfl) ?_
      refine jq_nil ?_
      refine j_cond rfl (fun hc2 => ?_) (fun hc2 => ?_)
      · skip
        have hne : p1.length ≠ p2.length := by
          simp only [bnA] at *
          omega
        refine j_q (qs_ac) ?_
        refine j_ret_con (vs := [_]) (fun w' hw' => ⟨rfl, trivial⟩) ?_
        exact ⟨false, rfl, fun e => absurd (congrArg List.length (hpe e)) hne⟩
      · skip
        have hpq : p1.length = p2.length := by
          simp only [bnA] at *
          omega
        refine j_q (qs_ac) ?_
        refine j_loop (fun m vs S' => ∃ k : Nat, vs = [.int .i64 (k : Int)] ∧ S' = [[]] ∧ k ≤ p1.length ∧ m = p1.length - k) ⟨_, 0, rfl, rfl, Nat.zero_le _, rfl⟩ ?_
        rintro m vs S' hlen ⟨k, rfl, rfl, hkn, rfl⟩
        refine j_q (qs_ixl0 (a := a1) (n := xs.length) (c := c1) Tryz.underlying33 sz34 (by show Value.slice A1 _ _ = _; rw [ha1]) rfl (by omega)) ?_
        refine j_q (qs_loadR (v := u1) (a := a1) (i := i) (rd_cells hq1 (by simp)) Tryz.underlying34 rfl (by show Value.pointer (some (Addr.add a1 (i : Int).toNat)) = _; rw [Int.toNat_natCast]) hu1) ?_
        rw [hf1]
        refine j_q (qs_lenl Tryz.underlying34 rfl) ?_
        refine j_q (qs_lss rfl rfl) ?_
        refine j_cond rfl (fun hc3 => ?_) (fun hc3 => ?_)
        · skip
          have hk1 : k < p1.length := by
            simp only [bnA] at *
            omega
          have hk2 : k < p2.length := by omega
          obtain ⟨b1, ws1, t1, hb1, hd1, ht1, hr1⟩ := hR1.at hk1
          obtain ⟨b2, ws2, t2, hb2, hd2, ht2, hr2⟩ := hR2.at hk2
          have hx8 := hL k hk1
          have hx9 : p1 = p2 → p1[k] = p2[k] := fun e => by subst e; rfl
          obtain ⟨x1, hx1⟩ : ∃ z, z = p1[k] := ⟨_, rfl⟩
          obtain ⟨x2, hx2⟩ : ∃ z, z = p2[k] := ⟨_, rfl⟩
          rw [← hx1] at hr1 hx8 hx9
          rw [← hx2] at hr2 hx9
          refine j_draw ?_
          refine jq_q (qs_ixl0 (a := a1) (n := xs.length) (c := c1) Tryz.underlying33 sz34 (by show Value.slice A1 _ _ = _; rw [ha1]) rfl (by omega)) ?_
          refine jq_q (qs_loadR (v := u1) (a := a1) (i := i) (rd_cells hq1 (by simp)) Tryz.underlying34 rfl (by show Value.pointer (some (Addr.add a1 (i : Int).toNat)) = _; rw [Int.toNat_natCast]) hu1) ?_
          rw [hf1]
          refine jq_q (qs_ixl0 (a := b1) (n := p1.length) (c := d1) Tryz.underlying34 sz39 (by show Value.slice B1 _ _ = _; rw [hb1]) rfl (by omega)) ?_
          refine jq_q (qs_loadR (v := t1) (a := b1) (i := k) (rd_cells hd1 (by simp)) Tryz.underlying39 rfl (by show Value.pointer (some (Addr.add b1 (k : Int).toNat)) = _; rw [Int.toNat_natCast]) ht1) ?_
          refine jq_q (qs_ixl0 (a := a2) (n := ys.length) (c := c2) Tryz.underlying33 sz34 (by show Value.slice A2 _ _ = _; rw [ha2]) rfl (by omega)) ?_
          refine jq_q (qs_loadR (v := u2) (a := a2) (i := i) (rd_cells hq2 (by simp)) Tryz.underlying34 rfl (by show Value.pointer (some (Addr.add a2 (i : Int).toNat)) = _; rw [Int.toNat_natCast]) hu2) ?_
          rw [hf2]
          refine jq_q (qs_ixl0 (a := b2) (n := p2.length) (c := d2) Tryz.underlying34 sz39 (by show Value.slice B2 _ _ = _; rw [hb2]) rfl (by omega)) ?_
          refine jq_q (qs_loadR (v := t2) (a := b2) (i := k) (rd_cells hd2 (by simp)) Tryz.underlying39 rfl (by show Value.pointer (some (Addr.add b2 (k : Int).toNat)) = _; rw [Int.toNat_natCast]) ht2) ?_
          refine jq_q (qs_call ent28 rfl rfl rfl (fun w' hw' => same_con x1 x2 _ _ w' (br0 hr1 hw') (br0 hr2 hw') (by omega))) ?_
          refine jq_q (qs_not rfl) ?_
          refine jq_nil ?_
          refine j_cond rfl (fun hc4 => ?_) (fun hc4 => ?_)
          · skip
            have hdf : x1 ≠ x2 := fun e => by
              rw [e] at hc4
              simp at hc4
            refine j_q (qs_ac) ?_
            refine j_ret_con (vs := [_]) (fun w' hw' => ⟨rfl, trivial⟩) ?_
            exact ⟨false, rfl, fun e => absurd (hx9 (hpe e)) hdf⟩
          · skip
            refine j_q (qs_add64 rfl rfl (by first | omega | (simp only [bnA] at *; omega))) ?_
            refine j_back rfl ?_
            exact ⟨_, by omega, k + 1, rfl, rfl, by omega, rfl⟩
        · skip
          refine j_q (qs_add64 rfl rfl (by first | omega | (simp only [bnA] at *; omega))) ?_
          refine j_back rfl ?_
          exact ⟨_, by omega, i + 1, rfl, rfl, by omega, rfl⟩
    · skip
      refine j_q (qs_ac) ?_
      refine j_ret_con (vs := [_]) (fun w' hw' => ⟨rfl, trivial⟩) ?_
      exact ⟨true, rfl, fun _ => rfl⟩
end Go.Proofs.YtomajiicjinekaaGreatDoor
/-! Jn18 -/
namespace Go.Proofs.YtomajiicjinekaaGreatDoor
open Go Go.Sx Go.MapKept Go.WideMaps Go.Maps
set_option maxRecDepth 100000
set_option linter.unusedVariables false
theorem alook_lets {a : AS} {n k : List UInt8} : alook (letsA a n).nm k = if n = k then none else alook a.nm k := by
  unfold letsA
  cases h : alook a.nm n with
  | none =>
    simp only
    split
    · rename_i e
      rw [← e, h]
    · rfl
  | some i =>
    simp only
    exact alook_mdel _ _ _
theorem alook_snoc (m : List (List UInt8 × Nat)) (n k : List UInt8) (i : Nat) (h : alook m n = none) : alook (m ++ [(n, i)]) k = if n = k then some i else alook m k := by
  split
  · rename_i e
    rw [← e]
    exact alook_append_hit (fun q hq => alook_none.1 h q hq)
  · rename_i e
    cases hk : alook m k with
    | some v => rw [alook_app (by rw [hk]; rfl), hk]
    | none =>
      refine alook_none.2 fun p hp => ?_
      rcases List.mem_append.1 hp with hp | hp
      · exact alook_none.1 hk p hp
      · rw [List.mem_singleton.1 hp]
        exact e
theorem alook_gives {a : AS} {n k : List UInt8} {i : Nat} : alook (givesA a n i).nm k = if n = k then some i else alook a.nm k := by
  unfold givesA
  split
  · rename_i h
    split
    · rename_i e
      rw [← e, h]
    · rfl
  · rename_i h
    simp only
    rw [alook_snoc _ _ _ _ (by rw [alook_lets, if_pos rfl]), alook_lets]
    split
    · rfl
    · rfl
theorem alook_write {a : AS} {n xs k : List UInt8} {i : Nat} : alook (writeA a n xs i).nm k = if n = k then some i else alook a.nm k := by
  unfold writeA
  simp only
  rw [alook_gives]
  split
  · rfl
  · rename_i e
    simp only
    rw [alook_lets, if_neg e]
theorem letsA_dt {a : AS} {n : List UInt8} : (letsA a n).dt = a.dt := by
  unfold letsA
  split <;> rfl
theorem givesA_dt {a : AS} {n : List UInt8} {i : Nat} : (givesA a n i).dt = a.dt := by
  unfold givesA
  split
  · rfl
  · exact letsA_dt
theorem dt_write {a : AS} {n xs : List UInt8} {i : Nat} : (writeA a n xs i).dt = updA a.dt i xs := by
  unfold writeA
  simp only
  rw [givesA_dt, letsA_dt]
theorem cont_write {a : AS} {n xs k : List UInt8} {i : Nat} (hf : ∀ q ∈ a.nm, q.2 ≠ i) : contA (writeA a n xs i) k = if n = k then xs else contA a k := by
  unfold contA
  rw [alook_write, dt_write]
  split
  · rename_i e
    split at e
    · cases e
    · rename_i h
      rw [if_neg h, e]
  · rename_i j e
    split at e
    · rename_i h
      injection e with e
      rw [if_pos h, ← e]
      unfold updA
      rw [if_pos rfl]
    · rename_i h
      rw [if_neg h, e]
      simp only
      unfold updA
      rw [if_neg (hf _ (alook_mem e))]
theorem alook_appA {a : AS} {n xs k : List UInt8} : alook (appA a n xs).nm k = alook a.nm k := by
  unfold appA
  split <;> rfl
def Sole (a : AS) : Prop := ∀ k k' i, alook a.nm k = some i → alook a.nm k' = some i → k = k'
theorem cont_app {a : AS} {n xs k : List UInt8} (hs : Sole a) (hn : alook a.nm n ≠ none) : contA (appA a n xs) k = if n = k then contA a n ++ xs else contA a k := by
  obtain ⟨i, hi⟩ := Option.ne_none_iff_exists'.1 hn
  unfold contA
  rw [alook_appA]
  have hd : (appA a n xs).dt = updA a.dt i (a.dt i ++ xs) := by
    unfold appA
    rw [hi]
  rw [hd]
  split
  · rename_i e
    rw [hi]
    split
    · rename_i h
      rw [← h, hi] at e
      cases e
    · rfl
  · rename_i j e
    rw [hi]
    split
    · rename_i h
      rw [← h, hi] at e
      injection e with e
      simp only
      rw [← e]
      unfold updA
      rw [if_pos rfl]
    · rename_i h
      unfold updA
      rw [if_neg]
      intro hj
      rw [hj] at e
      exact h (hs _ _ _ hi e)
theorem cont_lets {a : AS} {n k : List UInt8} (h : n ≠ k) : contA (letsA a n) k = contA a k := by
  unfold contA
  rw [alook_lets, if_neg h, letsA_dt]
theorem Sole.write {a : AS} (h : Sole a) {n xs : List UInt8} {i : Nat} (hf : ∀ q ∈ a.nm, q.2 ≠ i) : Sole (writeA a n xs i) := fun k k' j h1 h2 => by
  rw [alook_write] at h1 h2
  split at h1 <;> split at h2
  · rename_i e1 e2
    rw [← e1, e2]
  · injection h1 with h1
    exact absurd h1.symm (hf _ (alook_mem h2))
  · injection h2 with h2
    exact absurd h2.symm (hf _ (alook_mem h1))
  · exact h k k' j h1 h2
theorem Sole.app {a : AS} (h : Sole a) {n xs : List UInt8} : Sole (appA a n xs) := fun k k' j h1 h2 => by
  rw [alook_appA] at h1 h2
  exact h k k' j h1 h2
theorem Sole.lets {a : AS} (h : Sole a) {n : List UInt8} : Sole (letsA a n) := fun k k' j h1 h2 => by
  rw [alook_lets] at h1 h2
  split at h1
  · cases h1
  · split at h2
    · cases h2
    · exact h k k' j h1 h2
end Go.Proofs.YtomajiicjinekaaGreatDoor
/-! Jn19 -/
namespace Go.Proofs.YtomajiicjinekaaGreatDoor
open Go Go.Sx Go.MapKept Go.WideMaps Go.Maps
set_option maxRecDepth 100000
set_option linter.unusedVariables false
def valD (l : List UInt8) : Nat := l.foldl (fun n c => n * 10 + (c.toNat - 48)) 0
theorem valD_snoc (l : List UInt8) (c : UInt8) : valD (l ++ [c]) = valD l * 10 + (c.toNat - 48) := by
  unfold valD
  rw [List.foldl_append]
  rfl
theorem dig_nat {d : Nat} (h : d < 10) : (UInt8.ofNat (48 + d)).toNat = 48 + d := by
  rw [UInt8.toNat_ofNat']
  omega
theorem valD_dec (n : Nat) : valD (dec n) = n := by
  induction n using Nat.strongRecOn with
  | _ n ih =>
    by_cases h : n < 10
    · rw [dec_small h]
      show 0 * 10 + ((UInt8.ofNat (48 + n)).toNat - 48) = n
      rw [dig_nat h]
      omega
    · rw [dec_big (by omega), valD_snoc, ih (n / 10) (by omega), dig_nat (Nat.mod_lt _ (by decide))]
      omega
theorem dec_dig (n : Nat) : ∀ c ∈ dec n, c ≠ 46 := by
  induction n using Nat.strongRecOn with
  | _ n ih =>
    intro c hc e
    by_cases h : n < 10
    · rw [dec_small h, List.mem_singleton] at hc
      rw [hc] at e
      have := congrArg UInt8.toNat e
      rw [dig_nat h] at this
      simp at this
      omega
    · rw [dec_big (by omega)] at hc
      rcases List.mem_append.1 hc with hc | hc
      · exact ih (n / 10) (by omega) c hc e
      · rw [List.mem_singleton] at hc
        rw [hc] at e
        have := congrArg UInt8.toNat e
        rw [dig_nat (Nat.mod_lt _ (by decide))] at this
        simp at this
        omega
theorem dec_inj {n m : Nat} (h : dec n = dec m) : n = m := by rw [← valD_dec n, h, valD_dec]
theorem split46 {a b c d : List UInt8} (ha : ∀ x ∈ a, x ≠ 46) (hb : ∀ x ∈ b, x ≠ 46) (h : a ++ 46 :: c = b ++ 46 :: d) : a = b ∧ c = d := by
  induction a generalizing b with
  | nil =>
    cases b with
    | nil => exact ⟨rfl, by simpa using h⟩
    | cons y b =>
      rw [List.nil_append, List.cons_append] at h
      injection h with h1 h2
      exact absurd h1.symm (hb y (List.mem_cons_self ..))
  | cons x a ih =>
    cases b with
    | nil =>
      rw [List.nil_append, List.cons_append] at h
      injection h with h1 h2
      exact absurd h1 (ha x (List.mem_cons_self ..))
    | cons y b =>
      rw [List.cons_append, List.cons_append] at h
      injection h with h1 h2
      obtain ⟨h3, h4⟩ := ih (fun z hz => ha z (List.mem_cons_of_mem _ hz)) (fun z hz => hb z (List.mem_cons_of_mem _ hz)) h2
      exact ⟨by rw [h1, h3], h4⟩
theorem fileN_inj {name : List UInt8} {a p a' p' : Nat} (h : fileN name a p = fileN name a' p') : a = a' ∧ p = p' := by
  unfold fileN at h
  simp only [List.append_assoc, List.cons_append, List.nil_append] at h
  have h1 := List.append_cancel_left h
  injection h1 with _ h2
  obtain ⟨h3, h4⟩ := split46 (dec_dig a) (dec_dig a') h2
  exact ⟨dec_inj h3, dec_inj h4⟩
theorem fileN_ne (name : List UInt8) (a p : Nat) : fileN name a p ≠ name := fun h => by
  have := congrArg List.length h
  unfold fileN at this
  simp only [List.length_append, List.length_cons, List.length_nil] at this
  omega
theorem JS.reset {name : List UInt8} {age : Nat} {gs : List (List (List UInt8))} {s : AS} (h : JS name age gs s) {id : Nat} (hf : ∀ q ∈ s.nm, q.2 ≠ id) : JS name (age + 1) [] (writeA s name (headE (age + 1)) id) := by
  have hne : ∀ a p, name ≠ fileN name a p := fun a p e => fileN_ne name a p e.symm
  refine ⟨.inr ⟨by rw [alook_write, if_pos rfl]; simp, by rw [cont_write hf, if_pos rfl]⟩, .inl ⟨rfl, ?_⟩, ?_, fun a ha p => ?_⟩
  · rw [alook_write, if_neg (hne _ _)]
    exact h.nx _ (by omega) _
  · rw [alook_write, if_neg (hne _ _)]
    exact h.nx _ (by omega) _
  · rw [alook_write, if_neg (hne _ _)]
    exact h.nx _ (by omega) _
theorem JS.rm {name : List UInt8} {age : Nat} {s : AS} (h : JS name age [] s) {n : List UInt8} (hn : n ≠ name) : JS name age [] (letsA s n) := by
  have hno : ∀ k, alook s.nm k = none → alook (letsA s n).nm k = none := fun k hk => by
    rw [alook_lets]
    split
    · rfl
    · exact hk
  refine ⟨?_, .inl ⟨rfl, ?_⟩, hno _ h.f1, fun a ha p => hno _ (h.nx a ha p)⟩
  · rcases h.hd with ⟨h1, h2⟩ | ⟨h1, h2⟩
    · exact .inl ⟨h1, hno _ h2⟩
    · refine .inr ⟨?_, by rw [cont_lets hn]; exact h2⟩
      rw [alook_lets, if_neg hn]
      exact h1
  · rcases h.f0 with ⟨_, h2⟩ | ⟨h2, _⟩
    · exact hno _ h2
    · exact absurd rfl h2
theorem JS.com {a : JA} {s : AS} (h : JS a.name a.age a.gs s) (hs : Sole s) {id : Nat} (hf : ∀ q ∈ s.nm, q.2 ≠ id) : JS a.name a.age (a.gs ++ [a.down]) (doA s (comT a id)) := by
  have h1 : ∀ p, fileN a.name a.age 0 ≠ fileN a.name a.age (p + 1) := fun p e => by have := (fileN_inj e).2; omega
  have h2 : ∀ b p, a.age < b → fileN a.name a.age 0 ≠ fileN a.name b p := fun b p hb e => by have := (fileN_inj e).1; omega
  have h3 := fileN_ne a.name a.age 0
  unfold comT
  by_cases hg : a.gs = []
  · rw [if_pos hg]
    show JS _ _ _ (writeA s _ _ id)
    refine ⟨?_, .inr ⟨by simp, by rw [alook_write, if_pos rfl]; simp, by rw [cont_write hf, if_pos rfl, hg, gsE_snoc, gsE_nil, List.nil_append]⟩, ?_, fun b hb p => ?_⟩
    · rw [alook_write, if_neg h3, cont_write hf, if_neg h3]
      exact h.hd
    · rw [alook_write, if_neg (h1 0)]
      exact h.f1
    · rw [alook_write, if_neg (h2 b p hb)]
      exact h.nx b hb p
  · rw [if_neg hg]
    obtain ⟨hy, hc⟩ : alook s.nm (fileN a.name a.age 0) ≠ none ∧ contA s (fileN a.name a.age 0) = gsE a.gs := by
      rcases h.f0 with ⟨h4, _⟩ | ⟨_, h4, h5⟩
      · exact absurd h4 hg
      · exact ⟨h4, h5⟩
    show JS _ _ _ (appA s _ _)
    refine ⟨?_, .inr ⟨by simp, by rw [alook_appA]; exact hy, by rw [cont_app hs hy, if_pos rfl, hc, gsE_snoc]⟩, ?_, fun b hb p => ?_⟩
    · rw [alook_appA, cont_app hs hy, if_neg h3]
      exact h.hd
    · rw [alook_appA]
      exact h.f1
    · rw [alook_appA]
      exact h.nx b hb p
end Go.Proofs.YtomajiicjinekaaGreatDoor
/-! Jn20 -/
namespace Go.Proofs.YtomajiicjinekaaGreatDoor
open Go Go.Sx Go.MapKept Go.WideMaps Go.Maps
set_option maxRecDepth 100000
set_option linter.unusedVariables false
structure Bd (a : AS) (u : Int) (n i : Nat) : Prop where
  us : a.used ≤ u
  nm : a.nm.length ≤ n
  id : ∀ q ∈ a.nm, q.2 < i
theorem mdel_le {β : Type} (m : List (List UInt8 × β)) (k : List UInt8) : (mdel m k).length ≤ m.length := by
  unfold mdel
  exact List.length_filter_le _ _
theorem mem_mdel {β : Type} {m : List (List UInt8 × β)} {k : List UInt8} {q : List UInt8 × β} (h : q ∈ mdel m k) : q ∈ m := by
  unfold mdel at h
  exact (List.mem_filter.1 h).1
theorem Bd.lets {a : AS} {u : Int} {n i : Nat} (h : Bd a u n i) (k : List UInt8) : Bd (letsA a k) u n i := by
  unfold letsA
  cases hk : alook a.nm k with
  | none => exact h
  | some j =>
    refine ⟨?_, Nat.le_trans (mdel_le _ _) h.nm, fun q hq => h.id q (mem_mdel hq)⟩
    simp only
    have := h.us
    split
    · have : (0 : Int) ≤ ((a.dt j).length : Int) := Int.natCast_nonneg _
      omega
    · exact this
theorem Bd.gives {a : AS} {u : Int} {n i : Nat} (h : Bd a u n i) (k : List UInt8) {j : Nat} (hj : j < i) : Bd (givesA a k j) u (n + 1) i := by
  unfold givesA
  split
  · exact ⟨h.us, Nat.le_succ_of_le h.nm, h.id⟩
  · have h1 := h.lets k
    refine ⟨h1.us, ?_, fun q hq => ?_⟩
    · simp only [List.length_append, List.length_cons, List.length_nil]
      have := h1.nm
      omega
    · rcases List.mem_append.1 hq with hq | hq
      · exact h1.id q hq
      · rw [List.mem_singleton.1 hq]
        exact hj
theorem Bd.mono {a : AS} {u u' : Int} {n n' i i' : Nat} (h : Bd a u n i) (hu : u ≤ u') (hn : n ≤ n') (hi : i ≤ i') : Bd a u' n' i' :=
  ⟨Int.le_trans h.us hu, Nat.le_trans h.nm hn, fun q hq => Nat.lt_of_lt_of_le (h.id q hq) hi⟩
theorem Bd.write {a : AS} {u : Int} {n i : Nat} (h : Bd a u n i) (k xs : List UInt8) : Bd (writeA a k xs i) (u + (xs.length : Int)) (n + 1) (i + 1) := by
  have h1 := (h.lets k).mono (Int.le_refl _) (Nat.le_refl _) (Nat.le_succ i)
  have h2 : Bd { letsA a k with dt := updA (letsA a k).dt i xs } u n (i + 1) := ⟨h1.us, h1.nm, h1.id⟩
  have h3 := h2.gives k (j := i) (Nat.lt_succ_self i)
  unfold writeA
  exact ⟨Int.add_le_add_right h3.us _, h3.nm, h3.id⟩
theorem Bd.app {a : AS} {u : Int} {n i : Nat} (h : Bd a u n i) (k xs : List UInt8) : Bd (appA a k xs) (u + (xs.length : Int)) n i := by
  unfold appA
  have := h.us
  split
  · exact ⟨by omega, h.nm, h.id⟩
  · exact ⟨by simp only; omega, h.nm, h.id⟩
end Go.Proofs.YtomajiicjinekaaGreatDoor
/-! Jn21 -/
namespace Go.Proofs.YtomajiicjinekaaGreatDoor
open Go Go.Sx Go.MapKept Go.WideMaps Go.Maps
set_option maxRecDepth 100000
set_option linter.unusedVariables false
def AllF (P : AS → Prop) (f : AF) : Prop := ∀ k, k ≤ f.pend.length → P (runA f.base (f.pend.take k))
theorem AllF.now {P : AS → Prop} {f : AF} (h : AllF P f) : P f.now := by
  have := h f.pend.length (Nat.le_refl _)
  rwa [List.take_length] at this
theorem AllF.mono {P Q : AS → Prop} {f : AF} (h : AllF P f) (hq : ∀ s, P s → Q s) : AllF Q f := fun k hk => hq _ (h k hk)
theorem AllF.and {P Q : AS → Prop} {f : AF} (h : AllF P f) (h2 : AllF Q f) : AllF (fun s => P s ∧ Q s) f := fun k hk => ⟨h k hk, h2 k hk⟩
theorem AllF.step {P : AS → Prop} {f : AF} (h : AllF P f) {t : AT} (ht : P (doA f.now t)) : AllF P (stepF f t) := fun k hk => by
  have hk' : k ≤ f.pend.length + 1 := by simpa [stepF] using hk
  show P (runA f.base ((f.pend ++ [t]).take k))
  rcases Nat.lt_or_ge k (f.pend.length + 1) with h1 | h1
  · rw [List.take_append_of_le_length (by omega)]
    exact h k (by omega)
  · rw [List.take_of_length_le (by rw [List.length_append]; simp; omega), runA_snoc]
    exact ht
theorem AllF.sync {P : AS → Prop} {f : AF} (h : P f.now) : AllF P (syncF f) := fun k hk => by
  have hk' : k ≤ 0 := by simpa [syncF] using hk
  have h0 : k = 0 := by omega
  subst h0
  exact h
theorem AllF.crash {P : AS → Prop} {f : AF} (h : AllF P f) (keep : Int) : AllF P (crashF f keep) := fun k hk => by
  have hk' : k ≤ 0 := by simpa [crashF] using hk
  have h0 : k = 0 := by omega
  subst h0
  show P (runA f.base (f.pend.take (keepN f.pend.length keep)))
  rcases Nat.le_total (keepN f.pend.length keep) f.pend.length with h1 | h1
  · exact h _ h1
  · rw [List.take_of_length_le h1, ← List.take_length (l := f.pend)]
    exact h _ (Nat.le_refl _)
theorem AllF.rm {P : AS → Prop} {f : AF} (h : AllF P f) {n : List UInt8} (ht : P (letsA f.now n)) : AllF P (rmF f n) := by
  unfold rmF
  split
  · exact h.step ht
  · exact h
theorem AllF.rms {P : AS → Prop} {f : AF} (h : AllF P f) {ns : List (List UInt8)} (ht : ∀ s n, n ∈ ns → P s → P (letsA s n)) : AllF P (rmsF f ns) := by
  induction ns generalizing f with
  | nil => exact h
  | cons n ns ih =>
    show AllF P (rmsF (rmF f n) ns)
    exact ih (h.rm (ht _ _ (List.mem_cons_self ..) h.now)) fun s m hm => ht s m (List.mem_cons_of_mem _ hm)
theorem AllF.fuse {P : AS → Prop} {f : AF} (h : AllF P f) (n : Int) : AllF P (fuseF f n) := h
theorem AllF.new {P : AS → Prop} {room : Int} (h : P AS0) : AllF P (AF0 room) := fun k hk => by
  have hk' : k ≤ 0 := by simpa [AF0] using hk
  have h0 : k = 0 := by omega
  subst h0
  exact h
end Go.Proofs.YtomajiicjinekaaGreatDoor
/-! Jn22 -/
namespace Go.Proofs.YtomajiicjinekaaGreatDoor
open Go Go.Sx Go.MapKept Go.WideMaps Go.Maps
set_option maxRecDepth 100000
set_option linter.unusedVariables false
def JI (u : Int) (n i : Nat) (a : JA) (f : AF) : Prop := AllF (fun s => JS a.name a.age a.gs s ∧ Sole s ∧ Bd s u n i) f
theorem Bd.fresh {s : AS} {u : Int} {n i : Nat} (h : Bd s u n i) : ∀ q ∈ s.nm, q.2 ≠ i := fun q hq => Nat.ne_of_lt (h.id q hq)
theorem JI.mono {u u' : Int} {n n' i i' : Nat} {a : JA} {f : AF} (h : JI u n i a f) (hu : u ≤ u') (hn : n ≤ n') (hi : i ≤ i') : JI u' n' i' a f :=
  AllF.mono h fun s hs => ⟨hs.1, hs.2.1, hs.2.2.mono hu hn hi⟩
theorem JI.comNow {u : Int} {n i : Nat} {a : JA} {f : AF} (h : JI u n i a f) : JS a.name a.age (a.gs ++ [a.down]) (doA f.now (comT a i)) ∧ Sole (doA f.now (comT a i)) ∧ Bd (doA f.now (comT a i)) (u + ((grpE a.down).length : Int)) (n + 1) (i + 1) := by
  obtain ⟨h1, h2, h3⟩ := AllF.now h
  refine ⟨h1.com h2 h3.fresh, ?_, ?_⟩
  · unfold comT
    split
    · exact h2.write h3.fresh
    · exact h2.app
  · unfold comT
    split
    · exact h3.write _ _
    · exact (h3.app _ _).mono (Int.le_refl _) (Nat.le_succ n) (Nat.le_succ i)
theorem JI.resNow {u : Int} {n i : Nat} {a : JA} {f : AF} (h : JI u n i a f) : JS a.name (a.age + 1) [] (doA f.now (resT a i)) ∧ Sole (doA f.now (resT a i)) ∧ Bd (doA f.now (resT a i)) (u + ((headE (a.age + 1)).length : Int)) (n + 1) (i + 1) := by
  obtain ⟨h1, h2, h3⟩ := AllF.now h
  exact ⟨h1.reset h3.fresh, h2.write h3.fresh, h3.write _ _⟩
theorem JI.com {u : Int} {n i : Nat} {a : JA} {f : AF} (h : JI u n i a f) (he : comE a f i = 0) : JI (u + ((grpE a.down).length : Int)) (n + 1) (i + 1) (comJ a f i) (comA a f i) := by
  have h0 := h.mono (show u ≤ u + ((grpE a.down).length : Int) by have : (0 : Int) ≤ ((grpE a.down).length : Int) := Int.natCast_nonneg _; omega) (Nat.le_succ n) (Nat.le_succ i)
  cases hd : a.dead
  · by_cases hdn : a.down = []
    · have e1 : comJ a f i = a := by simp [comJ, hd, hdn]
      have e2 : comA a f i = f := by simp [comA, hd, hdn]
      rw [e1, e2]
      exact h0
    · cases hb : burnt f
      · cases hb2 : burnt (stepF f (comT a i))
        · obtain ⟨_, e1, e2⟩ := com3 (id := i) hd hdn hb hb2
          rw [e1, e2]
          refine AllF.sync ?_
          show _ ∧ _
          have := h.comNow
          have e : (stepF f (comT a i)).now = doA f.now (comT a i) := runA_snoc
          rw [e]
          exact this
        · obtain ⟨e0, _⟩ := com2 (id := i) hd hdn hb hb2
          rw [e0] at he
          cases he
      · obtain ⟨e0, _⟩ := com1 (id := i) hd hdn hb
        rw [e0] at he
        cases he
  · have e0 : comE a f i = 26 := by simp [comE, hd]
    rw [e0] at he
    cases he
theorem JI.comBad {u : Int} {n i : Nat} {a : JA} {f : AF} (h : JI u n i a f) : AllF (fun s => JS a.name a.age a.gs s ∨ JS a.name a.age (a.gs ++ [a.down]) s) (comA a f i) := by
  have h0 : AllF (fun s => JS a.name a.age a.gs s ∨ JS a.name a.age (a.gs ++ [a.down]) s) f := AllF.mono h fun s hs => .inl hs.1
  have hs : AllF (fun s => JS a.name a.age a.gs s ∨ JS a.name a.age (a.gs ++ [a.down]) s) (stepF f (comT a i)) := h0.step (.inr h.comNow.1)
  unfold comA
  split
  · exact h0
  · split
    · exact h0
    · split
      · exact h0
      · split
        · exact hs
        · exact AllF.sync hs.now
end Go.Proofs.YtomajiicjinekaaGreatDoor
/-! Jn23 -/
namespace Go.Proofs.YtomajiicjinekaaGreatDoor
open Go Go.Sx Go.MapKept Go.WideMaps Go.Maps
set_option maxRecDepth 100000
set_option linter.unusedVariables false
theorem namesA_ne {s : AS} {name n : List UInt8} (h : n ∈ namesA s (name ++ [46])) : n ≠ name := fun e => by
  unfold namesA sortS at h
  rw [List.mem_mergeSort] at h
  have h2 := (List.mem_filter.1 h).2
  rw [e] at h2
  unfold preB at h2
  have h3 := of_decide_eq_true (Bool.and_eq_true_iff.1 h2).1
  rw [List.length_append, List.length_cons, List.length_nil] at h3
  omega
theorem JI.res {u : Int} {n i : Nat} {a : JA} {f : AF} (h : JI u n i a f) (he : resE a f i = 0) : JI (u + ((headE (a.age + 1)).length : Int)) (n + 1) (i + 1) (resJ a f i) (resA a f i) := by
  cases hd : a.dead
  · cases hb : burnt f
    · cases hb2 : burnt (stepF f (resT a i))
      · obtain ⟨_, e1, e2⟩ := res3 (id := i) hd hb hb2
        rw [e1, e2]
        refine AllF.rms (AllF.sync ?_) fun s m hm hs => ?_
        · have := h.resNow
          have e : (stepF f (resT a i)).now = doA f.now (resT a i) := runA_snoc
          rw [e]
          exact this
        · exact ⟨hs.1.rm (namesA_ne hm), hs.2.1.lets, hs.2.2.lets m⟩
      · obtain ⟨e0, _⟩ := res2 (id := i) hd hb hb2
        rw [e0] at he
        cases he
    · obtain ⟨e0, _⟩ := res1 (id := i) hd hb
      rw [e0] at he
      cases he
  · have e0 : resE a f i = 26 := by simp [resE, hd]
    rw [e0] at he
    cases he
theorem JI.resBad {u : Int} {n i : Nat} {a : JA} {f : AF} (h : JI u n i a f) (he : resE a f i ≠ 0) : AllF (fun s => JS a.name a.age a.gs s ∨ JS a.name (a.age + 1) [] s) (resA a f i) := by
  have h0 : AllF (fun s => JS a.name a.age a.gs s ∨ JS a.name (a.age + 1) [] s) f := AllF.mono h fun s hs => .inl hs.1
  have hs : AllF (fun s => JS a.name a.age a.gs s ∨ JS a.name (a.age + 1) [] s) (stepF f (resT a i)) := h0.step (.inr h.resNow.1)
  unfold resA
  split
  · exact h0
  · rename_i hd
    split
    · exact h0
    · rename_i hb
      split
      · exact hs
      · rename_i hb2
        exact absurd (by simp [resE, hd, hb, hb2]) he
theorem JI.crash {u : Int} {n i : Nat} {a : JA} {f : AF} (h : JI u n i a f) (keep : Int) : JI u n i { a with down := [] } (crashF f keep) := AllF.crash h keep
theorem JI.new {name : List UInt8} {room : Int} : JI 0 0 0 ⟨name, 0, [], [], false⟩ (AF0 room) := AllF.new ⟨⟨.inl ⟨rfl, rfl⟩, .inl ⟨rfl, rfl⟩, rfl, fun _ _ _ => rfl⟩, (fun k k' i h _ => by cases h), ⟨Int.le_refl _, Nat.le_refl _, fun q hq => by cases hq⟩⟩
end Go.Proofs.YtomajiicjinekaaGreatDoor
/-! Jn24 -/
namespace Go.Proofs.YtomajiicjinekaaGreatDoor
open Go Go.Sx Go.MapKept Go.WideMaps Go.Maps
set_option maxRecDepth 100000
set_option linter.unusedVariables false
theorem crashG_con (r : FR) (a : AF) (keep : Int) (w : World) (hok : r.Ok a) : Con Tryz.prog 21 [r.ptr, .int .i64 keep] w r.heap fun _ S' => ∃ r' : FR, S' = [r'.heap] ∧ r'.Ok (crashF a keep) ∧ r'.gf = r.gf :=
  (crash_con r a keep w hok).mono fun u S' hu => by
    obtain ⟨r', h2, h3, h4⟩ := hu
    exact ⟨r', h2, h3, h4.gf⟩
theorem fuseG_con (r : FR) (a : AF) (n : Int) (w : World) (hok : r.Ok a) (hn : -9223372036854775808 ≤ n ∧ n ≤ 9223372036854775807) : Con Tryz.prog 15 [r.ptr, .int .i64 n] w r.heap fun _ S' => ∃ r' : FR, S' = [r'.heap] ∧ r'.Ok (fuseF a n) ∧ r'.gf = r.gf :=
  (fuse_con r a n w hok hn).mono fun u S' hu => by
    obtain ⟨r', h2, h3, h4⟩ := hu
    exact ⟨r', h2, h3, h4.gf⟩
theorem lit_seen {α : Type} {R : World → Value → α → Prop} {w : World} {g : Nat} {e : TypeId} {fz : Nat × Nat} {vs : List Value} {l : List α} (hg : w.heap[g]? = some (.cells vs.toArray e fz)) (hl : vs.length = l.length) {n : Nat} (hn : n = l.length) (h : ∀ (i : Nat) (x : α) (u : Value), l[i]? = some x → vs[i]? = some u → R w u x) : SeenL R w (.slice (some ⟨g, 0, none⟩) n n) l := by
  subst hn
  refine ⟨_, _, vs, rfl, hl, fun _ => ⟨_, rfl, fun j u hu => ?_⟩, h⟩
  rw [add_off, Nat.zero_add, cell_of hg]
  exact hu
theorem zero_out {w w' : World} {S : List SH} (hw : Sig ⟨w, dom []⟩ S w') (h0 : 0 < w.heap.size) {k : Nat} {c : SH} (hk : S[k]? = some c) : 0 ∉ dom c := fun h => by
  obtain ⟨q, hq, e⟩ := List.mem_map.1 h
  rcases hw.dom_ 0 (List.mem_map.2 ⟨q, mem_flatten_of hk hq, e⟩) with h1 | h1
  · simp [dom] at h1
  · simp only at h1
    omega
end Go.Proofs.YtomajiicjinekaaGreatDoor
/-! Jn25 -/
namespace Go.Proofs.YtomajiicjinekaaGreatDoor
open Go Go.Sx
set_option maxRecDepth 100000
set_option maxHeartbeats 4000000
set_option linter.unusedVariables false
set_option linter.unusedSimpArgs false
attribute [local irreducible] J JQ QS Con W opW
abbrev kA : JA := ⟨[106], 0, [], [[97], [98]], false⟩
theorem kDn : limR kA.down := ⟨by decide, by decide⟩
theorem kOk : ComOk kA (AF0 10000) 0 := by
  have h := grpE_lim kDn
  have h0 := (AllF.now (JI.new (name := [106]) (room := 10000))).1
  refine ⟨h0, by decide, (fun g hg => by cases hg), kDn, by decide, ?_, by decide, ⟨by decide, ?_⟩, by decide, by decide, (fun q hq => by cases hq), by decide, by decide⟩
  · show (gsE []).length + _ ≤ _
    rw [gsE_nil, List.length_nil]
    omega
  · have h2 : (grpE kA.down).length ≤ 10000 := by
      unfold grpE
      rw [List.length_append, List.length_append, sum_length]
      have h3 := recsE_len (rs := [[97], [98]]) (by decide)
      have h4 := num_len (show 2 < 268435456 by decide)
      have h5 : (bodyE kA.down).length ≤ 100 := by
        show (num 2 ++ recsE [[97], [98]]).length ≤ 100
        rw [List.length_append]
        have h6 : sizeR [[97], [98]] = 2 := by decide
        have h7 : ([[97], [98]] : List (List UInt8)).length = 2 := rfl
        omega
      have h8 := num_len (show (bodyE kA.down).length < 268435456 by omega)
      omega
    show (0 : Int) + _ ≤ 10000
    omega
theorem kCom : comE kA (AF0 10000) 0 = 0 := (com3 (id := 0) rfl (by decide) rfl rfl).1
theorem kL : limG [[[97], [98]]] := ⟨by decide, fun g hg => by rw [List.mem_singleton.1 hg]; exact kDn⟩
theorem kJ : comJ kA (AF0 10000) 0 = ⟨[106], 0, [[[97], [98]]], [], false⟩ := (com3 (id := 0) rfl (by decide) rfl rfl).2.1
theorem kI : JI (0 + ((grpE kA.down).length : Int)) 1 1 ⟨[106], 0, [[[97], [98]]], [], false⟩ (comA kA (AF0 10000) 0) := by
  have h0 : JI 0 0 0 kA (AF0 10000) := JI.new (name := [106]) (room := 10000)
  have h := h0.com kCom
  rwa [kJ] at h
attribute [local irreducible] sum gsE headE fileN contA readE grpE fillE namesA
theorem known_con (w : World) (hP : P10 w) : Con Tryz.prog 8 [] w [] fun u _ => u = .bool true := by
  refine con_of_tree mix Tryz.func8 T8_ok (by kernel_rfl) ?_
  unfold T8
  refine j_q (qs_ac) ?_
  refine j_call0 ent9 rfl rfl rfl (fun w' hw' => newR_con 10000 w' (by decide) (by decide)) (fun u S2 hu => ?_)
  obtain ⟨r, rfl, rfl, hr⟩ := hu
  refine j_subl (S' := [r.heap]) (by repeat first | exact slR _ | exact slN _ | apply slC | apply slD) ?_
  refine j_q (qs_ext rfl rfl) ?_
  refine j_q (qs_ext rfl rfl) ?_
  refine j_call0 ent10 rfl rfl rfl (fun w' hw' => open_con r (AF0 10000) [106] 0 [] w' (in_own hw' 0 rfl) hr (AllF.now (JI.new (name := [106]) (room := 10000))).1 ⟨by decide, fun g hg => by cases hg⟩ (by decide) (by decide) (by decide) (hP.keep hw' (by simp))) (fun u S2 hu => ?_)
  obtain ⟨j, rfl, rfl, hj, hjf⟩ := hu
  refine j_q (qs_ext rfl rfl) ?_
  refine j_q (qs_ext rfl rfl) ?_
  refine j_q (qs_neq rfl rfl) ?_
  rw [show ((0 : Int) != 0) = false from rfl]
  refine j_gt rfl (qs_mt rfl) ?_
  refine j_gt rfl (qs_pnil Tryz.underlying29 rfl) ?_
  refine j_q (qs_or rfl rfl) ?_
  refine j_gt rfl (qs_mt rfl) ?_
  refine j_ga rfl ?_
  refine j_lit (vs := [.int .u8 97]) Tryz.underlying39 sz5 zero5 rfl (by simp [oneV]) ⟨rfl, by decide⟩ (fun g12 v12 c12 hv12 hc12 ho12 => ?_)
  subst hv12 hc12
  refine j_ga rfl ?_
  refine j_convsl 0 Tryz.underlying39 Tryz.underlying5 rfl rfl ?_
  have hf12 : Sx.Own 5 1 (ints [97]) (.slice (some ⟨g12, 0, none⟩) 1 1) [(g12, .cells (ints [97]).toArray 5 (1, 2))] := own_froz (xs := [97])
  refine j_ga rfl ?_
  refine j_call 1 ent16 rfl rfl rfl rfl (fun w' hw' => jadd_con j ⟨[106], 0, [], [], false⟩ _ [97] w' hj (own_br hf12 0 rfl hw') (sep_own hf12 (k := 0) (m := 1) rfl rfl (by decide) hw') (by decide) (by decide)) (fun u S2 hu => ?_)
  obtain ⟨rfl, j1, rfl, hj1, hgj1, hpj1⟩ := hu
  rw [show mayJ ⟨[106], 0, [], [], false⟩ = 0 from rfl]
  refine j_subl (S' := [j1.heap, r.heap]) (by repeat first | exact slR _ | exact slN _ | apply slC | apply slD) ?_
  refine j_gt rfl (qs_neq rfl rfl) ?_
  rw [show ((0 : Int) != 0) = false from rfl]
  refine j_q (qs_or rfl rfl) ?_
  refine j_gt rfl (qs_mt rfl) ?_
  refine j_ga rfl ?_
  refine j_lit (vs := [.int .u8 98]) Tryz.underlying39 sz5 zero5 rfl (by simp [oneV]) ⟨rfl, by decide⟩ (fun g18 v18 c18 hv18 hc18 ho18 => ?_)
  subst hv18 hc18
  refine j_ga rfl ?_
  refine j_convsl 0 Tryz.underlying39 Tryz.underlying5 rfl rfl ?_
  have hf18 : Sx.Own 5 1 (ints [98]) (.slice (some ⟨g18, 0, none⟩) 1 1) [(g18, .cells (ints [98]).toArray 5 (1, 2))] := own_froz (xs := [98])
  rw [show j.ptr = j1.ptr from by rw [JM.ptr, JM.ptr, hgj1]]
  refine j_ga rfl ?_
  refine j_call 1 ent16 rfl rfl rfl rfl (fun w' hw' => jadd_con j1 ⟨[106], 0, [], [[97]], false⟩ _ [98] w' hj1 (own_br hf18 0 rfl hw') (sep_own hf18 (k := 0) (m := 1) rfl rfl (by decide) hw') (by decide) (by decide)) (fun u S2 hu => ?_)
  obtain ⟨rfl, j2, rfl, hj2, hgj2, hpj2⟩ := hu
  rw [show mayJ ⟨[106], 0, [], [[97]], false⟩ = 0 from rfl]
  refine j_subl (S' := [j2.heap, r.heap]) (by repeat first | exact slR _ | exact slN _ | apply slC | apply slD) ?_
  refine j_gt rfl (qs_neq rfl rfl) ?_
  rw [show ((0 : Int) != 0) = false from rfl]
  refine j_q (qs_or rfl rfl) ?_
  refine j_gt rfl (qs_mt rfl) ?_
  rw [show j1.ptr = j2.ptr from by rw [JM.ptr, JM.ptr, hgj2]]
  refine j_ga rfl ?_
  refine j_perm (S' := [j2.heap ++ r.heap]) (by simp) ?_
  refine j_call 0 ent18 rfl rfl rfl rfl (fun w' hw' => jcomU_con j2 kA r (AF0 10000) 0 w' hj2 hr (hpj2.trans (hpj1.trans hjf)) (fun _ _ => kOk) (hP.keep hw' (by simp)) (zero_out hw' hP.1 (k := 0) rfl)) (fun u S2 hu => ?_)
  obtain ⟨rfl, j3, r1, rfl, hj3, hr1, hgj3, hpj3, hrg1⟩ := hu
  rw [kCom]
  rw [kJ] at hj3
  refine j_subl (S' := [j3.heap, r1.heap]) (by repeat first | exact slR _ | exact slN _ | apply slC | apply slD) ?_
  refine j_gt rfl (qs_neq rfl rfl) ?_
  rw [show ((0 : Int) != 0) = false from rfl]
  refine j_q (qs_or rfl rfl) ?_
  refine j_gt rfl (qs_mt rfl) ?_
  refine j_ga rfl ?_
  refine j_lit (vs := [.int .u8 99]) Tryz.underlying39 sz5 zero5 rfl (by simp [oneV]) ⟨rfl, by decide⟩ (fun g28 v28 c28 hv28 hc28 ho28 => ?_)
  subst hv28 hc28
  refine j_ga rfl ?_
  refine j_convsl 0 Tryz.underlying39 Tryz.underlying5 rfl rfl ?_
  have hf28 : Sx.Own 5 1 (ints [99]) (.slice (some ⟨g28, 0, none⟩) 1 1) [(g28, .cells (ints [99]).toArray 5 (1, 2))] := own_froz (xs := [99])
  rw [show j2.ptr = j3.ptr from by rw [JM.ptr, JM.ptr, hgj3]]
  refine j_ga rfl ?_
  refine j_call 1 ent16 rfl rfl rfl rfl (fun w' hw' => jadd_con j3 ⟨[106], 0, [[[97], [98]]], [], false⟩ _ [99] w' hj3 (own_br hf28 0 rfl hw') (sep_own hf28 (k := 0) (m := 1) rfl rfl (by decide) hw') (by decide) (by decide)) (fun u S2 hu => ?_)
  obtain ⟨rfl, j4, rfl, hj4, hgj4, hpj4⟩ := hu
  rw [show mayJ ⟨[106], 0, [[[97], [98]]], [], false⟩ = 0 from rfl]
  refine j_subl (S' := [j4.heap, r1.heap]) (by repeat first | exact slR _ | exact slN _ | apply slC | apply slD) ?_
  refine j_gt rfl (qs_neq rfl rfl) ?_
  rw [show ((0 : Int) != 0) = false from rfl]
  refine j_q (qs_or rfl rfl) ?_
  refine j_cond rfl (fun hc0 => ?_) (fun hc0 => ?_)
  · skip
    simp at hc0
  · skip
    rw [show r.ptr = r1.ptr from by rw [FR.ptr, FR.ptr, hrg1]]
    refine j_call 1 ent21 rfl rfl rfl rfl (fun w' hw' => crashG_con r1 _ 0 w' hr1) (fun u S2 hu => ?_)
    obtain ⟨r2, rfl, hr2, hrg2⟩ := hu
    refine j_subl (S' := [r2.heap]) (by repeat first | exact slR _ | exact slN _ | apply slC | apply slD) ?_
    rw [show r1.ptr = r2.ptr from by rw [FR.ptr, FR.ptr, hrg2]]
    refine j_call0 ent10 rfl rfl rfl (fun w' hw' => open_con r2 _ [106] 0 [[[97], [98]]] w' (in_own hw' 0 rfl) hr2 (AllF.now (kI.crash 0)).1 kL (by decide) (by decide) (by decide) (hP.keep hw' (by simp))) (fun u S2 hu => ?_)
    obtain ⟨j5, rfl, rfl, hj5, hjf5⟩ := hu
    refine j_q (qs_ext rfl rfl) ?_
    refine j_q (qs_ext rfl rfl) ?_
    refine j_q (qs_eql rfl rfl) ?_
    rw [show ((0 : Int) == 0) = true from rfl]
    refine j_gt rfl (qs_mt rfl) ?_
    refine j_gt rfl (qs_pnnil Tryz.underlying29 rfl) ?_
    refine j_q (qs_and rfl rfl) ?_
    refine j_gt rfl (qs_mt rfl) ?_
    refine j_ga rfl ?_
    refine j_call0 ent12 rfl rfl rfl (fun w' hw' => jgroups_con j5 _ w' (in_own hw' 0 rfl) hj5 kL) (fun u S2 hu => ?_)
    obtain ⟨n, rfl, rfl, hn, hng⟩ := hu
    refine j_ga rfl ?_
    refine j_lit (vs := [.int .u8 97]) Tryz.underlying39 sz5 zero5 rfl (by simp [oneV]) ⟨rfl, by decide⟩ (fun g44 v44 c44 hv44 hc44 ho44 => ?_)
    subst hv44 hc44
    refine j_ga rfl ?_
    refine j_convsl 0 Tryz.underlying39 Tryz.underlying5 rfl rfl ?_
    have hf44 : Sx.Own 5 1 (ints [97]) (.slice (some ⟨g44, 0, none⟩) 1 1) [(g44, .cells (ints [97]).toArray 5 (1, 2))] := own_froz (xs := [97])
    refine j_ga rfl ?_
    refine j_lit (vs := [.int .u8 98]) Tryz.underlying39 sz5 zero5 rfl (by simp [oneV]) ⟨rfl, by decide⟩ (fun g46 v46 c46 hv46 hc46 ho46 => ?_)
    subst hv46 hc46
    refine j_ga rfl ?_
    refine j_convsl 0 Tryz.underlying39 Tryz.underlying5 rfl rfl ?_
    have hf46 : Sx.Own 5 1 (ints [98]) (.slice (some ⟨g46, 0, none⟩) 1 1) [(g46, .cells (ints [98]).toArray 5 (1, 2))] := own_froz (xs := [98])
    refine j_ga rfl ?_
    refine j_lit (vs := [.slice (some ⟨g44, 0, none⟩) 1 1, .slice (some ⟨g46, 0, none⟩) 1 1]) Tryz.underlying34 sz39 zero39 rfl (by simp [oneV]) ⟨rfl, by decide⟩ (fun g48 v48 c48 hv48 hc48 ho48 => ?_)
    subst hv48 hc48
    refine j_ga rfl ?_
    refine j_lit (vs := [.slice (some ⟨g48, 0, none⟩) 2 2]) Tryz.underlying33 sz34 zero34 rfl (by simp [oneV]) ⟨rfl, by decide⟩ (fun g49 v49 c49 hv49 hc49 ho49 => ?_)
    subst hv49 hc49
    refine j_ga rfl ?_
    refine j_call0 ent13 rfl rfl rfl (fun w' hw' => groups_con n.gs [[[97], [98]]] _ _ w' (hn.seen (fun q hq => by
      rcases List.mem_append.1 hq with h | h
      · exact in_own hw' 4 rfl q h
      · exact in_own hw' 5 rfl q h)) (by
      refine lit_seen (R := BRR) (l := [[[97], [98]]]) (n := 1) (hw'.at_ (k := 0) rfl) rfl rfl ?_
      rintro (_ | i) x u hx hu
      · simp at hx hu
        subst hx hu
        refine lit_seen (R := BR) (l := [[97], [98]]) (n := 2) (hw'.at_ (k := 1) rfl) rfl rfl ?_
        rintro (_ | _ | i) x u hx hu
        · simp at hx hu
          subst hx hu
          exact own_br hf44 3 rfl hw'
        · simp at hx hu
          subst hx hu
          exact own_br hf46 2 rfl hw'
        · simp at hx
      · simp at hx) (by rw [hng]; decide) (by rw [hng]; decide)) (fun u S2 hu => ?_)
    obtain ⟨bb, rfl, hbb⟩ := hu
    rw [hbb hng]
    refine j_sub (S' := []) (List.nil_sublist _) ?_
    refine j_q (qs_and rfl rfl) ?_
    refine j_ret_con (vs := [_]) (fun w' hw' => ⟨rfl, trivial⟩) ?_
    rfl
end Go.Proofs.YtomajiicjinekaaGreatDoor
/-! Jn26 -/
namespace Go.Proofs.YtomajiicjinekaaGreatDoor
open Go Go.Sx
set_option maxRecDepth 100000
set_option maxHeartbeats 4000000
set_option linter.unusedVariables false
set_option linter.unusedSimpArgs false
attribute [local irreducible] J JQ QS Con W opW
attribute [local irreducible] sum gsE headE fileN contA readE grpE fillE namesA
end Go.Proofs.YtomajiicjinekaaGreatDoor
