/- Files that forget: what may be done, and that it is done. -/
import Derived.Test.YtckpegkpdepokaaTa
import Derived.Test.YtckpegkpdepokaaFs4
namespace Go.Proofs.Ytckpegkpdepokaa
open Go Go.Sx
set_option maxRecDepth 100000
set_option maxHeartbeats 4000000
set_option linter.unusedVariables false
set_option linter.unusedSimpArgs false
attribute [local irreducible] J JQ QS Con W opW
theorem ent30 : Sx.Enters Try.prog 30 := ⟨_, Try.func30, by kernel_rfl, by kernel_rfl⟩
theorem ent47 : Sx.Enters Try.prog 47 := ⟨_, Try.func47, by kernel_rfl, by kernel_rfl⟩
theorem ent64 : Sx.Enters Try.prog 64 := ⟨_, Try.func64, by kernel_rfl, by kernel_rfl⟩
theorem ent65 : Sx.Enters Try.prog 65 := ⟨_, Try.func65, by kernel_rfl, by kernel_rfl⟩
theorem ent66 : Sx.Enters Try.prog 66 := ⟨_, Try.func66, by kernel_rfl, by kernel_rfl⟩
theorem ent84 : Sx.Enters Try.prog 84 := ⟨_, Try.func84, by kernel_rfl, by kernel_rfl⟩
theorem sb100 : (Try.prog.info? 100).map (fun i => (i.size, i.bytes)) = some (1, 8) := by kernel_rfl
theorem sz4 : (Try.prog.info? 4).map (·.size) = some 1 := by kernel_rfl
theorem sz60 : (Try.prog.info? 60).map (·.size) = some 1 := by kernel_rfl
theorem sz100 : (Try.prog.info? 100).map (·.size) = some 1 := by kernel_rfl
theorem zero9 : zeroL Try.prog 9 = some ([.string (bs [])]) := by kernel_rfl
theorem zero62 : zeroL Try.prog 62 = some ([.int .i64 0, .pointer none, .pointer none, .slice none 0 0, .bool false, .int .i64 0]) := by kernel_rfl
theorem zero66 : zeroL Try.prog 66 = some ([.map none, .int .i64 0]) := by kernel_rfl
theorem zero100 : zeroL Try.prog 100 = some ([.nilFunc]) := by kernel_rfl

open Go.MapKept Go.WideMaps Go.Maps
/-- a file system in memory -/
structure FM where
  gf : Nat
  room : Int
  lp : Value
  now : SM
  ts : List Value
  tv : Value
  tc : SH
  fused : Bool
  left : Int
  more : SH
  P : List BK
abbrev fmcells (f : FM) : List Value := [.int .i64 f.room, f.lp, f.now.ptr, f.tv, .bool f.fused, .int .i64 f.left]
abbrev FM.obj (f : FM) : Obj := .cells (fmcells f).toArray 62 (0, 0)
def FM.heap (f : FM) : SH := [(f.gf, f.obj)] ++ f.now.heap ++ f.tc ++ f.more ++ ph f.P
abbrev FM.ptr (f : FM) : Value := .pointer (some ⟨f.gf, 0, none⟩)
abbrev FM.parts (f : FM) : List SH := [[(f.gf, f.obj)], f.now.heap ++ ph f.P, f.tc, f.more]
theorem FM.split (f : FM) : ([f.heap] : List SH).flatten.Perm (f.parts).flatten := by
  classical
  refine List.perm_iff_count.2 fun x => ?_
  simp only [FM.heap, FM.parts, List.flatten_cons, List.flatten_nil, List.append_nil, List.nil_append, List.cons_append, List.count_append, List.count_cons, List.count_nil] <;> omega
structure FM.Ok (B : Nat) (f : FM) : Prop where
  row : Sx.Own 100 1 f.ts f.tv f.tc
  lt : f.ts.length ≤ B
  raw : Raw f.now
  vw : ∀ x ∈ f.now.fs, Vw f.P x.g x.v x.xs
  lpv : oneV f.lp = true
theorem FM.in_gf {f : FM} {w : World} (h : In w f.heap) : w.heap[f.gf]? = some f.obj := h (f.gf, f.obj) (by simp [FM.heap])
theorem FM.in_now {f : FM} {w : World} (h : In w f.heap) : In w f.now.heap := fun q hq => h q (by simp [FM.heap, hq])
theorem FM.in_P {f : FM} {w : World} (h : In w f.heap) : In w (ph f.P) := fun q hq => h q (by simp [FM.heap, hq])
theorem SM.in_gs {s : SM} {w : World} (h : In w s.heap) : w.heap[s.gs]? = some s.sobj := h (s.gs, s.sobj) (by simp [SM.heap])
theorem SM.in_gm {s : SM} {w : World} (h : In w s.heap) : w.heap[s.gm]? = some (.map s.es s.ck) := h (s.gm, .map s.es s.ck) (by simp [SM.heap])
theorem SM.in_f {s : SM} {w : World} (h : In w s.heap) {x : FL} (hx : x ∈ s.fs) : w.heap[x.g]? = some (.cells (flcells x).toArray 73 (0, 0)) := h x.h (by
  unfold SM.heap
  exact List.mem_append_right _ (List.mem_map.2 ⟨x, hx, rfl⟩))
def nameOk (n : List UInt8) : Bool := decide (1 ≤ n.length) && decide (n.length ≤ 300)
def mayE (fused : Bool) (left : Int) (ns : List (List UInt8)) : Int := if fused && decide (left = 0) then 26 else if ns.all nameOk then 0 else 9
theorem strs_len (ss : List (List UInt8)) : (strs ss).length = ss.length := by simp [strs]
theorem str_get {ss : List (List UInt8)} {i : Nat} (h : i < ss.length) : (strs ss)[i]? = some (.string (bs (ss.getD i []))) := by
  unfold strs
  rw [List.getElem?_map, List.getD_eq_getElem?_getD, List.getElem?_eq_getElem h]
  rfl
theorem zv58 : (Try.prog.info? 58).bind (·.zero) = some (.pointer none) := by kernel_rfl
theorem in_keep0 {w w' : World} {c : SH} {S : List SH} (h : In w c) (hs : Sig ⟨w, dom []⟩ S w') : In w' c := in_keep h hs
theorem rsl_keep {w w' : World} {v : Value} {vs : List Value} (h : RSl w v vs) {S : List SH} (hs : Sig ⟨w, dom []⟩ S w') : RSl w' v vs := by
  rcases h with h | ⟨g, off, cap, h1, h2, h3, h4⟩
  · exact .inl h
  · exact .inr ⟨g, off, cap, h1, Nat.lt_of_lt_of_le h2 hs.size, h3, rd_w (rd_cells h4 (by simp)) hs⟩
/-- pantry.fs.isName -/
theorem isName_con (n : List UInt8) (w : World) : Con Try.prog 66 [.string (bs n)] w [] fun v _ => v = .bool (nameOk n) := by
  refine con_of_tree mix Try.func66 T66_ok (by kernel_rfl) ?_
  unfold T66
  refine j_q (qs_ac) ?_
  refine j_q (qs_lens Try.underlying9 rfl) ?_
  refine j_q (qs_geq rfl rfl) ?_
  refine j_g rfl (fun hb => qs_mt rfl) ?_
  refine j_g rfl (fun hb => qs_lens Try.underlying9 (gd_eq hb)) ?_
  refine j_g rfl (fun hb => qs_leq (gd_eq hb) rfl) ?_
  refine j_q (qs_and rfl rfl) ?_
  refine j_ret_con (vs := [_]) (fun w' hw' => ⟨rfl, trivial⟩) ?_
  show Value.bool _ = _
  unfold nameOk
  congr 1
  by_cases h1 : 1 ≤ n.length <;> by_cases h2 : n.length ≤ 300 <;> simp [gd, h1, h2] <;> omega
/-- (*pantry.fs.FS).may$1 -/
theorem may1_con (n : List UInt8) (w : World) : Con Try.prog 65 [.string (bs n)] w [] fun v _ => v = .bool (!nameOk n) := by
  refine con_of_tree mix Try.func65 T65_ok (by kernel_rfl) ?_
  unfold T65
  refine j_q (qs_ac) ?_
  refine j_q (qs_call ent66 rfl rfl rfl (fun w' hw' => isName_con n w')) ?_
  refine j_q (qs_not rfl) ?_
  refine j_ret_con (vs := [_]) (fun w' hw' => ⟨rfl, trivial⟩) ?_
  rfl
/-- slices.IndexFunc[[]string,string] -/
theorem index_con (ns : List (List UInt8)) (v : Value) (w : World) (h : RSl w v (strs ns)) (hl : ns.length ≤ 1000) : Con Try.prog 84 [v, .func (.func 65) #[] #[]] w [] fun u _ => ∃ k : Int, u = .int .i64 k ∧ ((k = -1 ∧ ns.all nameOk = true) ∨ (0 ≤ k ∧ ns.all nameOk = false)) := by
  refine con_of_tree mix Try.func84 T84_ok (by kernel_rfl) ?_
  unfold T84
  obtain ⟨A, c, rfl, hc'⟩ := rsl_form h
  rw [strs_len] at h hc' ⊢
  refine j_q (qs_ac) ?_
  refine j_q (qs_lenl Try.underlying41 rfl) ?_
  refine j_q (qs_mc) ?_
  refine j_loop (fun m vs S' => ∃ i : Nat, vs = [.int .i64 (i : Int)] ∧ S' = [[]] ∧ (∀ j, j < i → nameOk (ns.getD j []) = true) ∧ i ≤ ns.length ∧ m = ns.length - i) ⟨_, 0, rfl, rfl, (fun j hj => by omega), Nat.zero_le _, rfl⟩ ?_
  rintro m vs S' hlen ⟨i, rfl, rfl, hall, hi, rfl⟩
  refine j_q (qs_lss rfl rfl) ?_
  refine j_cond rfl (fun hc0 => ?_) (fun hc0 => ?_)
  · skip
    have hi1 : i < ns.length := by
      simp only [Bool.and_eq_true, Bool.or_eq_true, Bool.and_eq_false_iff, Bool.or_eq_false_iff, Bool.not_eq_true', Bool.not_eq_false', decide_eq_true_eq, decide_eq_false_iff_not, beq_iff_eq, beq_eq_false_iff_ne, bne_iff_ne, bne_eq_false_iff_eq, ne_eq, Int.toNat_natCast] at *
      omega
    obtain ⟨g1, o1, rfl, _, hcells1⟩ := rsl_addr h (by rw [strs_len]; omega)
    refine j_q (qs_ixn (i := i) Try.underlying41 sz9 rfl rfl hi1) ?_
    refine j_q (qs_loadR (v := .string (bs (ns.getD i []))) (a := ⟨g1, o1, none⟩) (i := i) (rd_cells hcells1 (by simp)) Try.underlying9 rfl (by rw [add_off]; show Value.pointer (some ⟨g1, o1 + i * 1, none⟩) = _; rw [Nat.mul_one]) (str_get hi1)) ?_
    refine j_q (qs_callf ent65 rfl rfl rfl (fun w' hw' => may1_con (ns.getD i []) w')) ?_
    refine j_cond rfl (fun hc1 => ?_) (fun hc1 => ?_)
    · skip
      have hd : nameOk (ns.getD i []) = false := by simpa using hc1
      refine j_ret_con (vs := [_]) (fun w' hw' => ⟨rfl, trivial⟩) ?_
      refine ⟨_, rfl, .inr ⟨by omega, ?_⟩⟩
      rw [List.all_eq_false]
      exact ⟨ns.getD i [], by rw [List.getD_eq_getElem?_getD, List.getElem?_eq_getElem hi1]; exact List.getElem_mem hi1, by rw [hd]; decide⟩
    · skip
      have hd : nameOk (ns.getD i []) = true := by simpa using hc1
      refine j_q (qs_add64 rfl rfl (by first | omega | (simp only [Bool.and_eq_true, Bool.or_eq_true, Bool.and_eq_false_iff, Bool.or_eq_false_iff, Bool.not_eq_true', Bool.not_eq_false', decide_eq_true_eq, decide_eq_false_iff_not, beq_iff_eq, beq_eq_false_iff_ne, bne_iff_ne, bne_eq_false_iff_eq, ne_eq, Int.toNat_natCast] at *; omega))) ?_
      refine j_back rfl ?_
      exact ⟨ns.length - (i + 1), by omega, i + 1, rfl, rfl, fun j hj => by
        rcases Nat.lt_or_ge j i with h | h
        · exact hall j h
        · obtain rfl : j = i := by omega
          exact hd, by omega, rfl⟩
  · skip
    have hi1 : i = ns.length := by
      simp only [Bool.and_eq_true, Bool.or_eq_true, Bool.and_eq_false_iff, Bool.or_eq_false_iff, Bool.not_eq_true', Bool.not_eq_false', decide_eq_true_eq, decide_eq_false_iff_not, beq_iff_eq, beq_eq_false_iff_ne, bne_iff_ne, bne_eq_false_iff_eq, ne_eq, Int.toNat_natCast] at *
      omega
    refine j_q (qs_ac) ?_
    refine j_ret_con (vs := [_]) (fun w' hw' => ⟨rfl, trivial⟩) ?_
    refine ⟨_, rfl, .inl ⟨rfl, ?_⟩⟩
    rw [List.all_eq_true]
    intro x hx
    obtain ⟨j, hj, rfl⟩ := List.getElem_of_mem hx
    have := hall j (by omega)
    rwa [List.getD_eq_getElem?_getD, List.getElem?_eq_getElem hj, Option.getD_some] at this
/-- slices.ContainsFunc[[]string,string] -/
theorem contains_con (ns : List (List UInt8)) (v : Value) (w : World) (h : RSl w v (strs ns)) (hl : ns.length ≤ 1000) : Con Try.prog 64 [v, .func (.func 65) #[] #[]] w [] fun u _ => u = .bool (!ns.all nameOk) := by
  refine con_of_tree mix Try.func64 T64_ok (by kernel_rfl) ?_
  unfold T64
  refine j_q (qs_ac) ?_
  refine j_call0 ent84 rfl rfl rfl (fun w' hw' => index_con ns v w' (rsl_keep h hw') hl) (fun u S2 hu => ?_)
  obtain ⟨k, rfl, hk⟩ := hu
  refine j_subl (S' := [[]]) (by simp) ?_
  refine j_q (qs_geq rfl rfl) ?_
  refine j_ret_con (vs := [_]) (fun w' hw' => ⟨rfl, trivial⟩) ?_
  show Value.bool _ = _
  congr 1
  rcases hk with ⟨rfl, h⟩ | ⟨h0, h⟩
  · rw [h]
    rfl
  · rw [h]
    simpa using h0
/-- (*pantry.fs.FS).ready -/
theorem ready_con (f : FM) (w : World) (hin : In w f.heap) : Con Try.prog 47 [f.ptr] w [] fun _ _ => True := by
  refine con_of_tree mix Try.func47 T47_ok (by kernel_rfl) ?_
  unfold T47
  refine j_q (qs_nil rfl) ?_
  refine j_q (qs_field Try.underlying62 rfl sz58 (by decide) rfl) ?_
  refine j_q (qs_loadO (rdo_base (FM.in_gf hin) (by simp)) Try.underlying58 rfl rfl rfl) ?_
  refine j_q (qs_pnil Try.underlying58 rfl) ?_
  refine j_cond rfl (fun hc0 => ?_) (fun hc0 => ?_)
  · skip
    simp at hc0
  · skip
    refine j_ret_con (vs := []) (fun w' hw' => trivial) ?_
    trivial
/-- (*pantry.fs.FS).may -/
theorem may_con (f : FM) (ns : List (List UInt8)) (v : Value) (w : World) (hin : In w f.heap) (h : RSl w v (strs ns)) (hl : ns.length ≤ 1000) : Con Try.prog 32 [f.ptr, v] w [] fun u _ => u = .int .i64 (mayE f.fused f.left ns) := by
  refine con_of_tree mix Try.func32 T32_ok (by kernel_rfl) ?_
  unfold T32
  refine j_q (qs_ac) ?_
  refine j_q (qs_pnil Try.underlying25 rfl) ?_
  refine j_cond rfl (fun hc0 => ?_) (fun hc0 => ?_)
  · skip
    simp at hc0
  · skip
    refine j_call0 ent47 rfl rfl rfl (fun w' hw' => ready_con f w' (in_keep0 hin hw')) (fun u S2 hu => ?_)
    refine j_subl (S' := [[]]) (by simp) ?_
    refine j_q (qs_nil rfl) ?_
    refine j_q (qs_field Try.underlying62 rfl sz4 (by decide) rfl) ?_
    refine j_q (qs_loadO (rdo_base (FM.in_gf hin) (by simp)) Try.underlying4 rfl rfl rfl) ?_
    refine j_g rfl (fun hb => qs_mt rfl) ?_
    refine j_g rfl (fun hb => qs_nil (gd_eq hb)) ?_
    refine j_g rfl (fun hb => qs_field Try.underlying62 rfl sz3 (by decide) (gd_eq hb)) ?_
    refine j_g rfl (fun hb => qs_loadO (rdo_base (FM.in_gf hin) (by simp)) Try.underlying3 rfl (gd_eq hb) rfl) ?_
    refine j_g rfl (fun hb => qs_eql (gd_eq hb) rfl) ?_
    refine j_q (qs_and rfl rfl) ?_
    refine j_cond rfl (fun hc1 => ?_) (fun hc1 => ?_)
    · skip
      have hd : (f.fused && decide (f.left = 0)) = true := by
        cases hf : f.fused <;> simp [gd, hf] at hc1 ⊢
        exact hc1
      refine j_q (qs_ac) ?_
      refine j_ret_con (vs := [_]) (fun w' hw' => ⟨rfl, trivial⟩) ?_
      unfold mayE
      rw [hd]
      rfl
    · skip
      have hd : (f.fused && decide (f.left = 0)) = false := by
        cases hf : f.fused <;> simp [gd, hf] at hc1 ⊢
        exact hc1
      refine j_q (qs_call ent64 rfl rfl rfl (fun w' hw' => contains_con ns v w' (rsl_keep h hw') hl)) ?_
      refine j_cond rfl (fun hc2 => ?_) (fun hc2 => ?_)
      · skip
        refine j_q (qs_ac) ?_
        refine j_ret_con (vs := [_]) (fun w' hw' => ⟨rfl, trivial⟩) ?_
        unfold mayE
        rw [hd]
        have h2 : ns.all nameOk = false := by simpa using hc2
        rw [h2]
        rfl
      · skip
        refine j_q (qs_ac) ?_
        refine j_ret_con (vs := [_]) (fun w' hw' => ⟨rfl, trivial⟩) ?_
        unfold mayE
        rw [hd]
        have h2 : ns.all nameOk = true := by simpa using hc2
        rw [h2]
        rfl
/-- (*pantry.fs.FS).burns -/
theorem burns_con (f : FM) (w : World) (hl : -1000000000 ≤ f.left ∧ f.left ≤ 9223372036854775807) : Con Try.prog 46 [f.ptr] w [(f.gf, f.obj)] fun _ S' => S' = [[(f.gf, FM.obj ({ f with left := if f.fused then f.left - 1 else f.left } : FM))]] := by
  refine con_of_tree mix Try.func46 T46_ok (by kernel_rfl) ?_
  unfold T46
  refine j_q (qs_nil rfl) ?_
  refine j_q (qs_field Try.underlying62 rfl sz4 (by decide) rfl) ?_
  refine j_q (qs_load (l := fmcells f) 0 Try.underlying4 rfl rfl rfl rfl) ?_
  refine j_cond rfl (fun hc0 => ?_) (fun hc0 => ?_)
  · skip
    have hf : f.fused = true := hc0
    refine j_q (qs_nil rfl) ?_
    refine j_q (qs_field Try.underlying62 rfl sz3 (by decide) rfl) ?_
    refine j_q (qs_load (l := fmcells f) 0 Try.underlying3 rfl rfl rfl rfl) ?_
    refine j_q (qs_sub64 rfl rfl (by first | omega | (simp only [Bool.and_eq_true, Bool.or_eq_true, Bool.and_eq_false_iff, Bool.or_eq_false_iff, Bool.not_eq_true', Bool.not_eq_false', decide_eq_true_eq, decide_eq_false_iff_not, beq_iff_eq, beq_eq_false_iff_ne, bne_iff_ne, bne_eq_false_iff_eq, ne_eq, Int.toNat_natCast] at *; omega))) ?_
    refine j_q (qs_nil rfl) ?_
    refine j_q (qs_field Try.underlying62 rfl sz3 (by decide) rfl) ?_
    refine j_store (l := fmcells f) 0 sz3 rfl rfl rfl rfl (by simp) (by simp) ?_
    refine j_ret_con (vs := []) (fun w' hw' => trivial) ?_
    rw [FM.obj, fmcells, hf]
    rfl
  · skip
    have hf : f.fused = false := hc0
    refine j_ret_con (vs := []) (fun w' hw' => trivial) ?_
    rw [FM.obj, fmcells, hf]
    rfl
end Go.Proofs.Ytckpegkpdepokaa
