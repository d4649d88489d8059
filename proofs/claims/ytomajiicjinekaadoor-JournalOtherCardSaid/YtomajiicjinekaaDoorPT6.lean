/- Part 6. -/
import Derived.Test.YtomajiicjinekaaDoorPT2
import Derived.Test.YtomajiicjinekaaDoorPT3
import Derived.Test.YtomajiicjinekaaDoorPT5
import Derived.Test.YtomajiicjinekaaDoorPT4
import Derived.Laws.Bits64
/-! Ft8 -/
namespace Go.Proofs.YtomajiicjinekaaDoor
open Go Go.Sx
set_option maxRecDepth 100000
set_option maxHeartbeats 4000000
set_option linter.unusedVariables false
set_option linter.unusedSimpArgs false
attribute [local irreducible] J JQ QS Con W opW
open Go.MapKept Go.WideMaps Go.Maps
abbrev AS0 : AS := ⟨[], fun _ => [], 0⟩
abbrev AF0 (room : Int) : AF := ⟨room, AS0, [], false, 0⟩
theorem sx0 (gs gm : Nat) : Sx' (SM0 gs gm) AS0 := ⟨raw0 _ _, ⟨(fun f h => by cases h), (fun f h => by cases h), rfl⟩, .nil, (fun f h => by cases h), rfl⟩
def nmF (i : Nat) : List UInt8 := [102, by8 ((i : Int).fdiv (2 ^ min (Int.toNat 8) IntKind.i64.bits)), by8 (i : Int)]
theorem nmF_ok (i : Nat) : nameOk (nmF i) = true ∧ strOk (nmF i) := ⟨rfl, by show 3 ≤ _; decide⟩
theorem by8_nat (m : Nat) : (by8 (m : Int)).toNat = m % 256 := by
  unfold by8
  rw [show IntKind.u8.wrap (m : Int) = ((m % 256 : Nat) : Int) by simp [IntKind.wrap, IntKind.bits, IntKind.signed]]
  rw [Int.toNat_natCast, UInt8.toNat_ofNat']
  omega
theorem nmF_inj {i j : Nat} (hi : i < 65536) (hj : j < 65536) (h : nmF i = nmF j) : i = j := by
  have hd : ∀ k : Nat, (k : Int).fdiv (2 ^ min (Int.toNat 8) IntKind.i64.bits) = ((k / 256 : Nat) : Int) := fun k => by
    rw [show (2 ^ min (Int.toNat 8) IntKind.i64.bits : Int) = 256 by decide, Int.fdiv_eq_ediv_of_nonneg _ (by decide)]
    omega
  unfold nmF at h
  rw [hd, hd] at h
  injection h with _ h
  injection h with h1 h
  injection h with h2 _
  have e1 := congrArg UInt8.toNat h1
  have e2 := congrArg UInt8.toNat h2
  rw [by8_nat, by8_nat] at e1 e2
  omega
structure FI (a : AF) (n : Int) (i t : Nat) : Prop where
  rm : a.room = 1048576
  fu : a.fused = true
  le : a.left = n - min (i : Int) n
  pl : (a.pend.length : Int) = min (i : Int) n
  nl : (a.now.nm.length : Int) = min (i : Int) n
  nms : ∀ q ∈ a.now.nm, ∃ k, k < i ∧ q.1 = nmF k
  ids : ∀ q ∈ a.now.nm, q.2 < i
  us : a.now.used ≤ (t : Int)
theorem FI.may {a : AF} {n : Int} {i t : Nat} (h : FI a n i t) (hn : 0 ≤ n) {ns : List (List UInt8)} (hns : ns.all nameOk = true) : mayE a.fused a.left ns = if (i : Int) < n then 0 else 26 := by
  unfold mayE
  rw [h.fu, h.le, hns]
  by_cases hi : (i : Int) < n
  · rw [if_pos hi, if_neg (by simp; omega), if_pos rfl]
  · rw [if_neg hi, if_pos (by simp; omega)]
theorem FI.fresh {a : AF} {n : Int} {i t : Nat} (h : FI a n i t) (hi : i < 60000) : alook a.now.nm (nmF i) = none := by
  refine alook_none.2 fun q hq e => ?_
  obtain ⟨k, hk, e2⟩ := h.nms q hq
  have := nmF_inj (by omega) (by omega) (e.symm.trans e2)
  omega
theorem FI.wr {a : AF} {n : Int} {i t : Nat} (h : FI a n i t) (hn : 0 ≤ n ∧ n ≤ 1000) (hi : i ≤ 8000) (xs : List UInt8) (hx : t + xs.length ≤ 8000) : wrE a (nmF i) xs = if (i : Int) < n then 0 else 26 := by
  unfold wrE
  rw [h.may hn.1 (by simp [nmF_ok])]
  by_cases hin : (i : Int) < n
  · rw [if_pos hin, if_neg (by simp), if_neg (by omega), if_neg]
    unfold fullA
    have h1 := h.nl
    have h2 := h.us
    have h3 := h.rm
    rintro (⟨_, h4⟩ | h4) <;> omega
  · rw [if_neg hin, if_pos (by decide)]
theorem FI.step {a : AF} {n : Int} {i t : Nat} (h : FI a n i t) (hn : 0 ≤ n ∧ n ≤ 1000) (hi : i ≤ 8000) (xs : List UInt8) (hx : t + xs.length ≤ 8000) : FI (if wrE a (nmF i) xs = 0 then stepF a (.wr (nmF i) xs i) else a) n (i + 1) (t + xs.length) := by
  rw [h.wr hn hi xs hx]
  have h1 := h.nl
  have h2 := h.us
  have h3 := h.le
  have h4 := h.pl
  by_cases hin : (i : Int) < n
  · rw [if_pos hin, if_pos rfl]
    have hnow : (stepF a (.wr (nmF i) xs i)).now = writeA a.now (nmF i) xs i := runA_snoc
    have hfr := letsA_none (h.fresh (by omega))
    rw [writeA_eq, hfr] at hnow
    refine ⟨h.rm, h.fu, ?_, ?_, ?_, ?_, ?_, ?_⟩
    · show burnL a = _
      unfold burnL
      rw [h.fu, if_pos rfl, h3]
      omega
    · show ((a.pend ++ [_]).length : Int) = _
      rw [List.length_append, List.length_singleton]
      omega
    · rw [hnow]
      show (((a.now.nm ++ [(nmF i, i)]).length : Nat) : Int) = _
      rw [List.length_append, List.length_singleton]
      omega
    · rw [hnow]
      intro q hq
      rcases List.mem_append.1 hq with hq | hq
      · obtain ⟨k, hk, e⟩ := h.nms q hq
        exact ⟨k, by omega, e⟩
      · rw [List.mem_singleton] at hq
        rw [hq]
        exact ⟨i, by omega, rfl⟩
    · rw [hnow]
      intro q hq
      rcases List.mem_append.1 hq with hq | hq
      · have := h.ids q hq
        omega
      · rw [List.mem_singleton] at hq
        rw [hq]
        exact Nat.lt_succ_self i
    · rw [hnow]
      show a.now.used + (xs.length : Int) ≤ _
      omega
  · rw [if_neg hin, if_neg (by decide)]
    refine ⟨h.rm, h.fu, by omega, by omega, by omega, fun q hq => ?_, fun q hq => ?_, by omega⟩
    · obtain ⟨k, hk, e⟩ := h.nms q hq
      exact ⟨k, by omega, e⟩
    · have := h.ids q hq
      omega
theorem newR_con (room : Int) (w : World) (h0 : 0 ≤ room) (h1 : room ≤ 1073741824) : Con Tryd.prog 4 [.int .i64 room] w [] fun v S' => ∃ r : FR, S' = [r.heap] ∧ v = .tuple #[r.ptr, .int .i64 0] ∧ r.Ok (AF0 room) := by
  refine con_of_tree mix Tryd.func4 T4_ok (by kernel_rfl) ?_
  unfold T4
  refine j_q (qs_ac) ?_
  refine j_q (qs_ac) ?_
  refine j_q (qs_lss rfl rfl) ?_
  refine j_g rfl (fun hb => qs_mt rfl) ?_
  refine j_g rfl (fun hb => qs_gtr (gd_eq hb) rfl) ?_
  refine j_q (qs_or rfl rfl) ?_
  refine j_cond rfl (fun hc0 => ?_) (fun hc0 => ?_)
  · skip
    simp [gd] at hc0
    omega
  · skip
    refine j_call0 ent15 rfl rfl rfl (fun w' hw' => begun_con w') (fun u S2 hu => ?_)
    obtain ⟨gs1, gm1, rfl, rfl⟩ := hu
    refine j_subl (S' := [(SM0 gs1 gm1).heap]) (by repeat first | exact slR _ | exact slN _ | apply slC | apply slD) ?_
    refine j_call0 ent15 rfl rfl rfl (fun w' hw' => begun_con w') (fun u S2 hu => ?_)
    obtain ⟨gs2, gm2, rfl, rfl⟩ := hu
    refine j_subl (S' := [(SM0 gs2 gm2).heap, (SM0 gs1 gm1).heap]) (by repeat first | exact slR _ | exact slN _ | apply slC | apply slD) ?_
    refine j_q (qs_build (places := [(0, 1), (1, 1), (2, 1), (3, 1), (4, 1), (5, 1)]) (offs := [(0, [.int .i64 room]), (1, [(SM0 gs1 gm1).ptr]), (2, [(SM0 gs2 gm2).ptr])]) Tryd.underlying45 zero45 (by kernel_rfl) rfl (by rintro (_ | _ | _ | j) p q hp hq <;> first | (simp at hp hq; subst hp hq; exact ⟨rfl, rfl, by simp⟩) | (simp at hp))) ?_
    refine j_box (l := fmcells (⟨0, room, (SM0 gs1 gm1).ptr, SM0 gs2 gm2, [], .slice none 0 0, [], false, 0, (SM0 gs1 gm1).heap, []⟩ : FM)) rfl (fun g11 hg11 hs11 => ?_)
    refine j_q (qs_ac) ?_
    refine j_perm (S' := [FR.heap (⟨g11, room, SM0 gs1 gm1, SM0 gs2 gm2, [], .slice none 0 0, [], false, 0, [], []⟩ : FR)]) (List.Perm.of_eq (by simp [FM.heap, ph])) ?_
    refine j_ret_con (vs := [_, _]) (fun w' hw' => ⟨rfl, rfl, trivial⟩) ?_
    exact ⟨(⟨g11, room, SM0 gs1 gm1, SM0 gs2 gm2, [], .slice none 0 0, [], false, 0, [], []⟩ : FR), rfl, rfl, ⟨rfl, rfl, rfl, ⟨Int.le_refl 0, by show (0 : Int) ≤ _; decide⟩, rfl, own_nil, Nat.zero_le _, (fun m h => by cases h), (fun m h => by cases h), ⟨by show (0 : Int) ≤ _; decide, Nat.zero_le _⟩, sx0 _ _, (fun x h => by cases h), sx0 _ _, (fun x h => by cases h)⟩⟩
end Go.Proofs.YtomajiicjinekaaDoor
/-! Ft9 -/
namespace Go.Proofs.YtomajiicjinekaaDoor
open Go Go.Sx
set_option maxRecDepth 100000
set_option maxHeartbeats 4000000
set_option linter.unusedVariables false
set_option linter.unusedSimpArgs false
attribute [local irreducible] J JQ QS Con W opW
open Go.MapKept Go.WideMaps Go.Maps
def remE (a : AF) (n : List UInt8) : Int := if mayE a.fused a.left [n] ≠ 0 then mayE a.fused a.left [n] else if alook a.now.nm n = none then 7 else 0
def sizeA (s : AS) (n : List UInt8) : Nat :=
  match alook s.nm n with
  | none => 0
  | some i => (s.dt i).length
def appE (a : AF) (n xs : List UInt8) : Int := if mayE a.fused a.left [n] ≠ 0 then mayE a.fused a.left [n] else if alook a.now.nm n = none then 7 else if 1048576 < sizeA a.now n + xs.length then 5 else if a.room < a.now.used + (xs.length : Int) then 6 else 0
theorem look_none {r : FR} {a : AF} (hok : r.Ok a) (n : List UInt8) : alook r.now.ml n = none ↔ alook a.now.nm n = none := by
  rw [← hok.now.rep.look hok.now.raw n]
  cases alook r.now.ml n <;> simp
theorem appendR_con (r : FR) (a : AF) (n : List UInt8) (bv : Value) (xs : List UInt8) (w : World) (hok : r.Ok a) (hB : a.pend.length < 16384) (hn : strOk n) (hbr : BR w bv xs) (hbd : ∀ (a : Addr) (m c : Nat), bv = .slice (some a) m c → 0 < m → a.block ∉ dom r.heap) (hxl : xs.length ≤ 1000000000) (hrm : a.room ≤ 1073741824) : Con Tryd.prog 30 [r.ptr, .string (bs n), bv] w r.heap fun v S' => v = .int .i64 (appE a n xs) ∧ ∃ r' : FR, S' = [r'.heap] ∧ r'.Ok (if appE a n xs = 0 then stepF a (.ap n xs) else a) ∧ FR.To w r r' := by
  refine con_of_tree mix Tryd.func30 T30_ok (by kernel_rfl) ?_
  unfold T30
  obtain ⟨A, cap, hbv, hcap⟩ := br_form hbr
  have hone : oneV bv = true := by rw [hbv]; rfl
  have hmay : mayE r.fused r.left [n] = mayE a.fused a.left [n] := by rw [hok.fu, hok.le]
  have hlim := okA_end hok.ok
  have hu1 : a.now.used ≤ 1073741824 := hlim.1
  have hl2 : a.now.nm.length ≤ 16384 := hlim.2
  have hut : r.now.used + 0 = (tot r.now.fs : Int) := hok.now.ex.ut
  have hus : r.now.used = a.now.used := hok.now.rep.us
  have hlen : r.now.ml.length = a.now.nm.length := hok.now.rep.len
  have hrm2 := hok.rm
  have hnd := hok.now.rep.nd hok.now.raw
  refine j_box (l := [.string (bs n)]) rfl (fun g0 hg0 hs0 => ?_)
  refine j_box (l := [bv]) (by show bv.cells = #[bv]; rw [hbv]; rfl) (fun g1 hg1 hs1 => ?_)
  refine j_q (qs_ac) ?_
  refine j_q (qs_load (l := [.string (bs n)]) 1 Tryd.underlying9 rfl rfl rfl rfl) ?_
  refine j_lit (vs := [.string (bs _)]) Tryd.underlying84 sz9 zero9 rfl (by simp [oneV]) ⟨rfl, by decide⟩ (fun g4 v4 c4 hv4 hc4 ho4 => ?_)
  subst hv4 hc4
  refine j_q (qs_call ent16 rfl rfl rfl (fun w' hw' => may_con r.fm [n] _ w' (in_own hw' 3 rfl) (rsl_own ho4 0 rfl hw') (by simp))) ?_
  refine j_q (qs_neq rfl rfl) ?_
  refine j_cond rfl (fun hc0 => ?_) (fun hc0 => ?_)
  · skip
    have hm : mayE a.fused a.left [n] ≠ 0 := by
      rw [← hmay]
      simpa using hc0
    refine j_subl (S' := [r.heap]) (by repeat first | exact slR _ | exact slN _ | apply slC | apply slD) ?_
    have hwe : appE a n xs = mayE a.fused a.left [n] := by
      unfold appE
      rw [if_pos hm]
    refine j_ret_con (vs := [_]) (fun w' hw' => ⟨rfl, trivial⟩) ?_
    rw [hwe]
    refine ⟨congrArg (Value.int .i64) hmay, r, rfl, ?_, FR.To.refl _ _⟩
    rw [if_neg hm]
    exact hok
  · skip
    have hm : mayE a.fused a.left [n] = 0 := by
      rw [← hmay]
      simpa using hc0
    have hz : a.fused = true → a.left ≠ 0 := fun hf hl => by
      unfold mayE at hm
      rw [hf, hl] at hm
      simp at hm
    refine j_perm (S' := [[(g4, .cells [.string (bs n)].toArray 9 (0, 0))], [(g1, .cells [bv].toArray 22 (0, 0))], [(g0, .cells [.string (bs n)].toArray 9 (0, 0))], [(r.gf, r.fm.obj)], [(r.now.gs, r.now.sobj)], [(r.now.gm, .map r.now.es r.now.ck)], r.now.fs.map FL.h, r.tc ++ (r.ls.heap ++ r.X) ++ ph r.P]) (by
      classical
      refine List.perm_iff_count.2 fun x => ?_
      simp only [FM.heap, FM.obj, fmcells, SM.heap, ph, List.map_append, List.map_nil, List.set, List.flatten_cons, List.flatten_nil, List.append_nil, List.nil_append, List.cons_append, List.count_append, List.count_cons, List.count_nil] <;> omega) ?_
    refine j_draw ?_
    refine jq_q (qs_nil rfl) ?_
    refine jq_q (qs_field Tryd.underlying45 rfl sz41 (by decide) rfl) ?_
    refine jq_q (qs_load (l := fmcells r.fm) 3 Tryd.underlying41 rfl rfl rfl rfl) ?_
    refine jq_q (qs_nil rfl) ?_
    refine jq_q (qs_field Tryd.underlying50 rfl sz48 (by decide) rfl) ?_
    refine jq_q (qs_load (l := smcells r.now) 4 Tryd.underlying48 rfl rfl rfl rfl) ?_
    refine jq_q (qs_load (l := [.string (bs n)]) 2 Tryd.underlying9 rfl rfl rfl rfl) ?_
    refine jq_q (qs_lookup (key := n) strKey 5 Tryd.underlying48 zv63 rfl rfl rfl hok.now.raw.map hn) ?_
    rw [mlook_map fptr, getD_fptr]
    refine jq_nil ?_
    refine j_q (qs_pnil Tryd.underlying47 rfl) ?_
    refine j_cond rfl (fun hc1 => ?_) (fun hc1 => ?_)
    · skip
      have hl0 : alook a.now.nm n = none := by
        rw [← look_none hok]
        cases hx : alook r.now.ml n with
        | none => rfl
        | some p => rw [hx] at hc1; simp at hc1
      refine j_q (qs_ac) ?_
      refine j_subl (S' := r.fm.parts2) (by repeat first | exact slR _ | exact slN _ | apply slC | apply slD) ?_
      refine j_perm (S' := [r.heap]) r.fm.split2.symm ?_
      have hwe : appE a n xs = 7 := by
        unfold appE
        rw [if_neg (by rw [hm]; simp), if_pos hl0]
      refine j_ret_con (vs := [_]) (fun w' hw' => ⟨rfl, trivial⟩) ?_
      rw [hwe]
      refine ⟨rfl, r, rfl, ?_, FR.To.refl _ _⟩
      rw [if_neg (by decide)]
      exact hok
    · skip
      have hl0 : alook a.now.nm n ≠ none := by
        rw [Ne, ← look_none hok]
        intro hx
        rw [hx] at hc1
        simp at hc1
      obtain ⟨i, hi⟩ := Option.ne_none_iff_exists'.1 hl0
      obtain ⟨x, hx, hlk, rfl, _⟩ := look_rep hok.now.raw hok.now.rep hi
      have hla := hi
      rw [hlk, Option.map_some]
      obtain ⟨xA, xc, hxv, hxl2⟩ := hok.now.raw.form x hx
      have hdx := hok.now.rep.dt x hx
      have hsz : sizeA a.now n = x.xs.length := by simp only [sizeA, hi, hdx]
      refine j_draw ?_
      refine jq_q (qs_load (l := [bv]) 1 Tryd.underlying22 rfl rfl rfl rfl) ?_
      refine jq_q (qs_lenl (n := xs.length) (A := A) (c := cap) Tryd.underlying22 hbv) ?_
      refine jq_q (qs_nil rfl) ?_
      refine jq_q (qs_field Tryd.underlying56 rfl sz22 (by decide) rfl) ?_
      refine jq_q (qs_loadO (l := flcells x) (rdo_mem (o := x.h.2) 6 rfl (List.mem_map.2 ⟨x, hx, rfl⟩)) Tryd.underlying22 rfl rfl rfl) ?_
      refine jq_q (qs_lenl (n := x.xs.length) (A := xA) (c := xc) Tryd.underlying22 hxv) ?_
      refine jq_q (qs_sub64 rfl rfl (by first | omega | (simp only [bnA] at *; omega))) ?_
      refine jq_q (qs_gtr rfl rfl) ?_
      refine jq_nil ?_
      refine j_cond rfl (fun hc2 => ?_) (fun hc2 => ?_)
      · skip
        have hbig : 1048576 < sizeA a.now n + xs.length := by
          rw [hsz]
          simp at hc2
          omega
        refine j_q (qs_ac) ?_
        refine j_subl (S' := r.fm.parts2) (by repeat first | exact slR _ | exact slN _ | apply slC | apply slD) ?_
        refine j_perm (S' := [r.heap]) r.fm.split2.symm ?_
        have hwe : appE a n xs = 5 := by
          unfold appE
          rw [if_neg (by rw [hm]; simp), if_neg hl0, if_pos hbig]
        refine j_ret_con (vs := [_]) (fun w' hw' => ⟨rfl, trivial⟩) ?_
        rw [hwe]
        refine ⟨rfl, r, rfl, ?_, FR.To.refl _ _⟩
        rw [if_neg (by decide)]
        exact hok
      · skip
        have hbig : ¬ 1048576 < sizeA a.now n + xs.length := by
          rw [hsz]
          simp at hc2
          omega
        have hbig2 := hbig
        rw [hsz] at hbig2
        refine j_draw ?_
        refine jq_q (qs_nil rfl) ?_
        refine jq_q (qs_field Tryd.underlying45 rfl sz41 (by decide) rfl) ?_
        refine jq_q (qs_load (l := fmcells r.fm) 3 Tryd.underlying41 rfl rfl rfl rfl) ?_
        refine jq_q (qs_nil rfl) ?_
        refine jq_q (qs_field Tryd.underlying50 rfl sz3 (by decide) rfl) ?_
        refine jq_q (qs_load (l := smcells r.now) 4 Tryd.underlying3 rfl rfl rfl rfl) ?_
        refine jq_q (qs_load (l := [bv]) 1 Tryd.underlying22 rfl rfl rfl rfl) ?_
        refine jq_q (qs_lenl (n := xs.length) (A := A) (c := cap) Tryd.underlying22 hbv) ?_
        refine jq_q (qs_add64 rfl rfl (by first | omega | (simp only [bnA] at *; omega))) ?_
        refine jq_q (qs_nil rfl) ?_
        refine jq_q (qs_field Tryd.underlying45 rfl sz3 (by decide) rfl) ?_
        refine jq_q (qs_load (l := fmcells r.fm) 3 Tryd.underlying3 rfl rfl rfl rfl) ?_
        refine jq_q (qs_gtr rfl rfl) ?_
        refine jq_nil ?_
        refine j_cond rfl (fun hc3 => ?_) (fun hc3 => ?_)
        · skip
          have hfl : a.room < a.now.used + (xs.length : Int) := by
            rw [← hok.rm, ← hus]
            simp at hc3
            omega
          refine j_q (qs_ac) ?_
          refine j_subl (S' := r.fm.parts2) (by repeat first | exact slR _ | exact slN _ | apply slC | apply slD) ?_
          refine j_perm (S' := [r.heap]) r.fm.split2.symm ?_
          have hwe : appE a n xs = 6 := by
            unfold appE
            rw [if_neg (by rw [hm]; simp), if_neg hl0, if_neg hbig, if_pos hfl]
          refine j_ret_con (vs := [_]) (fun w' hw' => ⟨rfl, trivial⟩) ?_
          rw [hwe]
          refine ⟨rfl, r, rfl, ?_, FR.To.refl _ _⟩
          rw [if_neg (by decide)]
          exact hok
        · skip
          have hfl : ¬ a.room < a.now.used + (xs.length : Int) := by
            rw [← hok.rm, ← hus]
            simp at hc3
            omega
          refine j_q (qs_load (l := [bv]) 1 Tryd.underlying22 rfl rfl rfl rfl) ?_
          refine j_call0 ent18 rfl rfl rfl (fun w' hw' => clone_con bv xs w' (br_keep hbr hbd hw') hxl) (fun u S2 hu1 => ?_)
          obtain ⟨Q, rfl, hrv⟩ := hu1
          obtain ⟨bv2, hbv2⟩ : ∃ y, y = u := ⟨_, rfl⟩
          rw [← hbv2] at hrv ⊢
          refine j_subl (S' := [ph Q, [(g4, .cells [.string (bs n)].toArray 9 (0, 0))], [(g1, .cells [bv].toArray 22 (0, 0))], [(g0, .cells [.string (bs n)].toArray 9 (0, 0))], [(r.gf, r.fm.obj)], [(r.now.gs, r.now.sobj)], [(r.now.gm, .map r.now.es r.now.ck)], r.now.fs.map FL.h, r.tc ++ (r.ls.heap ++ r.X) ++ ph r.P]) (by repeat first | exact slR _ | exact slN _ | apply slC | apply slD) ?_
          obtain ⟨A2, c2, hbe, hbc, _⟩ := hrv.form
          refine j_store (l := [bv]) 2 sz22 rfl rfl (by show oneV bv2 = true; rw [hbe]; rfl) rfl (by simp) (by simp) ?_
          refine j_q (qs_mkfuncv (vs := [.pointer (some ⟨g0, 0, none⟩), .pointer (some ⟨g1, 0, none⟩)]) rfl) ?_
          refine j_perm (S' := [ph Q, [(g4, .cells [.string (bs n)].toArray 9 (0, 0))], [(g1, .cells [bv2].toArray 22 (0, 0))], [(g0, .cells [.string (bs n)].toArray 9 (0, 0))], [(r.gf, r.fm.obj)], [(r.now.gs, r.now.sobj)], [(r.now.gm, .map r.now.es r.now.ck)], r.now.fs.map FL.h, r.tc ++ (r.ls.heap ++ r.X) ++ ph r.P]) (.refl _) ?_
          have hrv2 : RV (Q ++ r.P) (.slice A2 xs.length c2) xs := by
            rw [← hbe]
            exact hrv.more (fun b hb => List.mem_append_left _ hb)
          rw [hbe]
          refine j_perm (S' := [FR.heap ({ r with X := ([(g0, .cells [.string (bs n)].toArray 9 (0, 0))] ++ [(g1, .cells [.slice A2 xs.length c2].toArray 22 (0, 0))]) ++ r.X, P := Q ++ r.P } : FR), [(g4, .cells [.string (bs n)].toArray 9 (0, 0))]]) (by
            classical
            refine List.perm_iff_count.2 fun x => ?_
            simp only [FM.heap, FM.obj, fmcells, SM.heap, ph, List.map_append, List.map_nil, List.set, List.flatten_cons, List.flatten_nil, List.append_nil, List.nil_append, List.cons_append, List.count_append, List.count_cons, List.count_nil] <;> omega) ?_
          refine j_call 0 ent19 rfl rfl rfl rfl (fun w' hw' => (doesR_con ({ r with X := ([(g0, .cells [.string (bs n)].toArray 9 (0, 0))] ++ [(g1, .cells [.slice A2 xs.length c2].toArray 22 (0, 0))]) ++ r.X, P := Q ++ r.P } : FR) a (.ap n xs g0 g1 A2 c2) w' (hok.more _ _) hB hz ⟨hn, hrv2, hbc, by omega⟩ (fun q hq => List.mem_append_left _ hq) ⟨x.id, hla, by rw [hdx]; omega⟩ (by
            show limA (appA a.now n xs)
            unfold appA
            rw [hla]
            exact ⟨by show a.now.used + (xs.length : Int) ≤ _; omega, hl2⟩)).mono (fun u S5 h5 => by
            obtain ⟨h1, r', h2, h3, h4⟩ := h5
            exact (⟨h1, r', h2, h3, h4.old hw' 0 rfl rfl (fun q hq => List.mem_append_right _ hq) (fun b hb => List.mem_append_right _ hb)⟩ : _ ∧ ∃ r' : FR, S5 = [r'.heap] ∧ r'.Ok (stepF a (.ap n xs)) ∧ FR.To w r r'))) (fun u S5 h5 => ?_)
          obtain ⟨rfl, r', rfl, hr', hto⟩ := h5
          refine j_subl (S' := [r'.heap]) (by repeat first | exact slR _ | exact slN _ | apply slC | apply slD) ?_
          have hwe : appE a n xs = 0 := by
            unfold appE
            rw [if_neg (by rw [hm]; simp), if_neg hl0, if_neg hbig, if_neg hfl]
          refine j_ret_con (vs := [_]) (fun w' hw' => ⟨rfl, trivial⟩) ?_
          rw [hwe]
          refine ⟨rfl, r', rfl, ?_, hto⟩
          rw [if_pos rfl]
          exact hr'
end Go.Proofs.YtomajiicjinekaaDoor
/-! Ft11 -/
namespace Go.Proofs.YtomajiicjinekaaDoor
open Go Go.Sx
set_option maxRecDepth 100000
set_option maxHeartbeats 4000000
set_option linter.unusedVariables false
set_option linter.unusedSimpArgs false
attribute [local irreducible] J JQ QS Con W opW
open Go.MapKept Go.WideMaps Go.Maps
def contA (s : AS) (n : List UInt8) : List UInt8 :=
  match alook s.nm n with
  | none => []
  | some i => s.dt i
def readE (s : AS) (n : List UInt8) : Int := if alook s.nm n = none then 7 else 0
end Go.Proofs.YtomajiicjinekaaDoor
/-! Ft12 -/
namespace Go.Proofs.YtomajiicjinekaaDoor
open Go Go.Sx
set_option maxRecDepth 100000
set_option maxHeartbeats 4000000
set_option linter.unusedVariables false
set_option linter.unusedSimpArgs false
attribute [local irreducible] J JQ QS Con W opW
open Go.MapKept Go.WideMaps Go.Maps
end Go.Proofs.YtomajiicjinekaaDoor
/-! Ft13 -/
namespace Go.Proofs.YtomajiicjinekaaDoor
open Go Go.Sx
set_option maxRecDepth 100000
set_option maxHeartbeats 4000000
set_option linter.unusedVariables false
set_option linter.unusedSimpArgs false
attribute [local irreducible] J JQ QS Con W opW
open Go.MapKept Go.WideMaps Go.Maps
theorem cloneO_con (v : Value) (xs : List UInt8) (w : World) (h : BR w v xs) (hl : xs.length ≤ 1000000000) : Con Tryd.prog 18 [v] w [] fun u S' => ∃ c : SH, S' = [c] ∧ Sx.Own 5 1 (ints xs) u c := by
  refine con_of_tree mix Tryd.func18 T18_ok (by kernel_rfl) ?_
  unfold T18
  have hf := br_form h
  obtain ⟨A, cap, hv, hcap⟩ := hf
  subst hv
  refine j_q (qs_ac) ?_
  refine j_q (qs_slnil Tryd.underlying22 rfl) ?_
  refine j_cond rfl (fun hc0 => ?_) (fun hc0 => ?_)
  · skip
    have h0 : A = none := by cases A with
      | none => rfl
      | some a => simp at hc0
    subst h0
    have hx0 : xs = [] := by
      rcases h with ⟨_, h⟩ | ⟨a, c, e, _⟩
      · exact h
      · cases e
    subst hx0
    refine j_q (qs_ac) ?_
    refine j_subl (S' := [[]]) (by simp) ?_
    refine j_ret_con (vs := [_]) (fun w' hw' => ⟨rfl, trivial⟩) ?_
    exact ⟨[], rfl, own_nil⟩
  · skip
    obtain ⟨a, rfl⟩ : ∃ a, A = some a := by
      cases A with
      | none => simp at hc0
      | some a => exact ⟨a, rfl⟩
    have hcl : Cells w a (ints xs) := by
      rcases h with ⟨e, _⟩ | ⟨a', c, e, _, _, h⟩
      · cases e
      · injection e with e1 e2 e3
        injection e1 with e1
        rw [e1]
        exact h
    refine j_lit (vs := []) Tryd.underlying22 sz5 zero5 rfl (by simp [oneV]) ⟨rfl, by decide⟩ (fun g3 v3 c3 hv3 hc3 ho3 => ?_)
    subst hv3 hc3
    refine j_append 0 Tryd.underlying22 Tryd.underlying22 (.inr ⟨_, rfl⟩) sb5 zero5 rfl ho3 rfl (src_sl (rd_cells hcl (by simp)) (by rw [ints_length, Nat.mul_one])) ints_one ⟨(by rw [ints_length]; simp only [List.length_nil]; omega), (by decide)⟩ (fun v4 c4 ho4 => ?_)
    rw [List.nil_append] at ho4
    refine j_subl (S' := [c4]) (by repeat first | exact slR _ | exact slN _ | apply slC | apply slD) ?_
    refine j_ret_con (vs := [_]) (fun w' hw' => ⟨rfl, trivial⟩) ?_
    exact ⟨c4, rfl, ho4⟩
theorem readO_con (f : FM) (B : Nat) (n : List UInt8) (w : World) (hin : In w f.heap) (hok : f.Ok B) (hn : strOk n) (x : FL) (hx : x ∈ f.now.fs) (hlk : alook f.now.ml n = some (x.g, x.id)) : Con Tryd.prog 11 [f.ptr, .string (bs n)] w [] fun u S' => ∃ (v : Value) (c : SH), u = .tuple #[v, .int .i64 0] ∧ S' = [c] ∧ Sx.Own 5 1 (ints x.xs) v c := by
  refine con_of_tree mix Tryd.func11 T11_ok (by kernel_rfl) ?_
  unfold T11
  obtain ⟨xA, xc, hxv, hxl⟩ := hok.raw.form x hx
  refine j_q (qs_ac) ?_
  refine j_q (qs_ac) ?_
  refine j_q (qs_pnil Tryd.underlying23 rfl) ?_
  refine j_g rfl (fun hb => qs_mt rfl) ?_
  refine j_g rfl (fun hb => qs_nil (gd_eq hb)) ?_
  refine j_g rfl (fun hb => qs_field Tryd.underlying45 rfl sz41 (by decide) (gd_eq hb)) ?_
  refine j_g rfl (fun hb => qs_loadO (rdo_base (FM.in_gf hin) (by simp)) Tryd.underlying41 rfl (gd_eq hb) rfl) ?_
  refine j_g rfl (fun hb => qs_pnil Tryd.underlying41 (gd_eq hb)) ?_
  refine j_q (qs_or rfl rfl) ?_
  refine j_g rfl (fun hb => qs_mt rfl) ?_
  refine j_g rfl (fun hb => qs_nil (gd_eq hb)) ?_
  refine j_g rfl (fun hb => qs_field Tryd.underlying45 rfl sz41 (by decide) (gd_eq hb)) ?_
  refine j_g rfl (fun hb => qs_loadO (rdo_base (FM.in_gf hin) (by simp)) Tryd.underlying41 rfl (gd_eq hb) rfl) ?_
  refine j_g rfl (fun hb => qs_nil (gd_eq hb)) ?_
  refine j_g rfl (fun hb => qs_field Tryd.underlying50 rfl sz48 (by decide) (gd_eq hb)) ?_
  refine j_g rfl (fun hb => qs_loadO (rdo_base (SM.in_gs (FM.in_now hin)) (by simp)) Tryd.underlying48 rfl (gd_eq hb) rfl) ?_
  refine j_g rfl (fun hb => qs_mt rfl) ?_
  refine j_g rfl (fun hb => qs_lookupR (key := n) strKey (rdo_base (SM.in_gm (FM.in_now hin)) (by simp)) Tryd.underlying48 zv63 (gd_eq hb) (gd_eq hb) hok.raw.map hn) ?_
  rw [mlook_map fptr, getD_fptr, hlk, Option.map_some]
  refine j_g rfl (fun hb => qs_pnil Tryd.underlying47 (gd_eq hb)) ?_
  refine j_q (qs_or rfl rfl) ?_
  refine j_cond rfl (fun hc0 => ?_) (fun hc0 => ?_)
  · skip
    simp [gd] at hc0
  · skip
    refine j_q (qs_nil rfl) ?_
    refine j_q (qs_field Tryd.underlying45 rfl sz41 (by decide) rfl) ?_
    refine j_q (qs_loadO (rdo_base (FM.in_gf hin) (by simp)) Tryd.underlying41 rfl rfl rfl) ?_
    refine j_q (qs_nil rfl) ?_
    refine j_q (qs_field Tryd.underlying50 rfl sz48 (by decide) rfl) ?_
    refine j_q (qs_loadO (rdo_base (SM.in_gs (FM.in_now hin)) (by simp)) Tryd.underlying48 rfl rfl rfl) ?_
    refine j_q (qs_lookupR (key := n) strKey (rdo_base (SM.in_gm (FM.in_now hin)) (by simp)) Tryd.underlying48 zv63 rfl rfl hok.raw.map hn) ?_
    rw [mlook_map fptr, getD_fptr, hlk, Option.map_some]
    refine j_q (qs_nil rfl) ?_
    refine j_q (qs_field Tryd.underlying56 rfl sz22 (by decide) rfl) ?_
    refine j_q (qs_loadO (rdo_base (SM.in_f (FM.in_now hin) hx) (by simp)) Tryd.underlying22 rfl rfl rfl) ?_
    refine j_call0 ent18 rfl rfl rfl (fun w' hw' => cloneO_con x.v x.xs w' (br_rv (hok.vw x hx).rv (in_keep0 (FM.in_P hin) hw')) hxl) (fun u S2 hu1 => ?_)
    obtain ⟨Q, rfl, hrv⟩ := hu1
    refine j_subl (S' := [Q]) (by repeat first | exact slR _ | exact slN _ | apply slC | apply slD) ?_
    refine j_q (qs_ac) ?_
    refine j_ret_con (vs := [_, _]) (fun w' hw' => ⟨rfl, rfl, trivial⟩) ?_
    exact ⟨_, Q, rfl, rfl, hrv⟩
theorem readRO_con (r : FR) (a : AF) (n : List UInt8) (w : World) (hin : In w r.heap) (hok : r.Ok a) (hn : strOk n) : Con Tryd.prog 11 [r.ptr, .string (bs n)] w [] fun u S' => ∃ (v : Value) (c : SH), u = .tuple #[v, .int .i64 (readE a.now n)] ∧ S' = [c] ∧ Sx.Own 5 1 (ints (contA a.now n)) v c := by
  cases h : alook a.now.nm n with
  | none =>
    refine (readZ_con r.fm a.pend.length n w hin (hok.fm (Nat.le_refl _)) hn (look_rep0 hok.now.raw hok.now.rep h)).mono (fun u S' hu => ?_)
    obtain ⟨rfl, rfl⟩ := hu
    refine ⟨.slice none 0 0, [], ?_, rfl, ?_⟩
    · unfold readE
      rw [if_pos h]
    · simp only [contA, h]
      exact own_nil
  | some i =>
    obtain ⟨f, hf, hl, hi, hx⟩ := look_rep hok.now.raw hok.now.rep h
    refine (readO_con r.fm a.pend.length n w hin (hok.fm (Nat.le_refl _)) hn f hf hl).mono (fun u S' hu => ?_)
    obtain ⟨v, Q, rfl, rfl, hv⟩ := hu
    refine ⟨v, Q, ?_, rfl, ?_⟩
    · unfold readE
      rw [if_neg (by rw [h]; simp)]
    · simp only [contA, h]
      rw [← hx]
      exact hv
end Go.Proofs.YtomajiicjinekaaDoor
/-! Sha1 -/
namespace Go.Proofs.YtomajiicjinekaaDoor
open Go Go.Sx
set_option maxRecDepth 100000
set_option maxHeartbeats 4000000
set_option linter.unusedVariables false
set_option linter.unusedSimpArgs false
attribute [local irreducible] J JQ QS Con W opW
theorem and31 (n : Int) (h0 : 0 < n) (h1 : n < 32) : bw .and .u64 (IntKind.u64.wrap (-n)) 31 = 32 - n := by
  have : ∀ k : Fin 32, 0 < k.val → bw .and .u64 (IntKind.u64.wrap (-(k.val : Int))) 31 = 32 - (k.val : Int) := by decide +kernel
  have := this ⟨n.toNat, by omega⟩ (by show 0 < n.toNat; omega)
  simp only [Int.toNat_of_nonneg (Int.le_of_lt h0)] at this
  exact this
theorem rot_con (a n : Int) (w : World) (h0 : 0 < n) (h1 : n < 32) : Con Tryd.prog 79 [.int .u32 a, .int .i64 (-n)] w [] fun v _ => v = .int .u32 (rotr a n) := by
  refine con_of_tree mix Tryd.func79 T79_ok (by kernel_rfl) ?_
  unfold T79
  refine j_q (qs_ac) ?_
  refine j_q (qs_conv Tryd.underlying3 Tryd.underlying114 rfl) ?_
  refine j_q (qs_and_ rfl rfl) ?_
  rw [and31 n h0 h1]
  refine j_q (qs_shl rfl rfl (by first | omega | (simp only [bnA] at *; omega))) ?_
  refine j_q (qs_sub rfl rfl) ?_
  rw [IntWalk.u64_in _ (by omega)]
  have e32 : 32 - (32 - n) = n := by omega
  rw [e32]
  refine j_q (qs_shr rfl rfl (by first | omega | (simp only [bnA] at *; omega))) ?_
  refine j_q (qs_or_ rfl rfl) ?_
  refine j_ret_con (vs := [_]) (fun w' hw' => ⟨rfl, trivial⟩) ?_
  rfl
theorem turn_con (a n : Int) (w : World) (h0 : 0 < n) (h1 : n < 32) : Con Tryd.prog 71 [.int .u32 a, .int .i64 n] w [] fun v _ => v = .int .u32 (rotr a n) := by
  refine con_of_tree mix Tryd.func71 T71_ok (by kernel_rfl) ?_
  unfold T71
  refine j_q (qs_ac) ?_
  refine j_q (qs_neg rfl) ?_
  rw [IntWalk.i64_in _ (by omega), Int.zero_sub]
  refine j_q (qs_call ent79 rfl rfl rfl (fun w' hw' => rot_con a n w' h0 h1)) ?_
  refine j_ret_con (vs := [_]) (fun w' hw' => ⟨rfl, trivial⟩) ?_
  rfl
theorem numbers_con (w : World) : Con Tryd.prog 70 [] w [] fun v _ => v = .agg (ks .u32 kk64).toArray := by
  refine con_of_tree mix Tryd.func70 T70_ok (by kernel_rfl) ?_
  unfold T70
  refine j_alloc zero124 (fun g0 hg0 hs0 => ?_)
  refine j_q (qs_run (v := .agg (ks .u32 kk64).toArray) (fun w => by kernel_rfl)) ?_
  refine j_storew 0 sz124 rfl rfl rfl ks_one rfl rfl ?_
  refine j_ret_con (vs := [_]) (fun w' hw' => ⟨rv_agg 0 Tryd.underlying124 rfl sz124 rfl rfl rfl hw', trivial⟩) ?_
  rfl
theorem dbegun_con (w : World) : Con Tryd.prog 60 [] w [] fun v _ => v = .agg (ks .u32 init8).toArray := by
  refine con_of_tree mix Tryd.func60 T60_ok (by kernel_rfl) ?_
  unfold T60
  refine j_alloc zero116 (fun g0 hg0 hs0 => ?_)
  refine j_q (qs_run (v := .agg (ks .u32 init8).toArray) (fun w => by kernel_rfl)) ?_
  refine j_storew 0 sz116 rfl rfl rfl ks_one rfl rfl ?_
  refine j_ret_con (vs := [_]) (fun w' hw' => ⟨rv_agg 0 Tryd.underlying116 rfl sz116 rfl rfl rfl hw', trivial⟩) ?_
  rfl
end Go.Proofs.YtomajiicjinekaaDoor
/-! Sha2 -/
namespace Go.Proofs.YtomajiicjinekaaDoor
open Go Go.Sx
set_option maxRecDepth 100000
set_option maxHeartbeats 4000000
set_option linter.unusedVariables false
set_option linter.unusedSimpArgs false
attribute [local irreducible] J JQ QS Con W opW
theorem add_block (a : Addr) (n : Nat) : (a.add n).block = a.block := by unfold Addr.add; split <;> rfl
theorem add_add (a : Addr) (n j : Nat) : (a.add n).add j = a.add (n + j) := by
  obtain ⟨g, o, sp⟩ := a
  unfold Addr.add
  by_cases h1 : n = 0
  · subst h1; simp
  · by_cases h2 : j = 0
    · subst h2; simp
    · have h3 : n + j ≠ 0 := by omega
      simp [h1, h2, h3, Nat.add_assoc]
theorem cells_drop {w : World} {a : Addr} {vs : List Value} (h : Cells w a vs) (n : Nat) : Cells w (a.add n) (vs.drop n) := fun j u hu => by
  rw [add_add]
  exact h _ _ (by rwa [List.getElem?_drop] at hu)
theorem cells_take {w : World} {a : Addr} {vs : List Value} (h : Cells w a vs) (n : Nat) : Cells w a (vs.take n) := fun j u hu => by
  rw [List.getElem?_take] at hu
  split at hu
  · exact h _ _ hu
  · cases hu
theorem ints_drop (l : List UInt8) (n : Nat) : (ints l).drop n = ints (l.drop n) := by simp [ints, List.map_drop]
theorem ints_take (l : List UInt8) (n : Nat) : (ints l).take n = ints (l.take n) := by simp [ints, List.map_take]
theorem back_le {n i : Nat} (h : i < n) : n - (i + 1) < n - i := by omega
theorem take_con (s : List Int) (p : List UInt8) (a : Addr) (c gs : Nat) (e : TypeId) (w : World) (hs : s.length = 8) (hpm : p.length ≤ 140737488355328) (hc : p.length ≤ c) (hpc : Cells w a (ints p)) (hne : p ≠ [] → a.block ≠ gs) : Con Tryd.prog 61 [.pointer (some ⟨gs, 0, none⟩), .slice (some a) p.length c] w [(gs, .cells (ks .u32 s).toArray e (0, 0))] fun v S' => v = .tuple #[] ∧ S' = [[(gs, .cells (ks .u32 (blocks (p.length / 64) p s)).toArray e (0, 0))]] := by
  refine con_of_tree mix Tryd.func61 T61_ok (by kernel_rfl) ?_
  unfold T61
  have hkl : kk64.length = 64 := rfl
  refine j_q (qs_call ent70 rfl rfl rfl (fun w' hw' => numbers_con w')) ?_
  refine j_alloc zero124 (fun g1 hg1 hs1 => ?_)
  first
    | refine j_storew 0 sz124 rfl rfl (by first | rfl | (simp only [ks_length]; first | omega | exact hstl | exact hvl) | simp [ks_length]) ks_one rfl (by first | rfl | (simp only [ks_length]; first | omega | exact hstl | exact hvl) | simp [ks_length]) ?_
    | refine j_storew 1 sz124 rfl rfl (by first | rfl | (simp only [ks_length]; first | omega | exact hstl | exact hvl) | simp [ks_length]) ks_one rfl (by first | rfl | (simp only [ks_length]; first | omega | exact hstl | exact hvl) | simp [ks_length]) ?_
    | refine j_storew 2 sz124 rfl rfl (by first | rfl | (simp only [ks_length]; first | omega | exact hstl | exact hvl) | simp [ks_length]) ks_one rfl (by first | rfl | (simp only [ks_length]; first | omega | exact hstl | exact hvl) | simp [ks_length]) ?_
    | refine j_storew 3 sz124 rfl rfl (by first | rfl | (simp only [ks_length]; first | omega | exact hstl | exact hvl) | simp [ks_length]) ks_one rfl (by first | rfl | (simp only [ks_length]; first | omega | exact hstl | exact hvl) | simp [ks_length]) ?_
  refine j_alloc zero124 (fun g3 hg3 hs3 => ?_)
  refine j_loop (fun m vs S' => ∃ (n : Nat) (q : List UInt8) (a' : Addr) (c' : Nat) (st ws : List Int), vs = [.slice (some a') q.length c'] ∧ S' = [[(g3, .cells (ks .u32 ws).toArray 124 (0, 0))], [(g1, .cells (ks .u32 kk64).toArray 124 (0, 0))], [(gs, .cells (ks .u32 st).toArray e (0, 0))]] ∧ 64 * n ≤ p.length ∧ q = p.drop (64 * n) ∧ q.length ≤ c' ∧ Cells w a' (ints q) ∧ a'.block = a.block ∧ st = blocks n p s ∧ ws.length = 64 ∧ m = p.length - 64 * n) ⟨_, 0, p, a, c, s, _, rfl, rfl, by omega, rfl, hc, hpc, rfl, rfl, by simp, rfl⟩ ?_
  rintro m vs S' hlen ⟨n, q, a', c', st, ws0, rfl, rfl, hn, hq, hqc, hqm, hab, hst, hwl0, rfl⟩
  have hql : q.length = p.length - 64 * n := by rw [hq, List.length_drop]
  have hstl : st.length = 8 := by rw [hst]; exact blocks_length hs
  clear hlen hs1 hs3 hg1 hg3
  refine j_q (qs_lenl Tryd.underlying22 rfl) ?_
  refine j_q (qs_geq rfl rfl) ?_
  refine j_cond rfl (fun hc0 => ?_) (fun hc0 => ?_)
  · skip
    have hq64 : 64 ≤ q.length := by
      simp only [bnA] at *
      omega
    have hpne : p ≠ [] := by
      intro h0
      have := congrArg List.length h0
      simp only [List.length_nil] at this
      omega
    refine j_q (qs_mc) ?_
    refine j_loop (fun m vs S' => ∃ (i : Nat) (ws : List Int), vs = [.int .i64 i] ∧ S' = [[(g3, .cells (ks .u32 ws).toArray 124 (0, 0))], [(g1, .cells (ks .u32 kk64).toArray 124 (0, 0))], [(gs, .cells (ks .u32 st).toArray e (0, 0))]] ∧ i ≤ 16 ∧ ws.length = 64 ∧ m = 16 - i ∧ ws.take i = sched q i) ⟨_, 0, _, rfl, rfl, by omega, hwl0, rfl, rfl⟩ ?_
    rintro m vs S' hlen ⟨i, ws, rfl, rfl, hi, hwl, rfl, hws⟩
    clear hlen
    refine j_q (qs_lss rfl rfl) ?_
    refine j_cond rfl (fun hc1 => ?_) (fun hc1 => ?_)
    · skip
      have hi1 : i < 16 := by
        simp only [bnA] at *
        omega
      refine j_draw ?_
      refine jq_q (qs_mul64 rfl rfl (by first | omega | (simp only [bnA] at *; omega))) ?_
      first
        | refine jq_q (qs_ixg Tryd.underlying22 sz5 rfl rfl ⟨(by first | omega | (simp only [bnA] at *; omega)), (by first | omega | (simp only [bnA] at *; omega))⟩) ?_
        | refine jq_q (qs_ixl0 Tryd.underlying22 sz5 rfl rfl ⟨(by first | omega | (simp only [bnA] at *; omega)), (by first | omega | (simp only [bnA] at *; omega))⟩) ?_
      first
        | refine jq_q (qs_loadr8 (rd_cells hqm (by rw [hab]; simpa using hne hpne)) Tryd.underlying5 rfl (by first | omega | (simp only [bnA] at *; omega))) ?_
        | refine jq_q (qs_loadk 0 Tryd.underlying5 rfl rfl (by first | omega | (simp only [bnA] at *; omega))) ?_
        | refine jq_q (qs_loadk 1 Tryd.underlying5 rfl rfl (by first | omega | (simp only [bnA] at *; omega))) ?_
        | refine jq_q (qs_loadk 2 Tryd.underlying5 rfl rfl (by first | omega | (simp only [bnA] at *; omega))) ?_
        | refine jq_q (qs_loadk 3 Tryd.underlying5 rfl rfl (by first | omega | (simp only [bnA] at *; omega))) ?_
        | refine jq_q (qs_loadi 0 Tryd.underlying5 rfl rfl (by first | omega | (simp only [bnA] at *; omega))) ?_
        | refine jq_q (qs_loadi 1 Tryd.underlying5 rfl rfl (by first | omega | (simp only [bnA] at *; omega))) ?_
        | refine jq_q (qs_loadi 2 Tryd.underlying5 rfl rfl (by first | omega | (simp only [bnA] at *; omega))) ?_
        | refine jq_q (qs_loadi 3 Tryd.underlying5 rfl rfl (by first | omega | (simp only [bnA] at *; omega))) ?_
        | refine jq_q (qs_load 0 Tryd.underlying5 rfl rfl rfl rfl) ?_
        | refine jq_q (qs_load 1 Tryd.underlying5 rfl rfl rfl rfl) ?_
        | refine jq_q (qs_load 2 Tryd.underlying5 rfl rfl rfl rfl) ?_
        | refine jq_q (qs_load 3 Tryd.underlying5 rfl rfl rfl rfl) ?_
      refine jq_q (qs_conv Tryd.underlying5 Tryd.underlying67 rfl) ?_
      refine jq_q (qs_shl rfl rfl (by first | omega | (simp only [bnA] at *; omega))) ?_
      refine jq_q (qs_mul64 rfl rfl (by first | omega | (simp only [bnA] at *; omega))) ?_
      refine jq_q (qs_add64 rfl rfl (by first | omega | (simp only [bnA] at *; omega))) ?_
      first
        | refine jq_q (qs_ixg Tryd.underlying22 sz5 rfl rfl ⟨(by first | omega | (simp only [bnA] at *; omega)), (by first | omega | (simp only [bnA] at *; omega))⟩) ?_
        | refine jq_q (qs_ixl0 Tryd.underlying22 sz5 rfl rfl ⟨(by first | omega | (simp only [bnA] at *; omega)), (by first | omega | (simp only [bnA] at *; omega))⟩) ?_
      first
        | refine jq_q (qs_loadr8 (rd_cells hqm (by rw [hab]; simpa using hne hpne)) Tryd.underlying5 rfl (by first | omega | (simp only [bnA] at *; omega))) ?_
        | refine jq_q (qs_loadk 0 Tryd.underlying5 rfl rfl (by first | omega | (simp only [bnA] at *; omega))) ?_
        | refine jq_q (qs_loadk 1 Tryd.underlying5 rfl rfl (by first | omega | (simp only [bnA] at *; omega))) ?_
        | refine jq_q (qs_loadk 2 Tryd.underlying5 rfl rfl (by first | omega | (simp only [bnA] at *; omega))) ?_
        | refine jq_q (qs_loadk 3 Tryd.underlying5 rfl rfl (by first | omega | (simp only [bnA] at *; omega))) ?_
        | refine jq_q (qs_loadi 0 Tryd.underlying5 rfl rfl (by first | omega | (simp only [bnA] at *; omega))) ?_
        | refine jq_q (qs_loadi 1 Tryd.underlying5 rfl rfl (by first | omega | (simp only [bnA] at *; omega))) ?_
        | refine jq_q (qs_loadi 2 Tryd.underlying5 rfl rfl (by first | omega | (simp only [bnA] at *; omega))) ?_
        | refine jq_q (qs_loadi 3 Tryd.underlying5 rfl rfl (by first | omega | (simp only [bnA] at *; omega))) ?_
        | refine jq_q (qs_load 0 Tryd.underlying5 rfl rfl rfl rfl) ?_
        | refine jq_q (qs_load 1 Tryd.underlying5 rfl rfl rfl rfl) ?_
        | refine jq_q (qs_load 2 Tryd.underlying5 rfl rfl rfl rfl) ?_
        | refine jq_q (qs_load 3 Tryd.underlying5 rfl rfl rfl rfl) ?_
      refine jq_q (qs_conv Tryd.underlying5 Tryd.underlying67 rfl) ?_
      refine jq_q (qs_shl rfl rfl (by first | omega | (simp only [bnA] at *; omega))) ?_
      refine jq_q (qs_or_ rfl rfl) ?_
      refine jq_q (qs_mul64 rfl rfl (by first | omega | (simp only [bnA] at *; omega))) ?_
      refine jq_q (qs_add64 rfl rfl (by first | omega | (simp only [bnA] at *; omega))) ?_
      first
        | refine jq_q (qs_ixg Tryd.underlying22 sz5 rfl rfl ⟨(by first | omega | (simp only [bnA] at *; omega)), (by first | omega | (simp only [bnA] at *; omega))⟩) ?_
        | refine jq_q (qs_ixl0 Tryd.underlying22 sz5 rfl rfl ⟨(by first | omega | (simp only [bnA] at *; omega)), (by first | omega | (simp only [bnA] at *; omega))⟩) ?_
      first
        | refine jq_q (qs_loadr8 (rd_cells hqm (by rw [hab]; simpa using hne hpne)) Tryd.underlying5 rfl (by first | omega | (simp only [bnA] at *; omega))) ?_
        | refine jq_q (qs_loadk 0 Tryd.underlying5 rfl rfl (by first | omega | (simp only [bnA] at *; omega))) ?_
        | refine jq_q (qs_loadk 1 Tryd.underlying5 rfl rfl (by first | omega | (simp only [bnA] at *; omega))) ?_
        | refine jq_q (qs_loadk 2 Tryd.underlying5 rfl rfl (by first | omega | (simp only [bnA] at *; omega))) ?_
        | refine jq_q (qs_loadk 3 Tryd.underlying5 rfl rfl (by first | omega | (simp only [bnA] at *; omega))) ?_
        | refine jq_q (qs_loadi 0 Tryd.underlying5 rfl rfl (by first | omega | (simp only [bnA] at *; omega))) ?_
        | refine jq_q (qs_loadi 1 Tryd.underlying5 rfl rfl (by first | omega | (simp only [bnA] at *; omega))) ?_
        | refine jq_q (qs_loadi 2 Tryd.underlying5 rfl rfl (by first | omega | (simp only [bnA] at *; omega))) ?_
        | refine jq_q (qs_loadi 3 Tryd.underlying5 rfl rfl (by first | omega | (simp only [bnA] at *; omega))) ?_
        | refine jq_q (qs_load 0 Tryd.underlying5 rfl rfl rfl rfl) ?_
        | refine jq_q (qs_load 1 Tryd.underlying5 rfl rfl rfl rfl) ?_
        | refine jq_q (qs_load 2 Tryd.underlying5 rfl rfl rfl rfl) ?_
        | refine jq_q (qs_load 3 Tryd.underlying5 rfl rfl rfl rfl) ?_
      refine jq_q (qs_conv Tryd.underlying5 Tryd.underlying67 rfl) ?_
      refine jq_q (qs_shl rfl rfl (by first | omega | (simp only [bnA] at *; omega))) ?_
      refine jq_q (qs_or_ rfl rfl) ?_
      refine jq_q (qs_mul64 rfl rfl (by first | omega | (simp only [bnA] at *; omega))) ?_
      refine jq_q (qs_add64 rfl rfl (by first | omega | (simp only [bnA] at *; omega))) ?_
      first
        | refine jq_q (qs_ixg Tryd.underlying22 sz5 rfl rfl ⟨(by first | omega | (simp only [bnA] at *; omega)), (by first | omega | (simp only [bnA] at *; omega))⟩) ?_
        | refine jq_q (qs_ixl0 Tryd.underlying22 sz5 rfl rfl ⟨(by first | omega | (simp only [bnA] at *; omega)), (by first | omega | (simp only [bnA] at *; omega))⟩) ?_
      first
        | refine jq_q (qs_loadr8 (rd_cells hqm (by rw [hab]; simpa using hne hpne)) Tryd.underlying5 rfl (by first | omega | (simp only [bnA] at *; omega))) ?_
        | refine jq_q (qs_loadk 0 Tryd.underlying5 rfl rfl (by first | omega | (simp only [bnA] at *; omega))) ?_
        | refine jq_q (qs_loadk 1 Tryd.underlying5 rfl rfl (by first | omega | (simp only [bnA] at *; omega))) ?_
        | refine jq_q (qs_loadk 2 Tryd.underlying5 rfl rfl (by first | omega | (simp only [bnA] at *; omega))) ?_
        | refine jq_q (qs_loadk 3 Tryd.underlying5 rfl rfl (by first | omega | (simp only [bnA] at *; omega))) ?_
        | refine jq_q (qs_loadi 0 Tryd.underlying5 rfl rfl (by first | omega | (simp only [bnA] at *; omega))) ?_
        | refine jq_q (qs_loadi 1 Tryd.underlying5 rfl rfl (by first | omega | (simp only [bnA] at *; omega))) ?_
        | refine jq_q (qs_loadi 2 Tryd.underlying5 rfl rfl (by first | omega | (simp only [bnA] at *; omega))) ?_
        | refine jq_q (qs_loadi 3 Tryd.underlying5 rfl rfl (by first | omega | (simp only [bnA] at *; omega))) ?_
        | refine jq_q (qs_load 0 Tryd.underlying5 rfl rfl rfl rfl) ?_
        | refine jq_q (qs_load 1 Tryd.underlying5 rfl rfl rfl rfl) ?_
        | refine jq_q (qs_load 2 Tryd.underlying5 rfl rfl rfl rfl) ?_
        | refine jq_q (qs_load 3 Tryd.underlying5 rfl rfl rfl rfl) ?_
      refine jq_q (qs_conv Tryd.underlying5 Tryd.underlying67 rfl) ?_
      refine jq_q (qs_or_ rfl rfl) ?_
      refine jq_q (qs_ix0 Tryd.underlying124 sz67 rfl rfl ⟨(by first | omega | (simp only [bnA] at *; omega)), (by first | omega | (simp only [bnA] at *; omega))⟩) ?_
      refine jq_nil ?_
      first
        | refine j_storek 0 sz67 rfl rfl rfl (by first | omega | (simp only [bnA] at *; omega)) ?_
        | refine j_storek 1 sz67 rfl rfl rfl (by first | omega | (simp only [bnA] at *; omega)) ?_
        | refine j_storek 2 sz67 rfl rfl rfl (by first | omega | (simp only [bnA] at *; omega)) ?_
        | refine j_storek 3 sz67 rfl rfl rfl (by first | omega | (simp only [bnA] at *; omega)) ?_
        | refine j_store 0 sz67 rfl rfl rfl rfl (by simp) (by first | omega | (simp only [bnA] at *; omega)) ?_
        | refine j_store 1 sz67 rfl rfl rfl rfl (by simp) (by first | omega | (simp only [bnA] at *; omega)) ?_
        | refine j_store 2 sz67 rfl rfl rfl rfl (by simp) (by first | omega | (simp only [bnA] at *; omega)) ?_
        | refine j_store 3 sz67 rfl rfl rfl rfl (by simp) (by first | omega | (simp only [bnA] at *; omega)) ?_
      refine j_q (qs_add64 rfl rfl (by first | omega | (simp only [bnA] at *; omega))) ?_
      refine j_back rfl ?_
      exact ⟨_, back_le hi1, i + 1, _, rfl, rfl, by omega, by simpa using hwl, rfl, sched_word hws hi1 (by omega)⟩
    · skip
      have hi1 : i = 16 := by
        simp only [bnA] at *
        omega
      subst hi1
      refine j_q (qs_ac) ?_
      refine j_loop (fun m vs S' => ∃ (i : Nat) (ws : List Int), vs = [.int .i64 i] ∧ S' = [[(g3, .cells (ks .u32 ws).toArray 124 (0, 0))], [(g1, .cells (ks .u32 kk64).toArray 124 (0, 0))], [(gs, .cells (ks .u32 st).toArray e (0, 0))]] ∧ 16 ≤ i ∧ i ≤ 64 ∧ ws.length = 64 ∧ m = 64 - i ∧ ws.take i = sched q i) ⟨_, 16, _, rfl, rfl, by omega, by omega, hwl, rfl, hws⟩ ?_
      rintro m vs S' hlen ⟨i, ws, rfl, rfl, hi0, hi, hwl, rfl, hws⟩
      clear hlen
      refine j_q (qs_lss rfl rfl) ?_
      refine j_cond rfl (fun hc2 => ?_) (fun hc2 => ?_)
      · skip
        have hi1 : i < 64 := by
          simp only [bnA] at *
          omega
        refine j_draw ?_
        refine jq_q (qs_sub64 rfl rfl (by first | omega | (simp only [bnA] at *; omega))) ?_
        refine jq_q (qs_ix0 Tryd.underlying124 sz67 rfl rfl ⟨(by first | omega | (simp only [bnA] at *; omega)), (by first | omega | (simp only [bnA] at *; omega))⟩) ?_
        first
          | refine jq_q (qs_loadr8 (rd_cells hqm (by rw [hab]; simpa using hne hpne)) Tryd.underlying67 rfl (by first | omega | (simp only [bnA] at *; omega))) ?_
          | refine jq_q (qs_loadk 0 Tryd.underlying67 rfl rfl (by first | omega | (simp only [bnA] at *; omega))) ?_
          | refine jq_q (qs_loadk 1 Tryd.underlying67 rfl rfl (by first | omega | (simp only [bnA] at *; omega))) ?_
          | refine jq_q (qs_loadk 2 Tryd.underlying67 rfl rfl (by first | omega | (simp only [bnA] at *; omega))) ?_
          | refine jq_q (qs_loadk 3 Tryd.underlying67 rfl rfl (by first | omega | (simp only [bnA] at *; omega))) ?_
          | refine jq_q (qs_load 0 Tryd.underlying67 rfl rfl rfl rfl) ?_
          | refine jq_q (qs_load 1 Tryd.underlying67 rfl rfl rfl rfl) ?_
          | refine jq_q (qs_load 2 Tryd.underlying67 rfl rfl rfl rfl) ?_
          | refine jq_q (qs_load 3 Tryd.underlying67 rfl rfl rfl rfl) ?_
        refine jq_q (qs_sub64 rfl rfl (by first | omega | (simp only [bnA] at *; omega))) ?_
        refine jq_q (qs_ix0 Tryd.underlying124 sz67 rfl rfl ⟨(by first | omega | (simp only [bnA] at *; omega)), (by first | omega | (simp only [bnA] at *; omega))⟩) ?_
        first
          | refine jq_q (qs_loadr8 (rd_cells hqm (by rw [hab]; simpa using hne hpne)) Tryd.underlying67 rfl (by first | omega | (simp only [bnA] at *; omega))) ?_
          | refine jq_q (qs_loadk 0 Tryd.underlying67 rfl rfl (by first | omega | (simp only [bnA] at *; omega))) ?_
          | refine jq_q (qs_loadk 1 Tryd.underlying67 rfl rfl (by first | omega | (simp only [bnA] at *; omega))) ?_
          | refine jq_q (qs_loadk 2 Tryd.underlying67 rfl rfl (by first | omega | (simp only [bnA] at *; omega))) ?_
          | refine jq_q (qs_loadk 3 Tryd.underlying67 rfl rfl (by first | omega | (simp only [bnA] at *; omega))) ?_
          | refine jq_q (qs_load 0 Tryd.underlying67 rfl rfl rfl rfl) ?_
          | refine jq_q (qs_load 1 Tryd.underlying67 rfl rfl rfl rfl) ?_
          | refine jq_q (qs_load 2 Tryd.underlying67 rfl rfl rfl rfl) ?_
          | refine jq_q (qs_load 3 Tryd.underlying67 rfl rfl rfl rfl) ?_
        refine jq_nil ?_
        refine j_q (qs_call ent71 rfl rfl rfl (fun w' hw' => turn_con _ _ w' (by decide) (by decide))) ?_
        refine j_q (qs_call ent71 rfl rfl rfl (fun w' hw' => turn_con _ _ w' (by decide) (by decide))) ?_
        refine j_q (qs_xor_ rfl rfl) ?_
        refine j_q (qs_shr rfl rfl (by first | omega | (simp only [bnA] at *; omega))) ?_
        refine j_q (qs_xor_ rfl rfl) ?_
        refine j_q (qs_call ent71 rfl rfl rfl (fun w' hw' => turn_con _ _ w' (by decide) (by decide))) ?_
        refine j_q (qs_call ent71 rfl rfl rfl (fun w' hw' => turn_con _ _ w' (by decide) (by decide))) ?_
        refine j_q (qs_xor_ rfl rfl) ?_
        refine j_q (qs_shr rfl rfl (by first | omega | (simp only [bnA] at *; omega))) ?_
        refine j_q (qs_xor_ rfl rfl) ?_
        refine j_draw ?_
        refine jq_q (qs_sub64 rfl rfl (by first | omega | (simp only [bnA] at *; omega))) ?_
        refine jq_q (qs_ix0 Tryd.underlying124 sz67 rfl rfl ⟨(by first | omega | (simp only [bnA] at *; omega)), (by first | omega | (simp only [bnA] at *; omega))⟩) ?_
        first
          | refine jq_q (qs_loadr8 (rd_cells hqm (by rw [hab]; simpa using hne hpne)) Tryd.underlying67 rfl (by first | omega | (simp only [bnA] at *; omega))) ?_
          | refine jq_q (qs_loadk 0 Tryd.underlying67 rfl rfl (by first | omega | (simp only [bnA] at *; omega))) ?_
          | refine jq_q (qs_loadk 1 Tryd.underlying67 rfl rfl (by first | omega | (simp only [bnA] at *; omega))) ?_
          | refine jq_q (qs_loadk 2 Tryd.underlying67 rfl rfl (by first | omega | (simp only [bnA] at *; omega))) ?_
          | refine jq_q (qs_loadk 3 Tryd.underlying67 rfl rfl (by first | omega | (simp only [bnA] at *; omega))) ?_
          | refine jq_q (qs_load 0 Tryd.underlying67 rfl rfl rfl rfl) ?_
          | refine jq_q (qs_load 1 Tryd.underlying67 rfl rfl rfl rfl) ?_
          | refine jq_q (qs_load 2 Tryd.underlying67 rfl rfl rfl rfl) ?_
          | refine jq_q (qs_load 3 Tryd.underlying67 rfl rfl rfl rfl) ?_
        refine jq_q (qs_add rfl rfl) ?_
        refine jq_q (qs_sub64 rfl rfl (by first | omega | (simp only [bnA] at *; omega))) ?_
        refine jq_q (qs_ix0 Tryd.underlying124 sz67 rfl rfl ⟨(by first | omega | (simp only [bnA] at *; omega)), (by first | omega | (simp only [bnA] at *; omega))⟩) ?_
        first
          | refine jq_q (qs_loadr8 (rd_cells hqm (by rw [hab]; simpa using hne hpne)) Tryd.underlying67 rfl (by first | omega | (simp only [bnA] at *; omega))) ?_
          | refine jq_q (qs_loadk 0 Tryd.underlying67 rfl rfl (by first | omega | (simp only [bnA] at *; omega))) ?_
          | refine jq_q (qs_loadk 1 Tryd.underlying67 rfl rfl (by first | omega | (simp only [bnA] at *; omega))) ?_
          | refine jq_q (qs_loadk 2 Tryd.underlying67 rfl rfl (by first | omega | (simp only [bnA] at *; omega))) ?_
          | refine jq_q (qs_loadk 3 Tryd.underlying67 rfl rfl (by first | omega | (simp only [bnA] at *; omega))) ?_
          | refine jq_q (qs_load 0 Tryd.underlying67 rfl rfl rfl rfl) ?_
          | refine jq_q (qs_load 1 Tryd.underlying67 rfl rfl rfl rfl) ?_
          | refine jq_q (qs_load 2 Tryd.underlying67 rfl rfl rfl rfl) ?_
          | refine jq_q (qs_load 3 Tryd.underlying67 rfl rfl rfl rfl) ?_
        refine jq_q (qs_add rfl rfl) ?_
        refine jq_q (qs_add rfl rfl) ?_
        refine jq_q (qs_ix0 Tryd.underlying124 sz67 rfl rfl ⟨(by first | omega | (simp only [bnA] at *; omega)), (by first | omega | (simp only [bnA] at *; omega))⟩) ?_
        refine jq_nil ?_
        first
          | refine j_storek 0 sz67 rfl rfl rfl (by first | omega | (simp only [bnA] at *; omega)) ?_
          | refine j_storek 1 sz67 rfl rfl rfl (by first | omega | (simp only [bnA] at *; omega)) ?_
          | refine j_storek 2 sz67 rfl rfl rfl (by first | omega | (simp only [bnA] at *; omega)) ?_
          | refine j_storek 3 sz67 rfl rfl rfl (by first | omega | (simp only [bnA] at *; omega)) ?_
          | refine j_store 0 sz67 rfl rfl rfl rfl (by simp) (by first | omega | (simp only [bnA] at *; omega)) ?_
          | refine j_store 1 sz67 rfl rfl rfl rfl (by simp) (by first | omega | (simp only [bnA] at *; omega)) ?_
          | refine j_store 2 sz67 rfl rfl rfl rfl (by simp) (by first | omega | (simp only [bnA] at *; omega)) ?_
          | refine j_store 3 sz67 rfl rfl rfl rfl (by simp) (by first | omega | (simp only [bnA] at *; omega)) ?_
        refine j_q (qs_add64 rfl rfl (by first | omega | (simp only [bnA] at *; omega))) ?_
        refine j_back rfl ?_
        have e15 : ((i : Int) - 15).toNat = i - 15 := by omega
        have e2 : ((i : Int) - 2).toNat = i - 2 := by omega
        have e16 : ((i : Int) - 16).toNat = i - 16 := by omega
        have e7 : ((i : Int) - 7).toNat = i - 7 := by omega
        rw [e15, e2, e16, e7]
        exact ⟨_, back_le hi1, i + 1, _, rfl, rfl, by omega, by omega, by simpa using hwl, rfl, sched_next hws hi0 (by omega)⟩
      · skip
        have hi1 : i = 64 := by
          simp only [bnA] at *
          omega
        subst hi1
        have hws64 : ws = sched q 64 := by rw [← hws, List.take_of_length_le (by omega)]
        refine j_q (qs_nil rfl) ?_
        first
          | refine j_q (qs_loadw 0 Tryd.underlying116 rfl sz116 rfl rfl (by first | rfl | (simp only [ks_length]; first | omega | exact hstl | exact hvl) | simp [ks_length])) ?_
          | refine j_q (qs_loadw 1 Tryd.underlying116 rfl sz116 rfl rfl (by first | rfl | (simp only [ks_length]; first | omega | exact hstl | exact hvl) | simp [ks_length])) ?_
          | refine j_q (qs_loadw 2 Tryd.underlying116 rfl sz116 rfl rfl (by first | rfl | (simp only [ks_length]; first | omega | exact hstl | exact hvl) | simp [ks_length])) ?_
          | refine j_q (qs_loadw 3 Tryd.underlying116 rfl sz116 rfl rfl (by first | rfl | (simp only [ks_length]; first | omega | exact hstl | exact hvl) | simp [ks_length])) ?_
        refine j_alloc zero116 (fun g68 hg68 hs68 => ?_)
        first
          | refine j_storew 0 sz116 rfl rfl (by first | rfl | (simp only [ks_length]; first | omega | exact hstl | exact hvl) | simp [ks_length]) ks_one rfl (by first | rfl | (simp only [ks_length]; first | omega | exact hstl | exact hvl) | simp [ks_length]) ?_
          | refine j_storew 1 sz116 rfl rfl (by first | rfl | (simp only [ks_length]; first | omega | exact hstl | exact hvl) | simp [ks_length]) ks_one rfl (by first | rfl | (simp only [ks_length]; first | omega | exact hstl | exact hvl) | simp [ks_length]) ?_
          | refine j_storew 2 sz116 rfl rfl (by first | rfl | (simp only [ks_length]; first | omega | exact hstl | exact hvl) | simp [ks_length]) ks_one rfl (by first | rfl | (simp only [ks_length]; first | omega | exact hstl | exact hvl) | simp [ks_length]) ?_
          | refine j_storew 3 sz116 rfl rfl (by first | rfl | (simp only [ks_length]; first | omega | exact hstl | exact hvl) | simp [ks_length]) ks_one rfl (by first | rfl | (simp only [ks_length]; first | omega | exact hstl | exact hvl) | simp [ks_length]) ?_
        refine j_q (qs_mc) ?_
        refine j_loop (fun m vs S' => ∃ (i : Nat) (v : List Int), vs = [.int .i64 i] ∧ S' = [[(g68, .cells (ks .u32 v).toArray 116 (0, 0))], [(g3, .cells (ks .u32 ws).toArray 124 (0, 0))], [(g1, .cells (ks .u32 kk64).toArray 124 (0, 0))], [(gs, .cells (ks .u32 st).toArray e (0, 0))]] ∧ i ≤ 64 ∧ m = 64 - i ∧ v = rounds kk64 (sched q 64) st i) ⟨_, 0, _, rfl, rfl, by omega, rfl, rfl⟩ ?_
        rintro m vs S' hlen ⟨i, v, rfl, rfl, hi, rfl, hv⟩
        have hvl : v.length = 8 := by rw [hv]; exact rounds_length hstl i
        clear hlen
        refine j_q (qs_lss rfl rfl) ?_
        refine j_cond rfl (fun hc3 => ?_) (fun hc3 => ?_)
        · skip
          have hi1 : i < 64 := by
            simp only [bnA] at *
            omega
          refine j_draw ?_
          refine jq_q (qs_ix0 Tryd.underlying116 sz67 rfl rfl ⟨(by first | omega | (simp only [bnA] at *; omega)), (by first | omega | (simp only [bnA] at *; omega))⟩) ?_
          first
            | refine jq_q (qs_loadr8 (rd_cells hqm (by rw [hab]; simpa using hne hpne)) Tryd.underlying67 rfl (by first | omega | (simp only [bnA] at *; omega))) ?_
            | refine jq_q (qs_loadk 0 Tryd.underlying67 rfl rfl (by first | omega | (simp only [bnA] at *; omega))) ?_
            | refine jq_q (qs_loadk 1 Tryd.underlying67 rfl rfl (by first | omega | (simp only [bnA] at *; omega))) ?_
            | refine jq_q (qs_loadk 2 Tryd.underlying67 rfl rfl (by first | omega | (simp only [bnA] at *; omega))) ?_
            | refine jq_q (qs_loadk 3 Tryd.underlying67 rfl rfl (by first | omega | (simp only [bnA] at *; omega))) ?_
            | refine jq_q (qs_load 0 Tryd.underlying67 rfl rfl rfl rfl) ?_
            | refine jq_q (qs_load 1 Tryd.underlying67 rfl rfl rfl rfl) ?_
            | refine jq_q (qs_load 2 Tryd.underlying67 rfl rfl rfl rfl) ?_
            | refine jq_q (qs_load 3 Tryd.underlying67 rfl rfl rfl rfl) ?_
          refine jq_q (qs_ix0 Tryd.underlying116 sz67 rfl rfl ⟨(by first | omega | (simp only [bnA] at *; omega)), (by first | omega | (simp only [bnA] at *; omega))⟩) ?_
          first
            | refine jq_q (qs_loadr8 (rd_cells hqm (by rw [hab]; simpa using hne hpne)) Tryd.underlying67 rfl (by first | omega | (simp only [bnA] at *; omega))) ?_
            | refine jq_q (qs_loadk 0 Tryd.underlying67 rfl rfl (by first | omega | (simp only [bnA] at *; omega))) ?_
            | refine jq_q (qs_loadk 1 Tryd.underlying67 rfl rfl (by first | omega | (simp only [bnA] at *; omega))) ?_
            | refine jq_q (qs_loadk 2 Tryd.underlying67 rfl rfl (by first | omega | (simp only [bnA] at *; omega))) ?_
            | refine jq_q (qs_loadk 3 Tryd.underlying67 rfl rfl (by first | omega | (simp only [bnA] at *; omega))) ?_
            | refine jq_q (qs_load 0 Tryd.underlying67 rfl rfl rfl rfl) ?_
            | refine jq_q (qs_load 1 Tryd.underlying67 rfl rfl rfl rfl) ?_
            | refine jq_q (qs_load 2 Tryd.underlying67 rfl rfl rfl rfl) ?_
            | refine jq_q (qs_load 3 Tryd.underlying67 rfl rfl rfl rfl) ?_
          refine jq_nil ?_
          refine j_draw ?_
          refine jq_q (qs_ix0 Tryd.underlying116 sz67 rfl rfl ⟨(by first | omega | (simp only [bnA] at *; omega)), (by first | omega | (simp only [bnA] at *; omega))⟩) ?_
          first
            | refine jq_q (qs_loadr8 (rd_cells hqm (by rw [hab]; simpa using hne hpne)) Tryd.underlying67 rfl (by first | omega | (simp only [bnA] at *; omega))) ?_
            | refine jq_q (qs_loadk 0 Tryd.underlying67 rfl rfl (by first | omega | (simp only [bnA] at *; omega))) ?_
            | refine jq_q (qs_loadk 1 Tryd.underlying67 rfl rfl (by first | omega | (simp only [bnA] at *; omega))) ?_
            | refine jq_q (qs_loadk 2 Tryd.underlying67 rfl rfl (by first | omega | (simp only [bnA] at *; omega))) ?_
            | refine jq_q (qs_loadk 3 Tryd.underlying67 rfl rfl (by first | omega | (simp only [bnA] at *; omega))) ?_
            | refine jq_q (qs_load 0 Tryd.underlying67 rfl rfl rfl rfl) ?_
            | refine jq_q (qs_load 1 Tryd.underlying67 rfl rfl rfl rfl) ?_
            | refine jq_q (qs_load 2 Tryd.underlying67 rfl rfl rfl rfl) ?_
            | refine jq_q (qs_load 3 Tryd.underlying67 rfl rfl rfl rfl) ?_
          refine jq_q (qs_call ent71 rfl rfl rfl (fun w' hw' => turn_con _ _ w' (by decide) (by decide))) ?_
          refine jq_q (qs_call ent71 rfl rfl rfl (fun w' hw' => turn_con _ _ w' (by decide) (by decide))) ?_
          refine jq_q (qs_xor_ rfl rfl) ?_
          refine jq_q (qs_call ent71 rfl rfl rfl (fun w' hw' => turn_con _ _ w' (by decide) (by decide))) ?_
          refine jq_q (qs_xor_ rfl rfl) ?_
          refine jq_q (qs_add rfl rfl) ?_
          refine jq_q (qs_ix0 Tryd.underlying116 sz67 rfl rfl ⟨(by first | omega | (simp only [bnA] at *; omega)), (by first | omega | (simp only [bnA] at *; omega))⟩) ?_
          first
            | refine jq_q (qs_loadr8 (rd_cells hqm (by rw [hab]; simpa using hne hpne)) Tryd.underlying67 rfl (by first | omega | (simp only [bnA] at *; omega))) ?_
            | refine jq_q (qs_loadk 0 Tryd.underlying67 rfl rfl (by first | omega | (simp only [bnA] at *; omega))) ?_
            | refine jq_q (qs_loadk 1 Tryd.underlying67 rfl rfl (by first | omega | (simp only [bnA] at *; omega))) ?_
            | refine jq_q (qs_loadk 2 Tryd.underlying67 rfl rfl (by first | omega | (simp only [bnA] at *; omega))) ?_
            | refine jq_q (qs_loadk 3 Tryd.underlying67 rfl rfl (by first | omega | (simp only [bnA] at *; omega))) ?_
            | refine jq_q (qs_load 0 Tryd.underlying67 rfl rfl rfl rfl) ?_
            | refine jq_q (qs_load 1 Tryd.underlying67 rfl rfl rfl rfl) ?_
            | refine jq_q (qs_load 2 Tryd.underlying67 rfl rfl rfl rfl) ?_
            | refine jq_q (qs_load 3 Tryd.underlying67 rfl rfl rfl rfl) ?_
          refine jq_q (qs_and_ rfl rfl) ?_
          refine jq_q (qs_inv rfl) ?_
          refine jq_q (qs_ix0 Tryd.underlying116 sz67 rfl rfl ⟨(by first | omega | (simp only [bnA] at *; omega)), (by first | omega | (simp only [bnA] at *; omega))⟩) ?_
          first
            | refine jq_q (qs_loadr8 (rd_cells hqm (by rw [hab]; simpa using hne hpne)) Tryd.underlying67 rfl (by first | omega | (simp only [bnA] at *; omega))) ?_
            | refine jq_q (qs_loadk 0 Tryd.underlying67 rfl rfl (by first | omega | (simp only [bnA] at *; omega))) ?_
            | refine jq_q (qs_loadk 1 Tryd.underlying67 rfl rfl (by first | omega | (simp only [bnA] at *; omega))) ?_
            | refine jq_q (qs_loadk 2 Tryd.underlying67 rfl rfl (by first | omega | (simp only [bnA] at *; omega))) ?_
            | refine jq_q (qs_loadk 3 Tryd.underlying67 rfl rfl (by first | omega | (simp only [bnA] at *; omega))) ?_
            | refine jq_q (qs_load 0 Tryd.underlying67 rfl rfl rfl rfl) ?_
            | refine jq_q (qs_load 1 Tryd.underlying67 rfl rfl rfl rfl) ?_
            | refine jq_q (qs_load 2 Tryd.underlying67 rfl rfl rfl rfl) ?_
            | refine jq_q (qs_load 3 Tryd.underlying67 rfl rfl rfl rfl) ?_
          refine jq_q (qs_and_ rfl rfl) ?_
          refine jq_q (qs_xor_ rfl rfl) ?_
          refine jq_q (qs_add rfl rfl) ?_
          refine jq_q (qs_ix0 Tryd.underlying124 sz67 rfl rfl ⟨(by first | omega | (simp only [bnA] at *; omega)), (by first | omega | (simp only [bnA] at *; omega))⟩) ?_
          first
            | refine jq_q (qs_loadr8 (rd_cells hqm (by rw [hab]; simpa using hne hpne)) Tryd.underlying67 rfl (by first | omega | (simp only [bnA] at *; omega))) ?_
            | refine jq_q (qs_loadk 0 Tryd.underlying67 rfl rfl (by first | omega | (simp only [bnA] at *; omega))) ?_
            | refine jq_q (qs_loadk 1 Tryd.underlying67 rfl rfl (by first | omega | (simp only [bnA] at *; omega))) ?_
            | refine jq_q (qs_loadk 2 Tryd.underlying67 rfl rfl (by first | omega | (simp only [bnA] at *; omega))) ?_
            | refine jq_q (qs_loadk 3 Tryd.underlying67 rfl rfl (by first | omega | (simp only [bnA] at *; omega))) ?_
            | refine jq_q (qs_load 0 Tryd.underlying67 rfl rfl rfl rfl) ?_
            | refine jq_q (qs_load 1 Tryd.underlying67 rfl rfl rfl rfl) ?_
            | refine jq_q (qs_load 2 Tryd.underlying67 rfl rfl rfl rfl) ?_
            | refine jq_q (qs_load 3 Tryd.underlying67 rfl rfl rfl rfl) ?_
          refine jq_q (qs_add rfl rfl) ?_
          refine jq_q (qs_ix0 Tryd.underlying124 sz67 rfl rfl ⟨(by first | omega | (simp only [bnA] at *; omega)), (by first | omega | (simp only [bnA] at *; omega))⟩) ?_
          first
            | refine jq_q (qs_loadr8 (rd_cells hqm (by rw [hab]; simpa using hne hpne)) Tryd.underlying67 rfl (by first | omega | (simp only [bnA] at *; omega))) ?_
            | refine jq_q (qs_loadk 0 Tryd.underlying67 rfl rfl (by first | omega | (simp only [bnA] at *; omega))) ?_
            | refine jq_q (qs_loadk 1 Tryd.underlying67 rfl rfl (by first | omega | (simp only [bnA] at *; omega))) ?_
            | refine jq_q (qs_loadk 2 Tryd.underlying67 rfl rfl (by first | omega | (simp only [bnA] at *; omega))) ?_
            | refine jq_q (qs_loadk 3 Tryd.underlying67 rfl rfl (by first | omega | (simp only [bnA] at *; omega))) ?_
            | refine jq_q (qs_load 0 Tryd.underlying67 rfl rfl rfl rfl) ?_
            | refine jq_q (qs_load 1 Tryd.underlying67 rfl rfl rfl rfl) ?_
            | refine jq_q (qs_load 2 Tryd.underlying67 rfl rfl rfl rfl) ?_
            | refine jq_q (qs_load 3 Tryd.underlying67 rfl rfl rfl rfl) ?_
          refine jq_q (qs_add rfl rfl) ?_
          refine jq_nil ?_
          refine j_draw ?_
          refine jq_q (qs_call ent71 rfl rfl rfl (fun w' hw' => turn_con _ _ w' (by decide) (by decide))) ?_
          refine jq_q (qs_call ent71 rfl rfl rfl (fun w' hw' => turn_con _ _ w' (by decide) (by decide))) ?_
          refine jq_q (qs_xor_ rfl rfl) ?_
          refine jq_q (qs_call ent71 rfl rfl rfl (fun w' hw' => turn_con _ _ w' (by decide) (by decide))) ?_
          refine jq_q (qs_xor_ rfl rfl) ?_
          refine jq_q (qs_ix0 Tryd.underlying116 sz67 rfl rfl ⟨(by first | omega | (simp only [bnA] at *; omega)), (by first | omega | (simp only [bnA] at *; omega))⟩) ?_
          first
            | refine jq_q (qs_loadr8 (rd_cells hqm (by rw [hab]; simpa using hne hpne)) Tryd.underlying67 rfl (by first | omega | (simp only [bnA] at *; omega))) ?_
            | refine jq_q (qs_loadk 0 Tryd.underlying67 rfl rfl (by first | omega | (simp only [bnA] at *; omega))) ?_
            | refine jq_q (qs_loadk 1 Tryd.underlying67 rfl rfl (by first | omega | (simp only [bnA] at *; omega))) ?_
            | refine jq_q (qs_loadk 2 Tryd.underlying67 rfl rfl (by first | omega | (simp only [bnA] at *; omega))) ?_
            | refine jq_q (qs_loadk 3 Tryd.underlying67 rfl rfl (by first | omega | (simp only [bnA] at *; omega))) ?_
            | refine jq_q (qs_load 0 Tryd.underlying67 rfl rfl rfl rfl) ?_
            | refine jq_q (qs_load 1 Tryd.underlying67 rfl rfl rfl rfl) ?_
            | refine jq_q (qs_load 2 Tryd.underlying67 rfl rfl rfl rfl) ?_
            | refine jq_q (qs_load 3 Tryd.underlying67 rfl rfl rfl rfl) ?_
          refine jq_q (qs_and_ rfl rfl) ?_
          refine jq_q (qs_ix0 Tryd.underlying116 sz67 rfl rfl ⟨(by first | omega | (simp only [bnA] at *; omega)), (by first | omega | (simp only [bnA] at *; omega))⟩) ?_
          first
            | refine jq_q (qs_loadr8 (rd_cells hqm (by rw [hab]; simpa using hne hpne)) Tryd.underlying67 rfl (by first | omega | (simp only [bnA] at *; omega))) ?_
            | refine jq_q (qs_loadk 0 Tryd.underlying67 rfl rfl (by first | omega | (simp only [bnA] at *; omega))) ?_
            | refine jq_q (qs_loadk 1 Tryd.underlying67 rfl rfl (by first | omega | (simp only [bnA] at *; omega))) ?_
            | refine jq_q (qs_loadk 2 Tryd.underlying67 rfl rfl (by first | omega | (simp only [bnA] at *; omega))) ?_
            | refine jq_q (qs_loadk 3 Tryd.underlying67 rfl rfl (by first | omega | (simp only [bnA] at *; omega))) ?_
            | refine jq_q (qs_load 0 Tryd.underlying67 rfl rfl rfl rfl) ?_
            | refine jq_q (qs_load 1 Tryd.underlying67 rfl rfl rfl rfl) ?_
            | refine jq_q (qs_load 2 Tryd.underlying67 rfl rfl rfl rfl) ?_
            | refine jq_q (qs_load 3 Tryd.underlying67 rfl rfl rfl rfl) ?_
          refine jq_q (qs_and_ rfl rfl) ?_
          refine jq_q (qs_xor_ rfl rfl) ?_
          refine jq_q (qs_ix0 Tryd.underlying116 sz67 rfl rfl ⟨(by first | omega | (simp only [bnA] at *; omega)), (by first | omega | (simp only [bnA] at *; omega))⟩) ?_
          first
            | refine jq_q (qs_loadr8 (rd_cells hqm (by rw [hab]; simpa using hne hpne)) Tryd.underlying67 rfl (by first | omega | (simp only [bnA] at *; omega))) ?_
            | refine jq_q (qs_loadk 0 Tryd.underlying67 rfl rfl (by first | omega | (simp only [bnA] at *; omega))) ?_
            | refine jq_q (qs_loadk 1 Tryd.underlying67 rfl rfl (by first | omega | (simp only [bnA] at *; omega))) ?_
            | refine jq_q (qs_loadk 2 Tryd.underlying67 rfl rfl (by first | omega | (simp only [bnA] at *; omega))) ?_
            | refine jq_q (qs_loadk 3 Tryd.underlying67 rfl rfl (by first | omega | (simp only [bnA] at *; omega))) ?_
            | refine jq_q (qs_load 0 Tryd.underlying67 rfl rfl rfl rfl) ?_
            | refine jq_q (qs_load 1 Tryd.underlying67 rfl rfl rfl rfl) ?_
            | refine jq_q (qs_load 2 Tryd.underlying67 rfl rfl rfl rfl) ?_
            | refine jq_q (qs_load 3 Tryd.underlying67 rfl rfl rfl rfl) ?_
          refine jq_q (qs_ix0 Tryd.underlying116 sz67 rfl rfl ⟨(by first | omega | (simp only [bnA] at *; omega)), (by first | omega | (simp only [bnA] at *; omega))⟩) ?_
          first
            | refine jq_q (qs_loadr8 (rd_cells hqm (by rw [hab]; simpa using hne hpne)) Tryd.underlying67 rfl (by first | omega | (simp only [bnA] at *; omega))) ?_
            | refine jq_q (qs_loadk 0 Tryd.underlying67 rfl rfl (by first | omega | (simp only [bnA] at *; omega))) ?_
            | refine jq_q (qs_loadk 1 Tryd.underlying67 rfl rfl (by first | omega | (simp only [bnA] at *; omega))) ?_
            | refine jq_q (qs_loadk 2 Tryd.underlying67 rfl rfl (by first | omega | (simp only [bnA] at *; omega))) ?_
            | refine jq_q (qs_loadk 3 Tryd.underlying67 rfl rfl (by first | omega | (simp only [bnA] at *; omega))) ?_
            | refine jq_q (qs_load 0 Tryd.underlying67 rfl rfl rfl rfl) ?_
            | refine jq_q (qs_load 1 Tryd.underlying67 rfl rfl rfl rfl) ?_
            | refine jq_q (qs_load 2 Tryd.underlying67 rfl rfl rfl rfl) ?_
            | refine jq_q (qs_load 3 Tryd.underlying67 rfl rfl rfl rfl) ?_
          refine jq_q (qs_and_ rfl rfl) ?_
          refine jq_q (qs_xor_ rfl rfl) ?_
          refine jq_q (qs_add rfl rfl) ?_
          refine jq_nil ?_
          refine j_q (qs_add rfl rfl) ?_
          refine j_q (qs_ix0 Tryd.underlying116 sz67 rfl rfl ⟨(by first | omega | (simp only [bnA] at *; omega)), (by first | omega | (simp only [bnA] at *; omega))⟩) ?_
          first
            | refine j_q (qs_loadr8 (rd_cells hqm (by rw [hab]; simpa using hne hpne)) Tryd.underlying67 rfl (by first | omega | (simp only [bnA] at *; omega))) ?_
            | refine j_q (qs_loadk 0 Tryd.underlying67 rfl rfl (by first | omega | (simp only [bnA] at *; omega))) ?_
            | refine j_q (qs_loadk 1 Tryd.underlying67 rfl rfl (by first | omega | (simp only [bnA] at *; omega))) ?_
            | refine j_q (qs_loadk 2 Tryd.underlying67 rfl rfl (by first | omega | (simp only [bnA] at *; omega))) ?_
            | refine j_q (qs_loadk 3 Tryd.underlying67 rfl rfl (by first | omega | (simp only [bnA] at *; omega))) ?_
            | refine j_q (qs_load 0 Tryd.underlying67 rfl rfl rfl rfl) ?_
            | refine j_q (qs_load 1 Tryd.underlying67 rfl rfl rfl rfl) ?_
            | refine j_q (qs_load 2 Tryd.underlying67 rfl rfl rfl rfl) ?_
            | refine j_q (qs_load 3 Tryd.underlying67 rfl rfl rfl rfl) ?_
          refine j_q (qs_ix0 Tryd.underlying116 sz67 rfl rfl ⟨(by first | omega | (simp only [bnA] at *; omega)), (by first | omega | (simp only [bnA] at *; omega))⟩) ?_
          first
            | refine j_q (qs_loadr8 (rd_cells hqm (by rw [hab]; simpa using hne hpne)) Tryd.underlying67 rfl (by first | omega | (simp only [bnA] at *; omega))) ?_
            | refine j_q (qs_loadk 0 Tryd.underlying67 rfl rfl (by first | omega | (simp only [bnA] at *; omega))) ?_
            | refine j_q (qs_loadk 1 Tryd.underlying67 rfl rfl (by first | omega | (simp only [bnA] at *; omega))) ?_
            | refine j_q (qs_loadk 2 Tryd.underlying67 rfl rfl (by first | omega | (simp only [bnA] at *; omega))) ?_
            | refine j_q (qs_loadk 3 Tryd.underlying67 rfl rfl (by first | omega | (simp only [bnA] at *; omega))) ?_
            | refine j_q (qs_load 0 Tryd.underlying67 rfl rfl rfl rfl) ?_
            | refine j_q (qs_load 1 Tryd.underlying67 rfl rfl rfl rfl) ?_
            | refine j_q (qs_load 2 Tryd.underlying67 rfl rfl rfl rfl) ?_
            | refine j_q (qs_load 3 Tryd.underlying67 rfl rfl rfl rfl) ?_
          refine j_q (qs_ix0 Tryd.underlying116 sz67 rfl rfl ⟨(by first | omega | (simp only [bnA] at *; omega)), (by first | omega | (simp only [bnA] at *; omega))⟩) ?_
          first
            | refine j_q (qs_loadr8 (rd_cells hqm (by rw [hab]; simpa using hne hpne)) Tryd.underlying67 rfl (by first | omega | (simp only [bnA] at *; omega))) ?_
            | refine j_q (qs_loadk 0 Tryd.underlying67 rfl rfl (by first | omega | (simp only [bnA] at *; omega))) ?_
            | refine j_q (qs_loadk 1 Tryd.underlying67 rfl rfl (by first | omega | (simp only [bnA] at *; omega))) ?_
            | refine j_q (qs_loadk 2 Tryd.underlying67 rfl rfl (by first | omega | (simp only [bnA] at *; omega))) ?_
            | refine j_q (qs_loadk 3 Tryd.underlying67 rfl rfl (by first | omega | (simp only [bnA] at *; omega))) ?_
            | refine j_q (qs_load 0 Tryd.underlying67 rfl rfl rfl rfl) ?_
            | refine j_q (qs_load 1 Tryd.underlying67 rfl rfl rfl rfl) ?_
            | refine j_q (qs_load 2 Tryd.underlying67 rfl rfl rfl rfl) ?_
            | refine j_q (qs_load 3 Tryd.underlying67 rfl rfl rfl rfl) ?_
          refine j_q (qs_ix0 Tryd.underlying116 sz67 rfl rfl ⟨(by first | omega | (simp only [bnA] at *; omega)), (by first | omega | (simp only [bnA] at *; omega))⟩) ?_
          first
            | refine j_q (qs_loadr8 (rd_cells hqm (by rw [hab]; simpa using hne hpne)) Tryd.underlying67 rfl (by first | omega | (simp only [bnA] at *; omega))) ?_
            | refine j_q (qs_loadk 0 Tryd.underlying67 rfl rfl (by first | omega | (simp only [bnA] at *; omega))) ?_
            | refine j_q (qs_loadk 1 Tryd.underlying67 rfl rfl (by first | omega | (simp only [bnA] at *; omega))) ?_
            | refine j_q (qs_loadk 2 Tryd.underlying67 rfl rfl (by first | omega | (simp only [bnA] at *; omega))) ?_
            | refine j_q (qs_loadk 3 Tryd.underlying67 rfl rfl (by first | omega | (simp only [bnA] at *; omega))) ?_
            | refine j_q (qs_load 0 Tryd.underlying67 rfl rfl rfl rfl) ?_
            | refine j_q (qs_load 1 Tryd.underlying67 rfl rfl rfl rfl) ?_
            | refine j_q (qs_load 2 Tryd.underlying67 rfl rfl rfl rfl) ?_
            | refine j_q (qs_load 3 Tryd.underlying67 rfl rfl rfl rfl) ?_
          refine j_q (qs_add rfl rfl) ?_
          refine j_q (qs_ix0 Tryd.underlying116 sz67 rfl rfl ⟨(by first | omega | (simp only [bnA] at *; omega)), (by first | omega | (simp only [bnA] at *; omega))⟩) ?_
          first
            | refine j_q (qs_loadr8 (rd_cells hqm (by rw [hab]; simpa using hne hpne)) Tryd.underlying67 rfl (by first | omega | (simp only [bnA] at *; omega))) ?_
            | refine j_q (qs_loadk 0 Tryd.underlying67 rfl rfl (by first | omega | (simp only [bnA] at *; omega))) ?_
            | refine j_q (qs_loadk 1 Tryd.underlying67 rfl rfl (by first | omega | (simp only [bnA] at *; omega))) ?_
            | refine j_q (qs_loadk 2 Tryd.underlying67 rfl rfl (by first | omega | (simp only [bnA] at *; omega))) ?_
            | refine j_q (qs_loadk 3 Tryd.underlying67 rfl rfl (by first | omega | (simp only [bnA] at *; omega))) ?_
            | refine j_q (qs_load 0 Tryd.underlying67 rfl rfl rfl rfl) ?_
            | refine j_q (qs_load 1 Tryd.underlying67 rfl rfl rfl rfl) ?_
            | refine j_q (qs_load 2 Tryd.underlying67 rfl rfl rfl rfl) ?_
            | refine j_q (qs_load 3 Tryd.underlying67 rfl rfl rfl rfl) ?_
          refine j_q (qs_ix0 Tryd.underlying116 sz67 rfl rfl ⟨(by first | omega | (simp only [bnA] at *; omega)), (by first | omega | (simp only [bnA] at *; omega))⟩) ?_
          first
            | refine j_q (qs_loadr8 (rd_cells hqm (by rw [hab]; simpa using hne hpne)) Tryd.underlying67 rfl (by first | omega | (simp only [bnA] at *; omega))) ?_
            | refine j_q (qs_loadk 0 Tryd.underlying67 rfl rfl (by first | omega | (simp only [bnA] at *; omega))) ?_
            | refine j_q (qs_loadk 1 Tryd.underlying67 rfl rfl (by first | omega | (simp only [bnA] at *; omega))) ?_
            | refine j_q (qs_loadk 2 Tryd.underlying67 rfl rfl (by first | omega | (simp only [bnA] at *; omega))) ?_
            | refine j_q (qs_loadk 3 Tryd.underlying67 rfl rfl (by first | omega | (simp only [bnA] at *; omega))) ?_
            | refine j_q (qs_load 0 Tryd.underlying67 rfl rfl rfl rfl) ?_
            | refine j_q (qs_load 1 Tryd.underlying67 rfl rfl rfl rfl) ?_
            | refine j_q (qs_load 2 Tryd.underlying67 rfl rfl rfl rfl) ?_
            | refine j_q (qs_load 3 Tryd.underlying67 rfl rfl rfl rfl) ?_
          refine j_q (qs_ix0 Tryd.underlying116 sz67 rfl rfl ⟨(by first | omega | (simp only [bnA] at *; omega)), (by first | omega | (simp only [bnA] at *; omega))⟩) ?_
          first
            | refine j_q (qs_loadr8 (rd_cells hqm (by rw [hab]; simpa using hne hpne)) Tryd.underlying67 rfl (by first | omega | (simp only [bnA] at *; omega))) ?_
            | refine j_q (qs_loadk 0 Tryd.underlying67 rfl rfl (by first | omega | (simp only [bnA] at *; omega))) ?_
            | refine j_q (qs_loadk 1 Tryd.underlying67 rfl rfl (by first | omega | (simp only [bnA] at *; omega))) ?_
            | refine j_q (qs_loadk 2 Tryd.underlying67 rfl rfl (by first | omega | (simp only [bnA] at *; omega))) ?_
            | refine j_q (qs_loadk 3 Tryd.underlying67 rfl rfl (by first | omega | (simp only [bnA] at *; omega))) ?_
            | refine j_q (qs_load 0 Tryd.underlying67 rfl rfl rfl rfl) ?_
            | refine j_q (qs_load 1 Tryd.underlying67 rfl rfl rfl rfl) ?_
            | refine j_q (qs_load 2 Tryd.underlying67 rfl rfl rfl rfl) ?_
            | refine j_q (qs_load 3 Tryd.underlying67 rfl rfl rfl rfl) ?_
          refine j_q (qs_run (v := .agg (ks .u32 (rnd (kk64.getD i 0) (ws.getD i 0) v)).toArray) (fun w => by kernel_rfl)) ?_
          first
            | refine j_storew 0 sz116 rfl rfl (by first | rfl | (simp only [ks_length]; first | omega | exact hstl | exact hvl) | simp [ks_length]) ks_one rfl (by first | rfl | (simp only [ks_length]; first | omega | exact hstl | exact hvl) | simp [ks_length]) ?_
            | refine j_storew 1 sz116 rfl rfl (by first | rfl | (simp only [ks_length]; first | omega | exact hstl | exact hvl) | simp [ks_length]) ks_one rfl (by first | rfl | (simp only [ks_length]; first | omega | exact hstl | exact hvl) | simp [ks_length]) ?_
            | refine j_storew 2 sz116 rfl rfl (by first | rfl | (simp only [ks_length]; first | omega | exact hstl | exact hvl) | simp [ks_length]) ks_one rfl (by first | rfl | (simp only [ks_length]; first | omega | exact hstl | exact hvl) | simp [ks_length]) ?_
            | refine j_storew 3 sz116 rfl rfl (by first | rfl | (simp only [ks_length]; first | omega | exact hstl | exact hvl) | simp [ks_length]) ks_one rfl (by first | rfl | (simp only [ks_length]; first | omega | exact hstl | exact hvl) | simp [ks_length]) ?_
          refine j_q (qs_add64 rfl rfl (by first | omega | (simp only [bnA] at *; omega))) ?_
          refine j_back rfl ?_
          refine ⟨_, back_le hi1, i + 1, _, rfl, rfl, by omega, rfl, ?_⟩
          rw [rounds, ← hv, ← hws64]
        · skip
          have hi1 : i = 64 := by
            simp only [bnA] at *
            omega
          subst hi1
          have hv64 : v = rounds kk64 (sched q 64) st 64 := hv
          refine j_q (qs_mc) ?_
          refine j_loop (fun m vs S' => ∃ (i : Nat) (s' : List Int), vs = [.int .i64 i] ∧ S' = [[(g68, .cells (ks .u32 (rounds kk64 (sched q 64) st 64)).toArray 116 (0, 0))], [(g3, .cells (ks .u32 ws).toArray 124 (0, 0))], [(g1, .cells (ks .u32 kk64).toArray 124 (0, 0))], [(gs, .cells (ks .u32 s').toArray e (0, 0))]] ∧ i ≤ 8 ∧ m = 8 - i ∧ s' = adds st (rounds kk64 (sched q 64) st 64) i) ⟨_, 0, _, rfl, (by rw [← hv64]; rfl), by omega, rfl, rfl⟩ ?_
          rintro m vs S' hlen ⟨i, s', rfl, rfl, hi, rfl, hs'⟩
          have hsl : s'.length = 8 := by rw [hs', adds_length, hstl]
          have hrl : (rounds kk64 (sched q 64) st 64).length = 8 := rounds_length hstl 64
          clear hlen
          refine j_q (qs_lss rfl rfl) ?_
          refine j_cond rfl (fun hc4 => ?_) (fun hc4 => ?_)
          · skip
            have hi1 : i < 8 := by
              simp only [bnA] at *
              omega
            refine j_draw ?_
            refine jq_q (qs_nil rfl) ?_
            refine jq_q (qs_ix0 Tryd.underlying116 sz67 rfl rfl ⟨(by first | omega | (simp only [bnA] at *; omega)), (by first | omega | (simp only [bnA] at *; omega))⟩) ?_
            first
              | refine jq_q (qs_loadr8 (rd_cells hqm (by rw [hab]; simpa using hne hpne)) Tryd.underlying67 rfl (by first | omega | (simp only [bnA] at *; omega))) ?_
              | refine jq_q (qs_loadk 0 Tryd.underlying67 rfl rfl (by first | omega | (simp only [bnA] at *; omega))) ?_
              | refine jq_q (qs_loadk 1 Tryd.underlying67 rfl rfl (by first | omega | (simp only [bnA] at *; omega))) ?_
              | refine jq_q (qs_loadk 2 Tryd.underlying67 rfl rfl (by first | omega | (simp only [bnA] at *; omega))) ?_
              | refine jq_q (qs_loadk 3 Tryd.underlying67 rfl rfl (by first | omega | (simp only [bnA] at *; omega))) ?_
              | refine jq_q (qs_load 0 Tryd.underlying67 rfl rfl rfl rfl) ?_
              | refine jq_q (qs_load 1 Tryd.underlying67 rfl rfl rfl rfl) ?_
              | refine jq_q (qs_load 2 Tryd.underlying67 rfl rfl rfl rfl) ?_
              | refine jq_q (qs_load 3 Tryd.underlying67 rfl rfl rfl rfl) ?_
            refine jq_q (qs_ix0 Tryd.underlying116 sz67 rfl rfl ⟨(by first | omega | (simp only [bnA] at *; omega)), (by first | omega | (simp only [bnA] at *; omega))⟩) ?_
            first
              | refine jq_q (qs_loadr8 (rd_cells hqm (by rw [hab]; simpa using hne hpne)) Tryd.underlying67 rfl (by first | omega | (simp only [bnA] at *; omega))) ?_
              | refine jq_q (qs_loadk 0 Tryd.underlying67 rfl rfl (by first | omega | (simp only [bnA] at *; omega))) ?_
              | refine jq_q (qs_loadk 1 Tryd.underlying67 rfl rfl (by first | omega | (simp only [bnA] at *; omega))) ?_
              | refine jq_q (qs_loadk 2 Tryd.underlying67 rfl rfl (by first | omega | (simp only [bnA] at *; omega))) ?_
              | refine jq_q (qs_loadk 3 Tryd.underlying67 rfl rfl (by first | omega | (simp only [bnA] at *; omega))) ?_
              | refine jq_q (qs_load 0 Tryd.underlying67 rfl rfl rfl rfl) ?_
              | refine jq_q (qs_load 1 Tryd.underlying67 rfl rfl rfl rfl) ?_
              | refine jq_q (qs_load 2 Tryd.underlying67 rfl rfl rfl rfl) ?_
              | refine jq_q (qs_load 3 Tryd.underlying67 rfl rfl rfl rfl) ?_
            refine jq_q (qs_add rfl rfl) ?_
            refine jq_q (qs_nil rfl) ?_
            refine jq_q (qs_ix0 Tryd.underlying116 sz67 rfl rfl ⟨(by first | omega | (simp only [bnA] at *; omega)), (by first | omega | (simp only [bnA] at *; omega))⟩) ?_
            refine jq_nil ?_
            first
              | refine j_storek 0 sz67 rfl rfl rfl (by first | omega | (simp only [bnA] at *; omega)) ?_
              | refine j_storek 1 sz67 rfl rfl rfl (by first | omega | (simp only [bnA] at *; omega)) ?_
              | refine j_storek 2 sz67 rfl rfl rfl (by first | omega | (simp only [bnA] at *; omega)) ?_
              | refine j_storek 3 sz67 rfl rfl rfl (by first | omega | (simp only [bnA] at *; omega)) ?_
              | refine j_store 0 sz67 rfl rfl rfl rfl (by simp) (by first | omega | (simp only [bnA] at *; omega)) ?_
              | refine j_store 1 sz67 rfl rfl rfl rfl (by simp) (by first | omega | (simp only [bnA] at *; omega)) ?_
              | refine j_store 2 sz67 rfl rfl rfl rfl (by simp) (by first | omega | (simp only [bnA] at *; omega)) ?_
              | refine j_store 3 sz67 rfl rfl rfl rfl (by simp) (by first | omega | (simp only [bnA] at *; omega)) ?_
            refine j_q (qs_add64 rfl rfl (by first | omega | (simp only [bnA] at *; omega))) ?_
            refine j_back rfl ?_
            refine ⟨_, back_le hi1, i + 1, _, rfl, rfl, by omega, rfl, ?_⟩
            rw [adds, ← hs']
            rfl
          · skip
            have hi1 : i = 8 := by
              simp only [bnA] at *
              omega
            subst hi1
            refine j_q (qs_cutl (a := 64) (z := q.length) Tryd.underlying22 sz5 rfl ⟨_, rfl⟩ rfl (by first | omega | (simp only [bnA] at *; omega)) (by first | omega | (simp only [bnA] at *; omega))) ?_
            refine j_sub (S' := [[(g3, .cells (ks .u32 ws).toArray 124 (0, 0))], [(g1, .cells (ks .u32 kk64).toArray 124 (0, 0))], [(gs, .cells (ks .u32 s').toArray e (0, 0))]]) (by exact List.sublist_cons_self _ _) ?_
            refine j_back rfl ?_
            have hcell : Cells w (if c' = 64 then a' else a'.add 64) (ints (q.drop 64)) := by
              split
              · have : q.drop 64 = [] := List.drop_of_length_le (by omega)
                rw [this]
                intro j u hu
                simp [ints] at hu
              · have := cells_drop hqm 64
                rwa [ints_drop] at this
            refine ⟨p.length - 64 * (n + 1), (by omega), n + 1, q.drop 64, if c' = 64 then a' else a'.add 64, c' - 64, s', ws, ?_, rfl, by omega, by rw [hq, List.drop_drop]; congr 1, by rw [List.length_drop]; omega, hcell, ?_, ?_, hwl, rfl⟩
            · show [Value.slice (if c' = 64 then some a' else some (a'.add 64)) (q.length - 64) (c' - 64)] = _
              rw [List.length_drop]
              split <;> rfl
            · split
              · exact hab
              · rw [add_block]; exact hab
            · rw [blocks_succ, ← hq, ← hst, hs']
              rfl
  · skip
    have hq64 : q.length < 64 := by
      simp only [bnA] at *
      omega
    refine j_sub (S' := [[(gs, .cells (ks .u32 st).toArray e (0, 0))]]) (by exact (List.sublist_cons_self _ _).trans (List.sublist_cons_self _ _)) ?_
    refine j_ret_con (vs := []) (fun w' hw' => trivial) ?_
    refine ⟨rfl, ?_⟩
    rw [hst]
    have : p.length / 64 = n := by omega
    rw [this]
end Go.Proofs.YtomajiicjinekaaDoor
/-! Sha3 -/
namespace Go.Proofs.YtomajiicjinekaaDoor
open Go Go.Sx
set_option maxRecDepth 100000
set_option maxHeartbeats 4000000
set_option linter.unusedVariables false
set_option linter.unusedSimpArgs false
attribute [local irreducible] J JQ QS Con W opW
theorem ho_len8 {e : TypeId} {q : List UInt8} {x : Int} {v : Value} {c : SH} (h : Sx.Own e 1 (ints q) v c) : Sx.Own e 1 (ints (q ++ len8 x 0)) v c := by simpa [len8] using h
theorem ne_own {a : Addr} {p : List UInt8} {g : Nat} {w : World} (h : Cells w a (ints p)) (hg : w.heap.size ≤ g) (hp : p ≠ []) : a.block ≠ g := by
  intro e
  have := h 0 _ (ints_get_lt (List.length_pos_iff.2 hp))
  rw [add_zero_] at this
  unfold World.cell? at this
  split at this
  · rename_i h1
    have := lt_of_get h1
    omega
  · cases this
theorem own128 {e : TypeId} {p : List UInt8} {v : Value} {c : SH} {l : List UInt8} (h : Sx.Own e 1 (ints p ++ ints l) v c) : Sx.Own e 1 (ints (p ++ l)) v c := by rwa [ints_append]
theorem rep_succ (p : List UInt8) (j : Nat) : p ++ List.replicate j (0 : UInt8) ++ [0] = p ++ List.replicate (j + 1) 0 := by
  rw [List.append_assoc, ← List.replicate_succ']
theorem outs_step {s : List Int} {h : List UInt8} {i : Nat} (ht : h.take i = outs s i) (hi : i < h.length) : (h.set i (by8 ((s.getD (i / 4) 0).fdiv (2 ^ (24 - 8 * (i % 4)))))).take (i + 1) = outs s (i + 1) := by
  rw [take_set_succ hi, ht, outs]
theorem len8_succ (p : List UInt8) (x : Int) (i : Nat) : p ++ len8 x i ++ [by8 (x.fdiv (2 ^ (56 - 8 * i)))] = p ++ len8 x (i + 1) := by
  rw [len8, List.append_assoc]
theorem ended_eq (s : List Int) (p : List UInt8) (x : Int) : ended s p x = outs (blocks ((p.length + zc p.length + 9) / 64) (p ++ [128] ++ List.replicate (zc p.length) 0 ++ len8 x 8) s) 32 := by
  unfold ended pad
  simp only [List.append_assoc]
theorem shift24 (i : Nat) : min (24 - 8 * ((i : Int) % 4)).toNat IntKind.u32.bits = 24 - 8 * (i % 4) := by
  show min _ 32 = _
  omega
theorem shift56 (i : Nat) (h : i < 8) : min (56 - 8 * (i : Int)).toNat IntKind.u64.bits = 56 - 8 * i := by
  show min _ 64 = _
  omega
theorem div4 (i : Nat) : ((i : Int) / 4).toNat = i / 4 := by omega
theorem bclone_con (p : List UInt8) (a : Addr) (c : Nat) (w : World) (hpm : p.length ≤ 35184372088832) (hpc : Cells w a (ints p)) : Con Tryd.prog 18 [.slice (some a) p.length c] w [] fun v S' => ∃ c', S' = [c'] ∧ Sx.Own 5 1 (ints p) v c' := by
  refine con_of_tree mix Tryd.func18 T18_ok (by kernel_rfl) ?_
  unfold T18
  refine j_q (qs_ac) ?_
  refine j_q (qs_slnil Tryd.underlying22 rfl) ?_
  refine j_cond rfl (fun hc0 => ?_) (fun hc0 => ?_)
  · skip
    cases hc0
  · skip
    refine j_lit (vs := []) Tryd.underlying22 sz5 zero5 rfl (by simp [oneV]) ⟨rfl, by decide⟩ (fun g3 v3 c3 hv3 hc3 ho3 => ?_)
    subst hv3 hc3
    refine j_append 0 Tryd.underlying22 Tryd.underlying22 (.inr ⟨_, rfl⟩) sb5 zero5 rfl ho3 rfl (src_sl (rd_cells hpc (by simp)) (by simp [ints_length])) ints_one ⟨(by simp [ints_length]; omega), (by decide)⟩ (fun v4 c4 ho4 => ?_)
    refine j_sub (S' := [c4]) (by simp) ?_
    refine j_ret_con (vs := [_]) (fun w' hw' => ⟨rfl, trivial⟩) ?_
    exact ⟨_, rfl, ho4⟩
theorem ended_con (s : List Int) (rest : List UInt8) (a : Addr) (c : Nat) (n0 x : Int) (w : World) (hs : s.length = 8) (hrm : rest.length ≤ 17592186044416) (hpc : Cells w a (ints rest)) (hx : x = IntKind.u64.wrap (n0 * 8)) : Con Tryd.prog 62 [.agg (ks .u32 s).toArray, .slice (some a) rest.length c, .int .u64 n0] w [] fun v _ => v = .agg (ints (ended s rest x)).toArray := by
  refine con_of_tree mix Tryd.func62 T62_ok (by kernel_rfl) ?_
  unfold T62
  have hz64 := zc_lt rest.length
  refine j_box rfl (fun g0 hg0 hs0 => ?_)
  refine j_alloc zero97 (fun g1 hg1 hs1 => ?_)
  refine j_call0 ent18 rfl rfl rfl (fun w' hw' => bclone_con rest a c w' (by omega) (rd_w (rd_cells hpc (by simp)) hw')) (fun u S2 hu => ?_)
  obtain ⟨c2, rfl, ho2⟩ := hu
  refine j_lit (vs := [.int .u8 _]) Tryd.underlying22 sz5 zero5 rfl (by simp [oneV]) ⟨rfl, by decide⟩ (fun g3 v3 c3 hv3 hc3 ho3 => ?_)
  subst hv3 hc3
  refine j_append 1 Tryd.underlying22 Tryd.underlying22 (.inr ⟨_, rfl⟩) sb5 zero5 rfl ho2 rfl (src_sl (rd_own 0 rfl (n := 1) rfl) rfl) (by simp [oneV]) ⟨(by simp [ints_length]; omega), (by decide)⟩ (fun v4 c4 ho4 => ?_)
  have ho4' : Sx.Own 5 1 (ints (rest ++ [128] ++ List.replicate 0 0)) v4 c4 := by simpa using own128 (l := [128]) ho4
  refine j_loop (fun m vs S' => ∃ (j : Nat) (v : Value) (c : SH), vs = [v] ∧ S' = [[(g3, .cells [.int .u8 128].toArray 5 (0, 0))], c, [(g1, .cells (ints (List.replicate 32 0)).toArray 97 (0, 0))], [(g0, .cells (ks .u32 s).toArray 116 (0, 0))], []] ∧ Sx.Own 5 1 (ints (rest ++ [128] ++ List.replicate j 0)) v c ∧ j ≤ zc rest.length ∧ m = zc rest.length - j) ⟨_, 0, _, _, rfl, rfl, ho4', by omega, rfl⟩ ?_
  rintro m vs S' hlen ⟨j, v, c', rfl, rfl, ho, hj, rfl⟩
  obtain ⟨n, A, cap, rfl, hn⟩ := own_form ho (by decide)
  simp only [ints_length, List.length_append, List.length_replicate, List.length_cons, List.length_nil] at hn
  clear hlen
  refine j_q (qs_lenl Tryd.underlying22 rfl) ?_
  refine j_q (qs_rem64 rfl rfl (by first | omega | (simp only [bnA] at *; omega)) (by first | omega | (simp only [bnA] at *; omega))) ?_
  refine j_q (qs_neq rfl rfl) ?_
  refine j_cond rfl (fun hc0 => ?_) (fun hc0 => ?_)
  · skip
    have hj1 : j < zc rest.length := by
      refine zc_back hj ?_
      simp only [bnA] at *
      omega
    refine j_lit (vs := [.int .u8 _]) Tryd.underlying22 sz5 zero5 rfl (by simp [oneV]) ⟨rfl, by decide⟩ (fun g8 v8 c8 hv8 hc8 ho8 => ?_)
    subst hv8 hc8
    refine j_append 2 Tryd.underlying22 Tryd.underlying22 (.inr ⟨_, rfl⟩) sb5 zero5 rfl ho rfl (src_sl (rd_own 0 rfl (n := 1) rfl) rfl) (by simp [oneV]) ⟨(by simp [ints_length]; omega), (by decide)⟩ (fun v9 c9 ho9 => ?_)
    have ho9' : Sx.Own 5 1 (ints (rest ++ [128] ++ List.replicate (j + 1) 0)) v9 c9 := by rw [← rep_succ]; exact own128 (l := [0]) ho9
    refine j_drop ?_
    refine j_back rfl ?_
    exact ⟨_, back_le hj1, j + 1, _, _, rfl, rfl, ho9', by omega, rfl⟩
  · skip
    have hje : j = zc rest.length := by
      refine zc_end hj ?_
      simp only [bnA] at *
      omega
    refine j_q (qs_mc) ?_
    refine j_loop (fun m vs S' => ∃ (i : Nat) (v : Value) (c : SH), vs = [v, .int .i64 i] ∧ S' = [[(g3, .cells [.int .u8 128].toArray 5 (0, 0))], c, [(g1, .cells (ints (List.replicate 32 0)).toArray 97 (0, 0))], [(g0, .cells (ks .u32 s).toArray 116 (0, 0))], []] ∧ Sx.Own 5 1 (ints (rest ++ [128] ++ List.replicate (zc rest.length) 0 ++ len8 x i)) v c ∧ i ≤ 8 ∧ m = 8 - i) ⟨_, 0, _, _, rfl, rfl, (ho_len8 (hje ▸ ho)), by omega, rfl⟩ ?_
    rintro m vs S' hlen ⟨i, v, c', rfl, rfl, ho, hi, rfl⟩
    clear hlen
    refine j_q (qs_lss rfl rfl) ?_
    refine j_cond rfl (fun hc1 => ?_) (fun hc1 => ?_)
    · skip
      have hi1 : i < 8 := by
        simp only [bnA] at *
        omega
      refine j_q (qs_shl rfl rfl (by first | omega | (simp only [bnA] at *; omega))) ?_
      refine j_q (qs_mul64 rfl rfl (by first | omega | (simp only [bnA] at *; omega))) ?_
      refine j_q (qs_sub64 rfl rfl (by first | omega | (simp only [bnA] at *; omega))) ?_
      refine j_q (qs_shr rfl rfl (by first | omega | (simp only [bnA] at *; omega))) ?_
      refine j_q (qs_conv8 Tryd.underlying64 Tryd.underlying5 rfl) ?_
      rw [show (n0 * 2 ^ min (Int.toNat 3) IntKind.u64.bits : Int) = n0 * 8 from rfl, ← hx, shift56 i hi1]
      refine j_lit (vs := [.int .u8 _]) Tryd.underlying22 sz5 zero5 rfl (by simp [oneV]) ⟨rfl, by decide⟩ (fun g17 v17 c17 hv17 hc17 ho17 => ?_)
      subst hv17 hc17
      refine j_append 2 Tryd.underlying22 Tryd.underlying22 (.inr ⟨_, rfl⟩) sb5 zero5 rfl ho rfl (src_sl (rd_own 0 rfl (n := 1) rfl) rfl) (by simp [oneV]) ⟨(by simp [ints_length, len8_length]; omega), (by decide)⟩ (fun v18 c18 ho18 => ?_)
      have ho18' : Sx.Own 5 1 (ints (rest ++ [128] ++ List.replicate (zc rest.length) 0 ++ len8 x (i + 1))) v18 c18 := by rw [← len8_succ]; exact own128 (l := [_]) ho18
      refine j_drop ?_
      refine j_q (qs_add64 rfl rfl (by first | omega | (simp only [bnA] at *; omega))) ?_
      refine j_back rfl ?_
      exact ⟨_, back_le hi1, i + 1, _, _, rfl, rfl, ho18', by omega, rfl⟩
    · skip
      have hi1 : i = 8 := by
        simp only [bnA] at *
        omega
      subst hi1
      obtain ⟨g, n, cap, rfl⟩ := own_some ho (by simp [ints])
      obtain ⟨row, fz, hrow, hl1, hl2, hl3, hl4⟩ := own_row ho
      simp only [ints_length] at hl1
      have hmm : (rest ++ [128] ++ List.replicate (zc rest.length) 0 ++ len8 x 8).length = rest.length + zc rest.length + 9 := by simp [len8_length]; omega
      obtain rfl : n = (rest ++ [128] ++ List.replicate (zc rest.length) 0 ++ len8 x 8).length := by omega
      refine j_call 3 ent61 rfl rfl rfl rfl (fun w' hw' => take_con s (rest ++ [128] ++ List.replicate (zc rest.length) 0 ++ len8 x 8) ⟨g, 0, none⟩ cap g0 _ w' hs (by omega) hl3 (rd_w (own_rd ho 1 rfl) hw') (fun _ => by subst hrow; exact hw'.ne (i := 1) (j := 3) rfl rfl (by decide))) (fun u S2 hu => ?_)
      obtain ⟨rfl, rfl⟩ := hu
      rw [hmm]
      obtain ⟨s', hs'⟩ : ∃ s', s' = blocks ((rest.length + zc rest.length + 9) / 64) (rest ++ [128] ++ List.replicate (zc rest.length) 0 ++ len8 x 8) s := ⟨_, rfl⟩
      have hsl : s'.length = 8 := by rw [hs']; exact blocks_length hs
      rw [← hs']
      refine j_q (qs_mc) ?_
      refine j_loop (fun m vs S' => ∃ (i : Nat) (h : List UInt8), vs = [.int .i64 i] ∧ S' = [[(g0, .cells (ks .u32 s').toArray 116 (0, 0))], [(g3, .cells [.int .u8 128].toArray 5 (0, 0))], c', [(g1, .cells (ints h).toArray 97 (0, 0))], [], []] ∧ h.length = 32 ∧ h.take i = outs s' i ∧ i ≤ 32 ∧ m = 32 - i) ⟨_, 0, _, rfl, rfl, by simp, rfl, by omega, rfl⟩ ?_
      rintro m vs S' hlen ⟨i, h, rfl, rfl, hhl, ht, hi, rfl⟩
      clear hlen
      refine j_q (qs_lss rfl rfl) ?_
      refine j_cond rfl (fun hc2 => ?_) (fun hc2 => ?_)
      · skip
        have hi1 : i < 32 := by
          simp only [bnA] at *
          omega
        refine j_q (qs_quo64 rfl rfl (by first | omega | (simp only [bnA] at *; omega)) (by first | omega | (simp only [bnA] at *; omega)) (by first | omega | (simp only [bnA] at *; omega))) ?_
        refine j_q (qs_ix0 Tryd.underlying116 sz67 rfl rfl ⟨(by first | omega | (simp only [bnA] at *; omega)), (by first | omega | (simp only [bnA] at *; omega))⟩) ?_
        first
          | refine j_q (qs_loadk 0 Tryd.underlying67 rfl rfl (by first | omega | (simp only [bnA] at *; omega))) ?_
          | refine j_q (qs_loadk 1 Tryd.underlying67 rfl rfl (by first | omega | (simp only [bnA] at *; omega))) ?_
          | refine j_q (qs_loadk 2 Tryd.underlying67 rfl rfl (by first | omega | (simp only [bnA] at *; omega))) ?_
          | refine j_q (qs_loadk 3 Tryd.underlying67 rfl rfl (by first | omega | (simp only [bnA] at *; omega))) ?_
          | refine j_q (qs_loadk 4 Tryd.underlying67 rfl rfl (by first | omega | (simp only [bnA] at *; omega))) ?_
          | refine j_q (qs_load 0 Tryd.underlying67 rfl rfl rfl rfl) ?_
          | refine j_q (qs_load 1 Tryd.underlying67 rfl rfl rfl rfl) ?_
          | refine j_q (qs_load 2 Tryd.underlying67 rfl rfl rfl rfl) ?_
          | refine j_q (qs_load 3 Tryd.underlying67 rfl rfl rfl rfl) ?_
          | refine j_q (qs_load 4 Tryd.underlying67 rfl rfl rfl rfl) ?_
        refine j_q (qs_rem64 rfl rfl (by first | omega | (simp only [bnA] at *; omega)) (by first | omega | (simp only [bnA] at *; omega))) ?_
        refine j_q (qs_mul64 rfl rfl (by first | omega | (simp only [bnA] at *; omega))) ?_
        refine j_q (qs_sub64 rfl rfl (by first | omega | (simp only [bnA] at *; omega))) ?_
        refine j_q (qs_shr rfl rfl (by first | omega | (simp only [bnA] at *; omega))) ?_
        refine j_q (qs_conv8 Tryd.underlying67 Tryd.underlying5 rfl) ?_
        rw [div4, shift24]
        refine j_q (qs_ix0 Tryd.underlying97 sz5 rfl rfl ⟨(by first | omega | (simp only [bnA] at *; omega)), (by first | omega | (simp only [bnA] at *; omega))⟩) ?_
        first
          | refine j_storek 0 sz5 rfl rfl rfl (by first | omega | (simp only [bnA] at *; omega)) ?_
          | refine j_storek 1 sz5 rfl rfl rfl (by first | omega | (simp only [bnA] at *; omega)) ?_
          | refine j_storek 2 sz5 rfl rfl rfl (by first | omega | (simp only [bnA] at *; omega)) ?_
          | refine j_storek 3 sz5 rfl rfl rfl (by first | omega | (simp only [bnA] at *; omega)) ?_
          | refine j_storek 4 sz5 rfl rfl rfl (by first | omega | (simp only [bnA] at *; omega)) ?_
          | refine j_storei 0 sz5 rfl rfl rfl (by first | omega | (simp only [bnA] at *; omega)) ?_
          | refine j_storei 1 sz5 rfl rfl rfl (by first | omega | (simp only [bnA] at *; omega)) ?_
          | refine j_storei 2 sz5 rfl rfl rfl (by first | omega | (simp only [bnA] at *; omega)) ?_
          | refine j_storei 3 sz5 rfl rfl rfl (by first | omega | (simp only [bnA] at *; omega)) ?_
          | refine j_storei 4 sz5 rfl rfl rfl (by first | omega | (simp only [bnA] at *; omega)) ?_
          | refine j_store 0 sz5 rfl rfl rfl rfl (by simp) (by first | omega | (simp only [bnA] at *; omega)) ?_
          | refine j_store 1 sz5 rfl rfl rfl rfl (by simp) (by first | omega | (simp only [bnA] at *; omega)) ?_
          | refine j_store 2 sz5 rfl rfl rfl rfl (by simp) (by first | omega | (simp only [bnA] at *; omega)) ?_
          | refine j_store 3 sz5 rfl rfl rfl rfl (by simp) (by first | omega | (simp only [bnA] at *; omega)) ?_
          | refine j_store 4 sz5 rfl rfl rfl rfl (by simp) (by first | omega | (simp only [bnA] at *; omega)) ?_
        refine j_q (qs_add64 rfl rfl (by first | omega | (simp only [bnA] at *; omega))) ?_
        refine j_back rfl ?_
        exact ⟨_, back_le hi1, i + 1, _, rfl, rfl, by simpa using hhl, outs_step ht (by omega), by omega, rfl⟩
      · skip
        have hi1 : i = 32 := by
          simp only [bnA] at *
          omega
        subst hi1
        first
          | refine j_q (qs_loadw 0 Tryd.underlying97 rfl sz97 rfl rfl (by first | rfl | (rw [ints_length]; exact hhl))) ?_
          | refine j_q (qs_loadw 1 Tryd.underlying97 rfl sz97 rfl rfl (by first | rfl | (rw [ints_length]; exact hhl))) ?_
          | refine j_q (qs_loadw 2 Tryd.underlying97 rfl sz97 rfl rfl (by first | rfl | (rw [ints_length]; exact hhl))) ?_
          | refine j_q (qs_loadw 3 Tryd.underlying97 rfl sz97 rfl rfl (by first | rfl | (rw [ints_length]; exact hhl))) ?_
          | refine j_q (qs_loadw 4 Tryd.underlying97 rfl sz97 rfl rfl (by first | rfl | (rw [ints_length]; exact hhl))) ?_
        first
          | refine j_storew 0 sz97 rfl rfl (by first | rfl | (rw [ints_length]; exact hhl)) ints_one rfl (by first | rfl | (rw [ints_length]; exact hhl)) ?_
          | refine j_storew 1 sz97 rfl rfl (by first | rfl | (rw [ints_length]; exact hhl)) ints_one rfl (by first | rfl | (rw [ints_length]; exact hhl)) ?_
          | refine j_storew 2 sz97 rfl rfl (by first | rfl | (rw [ints_length]; exact hhl)) ints_one rfl (by first | rfl | (rw [ints_length]; exact hhl)) ?_
          | refine j_storew 3 sz97 rfl rfl (by first | rfl | (rw [ints_length]; exact hhl)) ints_one rfl (by first | rfl | (rw [ints_length]; exact hhl)) ?_
          | refine j_storew 4 sz97 rfl rfl (by first | rfl | (rw [ints_length]; exact hhl)) ints_one rfl (by first | rfl | (rw [ints_length]; exact hhl)) ?_
        first
          | refine j_ret_con (vs := [_]) (fun w' hw' => ⟨rv_agg 0 Tryd.underlying97 rfl sz97 rfl rfl (by first | rfl | (rw [ints_length]; exact hhl)) hw', trivial⟩) ?_
          | refine j_ret_con (vs := [_]) (fun w' hw' => ⟨rv_agg 1 Tryd.underlying97 rfl sz97 rfl rfl (by first | rfl | (rw [ints_length]; exact hhl)) hw', trivial⟩) ?_
          | refine j_ret_con (vs := [_]) (fun w' hw' => ⟨rv_agg 2 Tryd.underlying97 rfl sz97 rfl rfl (by first | rfl | (rw [ints_length]; exact hhl)) hw', trivial⟩) ?_
          | refine j_ret_con (vs := [_]) (fun w' hw' => ⟨rv_agg 3 Tryd.underlying97 rfl sz97 rfl rfl (by first | rfl | (rw [ints_length]; exact hhl)) hw', trivial⟩) ?_
          | refine j_ret_con (vs := [_]) (fun w' hw' => ⟨rv_agg 4 Tryd.underlying97 rfl sz97 rfl rfl (by first | rfl | (rw [ints_length]; exact hhl)) hw', trivial⟩) ?_
        show Value.agg _ = _
        rw [List.take_of_length_le (by omega)] at ht
        rw [ht, hs', ended_eq]
end Go.Proofs.YtomajiicjinekaaDoor
/-! Sha4 -/
namespace Go.Proofs.YtomajiicjinekaaDoor
open Go Go.Sx
set_option maxRecDepth 100000
set_option maxHeartbeats 4000000
set_option linter.unusedVariables false
set_option linter.unusedSimpArgs false
attribute [local irreducible] J JQ QS Con W opW
theorem sum_con (p : List UInt8) (a : Addr) (c : Nat) (w : World) (hpm : p.length ≤ 17592186044416) (hc : p.length ≤ c) (hpc : Cells w a (ints p)) : Con Tryd.prog 45 [.slice (some a) p.length c] w [] fun v _ => v = .agg (ints (sum p)).toArray := by
  refine con_of_tree mix Tryd.func45 T45_ok (by kernel_rfl) ?_
  unfold T45
  refine j_alloc zero97 (fun g0 hg0 hs0 => ?_)
  refine j_q (qs_call ent60 rfl rfl rfl (fun w' hw' => dbegun_con w')) ?_
  refine j_alloc zero116 (fun g2 hg2 hs2 => ?_)
  first
    | refine j_storew 0 sz116 rfl rfl (by first | (rw [ks_length]; exact blocks_length rfl) | (rw [ints_length]; exact outs_length _ _) | rfl) ks_one rfl (by first | (rw [ks_length]; exact blocks_length rfl) | (rw [ints_length]; exact outs_length _ _) | rfl) ?_
    | refine j_storew 1 sz116 rfl rfl (by first | (rw [ks_length]; exact blocks_length rfl) | (rw [ints_length]; exact outs_length _ _) | rfl) ks_one rfl (by first | (rw [ks_length]; exact blocks_length rfl) | (rw [ints_length]; exact outs_length _ _) | rfl) ?_
    | refine j_storew 2 sz116 rfl rfl (by first | (rw [ks_length]; exact blocks_length rfl) | (rw [ints_length]; exact outs_length _ _) | rfl) ks_one rfl (by first | (rw [ks_length]; exact blocks_length rfl) | (rw [ints_length]; exact outs_length _ _) | rfl) ?_
  refine j_call 0 ent61 rfl rfl rfl rfl (fun w' hw' => take_con init8 p a c g2 _ w' rfl (by omega) hc (rd_w (rd_cells hpc (by simp)) hw') (fun hp => ne_own hpc hg2 hp)) (fun u S2 hu => ?_)
  obtain ⟨rfl, rfl⟩ := hu
  refine j_draw ?_
  first
    | refine jq_q (qs_loadw 0 Tryd.underlying116 rfl sz116 rfl rfl (by first | (rw [ks_length]; exact blocks_length rfl) | (rw [ints_length]; exact outs_length _ _) | rfl)) ?_
    | refine jq_q (qs_loadw 1 Tryd.underlying116 rfl sz116 rfl rfl (by first | (rw [ks_length]; exact blocks_length rfl) | (rw [ints_length]; exact outs_length _ _) | rfl)) ?_
    | refine jq_q (qs_loadw 2 Tryd.underlying116 rfl sz116 rfl rfl (by first | (rw [ks_length]; exact blocks_length rfl) | (rw [ints_length]; exact outs_length _ _) | rfl)) ?_
  refine jq_q (qs_lenl Tryd.underlying22 rfl) ?_
  refine jq_q (qs_quo64 rfl rfl (by first | omega | (simp only [bnA] at *; omega)) (by first | omega | (simp only [bnA] at *; omega)) (by first | omega | (simp only [bnA] at *; omega))) ?_
  refine jq_q (qs_mul64 rfl rfl (by first | omega | (simp only [bnA] at *; omega))) ?_
  refine jq_q (qs_cutl (a := 64 * (p.length / 64)) (z := p.length) Tryd.underlying22 sz5 rfl ⟨.i64, by show Value.int _ _ = _; congr 1; omega⟩ rfl (by omega) (by omega)) ?_
  rw [show (if c = 64 * (p.length / 64) then some a else (some a).map (·.add (64 * (p.length / 64) * 1))) = some (if c = 64 * (p.length / 64) then a else a.add (64 * (p.length / 64))) by split <;> simp]
  have hcell : ∀ (S : List SH) w', Sig ⟨w, dom []⟩ S w' → Cells w' (if c = 64 * (p.length / 64) then a else a.add (64 * (p.length / 64))) ((ints p).drop (64 * (p.length / 64))) := by
    intro S w' hw'
    have h0 := rd_w (rd_cells hpc (by simp)) hw'
    split
    · rw [List.drop_of_length_le (by rw [ints_length]; omega)]
      intro j u hu
      simp at hu
    · exact cells_drop h0 _
  rw [show p.length - 64 * (p.length / 64) = (p.drop (64 * (p.length / 64))).length by rw [List.length_drop]]
  refine jq_q (qs_lenl Tryd.underlying22 rfl) ?_
  refine jq_q (qs_conv Tryd.underlying3 Tryd.underlying64 rfl) ?_
  refine jq_q (qs_call ent62 rfl rfl rfl (fun w' hw' => ended_con _ (p.drop (64 * (p.length / 64))) _ _ _ (bits8 p.length) w' (blocks_length rfl) (by rw [List.length_drop]; omega) (by rw [← ints_drop]; exact hcell _ w' hw') rfl)) ?_
  refine jq_nil ?_
  first
    | refine j_storew 0 sz97 rfl rfl (by first | (rw [ks_length]; exact blocks_length rfl) | (rw [ints_length]; exact outs_length _ _) | rfl) ints_one rfl (by first | (rw [ks_length]; exact blocks_length rfl) | (rw [ints_length]; exact outs_length _ _) | rfl) ?_
    | refine j_storew 1 sz97 rfl rfl (by first | (rw [ks_length]; exact blocks_length rfl) | (rw [ints_length]; exact outs_length _ _) | rfl) ints_one rfl (by first | (rw [ks_length]; exact blocks_length rfl) | (rw [ints_length]; exact outs_length _ _) | rfl) ?_
    | refine j_storew 2 sz97 rfl rfl (by first | (rw [ks_length]; exact blocks_length rfl) | (rw [ints_length]; exact outs_length _ _) | rfl) ints_one rfl (by first | (rw [ks_length]; exact blocks_length rfl) | (rw [ints_length]; exact outs_length _ _) | rfl) ?_
  first
    | refine j_ret_con (vs := [_]) (fun w' hw' => ⟨rv_agg 0 Tryd.underlying97 rfl sz97 rfl rfl (by first | (rw [ks_length]; exact blocks_length rfl) | (rw [ints_length]; exact outs_length _ _) | rfl) hw', trivial⟩) ?_
    | refine j_ret_con (vs := [_]) (fun w' hw' => ⟨rv_agg 1 Tryd.underlying97 rfl sz97 rfl rfl (by first | (rw [ks_length]; exact blocks_length rfl) | (rw [ints_length]; exact outs_length _ _) | rfl) hw', trivial⟩) ?_
    | refine j_ret_con (vs := [_]) (fun w' hw' => ⟨rv_agg 2 Tryd.underlying97 rfl sz97 rfl rfl (by first | (rw [ks_length]; exact blocks_length rfl) | (rw [ints_length]; exact outs_length _ _) | rfl) hw', trivial⟩) ?_
  show Value.agg _ = _
  rw [sum_split]
end Go.Proofs.YtomajiicjinekaaDoor
/-! Jn0 -/
namespace Go.Proofs.YtomajiicjinekaaDoor
open Go Go.Sx
set_option maxRecDepth 100000
set_option linter.unusedVariables false
set_option linter.unusedSimpArgs false
def num (n : Nat) : List UInt8 := if h : n < 128 then [UInt8.ofNat n] else UInt8.ofNat (n % 128 + 128) :: num (n / 128)
termination_by n
decreasing_by omega
theorem num_lo {n : Nat} (h : n < 128) : num n = [UInt8.ofNat n] := by rw [num, dif_pos h]
theorem num_hi {n : Nat} (h : 128 ≤ n) : num n = UInt8.ofNat (n % 128 + 128) :: num (n / 128) := by rw [num, dif_neg (by omega)]
theorem num_pos (n : Nat) : 1 ≤ (num n).length := by
  by_cases h : n < 128
  · rw [num_lo h]; exact Nat.le_refl _
  · rw [num_hi (by omega)]; exact Nat.le_add_left _ _
theorem num_len {n : Nat} (h : n < 268435456) : (num n).length ≤ 4 := by
  by_cases h1 : n < 128
  · rw [num_lo h1]; exact Nat.succ_le_succ (Nat.zero_le _)
  · rw [num_hi (by omega), List.length_cons]
    by_cases h2 : n / 128 < 128
    · rw [num_lo h2]; simp
    · rw [num_hi (by omega), List.length_cons]
      by_cases h3 : n / 128 / 128 < 128
      · rw [num_lo h3]; simp
      · rw [num_hi (by omega), List.length_cons, num_lo (by omega)]; simp
theorem lo8 (n : Nat) : by8 (n : Int) = UInt8.ofNat (n % 256) := by
  unfold by8
  rw [IntKind.wrap_u8]
  congr 1
theorem or128 (n : Nat) : bw .or .u8 (((by8 (n : Int)).toNat : Nat) : Int) 128 = ((UInt8.ofNat (n % 128 + 128)).toNat : Int) := by
  have h : ∀ k : Fin 256, bw .or .u8 ((k.val : Nat) : Int) 128 = ((UInt8.ofNat (k.val % 128 + 128)).toNat : Int) := by decide +kernel
  have h1 := h ⟨n % 256, Nat.mod_lt _ (by decide)⟩
  rw [lo8, UInt8.toNat_ofNat', Nat.mod_mod]
  simp only at h1
  rw [h1]
  congr 4
  omega
theorem and127 (c : UInt8) : bw .and .u8 (c.toNat : Int) 127 = ((c.toNat % 128 : Nat) : Int) := by
  have h : ∀ k : Fin 256, bw .and .u8 ((k.val : Nat) : Int) 127 = ((k.val % 128 : Nat) : Int) := by decide +kernel
  exact h ⟨c.toNat, c.toNat_lt⟩
theorem bw_or64 (a b : Nat) (ha : a < 18446744073709551616) (hb : b < 18446744073709551616) : bw .or .u64 (a : Int) (b : Int) = ((a ||| b : Nat) : Int) := by
  have e : bw .or .u64 (a : Int) (b : Int) = IntKind.u64.wrap (((BitVec.ofInt 64 (a : Int) ||| BitVec.ofInt 64 (b : Int)).toNat : Nat) : Int) := rfl
  have hlt : a ||| b < 18446744073709551616 := Nat.or_lt_two_pow (n := 64) ha hb
  have e1 : ((a : Int) % ((2 ^ 64 : Nat) : Int)).toNat = a := by omega
  have e2 : ((b : Int) % ((2 ^ 64 : Nat) : Int)).toNat = b := by omega
  rw [e, BitVec.toNat_or, BitVec.toNat_ofInt, BitVec.toNat_ofInt, e1, e2, IntKind.wrap_u64]
  omega
theorem bw_or_add {a b s : Nat} (h1 : a < 2 ^ s) (h0 : a < 18446744073709551616) (h2 : b * 2 ^ s < 18446744073709551616) : bw .or .u64 (a : Int) ((b * 2 ^ s : Nat) : Int) = ((a + b * 2 ^ s : Nat) : Int) := by
  rw [bw_or64 _ _ h0 h2]
  congr 1
  rw [Nat.or_comm, Nat.mul_comm, ← Nat.two_pow_add_eq_or_of_lt h1, Nat.add_comm]
end Go.Proofs.YtomajiicjinekaaDoor
/-! Jn1 -/
namespace Go.Proofs.YtomajiicjinekaaDoor
open Go Go.Sx
set_option maxRecDepth 100000
set_option maxHeartbeats 4000000
set_option linter.unusedVariables false
set_option linter.unusedSimpArgs false
attribute [local irreducible] J JQ QS Con W opW
theorem br_sub {w : World} {A : Option Addr} {cap : Nat} {xs : List UInt8} (h : BR w (.slice A xs.length cap) xs) (a z : Nat) (h1 : a ≤ z) (h2 : z ≤ xs.length) : BR w (.slice (if cap = a then A else A.map (fun p : Addr => p.add (a * 1))) (z - a) (cap - a)) ((xs.take z).drop a) := by
  rcases h with ⟨e, rfl⟩ | ⟨p, c, e, hc, hb, hcl⟩
  · injection e with e1 e2 e3
    subst e1 e3
    have h3 : z = 0 := by simpa using h2
    subst h3
    have h4 : a = 0 := by omega
    subst h4
    exact .inl ⟨rfl, rfl⟩
  · injection e with e1 e2 e3
    subst e1 e3
    have hl : ((xs.take z).drop a).length = z - a := by rw [List.length_drop, List.length_take]; omega
    by_cases hca : cap = a
    · rw [if_pos hca]
      have h3 : z - a = 0 := by omega
      refine .inr ⟨p, cap - a, by rw [hl], by omega, fun h0 => by omega, ?_⟩
      rw [List.eq_nil_of_length_eq_zero (by omega : ((xs.take z).drop a).length = 0)]
      intro j u hu
      simp [ints] at hu
    · rw [if_neg hca]
      refine .inr ⟨p.add (a * 1), cap - a, by rw [hl]; rfl, by omega, fun h0 => ?_, ?_⟩
      · rw [add_block]
        exact hb (by omega)
      · rw [Nat.mul_one, ← ints_drop, ← ints_take]
        exact cells_drop (cells_take hcl z) a
theorem own_froz {g : Nat} {xs : List UInt8} : Sx.Own 5 1 (ints xs) (.slice (some ⟨g, 0, none⟩) xs.length xs.length) [(g, .cells (ints xs).toArray 5 (xs.length, xs.length + 1))] :=
  .inr ⟨g, xs.length, xs.length, [], _, rfl, by rw [List.append_nil], by rw [ints_length, Nat.mul_one], by rw [List.append_nil, ints_length, Nat.mul_one], Nat.le_refl _, fun j hj => by rw [List.append_nil, ints_length] at hj; show ¬ (xs.length ≤ j ∧ _); omega⟩
theorem pow7_le {i : Nat} (h : i ≤ 3) : (128 : Nat) ^ i ≤ 2097152 := by
  have h1 : i = 0 ∨ i = 1 ∨ i = 2 ∨ i = 3 := by omega
  rcases h1 with rfl | rfl | rfl | rfl <;> decide
theorem shl7 {k i : Nat} (hi : i ≤ 3) (hk : k < 128) : IntKind.u64.wrap ((k : Int) * 2 ^ min (7 * (i : Int)).toNat IntKind.u64.bits) = ((k * 2 ^ (7 * i) : Nat) : Int) := by
  have h1 : i = 0 ∨ i = 1 ∨ i = 2 ∨ i = 3 := by omega
  have h2 : ∀ e : Nat, e ≤ 21 → IntKind.u64.wrap ((k : Int) * 2 ^ e) = ((k * 2 ^ e : Nat) : Int) := fun e he => by
    have h3 : (2 : Nat) ^ e ≤ 2 ^ 21 := Nat.pow_le_pow_right (by decide) he
    have h4 : k * 2 ^ e ≤ 127 * 2 ^ 21 := Nat.mul_le_mul (by omega) h3
    have h5 : (k : Int) * 2 ^ e = ((k * 2 ^ e : Nat) : Int) := by simp
    rw [h5, IntKind.wrap_u64]
    omega
  rcases h1 with rfl | rfl | rfl | rfl
  · exact h2 0 (by decide)
  · exact h2 7 (by decide)
  · exact h2 14 (by decide)
  · exact h2 21 (by decide)
theorem num_at {n k i : Nat} {z : List UInt8} (hg : (num n ++ z).getD i 0 = (num k ++ z).getD 0 0) : ((num n ++ z).getD i 0).toNat = if k < 128 then k else k % 128 + 128 := by
  rw [hg]
  by_cases h : k < 128
  · rw [if_pos h, num_lo h]
    show (UInt8.ofNat k).toNat = k
    rw [UInt8.toNat_ofNat']
    omega
  · rw [if_neg h, num_hi (by omega)]
    show (UInt8.ofNat (k % 128 + 128)).toNat = _
    rw [UInt8.toNat_ofNat']
    omega
theorem pow27 (i : Nat) : (2 : Nat) ^ (7 * i) = 128 ^ i := by rw [Nat.pow_mul]
theorem appendNum_con (xs : List UInt8) (n : Nat) (v : Value) (c : SH) (w : World) (ho : Sx.Own 5 1 (ints xs) v c) (hn : n < 268435456) (hl : xs.length ≤ 1000000000) : Con Tryd.prog 44 [v, .int .u64 (n : Int)] w c fun u S' => ∃ c', S' = [c'] ∧ Sx.Own 5 1 (ints (xs ++ num n)) u c' := by
  refine con_of_tree mix Tryd.func44 T44_ok (by kernel_rfl) ?_
  unfold T44
  have hnl := num_len hn
  refine j_q (qs_ac) ?_
  refine j_loop (fun m vs S' => ∃ (ys : List UInt8) (k : Nat) (v' : Value) (c' : SH), vs = [v', .int .u64 (k : Int)] ∧ S' = [c'] ∧ Sx.Own 5 1 (ints ys) v' c' ∧ ys ++ num k = xs ++ num n ∧ k ≤ n ∧ k = m) ⟨_, xs, n, v, c, rfl, rfl, ho, rfl, Nat.le_refl _, rfl⟩ ?_
  rintro m vs S' hlen ⟨ys, k, v', c', rfl, rfl, ho', hys, hkn, rfl⟩
  have hyl : ys.length ≤ 1000000004 := by
    have := congrArg List.length hys
    simp only [List.length_append] at this
    omega
  refine j_q (qs_geq rfl rfl) ?_
  refine j_cond rfl (fun hc0 => ?_) (fun hc0 => ?_)
  · skip
    have hk : 128 ≤ k := by
      simp only [bnA] at *
      omega
    refine j_q (qs_conv8 Tryd.underlying64 Tryd.underlying5 rfl) ?_
    refine j_q (qs_or_ rfl rfl) ?_
    rw [or128]
    refine j_lit (vs := [.int .u8 _]) Tryd.underlying22 sz5 zero5 rfl (by simp [oneV]) ⟨rfl, by decide⟩ (fun g4 v4 c4 hv4 hc4 ho4 => ?_)
    subst hv4 hc4
    refine j_append 1 Tryd.underlying22 Tryd.underlying22 (.inr ⟨_, rfl⟩) sb5 zero5 rfl ho' rfl (.inl ⟨_, _, rfl, rd_own (off := 0) (n := 1) 0 rfl rfl, rfl⟩) (by simp [oneV]) ⟨(by simp only [ints_length]; simp; omega), (by decide)⟩ (fun v5 c5 ho5 => ?_)
    have ho6 : Sx.Own 5 1 (ints (ys ++ [UInt8.ofNat (k % 128 + 128)])) v5 c5 := by
      rw [ints_append]
      exact ho5
    refine j_subl (S' := [c5]) (by repeat first | exact slR _ | exact slN _ | apply slC | apply slD) ?_
    refine j_q (qs_shr rfl rfl (by first | omega | (simp only [bnA] at *; omega))) ?_
    rw [show Int.fdiv (k : Int) (2 ^ min (7 : Int).toNat IntKind.u64.bits) = ((k / 128 : Nat) : Int) from by
      show Int.fdiv (k : Int) 128 = _
      rw [Int.fdiv_eq_ediv_of_nonneg _ (by decide)]
      rfl]
    refine j_back rfl ?_
    refine ⟨k / 128, by omega, _, k / 128, _, _, rfl, rfl, ho6, ?_, by omega, rfl⟩
    rw [← hys, List.append_assoc, num_hi hk]
    rfl
  · skip
    have hk : k < 128 := by
      simp only [bnA] at *
      omega
    refine j_q (qs_conv8 Tryd.underlying64 Tryd.underlying5 rfl) ?_
    rw [lo8, Nat.mod_eq_of_lt (show k < 256 by omega)]
    refine j_lit (vs := [.int .u8 _]) Tryd.underlying22 sz5 zero5 rfl (by simp [oneV]) ⟨rfl, by decide⟩ (fun g8 v8 c8 hv8 hc8 ho8 => ?_)
    subst hv8 hc8
    refine j_append 1 Tryd.underlying22 Tryd.underlying22 (.inr ⟨_, rfl⟩) sb5 zero5 rfl ho' rfl (.inl ⟨_, _, rfl, rd_own (off := 0) (n := 1) 0 rfl rfl, rfl⟩) (by simp [oneV]) ⟨(by simp only [ints_length]; simp; omega), (by decide)⟩ (fun v9 c9 ho9 => ?_)
    refine j_subl (S' := [c9]) (by repeat first | exact slR _ | exact slN _ | apply slC | apply slD) ?_
    refine j_ret_con (vs := [_]) (fun w' hw' => ⟨rfl, trivial⟩) ?_
    refine ⟨_, rfl, ?_⟩
    rw [← hys, num_lo hk, ints_append]
    exact ho9
theorem takeNum_con (n : Nat) (z : List UInt8) (v : Value) (w : World) (h : BR w v (num n ++ z)) (hn : n < 268435456) (hl : (num n ++ z).length ≤ 1000000000) : Con Tryd.prog 54 [v] w [] fun u _ => u = .tuple #[.int .u64 (n : Int), .int .i64 ((num n).length : Int)] := by
  refine con_of_tree mix Tryd.func54 T54_ok (by kernel_rfl) ?_
  unfold T54
  have hnl := num_len hn
  have hnp := num_pos n
  have hll : (num n ++ z).length = (num n).length + z.length := List.length_append
  rcases h with ⟨_, h⟩ | ⟨a, cap, hv, hcap, hbl, hcl⟩
  · rw [h] at hll; simp at hll; omega
  subst hv
  refine j_q (qs_ac) ?_
  refine j_q (qs_ac) ?_
  refine j_q (qs_ac) ?_
  refine j_q (qs_lenl Tryd.underlying22 rfl) ?_
  refine j_q (qs_mc) ?_
  refine j_loop (fun m vs S' => ∃ (i k acc : Nat), vs = [.int .u64 (acc : Int), .int .i64 (i : Int)] ∧ S' = [[]] ∧ (num n ++ z).drop i = num k ++ z ∧ i + (num k).length = (num n).length ∧ acc + k * 128 ^ i = n ∧ acc < 128 ^ i ∧ k = m) ⟨_, 0, n, 0, rfl, rfl, rfl, Nat.zero_add _, by simp, by simp, rfl⟩ ?_
  rintro m vs S' hlen ⟨i, k, acc, rfl, rfl, hdr, hlk, hacc, hlt, rfl⟩
  have hkp := num_pos k
  have hi3 : i ≤ 3 := by omega
  have hi : i < (num n ++ z).length := by omega
  have hp7 := pow7_le hi3
  have hp1 : 1 ≤ 128 ^ i := Nat.one_le_pow _ _ (by decide)
  have hkn : k ≤ n := by have := Nat.le_mul_of_pos_right k (show 0 < 128 ^ i by omega); omega
  have hg0 : (num n ++ z).getD i 0 = (num k ++ z).getD 0 0 := by rw [← hdr, List.getD_eq_getElem?_getD, List.getD_eq_getElem?_getD, List.getElem?_drop, Nat.add_zero]
  have hb := num_at hg0
  clear hg0
  have hkm : k * 128 ^ i ≤ n := by omega
  refine j_q (qs_lss rfl rfl) ?_
  refine j_cond rfl (fun hc0 => ?_) (fun hc0 => ?_)
  · skip
    refine j_q (qs_ixl0 Tryd.underlying22 sz5 rfl rfl ⟨(by first | omega | (simp only [bnA] at *; omega)), (by first | omega | (simp only [bnA] at *; omega))⟩) ?_
    refine j_q (qs_loadR (v := .int .u8 (((num n ++ z).getD i 0).toNat : Int)) (a := a) (i := i) (rd_cells hcl (by simp)) Tryd.underlying5 rfl (by show Value.pointer (some (Addr.add a (i : Int).toNat)) = _; rw [Int.toNat_natCast]) (ints_get_lt hi)) ?_
    refine j_q (qs_eql rfl rfl) ?_
    refine j_cond rfl (fun hc1 => ?_) (fun hc1 => ?_)
    · skip
      simp only [bnA] at *
      omega
    · skip
      refine j_q (qs_lss rfl rfl) ?_
      refine j_cond rfl (fun hc2 => ?_) (fun hc2 => ?_)
      · skip
        have hk : k < 128 := by
          by_cases hk : k < 128
          · exact hk
          · rw [if_neg hk] at hb
            rw [hb] at hc2
            simp at hc2
            omega
        rw [if_pos hk] at hb
        refine j_q (qs_eql rfl rfl) ?_
        refine j_g rfl (fun hb => qs_mt rfl) ?_
        refine j_g rfl (fun hb => qs_gtr (gd_eq hb) rfl) ?_
        refine j_q (qs_and rfl rfl) ?_
        refine j_cond rfl (fun hc3 => ?_) (fun hc3 => ?_)
        · skip
          simp only [bnA] at *
          omega
        · skip
          refine j_q (qs_conv Tryd.underlying5 Tryd.underlying64 rfl) ?_
          rw [hb, IntWalk.u64_in _ (by omega)]
          refine j_q (qs_mul64 rfl rfl (by first | omega | (simp only [bnA] at *; omega))) ?_
          refine j_q (qs_shl rfl rfl (by first | omega | (simp only [bnA] at *; omega))) ?_
          rw [shl7 hi3 hk]
          refine j_q (qs_or_ rfl rfl) ?_
          rw [bw_or_add (by rw [pow27]; exact hlt) (by omega) (by rw [pow27]; omega), pow27, hacc]
          refine j_q (qs_add64 rfl rfl (by first | omega | (simp only [bnA] at *; omega))) ?_
          refine j_ret_con (vs := [_, _]) (fun w' hw' => ⟨rfl, rfl, trivial⟩) ?_
          show Value.tuple #[_, Value.int .i64 ((i : Int) + 1)] = _
          rw [num_lo hk] at hlk
          rw [← hlk]
          rfl
      · skip
        have hk : 128 ≤ k := by
          by_cases hk : k < 128
          · rw [if_pos hk] at hb
            rw [hb] at hc2
            simp at hc2
            omega
          · omega
        rw [if_neg (by omega)] at hb
        refine j_q (qs_and_ rfl rfl) ?_
        rw [and127, hb, show (k % 128 + 128) % 128 = k % 128 by omega]
        refine j_q (qs_conv Tryd.underlying5 Tryd.underlying64 rfl) ?_
        rw [IntWalk.u64_in _ (by omega)]
        refine j_q (qs_mul64 rfl rfl (by first | omega | (simp only [bnA] at *; omega))) ?_
        refine j_q (qs_shl rfl rfl (by first | omega | (simp only [bnA] at *; omega))) ?_
        rw [shl7 hi3 (by omega)]
        refine j_q (qs_or_ rfl rfl) ?_
        rw [bw_or_add (by rw [pow27]; exact hlt) (by omega) (by rw [pow27]; have := Nat.mul_le_mul_right (128 ^ i) (show k % 128 ≤ k by omega); omega), pow27]
        refine j_q (qs_add64 rfl rfl (by first | omega | (simp only [bnA] at *; omega))) ?_
        refine j_back rfl ?_
        have hsp : k = 128 * (k / 128) + k % 128 := (Nat.div_add_mod k 128).symm
        refine ⟨k / 128, by omega, i + 1, k / 128, _, rfl, rfl, ?_, ?_, ?_, ?_, rfl⟩
        · rw [← List.drop_drop, hdr, num_hi hk]
          rfl
        · rw [num_hi hk, List.length_cons] at hlk
          omega
        · rw [Nat.pow_succ, ← hacc]
          have h8 : k / 128 * (128 ^ i * 128) = 128 * (k / 128) * 128 ^ i := by rw [Nat.mul_comm (128 ^ i) 128, ← Nat.mul_assoc, Nat.mul_comm (k / 128) 128]
          rw [h8, Nat.add_assoc, ← Nat.add_mul, Nat.add_comm (k % 128), ← hsp]
        · rw [Nat.pow_succ]
          have := Nat.mul_le_mul_right (128 ^ i) (show k % 128 ≤ 127 by omega)
          omega
  · skip
    simp only [bnA] at *
    omega
end Go.Proofs.YtomajiicjinekaaDoor
