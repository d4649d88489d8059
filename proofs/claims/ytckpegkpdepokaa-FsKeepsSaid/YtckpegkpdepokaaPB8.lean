/- Part 8. -/
import Derived.Test.YtckpegkpdepokaaPB2
import Derived.Test.YtckpegkpdepokaaPB7
import Derived.Test.YtckpegkpdepokaaPB6
import Derived.Lib.SmallJoins
import Derived.SizedLaws
import Derived.Test.YtckpegkpdepokaaPB3
import Derived.SliceStrings
import Derived.Test.YtckpegkpdepokaaRows
import Derived.ProofKit
import Derived.Carry
/-! Rg7 -/
namespace Go.Proofs.Ytckpegkpdepokaa
open Go Go.Sx
set_option maxRecDepth 100000
set_option maxHeartbeats 4000000
set_option linter.unusedVariables false
set_option linter.unusedSimpArgs false
attribute [local irreducible] J JQ QS Con W opW
open Go.MapKept Go.WideMaps Go.Maps
def wrR (a : AF) (u : Int) (n xs : List UInt8) : Int := if mayE a.fused a.left [n] ≠ 0 then mayE a.fused a.left [n] else if 1048576 < xs.length then 5 else if (alook a.now.nm n = none ∧ 16384 ≤ a.now.nm.length) ∨ a.room < u - (freesA a.now n : Int) + (xs.length : Int) then 6 else 0
def apR (a : AF) (u : Int) (n xs : List UInt8) : Int := if mayE a.fused a.left [n] ≠ 0 then mayE a.fused a.left [n] else if alook a.now.nm n = none then 7 else if 1048576 < sizeA a.now n + xs.length then 5 else if a.room < u + (xs.length : Int) then 6 else 0
theorem wrE_R (a : AF) (n xs : List UInt8) : wrE a n xs = wrR a a.now.used n xs := by
  unfold wrE wrR fullA
  rfl
theorem apE_R (a : AF) (n xs : List UInt8) : appE a n xs = apR a a.now.used n xs := rfl
theorem usedN_le {s : RM} {P : List BK} {a : AS} (h : RS s P a) : usedN a ≤ 100000000000000 := by
  have h1 := usedL_le (d := a.dt) (B := 1000000000) (l := a.nm.map Prod.snd) (fun j hj => by
    obtain ⟨q, hq, rfl⟩ := List.mem_map.1 hj
    obtain ⟨p, hp, rfl⟩ := List.mem_map.1 (h.nm.mem_iff.2 hq)
    obtain ⟨f, hf, _, h2⟩ := h.raw.has p hp
    simp only
    rw [← h2, h.dt f hf]
    exact (h.rv f hf).2)
  have h2 : (a.nm.map Prod.snd).length ≤ 100000 := by
    rw [List.length_map, ← h.len]
    exact h.raw.le
  have h3 := Nat.mul_le_mul_right 1000000000 h2
  unfold usedN
  omega
theorem freesA_le {s : RM} {P : List BK} {a : AS} (h : RS s P a) (n : List UInt8) : freesA a n ≤ 1000000000 := by
  unfold freesA
  split
  · exact Nat.zero_le _
  · rename_i i hi
    split
    · obtain ⟨f, hf, _, h1, h2⟩ := h.get hi
      rw [← h2]
      exact (h.rv f hf).2
    · exact Nat.zero_le _
theorem lens_del {nm : NL Nat} (n : List UInt8) : (mdel nm n).length ≤ nm.length := List.length_filter_le _ _
theorem mdel_lt {nm : NL Nat} {n : List UInt8} (h : alook nm n ≠ none) : (mdel nm n).length + 1 ≤ nm.length := by
  obtain ⟨i, hi⟩ := Option.ne_none_iff_exists'.1 h
  have hm := alook_mem hi
  have : (mdel nm n).length < nm.length := by
    unfold mdel
    exact List.length_filter_lt_length_iff_exists.2 ⟨_, hm, by simp⟩
  omega
theorem wr_len {a : AS} {n xs : List UInt8} {i : Nat} (hl : a.nm.length ≤ 16384) (h : ¬ (alook a.nm n = none ∧ 16384 ≤ a.nm.length)) : (doA a (.wr n xs i)).nm.length ≤ 16384 := by
  show (writeA a n xs i).nm.length ≤ _
  rw [writeA_eq]
  show ((letsA a n).nm ++ [(n, i)]).length ≤ _
  rw [(lets_nm a n).1, List.length_append, List.length_singleton]
  by_cases h1 : alook a.nm n = none
  · have h2 : ¬ 16384 ≤ a.nm.length := fun h2 => h ⟨h1, h2⟩
    have := lens_del (nm := a.nm) n
    omega
  · have := mdel_lt h1
    omega
theorem li_len {a : AS} {old n : List UInt8} (hn : (a.nm.map Prod.fst).Nodup) (hl : ¬ 16384 ≤ a.nm.length) (h : alook a.nm old ≠ none) : (doA a (.li old n)).nm.length ≤ 16384 := by
  obtain ⟨i, hi⟩ := Option.ne_none_iff_exists'.1 h
  show (match alook a.nm old with | none => a | some i => givesA a n i).nm.length ≤ _
  rw [hi]
  simp only
  rw [(gives_nm hn n i).1.length_eq, List.length_cons]
  have := lens_del (nm := a.nm) n
  omega
theorem rn_len {a : AS} {old n : List UInt8} (hn : (a.nm.map Prod.fst).Nodup) (hl : a.nm.length ≤ 16384) (h : alook a.nm old ≠ none) : (doA a (.rn old n)).nm.length ≤ 16384 := by
  obtain ⟨i, hi⟩ := Option.ne_none_iff_exists'.1 h
  show (if old = n then a else match alook a.nm old with | none => a | some i => letsA (givesA a n i) old).nm.length ≤ _
  split
  · exact hl
  · rename_i hne
    rw [hi]
    simp only
    rw [(lets_nm _ _).1]
    have h1 := ((gives_nm hn n i).1.filter (fun q => decide (q.1 ≠ old))).length_eq
    rw [List.filter_cons_of_pos (by simpa using fun e => hne e.symm)] at h1
    have h2 : (mdel (givesA a n i).nm old).length = _ := h1
    rw [h2, List.length_cons]
    have h3 : ((mdel a.nm n).filter fun q => decide (q.1 ≠ old)) = (mdel a.nm old).filter fun q => decide (q.1 ≠ n) := by
      unfold mdel
      rw [List.filter_filter, List.filter_filter]
      exact List.filter_congr fun q _ => Bool.and_comm _ _
    rw [h3]
    have h4 := mdel_lt h
    have h5 := List.length_filter_le (fun q => decide (q.1 ≠ n)) (mdel a.nm old)
    omega
theorem rm_len {a : AS} {n : List UInt8} (hl : a.nm.length ≤ 16384) : (doA a (.rm n)).nm.length ≤ 16384 := by
  show (letsA a n).nm.length ≤ _
  rw [(lets_nm a n).1]
  exact Nat.le_trans (lens_del n) hl
theorem ap_len {a : AS} {n xs : List UInt8} (hl : a.nm.length ≤ 16384) : (doA a (.ap n xs)).nm.length ≤ 16384 := by
  show (appA a n xs).nm.length ≤ _
  unfold appA
  split <;> exact hl
theorem RF.Ok.burnt {r : RF} {a : AF} (h : r.Ok a) : decide (r.left = 0) = (a.fused && decide (a.left = 0)) := by
  have h1 := h.lf
  rw [h1]
  cases a.fused <;> simp
theorem RF.Ok.nl {r : RF} {a : AF} (h : r.Ok a) : a.now.nm.length ≤ 16384 := by
  have := okR_run h.ok a.pend.length
  rwa [List.take_length] at this
theorem RF.Ok.nv {r : RF} {a : AF} (h : r.Ok a) : ∃ A cap, r.now.nv = .slice A r.now.nm.length cap := by
  obtain ⟨n, A, cap, e, hn⟩ := own_form h.nw.raw.on (by decide)
  rw [strs_length, RM.ns_len, Nat.mul_one] at hn
  subst hn
  exact ⟨A, cap, e⟩
theorem gadr_none {o : Option (Nat × Nat)} : (o.map fun p => (⟨p.1, 0, none⟩ : Addr)).isNone = o.isNone := by cases o <;> rfl
theorem may26 {f : Bool} {l : Int} {ns : List (List UInt8)} (h : (f && decide (l = 0)) = true) : mayE f l ns = 26 := by unfold mayE; rw [if_pos h]
theorem may9 {f : Bool} {l : Int} {ns : List (List UInt8)} (h : (f && decide (l = 0)) = false) (hn : ns.all nameOk = false) : mayE f l ns = 9 := by
  unfold mayE
  rw [h, hn]
  rfl
theorem may0 {f : Bool} {l : Int} {ns : List (List UInt8)} (h : (f && decide (l = 0)) = false) (hn : ns.all nameOk = true) : mayE f l ns = 0 := by
  unfold mayE
  rw [h, hn]
  rfl
theorem src_rvw {w : World} {S : List SH} {P : List BK} {v : Value} {xs : List UInt8} (h : RV P v xs) (hin : In w (ph P)) : Src (⟨w, dom []⟩ : Base) S 1 v xs.length (ints xs) := br_src (br_rv h hin)
theorem rwrite_con (r : RF) (a : AF) (n : List UInt8) (bv : Value) (xs : List UInt8) (i : Nat) (w : World) (hok : r.Ok a) (hB : a.pend.length < 16384) (hn : strOk n) (hbr : BR w bv xs) (hbd : ∀ (a : Addr) (m c : Nat), bv = .slice (some a) m c → 0 < m → a.block ∉ dom r.heap) (hx9 : xs.length ≤ 1000000000) (hid : ∀ q ∈ a.now.nm, q.2 ≠ i) : Con Try.prog 50 [r.ptr, .string (bs n), bv] w r.heap fun v S' => v = .int .i64 (wrR a (usedN a.now) n xs) ∧ ∃ r' : RF, S' = [r'.heap] ∧ r'.Ok (if wrR a (usedN a.now) n xs = 0 then stepF a (.wr n xs i) else a) ∧ r'.gf = r.gf := by
  refine con_of_tree mix Try.func50 T50_ok (by kernel_rfl) ?_
  unfold T50
  obtain ⟨bA, bcp, hbf, _⟩ := br_form hbr
  have hbvc : bv.cells = #[bv] := by rw [hbf]; rfl
  have hfl := freesA_le hok.nw n
  obtain ⟨A1, cap1, hnv⟩ := hok.nv
  have hnl := hok.nl
  have hrm := hok.rm
  have hr0 := hok.r0
  have hul := usedN_le hok.nw
  have hb := hok.burnt
  have hnd := hok.nw.nd
  have hlen := hok.nw.len
  refine j_perm (S' := [[(r.gf, r.obj)], r.base.heap, r.now.heap, r.lc, ph r.P]) r.split ?_
  refine j_q (qs_ac) ?_
  refine j_q (qs_call ent74 rfl rfl rfl (fun w' hw' => rburnt_con r w' (in_own (hw'.perm r.split.symm) 0 rfl))) ?_
  refine j_cond rfl (fun hc0 => ?_) (fun hc0 => ?_)
  · skip
    have hm : mayE a.fused a.left [n] = 26 := may26 (hb ▸ hc0)
    refine j_q (qs_ac) ?_
    refine j_perm (S' := [r.heap]) r.split.symm ?_
    have hwe : wrR a (usedN a.now) n xs = 26 := by
      unfold wrR
      rw [if_pos (by rw [hm]; decide), hm]
    refine j_ret_con (vs := [_]) (fun w' hw' => ⟨rfl, trivial⟩) ?_
    rw [hwe, if_neg (by decide)]
    exact ⟨rfl, r, rfl, hok, rfl⟩
  · skip
    have hnb : (a.fused && decide (a.left = 0)) = false := hb ▸ hc0
    have hz : a.fused = true → a.left ≠ 0 := fun hf hl => by
      rw [hf, hl] at hnb
      simp at hnb
    refine j_q (qs_call ent75 rfl rfl rfl (fun w' hw' => risName_con n w')) ?_
    refine j_q (qs_not rfl) ?_
    refine j_cond rfl (fun hc1 => ?_) (fun hc1 => ?_)
    · skip
      have hm : mayE a.fused a.left [n] = 9 := may9 hnb (by simpa using hc1)
      refine j_q (qs_ac) ?_
      refine j_perm (S' := [r.heap]) r.split.symm ?_
      have hwe : wrR a (usedN a.now) n xs = 9 := by
        unfold wrR
        rw [if_pos (by rw [hm]; decide), hm]
      refine j_ret_con (vs := [_]) (fun w' hw' => ⟨rfl, trivial⟩) ?_
      rw [hwe, if_neg (by decide)]
      exact ⟨rfl, r, rfl, hok, rfl⟩
    · skip
      have hm : mayE a.fused a.left [n] = 0 := may0 hnb (by simpa using hc1)
      refine j_q (qs_lenl (n := xs.length) (A := bA) (c := bcp) Try.underlying23 hbf) ?_
      refine j_q (qs_gtr rfl rfl) ?_
      refine j_cond rfl (fun hc2 => ?_) (fun hc2 => ?_)
      · skip
        have hbig : 1048576 < xs.length := by
          simp at hc2
          omega
        refine j_q (qs_ac) ?_
        refine j_perm (S' := [r.heap]) r.split.symm ?_
        have hwe : wrR a (usedN a.now) n xs = 5 := by
          unfold wrR
          rw [if_neg (by rw [hm]; simp), if_pos hbig]
        refine j_ret_con (vs := [_]) (fun w' hw' => ⟨rfl, trivial⟩) ?_
        rw [hwe, if_neg (by decide)]
        exact ⟨rfl, r, rfl, hok, rfl⟩
      · skip
        have hbig : ¬ 1048576 < xs.length := by
          simp at hc2
          omega
        refine j_q (qs_nil rfl) ?_
        refine j_q (qs_field Try.underlying92 rfl sz86 (by decide) rfl) ?_
        refine j_q (qs_load (l := rfcells r) 0 Try.underlying86 rfl rfl rfl rfl) ?_
        refine j_q (qs_call ent76 rfl rfl rfl (fun w' hw' => rget_con r.now n w' (in_own hw' 2 rfl) hok.nw.raw)) ?_
        refine j_q (qs_pnil (A := (alook r.now.nm n).map fun p => ⟨p.1, 0, none⟩) Try.underlying110 rfl) ?_
        rw [gadr_none]
        refine j_g rfl (fun hb => qs_mt rfl) ?_
        refine j_g rfl (fun hb => qs_nil (gd_eq hb)) ?_
        refine j_g rfl (fun hb => qs_field Try.underlying92 rfl sz86 (by decide) (gd_eq hb)) ?_
        refine j_g rfl (fun hb2 => qs_load (l := rfcells r) 0 Try.underlying86 rfl (gd_eq hb2) rfl rfl) ?_
        refine j_g rfl (fun hb => qs_nil (gd_eq hb)) ?_
        refine j_g rfl (fun hb => qs_field Try.underlying89 rfl sz41 (by decide) (gd_eq hb)) ?_
        refine j_g rfl (fun hb2 => qs_loadO (rdo_mem (o := r.now.sobj) 2 rfl (by simp [RM.heap])) Try.underlying41 rfl (gd_eq hb2) rfl) ?_
        refine j_g rfl (fun hb2 => qs_lenl (n := r.now.nm.length) (A := A1) (c := cap1) Try.underlying41 ((gd_eq hb2).trans hnv)) ?_
        refine j_g rfl (fun hb => qs_geq (gd_eq hb) rfl) ?_
        refine j_q (qs_and rfl rfl) ?_
        refine j_cond rfl (fun hc3 => ?_) (fun hc3 => ?_)
        · skip
          have hfn : (alook a.now.nm n = none ∧ 16384 ≤ a.now.nm.length) := by
            simp only [Bool.and_eq_true, decide_eq_true_eq, Option.isNone_iff_eq_none] at hc3
            exact ⟨hok.nw.get0.1 hc3.1, by omega⟩
          refine j_q (qs_ac) ?_
          refine j_perm (S' := [r.heap]) r.split.symm ?_
          have hwe : wrR a (usedN a.now) n xs = 6 := by
            unfold wrR
            rw [if_neg (by rw [hm]; simp), if_neg hbig, if_pos (.inl hfn)]
          refine j_ret_con (vs := [_]) (fun w' hw' => ⟨rfl, trivial⟩) ?_
          rw [hwe, if_neg (by decide)]
          exact ⟨rfl, r, rfl, hok, rfl⟩
        · skip
          have hfn : ¬ (alook a.now.nm n = none ∧ 16384 ≤ a.now.nm.length) := fun h => by
            have h1 := hok.nw.get0.2 h.1
            rw [h1] at hc3
            simp at hc3
            omega
          refine j_draw ?_
          refine jq_q (qs_call ent77 rfl rfl rfl (fun w' hw' => rused_con r r.P a.now w' (in_own (hw'.perm r.split.symm) 0 rfl) hok.nw)) ?_
          refine jq_q (qs_call ent78 rfl rfl rfl (fun w' hw' => rfreed_con r r.P a.now n w' (in_own (hw'.perm r.split.symm) 0 rfl) hok.nw)) ?_
          refine jq_q (qs_sub64 rfl rfl (by first | omega | (simp only [bnA] at *; omega))) ?_
          refine jq_q (qs_lenl (n := xs.length) (A := bA) (c := bcp) Try.underlying23 hbf) ?_
          refine jq_q (qs_add64 rfl rfl (by first | omega | (simp only [bnA] at *; omega))) ?_
          refine jq_q (qs_nil rfl) ?_
          refine jq_q (qs_field Try.underlying92 rfl sz3 (by decide) rfl) ?_
          refine jq_q (qs_load (l := rfcells r) 0 Try.underlying3 rfl rfl rfl rfl) ?_
          refine jq_q (qs_gtr rfl rfl) ?_
          refine jq_nil ?_
          refine j_cond rfl (fun hc4 => ?_) (fun hc4 => ?_)
          · skip
            have hfr : a.room < (usedN a.now : Int) - (freesA a.now n : Int) + (xs.length : Int) := by
              simp at hc4
              omega
            refine j_q (qs_ac) ?_
            refine j_perm (S' := [r.heap]) r.split.symm ?_
            have hwe : wrR a (usedN a.now) n xs = 6 := by
              unfold wrR
              rw [if_neg (by rw [hm]; simp), if_neg hbig, if_pos (.inr hfr)]
            refine j_ret_con (vs := [_]) (fun w' hw' => ⟨rfl, trivial⟩) ?_
            rw [hwe, if_neg (by decide)]
            exact ⟨rfl, r, rfl, hok, rfl⟩
          · skip
            have hfr : ¬ a.room < (usedN a.now : Int) - (freesA a.now n : Int) + (xs.length : Int) := by
              simp at hc4
              omega
            refine j_q (qs_build (places := [(0, 1), (1, 1), (2, 1), (3, 1)]) (offs := [(0, [.int .i64 1]), (2, [.string (bs n)]), (3, [bv])]) Try.underlying114 zero114 (by kernel_rfl) rfl (by rintro (_ | _ | _ | _ | j) p q hp hq <;> first | (simp at hp hq; subst hp hq; exact ⟨rfl, rfl, by simp⟩) | (simp at hp hq; subst hp hq; exact ⟨rfl, hbvc, by simp⟩) | (simp at hp))) ?_
            refine j_perm (S' := [r.heap]) r.split.symm ?_
            refine j_call 0 ent79 rfl rfl rfl rfl (fun w' hw' => rdo_con r a (.wr n xs i) bv w' hok hB hz ⟨hn, by omega⟩ (br_keep hbr hbd hw') hbd hid (wr_len hnl hfn)) (fun u S2 hu => ?_)
            obtain ⟨rfl, r', rfl, hr', hgf'⟩ := hu
            refine j_subl (S' := [r'.heap]) (by repeat first | exact slR _ | exact slN _ | apply slC | apply slD) ?_
            have hwe : wrR a (usedN a.now) n xs = 0 := by
              unfold wrR
              rw [if_neg (by rw [hm]; simp), if_neg hbig, if_neg (fun h => h.elim hfn hfr)]
            refine j_ret_con (vs := [_]) (fun w' hw' => ⟨rfl, trivial⟩) ?_
            rw [hwe, if_pos rfl]
            exact ⟨rfl, r', rfl, hr', hgf'⟩
theorem rappend_con (r : RF) (a : AF) (n : List UInt8) (bv : Value) (xs : List UInt8) (w : World) (hok : r.Ok a) (hB : a.pend.length < 16384) (hn : strOk n) (hbr : BR w bv xs) (hbd : ∀ (a : Addr) (m c : Nat), bv = .slice (some a) m c → 0 < m → a.block ∉ dom r.heap) (hx9 : xs.length ≤ 1000000000) : Con Try.prog 51 [r.ptr, .string (bs n), bv] w r.heap fun v S' => v = .int .i64 (apR a (usedN a.now) n xs) ∧ ∃ r' : RF, S' = [r'.heap] ∧ r'.Ok (if apR a (usedN a.now) n xs = 0 then stepF a (.ap n xs) else a) ∧ r'.gf = r.gf := by
  refine con_of_tree mix Try.func51 T51_ok (by kernel_rfl) ?_
  unfold T51
  obtain ⟨bA, bcp, hbf, _⟩ := br_form hbr
  have hbvc : bv.cells = #[bv] := by rw [hbf]; rfl
  obtain ⟨A1, cap1, hnv⟩ := hok.nv
  have hnl := hok.nl
  have hrm := hok.rm
  have hr0 := hok.r0
  have hul := usedN_le hok.nw
  have hb := hok.burnt
  have hnd := hok.nw.nd
  have hlen := hok.nw.len
  refine j_perm (S' := [[(r.gf, r.obj)], r.base.heap, r.now.heap, r.lc, ph r.P]) r.split ?_
  refine j_q (qs_ac) ?_
  refine j_q (qs_call ent74 rfl rfl rfl (fun w' hw' => rburnt_con r w' (in_own (hw'.perm r.split.symm) 0 rfl))) ?_
  refine j_cond rfl (fun hc0 => ?_) (fun hc0 => ?_)
  · skip
    have hm : mayE a.fused a.left [n] = 26 := may26 (hb ▸ hc0)
    refine j_q (qs_ac) ?_
    refine j_perm (S' := [r.heap]) r.split.symm ?_
    have hwe : apR a (usedN a.now) n xs = 26 := by
      unfold apR
      rw [if_pos (by rw [hm]; decide), hm]
    refine j_ret_con (vs := [_]) (fun w' hw' => ⟨rfl, trivial⟩) ?_
    rw [hwe, if_neg (by decide)]
    exact ⟨rfl, r, rfl, hok, rfl⟩
  · skip
    have hnb : (a.fused && decide (a.left = 0)) = false := hb ▸ hc0
    have hz : a.fused = true → a.left ≠ 0 := fun hf hl => by
      rw [hf, hl] at hnb
      simp at hnb
    refine j_q (qs_call ent75 rfl rfl rfl (fun w' hw' => risName_con n w')) ?_
    refine j_q (qs_not rfl) ?_
    refine j_cond rfl (fun hc1 => ?_) (fun hc1 => ?_)
    · skip
      have hm : mayE a.fused a.left [n] = 9 := may9 hnb (by simpa using hc1)
      refine j_q (qs_ac) ?_
      refine j_perm (S' := [r.heap]) r.split.symm ?_
      have hwe : apR a (usedN a.now) n xs = 9 := by
        unfold apR
        rw [if_pos (by rw [hm]; decide), hm]
      refine j_ret_con (vs := [_]) (fun w' hw' => ⟨rfl, trivial⟩) ?_
      rw [hwe, if_neg (by decide)]
      exact ⟨rfl, r, rfl, hok, rfl⟩
    · skip
      have hm : mayE a.fused a.left [n] = 0 := may0 hnb (by simpa using hc1)
      refine j_q (qs_nil rfl) ?_
      refine j_q (qs_field Try.underlying92 rfl sz86 (by decide) rfl) ?_
      refine j_q (qs_load (l := rfcells r) 0 Try.underlying86 rfl rfl rfl rfl) ?_
      refine j_q (qs_call ent76 rfl rfl rfl (fun w' hw' => rget_con r.now n w' (in_own hw' 2 rfl) hok.nw.raw)) ?_
      refine j_q (qs_pnil (A := (alook r.now.nm n).map fun p => ⟨p.1, 0, none⟩) Try.underlying110 rfl) ?_
      rw [gadr_none]
      refine j_cond rfl (fun hc2 => ?_) (fun hc2 => ?_)
      · skip
        have hl0 : alook a.now.nm n = none := hok.nw.get0.1 (by simpa using hc2)
        refine j_q (qs_ac) ?_
        refine j_perm (S' := [r.heap]) r.split.symm ?_
        have hwe : apR a (usedN a.now) n xs = 7 := by
          unfold apR
          rw [if_neg (by rw [hm]; simp), if_pos hl0]
        refine j_ret_con (vs := [_]) (fun w' hw' => ⟨rfl, trivial⟩) ?_
        rw [hwe, if_neg (by decide)]
        exact ⟨rfl, r, rfl, hok, rfl⟩
      · skip
        have hl0 : alook a.now.nm n ≠ none := fun e => by
          rw [hok.nw.get0.2 e] at hc2
          simp at hc2
        obtain ⟨i, hi⟩ := Option.ne_none_iff_exists'.1 hl0
        obtain ⟨f, hf, hlk, hfi, hfx⟩ := hok.nw.get hi
        obtain ⟨fA, fcp, hfv, _, _⟩ := (hok.nw.rv f hf).1.form
        have hfl := (hok.nw.rv f hf).2
        have hsz : sizeA a.now n = f.xs.length := by simp only [sizeA, hi, hfx]
        rw [in_addr hok.nw.toRS0 hlk]
        refine j_q (qs_nil rfl) ?_
        refine j_q (qs_field Try.underlying116 rfl sz23 (by decide) rfl) ?_
        refine j_q (qs_loadO (l := [f.v]) (rdo_mem (o := f.h.2) 2 rfl (by unfold RM.heap; exact List.mem_append_right _ (List.mem_map.2 ⟨f, hf, rfl⟩))) Try.underlying23 rfl rfl rfl) ?_
        refine j_q (qs_lenl (n := f.xs.length) (A := fA) (c := fcp) Try.underlying23 hfv) ?_
        refine j_q (qs_lenl (n := xs.length) (A := bA) (c := bcp) Try.underlying23 hbf) ?_
        refine j_q (qs_add64 rfl rfl (by first | omega | (simp only [bnA] at *; omega))) ?_
        refine j_q (qs_gtr rfl rfl) ?_
        refine j_cond rfl (fun hc3 => ?_) (fun hc3 => ?_)
        · skip
          have hbig : 1048576 < sizeA a.now n + xs.length := by
            rw [hsz]
            simp at hc3
            omega
          refine j_q (qs_ac) ?_
          refine j_perm (S' := [r.heap]) r.split.symm ?_
          have hwe : apR a (usedN a.now) n xs = 5 := by
            unfold apR
            rw [if_neg (by rw [hm]; simp), if_neg hl0, if_pos hbig]
          refine j_ret_con (vs := [_]) (fun w' hw' => ⟨rfl, trivial⟩) ?_
          rw [hwe, if_neg (by decide)]
          exact ⟨rfl, r, rfl, hok, rfl⟩
        · skip
          have hbig : ¬ 1048576 < sizeA a.now n + xs.length := by
            rw [hsz]
            simp at hc3
            omega
          have hbig2 := hbig
          rw [hsz] at hbig2
          refine j_draw ?_
          refine jq_q (qs_call ent77 rfl rfl rfl (fun w' hw' => rused_con r r.P a.now w' (in_own (hw'.perm r.split.symm) 0 rfl) hok.nw)) ?_
          refine jq_q (qs_lenl (n := xs.length) (A := bA) (c := bcp) Try.underlying23 hbf) ?_
          refine jq_q (qs_add64 rfl rfl (by first | omega | (simp only [bnA] at *; omega))) ?_
          refine jq_q (qs_nil rfl) ?_
          refine jq_q (qs_field Try.underlying92 rfl sz3 (by decide) rfl) ?_
          refine jq_q (qs_load (l := rfcells r) 0 Try.underlying3 rfl rfl rfl rfl) ?_
          refine jq_q (qs_gtr rfl rfl) ?_
          refine jq_nil ?_
          refine j_cond rfl (fun hc4 => ?_) (fun hc4 => ?_)
          · skip
            have hfr : a.room < (usedN a.now : Int) + (xs.length : Int) := by
              simp at hc4
              omega
            refine j_q (qs_ac) ?_
            refine j_perm (S' := [r.heap]) r.split.symm ?_
            have hwe : apR a (usedN a.now) n xs = 6 := by
              unfold apR
              rw [if_neg (by rw [hm]; simp), if_neg hl0, if_neg hbig, if_pos hfr]
            refine j_ret_con (vs := [_]) (fun w' hw' => ⟨rfl, trivial⟩) ?_
            rw [hwe, if_neg (by decide)]
            exact ⟨rfl, r, rfl, hok, rfl⟩
          · skip
            have hfr : ¬ a.room < (usedN a.now : Int) + (xs.length : Int) := by
              simp at hc4
              omega
            refine j_q (qs_build (places := [(0, 1), (1, 1), (2, 1), (3, 1)]) (offs := [(0, [.int .i64 2]), (2, [.string (bs n)]), (3, [bv])]) Try.underlying114 zero114 (by kernel_rfl) rfl (by rintro (_ | _ | _ | _ | j) p q hp hq <;> first | (simp at hp hq; subst hp hq; exact ⟨rfl, rfl, by simp⟩) | (simp at hp hq; subst hp hq; exact ⟨rfl, hbvc, by simp⟩) | (simp at hp))) ?_
            refine j_perm (S' := [r.heap]) r.split.symm ?_
            refine j_call 0 ent79 rfl rfl rfl rfl (fun w' hw' => rdo_con r a (.ap n xs) bv w' hok hB hz ⟨hn, by omega⟩ (br_keep hbr hbd hw') hbd ⟨i, hi, by rw [← hfx]; omega⟩ (ap_len hnl)) (fun u S2 hu => ?_)
            obtain ⟨rfl, r', rfl, hr', hgf'⟩ := hu
            refine j_subl (S' := [r'.heap]) (by repeat first | exact slR _ | exact slN _ | apply slC | apply slD) ?_
            have hwe : apR a (usedN a.now) n xs = 0 := by
              unfold apR
              rw [if_neg (by rw [hm]; simp), if_neg hl0, if_neg hbig, if_neg hfr]
            refine j_ret_con (vs := [_]) (fun w' hw' => ⟨rfl, trivial⟩) ?_
            rw [hwe, if_pos rfl]
            exact ⟨rfl, r', rfl, hr', hgf'⟩
theorem rlink_con (r : RF) (a : AF) (old n : List UInt8) (w : World) (hok : r.Ok a) (hB : a.pend.length < 16384) (hso : strOk old) (hn : strOk n) : Con Try.prog 54 [r.ptr, .string (bs old), .string (bs n)] w r.heap fun v S' => v = .int .i64 (linE a old n) ∧ ∃ r' : RF, S' = [r'.heap] ∧ r'.Ok (if linE a old n = 0 then stepF a (.li old n) else a) ∧ r'.gf = r.gf := by
  refine con_of_tree mix Try.func54 T54_ok (by kernel_rfl) ?_
  unfold T54
  obtain ⟨A1, cap1, hnv⟩ := hok.nv
  have hnl := hok.nl
  have hrm := hok.rm
  have hr0 := hok.r0
  have hul := usedN_le hok.nw
  have hb := hok.burnt
  have hnd := hok.nw.nd
  have hlen := hok.nw.len
  refine j_perm (S' := [[(r.gf, r.obj)], r.base.heap, r.now.heap, r.lc, ph r.P]) r.split ?_
  refine j_q (qs_ac) ?_
  refine j_q (qs_call ent74 rfl rfl rfl (fun w' hw' => rburnt_con r w' (in_own (hw'.perm r.split.symm) 0 rfl))) ?_
  refine j_cond rfl (fun hc0 => ?_) (fun hc0 => ?_)
  · skip
    have hm : mayE a.fused a.left [old, n] = 26 := may26 (hb ▸ hc0)
    refine j_q (qs_ac) ?_
    refine j_perm (S' := [r.heap]) r.split.symm ?_
    have hwe : linE a old n = 26 := by
      unfold linE
      rw [if_pos (by rw [hm]; decide), hm]
    refine j_ret_con (vs := [_]) (fun w' hw' => ⟨rfl, trivial⟩) ?_
    rw [hwe, if_neg (by decide)]
    exact ⟨rfl, r, rfl, hok, rfl⟩
  · skip
    have hnb : (a.fused && decide (a.left = 0)) = false := hb ▸ hc0
    have hz : a.fused = true → a.left ≠ 0 := fun hf hl => by
      rw [hf, hl] at hnb
      simp at hnb
    refine j_q (qs_call ent75 rfl rfl rfl (fun w' hw' => risName_con old w')) ?_
    refine j_q (qs_not rfl) ?_
    refine j_g rfl (fun hb => qs_mt rfl) ?_
    refine j_g rfl (fun hb2 => qs_call ent75 rfl rfl (args1 (gd_eq hb2)) (fun w' hw' => risName_con n w')) ?_
    refine j_g rfl (fun hb => qs_not (gd_eq hb)) ?_
    refine j_q (qs_or rfl rfl) ?_
    refine j_cond rfl (fun hc1 => ?_) (fun hc1 => ?_)
    · skip
      have hm : mayE a.fused a.left [old, n] = 9 := may9 hnb (by
        simp only [List.all_cons, List.all_nil, Bool.and_true]
        revert hc1
        cases nameOk old <;> cases nameOk n <;> simp [gd])
      refine j_q (qs_ac) ?_
      refine j_perm (S' := [r.heap]) r.split.symm ?_
      have hwe : linE a old n = 9 := by
        unfold linE
        rw [if_pos (by rw [hm]; decide), hm]
      refine j_ret_con (vs := [_]) (fun w' hw' => ⟨rfl, trivial⟩) ?_
      rw [hwe, if_neg (by decide)]
      exact ⟨rfl, r, rfl, hok, rfl⟩
    · skip
      have hm : mayE a.fused a.left [old, n] = 0 := may0 hnb (by
        simp only [List.all_cons, List.all_nil, Bool.and_true]
        revert hc1
        cases nameOk old <;> cases nameOk n <;> simp [gd])
      refine j_q (qs_nil rfl) ?_
      refine j_q (qs_field Try.underlying92 rfl sz86 (by decide) rfl) ?_
      refine j_q (qs_load (l := rfcells r) 0 Try.underlying86 rfl rfl rfl rfl) ?_
      refine j_q (qs_call ent76 rfl rfl rfl (fun w' hw' => rget_con r.now old w' (in_own hw' 2 rfl) hok.nw.raw)) ?_
      refine j_q (qs_pnil (A := (alook r.now.nm old).map fun p => ⟨p.1, 0, none⟩) Try.underlying110 rfl) ?_
      rw [gadr_none]
      refine j_cond rfl (fun hc2 => ?_) (fun hc2 => ?_)
      · skip
        have hl0 : alook a.now.nm old = none := hok.nw.get0.1 (by simpa using hc2)
        refine j_q (qs_ac) ?_
        refine j_perm (S' := [r.heap]) r.split.symm ?_
        have hwe : linE a old n = 7 := by
          unfold linE
          rw [if_neg (by rw [hm]; simp), if_pos hl0]
        refine j_ret_con (vs := [_]) (fun w' hw' => ⟨rfl, trivial⟩) ?_
        rw [hwe, if_neg (by decide)]
        exact ⟨rfl, r, rfl, hok, rfl⟩
      · skip
        have hl0 : alook a.now.nm old ≠ none := fun e => by
          rw [hok.nw.get0.2 e] at hc2
          simp at hc2
        refine j_q (qs_nil rfl) ?_
        refine j_q (qs_field Try.underlying92 rfl sz86 (by decide) rfl) ?_
        refine j_q (qs_load (l := rfcells r) 0 Try.underlying86 rfl rfl rfl rfl) ?_
        refine j_q (qs_call ent76 rfl rfl rfl (fun w' hw' => rget_con r.now n w' (in_own hw' 2 rfl) hok.nw.raw)) ?_
        refine j_q (qs_pnnil (A := (alook r.now.nm n).map fun p => ⟨p.1, 0, none⟩) Try.underlying110 rfl) ?_
        refine j_cond rfl (fun hc3 => ?_) (fun hc3 => ?_)
        · skip
          have hl1 : alook a.now.nm n ≠ none := fun e => by
            rw [hok.nw.get0.2 e] at hc3
            simp at hc3
          refine j_q (qs_ac) ?_
          refine j_perm (S' := [r.heap]) r.split.symm ?_
          have hwe : linE a old n = 8 := by
            unfold linE
            rw [if_neg (by rw [hm]; simp), if_neg hl0, if_pos hl1]
          refine j_ret_con (vs := [_]) (fun w' hw' => ⟨rfl, trivial⟩) ?_
          rw [hwe, if_neg (by decide)]
          exact ⟨rfl, r, rfl, hok, rfl⟩
        · skip
          have hl1 : alook a.now.nm n = none := hok.nw.get0.1 (by simpa using hc3)
          refine j_q (qs_nil rfl) ?_
          refine j_q (qs_field Try.underlying92 rfl sz86 (by decide) rfl) ?_
          refine j_q (qs_load (l := rfcells r) 0 Try.underlying86 rfl rfl rfl rfl) ?_
          refine j_q (qs_nil rfl) ?_
          refine j_q (qs_field Try.underlying89 rfl sz41 (by decide) rfl) ?_
          refine j_q (qs_loadO (rdo_mem (o := r.now.sobj) 2 rfl (by simp [RM.heap])) Try.underlying41 rfl rfl rfl) ?_
          refine j_q (qs_lenl (n := r.now.nm.length) (A := A1) (c := cap1) Try.underlying41 hnv) ?_
          refine j_q (qs_geq rfl rfl) ?_
          refine j_cond rfl (fun hc4 => ?_) (fun hc4 => ?_)
          · skip
            have hfl : 16384 ≤ a.now.nm.length := by
              simp at hc4
              omega
            refine j_q (qs_ac) ?_
            refine j_perm (S' := [r.heap]) r.split.symm ?_
            have hwe : linE a old n = 6 := by
              unfold linE
              rw [if_neg (by rw [hm]; simp), if_neg hl0, if_neg (by rw [hl1]; simp), if_pos hfl]
            refine j_ret_con (vs := [_]) (fun w' hw' => ⟨rfl, trivial⟩) ?_
            rw [hwe, if_neg (by decide)]
            exact ⟨rfl, r, rfl, hok, rfl⟩
          · skip
            have hfl : ¬ 16384 ≤ a.now.nm.length := by
              simp at hc4
              omega
            refine j_q (qs_build (places := [(0, 1), (1, 1), (2, 1), (3, 1)]) (offs := [(0, [.int .i64 3]), (1, [.string (bs old)]), (2, [.string (bs n)])]) Try.underlying114 zero114 (by kernel_rfl) rfl (by rintro (_ | _ | _ | _ | j) p q hp hq <;> first | (simp at hp hq; subst hp hq; exact ⟨rfl, rfl, by simp⟩) | (simp at hp))) ?_
            refine j_perm (S' := [r.heap]) r.split.symm ?_
            refine j_call 0 ent79 rfl rfl rfl rfl (fun w' hw' => rdo_con r a (.li old n) (.slice none 0 0) w' hok hB hz ⟨hso, hn⟩ (.inl ⟨rfl, rfl⟩) (fun _ _ _ e => by cases e) (Option.isSome_iff_ne_none.2 hl0) (li_len hnd hfl hl0)) (fun u S2 hu => ?_)
            obtain ⟨rfl, r', rfl, hr', hgf'⟩ := hu
            refine j_subl (S' := [r'.heap]) (by repeat first | exact slR _ | exact slN _ | apply slC | apply slD) ?_
            have hwe : linE a old n = 0 := by
              unfold linE
              rw [if_neg (by rw [hm]; simp), if_neg hl0, if_neg (by rw [hl1]; simp), if_neg hfl]
            refine j_ret_con (vs := [_]) (fun w' hw' => ⟨rfl, trivial⟩) ?_
            rw [hwe, if_pos rfl]
            exact ⟨rfl, r', rfl, hr', hgf'⟩
theorem rrename_con (r : RF) (a : AF) (old n : List UInt8) (w : World) (hok : r.Ok a) (hB : a.pend.length < 16384) (hso : strOk old) (hn : strOk n) : Con Try.prog 55 [r.ptr, .string (bs old), .string (bs n)] w r.heap fun v S' => v = .int .i64 (renE a old n) ∧ ∃ r' : RF, S' = [r'.heap] ∧ r'.Ok (if renE a old n = 0 then stepF a (.rn old n) else a) ∧ r'.gf = r.gf := by
  refine con_of_tree mix Try.func55 T55_ok (by kernel_rfl) ?_
  unfold T55
  obtain ⟨A1, cap1, hnv⟩ := hok.nv
  have hnl := hok.nl
  have hrm := hok.rm
  have hr0 := hok.r0
  have hul := usedN_le hok.nw
  have hb := hok.burnt
  have hnd := hok.nw.nd
  have hlen := hok.nw.len
  refine j_perm (S' := [[(r.gf, r.obj)], r.base.heap, r.now.heap, r.lc, ph r.P]) r.split ?_
  refine j_q (qs_ac) ?_
  refine j_q (qs_call ent74 rfl rfl rfl (fun w' hw' => rburnt_con r w' (in_own (hw'.perm r.split.symm) 0 rfl))) ?_
  refine j_cond rfl (fun hc0 => ?_) (fun hc0 => ?_)
  · skip
    have hm : mayE a.fused a.left [old, n] = 26 := may26 (hb ▸ hc0)
    refine j_q (qs_ac) ?_
    refine j_perm (S' := [r.heap]) r.split.symm ?_
    have hwe : renE a old n = 26 := by
      unfold renE
      rw [if_pos (by rw [hm]; decide), hm]
    refine j_ret_con (vs := [_]) (fun w' hw' => ⟨rfl, trivial⟩) ?_
    rw [hwe, if_neg (by decide)]
    exact ⟨rfl, r, rfl, hok, rfl⟩
  · skip
    have hnb : (a.fused && decide (a.left = 0)) = false := hb ▸ hc0
    have hz : a.fused = true → a.left ≠ 0 := fun hf hl => by
      rw [hf, hl] at hnb
      simp at hnb
    refine j_q (qs_call ent75 rfl rfl rfl (fun w' hw' => risName_con old w')) ?_
    refine j_q (qs_not rfl) ?_
    refine j_g rfl (fun hb => qs_mt rfl) ?_
    refine j_g rfl (fun hb2 => qs_call ent75 rfl rfl (args1 (gd_eq hb2)) (fun w' hw' => risName_con n w')) ?_
    refine j_g rfl (fun hb => qs_not (gd_eq hb)) ?_
    refine j_q (qs_or rfl rfl) ?_
    refine j_cond rfl (fun hc1 => ?_) (fun hc1 => ?_)
    · skip
      have hm : mayE a.fused a.left [old, n] = 9 := may9 hnb (by
        simp only [List.all_cons, List.all_nil, Bool.and_true]
        revert hc1
        cases nameOk old <;> cases nameOk n <;> simp [gd])
      refine j_q (qs_ac) ?_
      refine j_perm (S' := [r.heap]) r.split.symm ?_
      have hwe : renE a old n = 9 := by
        unfold renE
        rw [if_pos (by rw [hm]; decide), hm]
      refine j_ret_con (vs := [_]) (fun w' hw' => ⟨rfl, trivial⟩) ?_
      rw [hwe, if_neg (by decide)]
      exact ⟨rfl, r, rfl, hok, rfl⟩
    · skip
      have hm : mayE a.fused a.left [old, n] = 0 := may0 hnb (by
        simp only [List.all_cons, List.all_nil, Bool.and_true]
        revert hc1
        cases nameOk old <;> cases nameOk n <;> simp [gd])
      refine j_q (qs_nil rfl) ?_
      refine j_q (qs_field Try.underlying92 rfl sz86 (by decide) rfl) ?_
      refine j_q (qs_load (l := rfcells r) 0 Try.underlying86 rfl rfl rfl rfl) ?_
      refine j_q (qs_call ent76 rfl rfl rfl (fun w' hw' => rget_con r.now old w' (in_own hw' 2 rfl) hok.nw.raw)) ?_
      refine j_q (qs_pnil (A := (alook r.now.nm old).map fun p => ⟨p.1, 0, none⟩) Try.underlying110 rfl) ?_
      rw [gadr_none]
      refine j_cond rfl (fun hc2 => ?_) (fun hc2 => ?_)
      · skip
        have hl0 : alook a.now.nm old = none := hok.nw.get0.1 (by simpa using hc2)
        refine j_q (qs_ac) ?_
        refine j_perm (S' := [r.heap]) r.split.symm ?_
        have hwe : renE a old n = 7 := by
          unfold renE
          rw [if_neg (by rw [hm]; simp), if_pos hl0]
        refine j_ret_con (vs := [_]) (fun w' hw' => ⟨rfl, trivial⟩) ?_
        rw [hwe, if_neg (by decide)]
        exact ⟨rfl, r, rfl, hok, rfl⟩
      · skip
        have hl0 : alook a.now.nm old ≠ none := fun e => by
          rw [hok.nw.get0.2 e] at hc2
          simp at hc2
        refine j_q (qs_build (places := [(0, 1), (1, 1), (2, 1), (3, 1)]) (offs := [(0, [.int .i64 4]), (1, [.string (bs old)]), (2, [.string (bs n)])]) Try.underlying114 zero114 (by kernel_rfl) rfl (by rintro (_ | _ | _ | _ | j) p q hp hq <;> first | (simp at hp hq; subst hp hq; exact ⟨rfl, rfl, by simp⟩) | (simp at hp))) ?_
        refine j_perm (S' := [r.heap]) r.split.symm ?_
        refine j_call 0 ent79 rfl rfl rfl rfl (fun w' hw' => rdo_con r a (.rn old n) (.slice none 0 0) w' hok hB hz ⟨hso, hn⟩ (.inl ⟨rfl, rfl⟩) (fun _ _ _ e => by cases e) (Option.isSome_iff_ne_none.2 hl0) (rn_len hnd hnl hl0)) (fun u S2 hu => ?_)
        obtain ⟨rfl, r', rfl, hr', hgf'⟩ := hu
        refine j_subl (S' := [r'.heap]) (by repeat first | exact slR _ | exact slN _ | apply slC | apply slD) ?_
        have hwe : renE a old n = 0 := by
          unfold renE
          rw [if_neg (by rw [hm]; simp), if_neg hl0]
        refine j_ret_con (vs := [_]) (fun w' hw' => ⟨rfl, trivial⟩) ?_
        rw [hwe, if_pos rfl]
        exact ⟨rfl, r', rfl, hr', hgf'⟩
theorem rremove_con (r : RF) (a : AF) (n : List UInt8) (w : World) (hok : r.Ok a) (hB : a.pend.length < 16384) (hn : strOk n) : Con Try.prog 56 [r.ptr, .string (bs n)] w r.heap fun v S' => v = .int .i64 (remE a n) ∧ ∃ r' : RF, S' = [r'.heap] ∧ r'.Ok (if remE a n = 0 then stepF a (.rm n) else a) ∧ r'.gf = r.gf := by
  refine con_of_tree mix Try.func56 T56_ok (by kernel_rfl) ?_
  unfold T56
  obtain ⟨A1, cap1, hnv⟩ := hok.nv
  have hnl := hok.nl
  have hrm := hok.rm
  have hr0 := hok.r0
  have hul := usedN_le hok.nw
  have hb := hok.burnt
  have hnd := hok.nw.nd
  have hlen := hok.nw.len
  refine j_perm (S' := [[(r.gf, r.obj)], r.base.heap, r.now.heap, r.lc, ph r.P]) r.split ?_
  refine j_q (qs_ac) ?_
  refine j_q (qs_call ent74 rfl rfl rfl (fun w' hw' => rburnt_con r w' (in_own (hw'.perm r.split.symm) 0 rfl))) ?_
  refine j_cond rfl (fun hc0 => ?_) (fun hc0 => ?_)
  · skip
    have hm : mayE a.fused a.left [n] = 26 := may26 (hb ▸ hc0)
    refine j_q (qs_ac) ?_
    refine j_perm (S' := [r.heap]) r.split.symm ?_
    have hwe : remE a n = 26 := by
      unfold remE
      rw [if_pos (by rw [hm]; decide), hm]
    refine j_ret_con (vs := [_]) (fun w' hw' => ⟨rfl, trivial⟩) ?_
    rw [hwe, if_neg (by decide)]
    exact ⟨rfl, r, rfl, hok, rfl⟩
  · skip
    have hnb : (a.fused && decide (a.left = 0)) = false := hb ▸ hc0
    have hz : a.fused = true → a.left ≠ 0 := fun hf hl => by
      rw [hf, hl] at hnb
      simp at hnb
    refine j_q (qs_call ent75 rfl rfl rfl (fun w' hw' => risName_con n w')) ?_
    refine j_q (qs_not rfl) ?_
    refine j_cond rfl (fun hc1 => ?_) (fun hc1 => ?_)
    · skip
      have hm : mayE a.fused a.left [n] = 9 := may9 hnb (by simpa using hc1)
      refine j_q (qs_ac) ?_
      refine j_perm (S' := [r.heap]) r.split.symm ?_
      have hwe : remE a n = 9 := by
        unfold remE
        rw [if_pos (by rw [hm]; decide), hm]
      refine j_ret_con (vs := [_]) (fun w' hw' => ⟨rfl, trivial⟩) ?_
      rw [hwe, if_neg (by decide)]
      exact ⟨rfl, r, rfl, hok, rfl⟩
    · skip
      have hm : mayE a.fused a.left [n] = 0 := may0 hnb (by simpa using hc1)
      refine j_q (qs_nil rfl) ?_
      refine j_q (qs_field Try.underlying92 rfl sz86 (by decide) rfl) ?_
      refine j_q (qs_load (l := rfcells r) 0 Try.underlying86 rfl rfl rfl rfl) ?_
      refine j_q (qs_call ent76 rfl rfl rfl (fun w' hw' => rget_con r.now n w' (in_own hw' 2 rfl) hok.nw.raw)) ?_
      refine j_q (qs_pnil (A := (alook r.now.nm n).map fun p => ⟨p.1, 0, none⟩) Try.underlying110 rfl) ?_
      rw [gadr_none]
      refine j_cond rfl (fun hc2 => ?_) (fun hc2 => ?_)
      · skip
        have hl0 : alook a.now.nm n = none := hok.nw.get0.1 (by simpa using hc2)
        refine j_q (qs_ac) ?_
        refine j_perm (S' := [r.heap]) r.split.symm ?_
        have hwe : remE a n = 7 := by
          unfold remE
          rw [if_neg (by rw [hm]; simp), if_pos hl0]
        refine j_ret_con (vs := [_]) (fun w' hw' => ⟨rfl, trivial⟩) ?_
        rw [hwe, if_neg (by decide)]
        exact ⟨rfl, r, rfl, hok, rfl⟩
      · skip
        have hl0 : alook a.now.nm n ≠ none := fun e => by
          rw [hok.nw.get0.2 e] at hc2
          simp at hc2
        refine j_q (qs_build (places := [(0, 1), (1, 1), (2, 1), (3, 1)]) (offs := [(0, [.int .i64 5]), (2, [.string (bs n)])]) Try.underlying114 zero114 (by kernel_rfl) rfl (by rintro (_ | _ | _ | _ | j) p q hp hq <;> first | (simp at hp hq; subst hp hq; exact ⟨rfl, rfl, by simp⟩) | (simp at hp))) ?_
        refine j_perm (S' := [r.heap]) r.split.symm ?_
        refine j_call 0 ent79 rfl rfl rfl rfl (fun w' hw' => rdo_con r a (.rm n) (.slice none 0 0) w' hok hB hz hn (.inl ⟨rfl, rfl⟩) (fun _ _ _ e => by cases e) trivial (rm_len hnl)) (fun u S2 hu => ?_)
        obtain ⟨rfl, r', rfl, hr', hgf'⟩ := hu
        refine j_subl (S' := [r'.heap]) (by repeat first | exact slR _ | exact slN _ | apply slC | apply slD) ?_
        have hwe : remE a n = 0 := by
          unfold remE
          rw [if_neg (by rw [hm]; simp), if_neg hl0]
        refine j_ret_con (vs := [_]) (fun w' hw' => ⟨rfl, trivial⟩) ?_
        rw [hwe, if_pos rfl]
        exact ⟨rfl, r', rfl, hr', hgf'⟩
theorem rread_con (r : RF) (a : AF) (n : List UInt8) (w : World) (hin : In w r.heap) (hok : r.Ok a) : Con Try.prog 60 [r.ptr, .string (bs n)] w [] fun u S' => ∃ (v : Value) (c : SH), u = .tuple #[v, .int .i64 (readE a.now n)] ∧ S' = [c] ∧ Sx.Own 5 1 (ints (contA a.now n)) v c := by
  refine con_of_tree mix Try.func60 T60_ok (by kernel_rfl) ?_
  unfold T60
  refine j_q (qs_ac) ?_
  refine j_q (qs_ac) ?_
  refine j_q (qs_nil rfl) ?_
  refine j_q (qs_field Try.underlying92 rfl sz86 (by decide) rfl) ?_
  refine j_q (qs_loadO (rdo_base (RF.in_gf hin) (by simp)) Try.underlying86 rfl rfl rfl) ?_
  refine j_q (qs_call ent76 rfl rfl rfl (fun w' hw' => rget_con r.now n w' (in_keep (RF.in_now hin) hw') hok.nw.raw)) ?_
  refine j_q (qs_pnil (A := (alook r.now.nm n).map fun p => ⟨p.1, 0, none⟩) Try.underlying110 rfl) ?_
  rw [gadr_none]
  refine j_cond rfl (fun hc0 => ?_) (fun hc0 => ?_)
  · skip
    have hl0 : alook a.now.nm n = none := hok.nw.get0.1 (by simpa using hc0)
    refine j_q (qs_ac) ?_
    refine j_q (qs_ac) ?_
    refine j_ret_con (vs := [_, _]) (fun w' hw' => ⟨rfl, rfl, trivial⟩) ?_
    refine ⟨.slice none 0 0, [], ?_, rfl, ?_⟩
    · unfold readE
      rw [if_pos hl0]
      rfl
    · simp only [contA, hl0]
      exact own_nil
  · skip
    have hl0 : alook a.now.nm n ≠ none := fun e => by
      rw [hok.nw.get0.2 e] at hc0
      simp at hc0
    obtain ⟨i, hi⟩ := Option.ne_none_iff_exists'.1 hl0
    obtain ⟨f, hf, hlk, hfi, hfx⟩ := hok.nw.get hi
    obtain ⟨hfv, hfl⟩ := hok.nw.rv f hf
    rw [in_addr hok.nw.toRS0 hlk]
    refine j_lit (vs := []) Try.underlying23 sz5 zero5 rfl (by simp [oneV]) ⟨rfl, by decide⟩ (fun g9 v9 c9 hv9 hc9 ho9 => ?_)
    subst hv9 hc9
    refine j_q (qs_nil rfl) ?_
    refine j_q (qs_field Try.underlying116 rfl sz23 (by decide) rfl) ?_
    refine j_q (qs_loadO (l := [f.v]) (rdo_base (RM.in_f (RF.in_now hin) hf) (by simp)) Try.underlying23 rfl rfl rfl) ?_
    refine j_append 0 Try.underlying23 Try.underlying23 (.inr ⟨_, rfl⟩) sb5 zero5 rfl ho9 rfl (src_rvw hfv (RF.in_P hin)) ints_one ⟨(by rw [ints_length]; simp only [List.length_nil]; omega), (by decide)⟩ (fun v13 c13 ho13 => ?_)
    refine j_q (qs_ac) ?_
    rw [List.nil_append] at ho13
    refine j_subl (S' := [c13]) (by repeat first | exact slR _ | exact slN _ | apply slC | apply slD) ?_
    refine j_ret_con (vs := [_, _]) (fun w' hw' => ⟨rfl, rfl, trivial⟩) ?_
    refine ⟨v13, c13, ?_, rfl, ?_⟩
    · unfold readE
      rw [if_neg hl0]
      rfl
    · simp only [contA, hi]
      rw [← hfx]
      exact ho13
end Go.Proofs.Ytckpegkpdepokaa
/-! Rg8 -/
namespace Go.Proofs.Ytckpegkpdepokaa
open Go Go.Sx
set_option maxRecDepth 100000
set_option maxHeartbeats 4000000
set_option linter.unusedVariables false
set_option linter.unusedSimpArgs false
attribute [local irreducible] J JQ QS Con W opW
open Go.MapKept Go.WideMaps Go.Maps
structure St where
  kind : Int
  n : Int
  a : List UInt8
  to : List UInt8
  bv : Value
  xs : List UInt8
def encS (x : St) : List Value := [.int .i64 x.kind, .int .i64 x.n, .string (bs x.a), .string (bs x.to), x.bv]
theorem encS_len (x : St) : (encS x).length = 5 := rfl
def intOk (n : Int) : Prop := -9223372036854775808 ≤ n ∧ n ≤ 9223372036854775807
structure St.Ok (w : World) (x : St) : Prop where
  k : intOk x.kind
  n : intOk x.n
  a : x.a.length ≤ 140737488351232
  t : x.to.length ≤ 140737488351232
  b : BR w x.bv x.xs ∧ x.xs.length ≤ 140737488351232
abbrev St0 : St := ⟨0, 0, [], [], .slice none 0 0, []⟩
def nextF (a : AF) (u : Int) (x : St) (i : Nat) : AF :=
  if x.kind = 1 then (if wrR a u x.a x.xs = 0 then stepF a (.wr x.a x.xs i) else a)
  else if x.kind = 2 then (if apR a u x.a x.xs = 0 then stepF a (.ap x.a x.xs) else a)
  else if x.kind = 3 then (if linE a x.a x.to = 0 then stepF a (.li x.a x.to) else a)
  else if x.kind = 4 then (if renE a x.a x.to = 0 then stepF a (.rn x.a x.to) else a)
  else if x.kind = 5 then (if remE a x.a = 0 then stepF a (.rm x.a) else a)
  else if x.kind = 6 then (if mayE a.fused a.left [] = 0 then syncF a else a)
  else if x.kind = 7 then crashF a x.n
  else if x.kind = 8 then fuseF a x.n
  else a
theorem own_brp {b : Base} {S : List SH} {w : World} {xs ys : List UInt8} {g n cap : Nat} {c : SH} (ho : Sx.Own 5 1 (ints (xs ++ ys)) (.slice (some ⟨g, 0, none⟩) n cap) c) (k : Nat) (hk : S[k]? = some c) (hw : Sig b S w) (hc : xs.length ≤ cap) (hg : g < w.heap.size) : BR w (.slice (some ⟨g, 0, none⟩) xs.length cap) xs :=
  .inr ⟨_, cap, rfl, hc, fun _ => hg, fun j u hu => own_rd ho k hk w hw j u (by rw [ints_append]; exact getE_left hu)⟩
theorem nextF_room (a : AF) (u : Int) (x : St) (i : Nat) : (nextF a u x i).room = a.room := by
  unfold nextF
  repeat' split
  all_goals rfl
theorem nextF_len (a : AF) (u : Int) (x : St) (i : Nat) : (nextF a u x i).pend.length ≤ a.pend.length + 1 := by
  unfold nextF
  repeat' split
  all_goals first | exact Nat.le_succ _ | exact Nat.zero_le _ | (show (a.pend ++ [_]).length ≤ _; rw [List.length_append]; exact Nat.le_refl _)
abbrev PostS (r : FR) (q : RF) (a b : AF) (x : St) (i : Nat) (v : Value) (S' : List SH) : Prop := ∃ ok : Bool, v = .bool ok ∧ (a = b → ok = true) ∧ ∃ (r' : FR) (q' : RF), S' = [r'.heap, q'.heap] ∧ r'.Ok (nextF a a.now.used x i) ∧ q'.Ok (nextF b (usedN b.now) x i) ∧ r'.gf = r.gf ∧ q'.gf = q.gf
theorem contA_le {r : FR} {a : AF} (h : r.Ok a) (n : List UInt8) : (contA a.now n).length ≤ 1000000000 := by
  unfold contA
  split
  · exact Nat.zero_le _
  · rename_i i hi
    obtain ⟨f, hf, _, h1, h2⟩ := look_rep h.now.raw h.now.rep hi
    rw [← h2]
    obtain ⟨A, cap, _, h3⟩ := h.now.raw.form f hf
    exact h3
theorem spoilL_con (ys : List UInt8) (v : Value) (c : SH) (w : World) (ho : Sx.Own 5 1 (ints ys) v c) (hl : ys.length ≤ 2000000000) : Con Try.prog 53 [v] w c fun _ _ => True := by
  refine con_of_tree mix Try.func53 T53_ok (by kernel_rfl) ?_
  unfold T53
  refine j_lit (vs := [.int .u8 _]) Try.underlying23 sz5 zero5 rfl (by simp [oneV]) ⟨rfl, by decide⟩ (fun g0 v0 c0 hv0 hc0 ho0 => ?_)
  subst hv0 hc0
  refine j_append 1 Try.underlying23 Try.underlying23 (.inr ⟨_, rfl⟩) sb5 zero5 rfl ho rfl (.inl ⟨_, _, rfl, own_rd ho0 0 rfl, rfl⟩) (by intro u hu; rw [List.mem_singleton] at hu; rw [hu]; rfl) ⟨(by rw [ints_length]; simp only [List.length_singleton]; omega), (by decide)⟩ (fun v1 c1 ho1 => ?_)
  obtain ⟨g, n1, cap, hv1⟩ := own_some ho1 (by simp)
  subst hv1
  obtain ⟨rest, fz, rfl, h2, h3, h4, h5⟩ := own_row ho1
  rw [List.length_append, ints_length, List.length_singleton, Nat.mul_one] at h2
  obtain ⟨l0, hl0⟩ : ∃ l, l = ints ys ++ [.int .u8 99] ++ rest := ⟨_, rfl⟩
  rw [← hl0] at h3 h5 ⊢
  refine j_subl (S' := [[(g, .cells l0.toArray 5 fz)]]) (by repeat first | exact slR _ | exact slN _ | apply slC | apply slD) ?_
  refine j_q (qs_ac) ?_
  refine j_loop (fun m vs S' => ∃ (i : Nat) (l : List Value), vs = [.int .i64 (i : Int)] ∧ S' = [[(g, .cells l.toArray 5 fz)]] ∧ l.length = l0.length ∧ i ≤ n1 ∧ m = n1 - i) ⟨_, 0, l0, rfl, rfl, rfl, Nat.zero_le _, rfl⟩ ?_
  rintro m vs S' hlen ⟨i, l, rfl, rfl, hll, hi, rfl⟩
  refine j_q (qs_lenl Try.underlying23 rfl) ?_
  refine j_q (qs_lss rfl rfl) ?_
  refine j_cond rfl (fun hc0 => ?_) (fun hc0 => ?_)
  · skip
    have hi1 : i < n1 := by
      have h6 : (i : Int) < (n1 : Int) := by simpa using hc0
      omega
    refine j_q (qs_ixn (g := g) (off := 0) (n := n1) (c := cap) (i := i) Try.underlying23 sz5 rfl rfl hi1) ?_
    refine j_store (l := l) (i := 0 + i * 1) 0 sz5 rfl rfl rfl rfl (by omega) (h5 _ (by omega)) ?_
    refine j_q (qs_add64 rfl rfl (by first | omega | (simp only [bnA] at *; omega))) ?_
    refine j_back rfl ?_
    exact ⟨n1 - (i + 1), by omega, i + 1, _, rfl, rfl, by rw [List.length_set]; exact hll, hi1, rfl⟩
  · skip
    refine j_ret_con (vs := []) (fun w' hw' => trivial) ?_
    trivial
theorem stp_con (r : FR) (q : RF) (a b : AF) (x : St) (i : Nat) (w : World) (hok : r.Ok a) (hq : q.Ok b) (hra : a.room ≤ 1073741824) (hBa : a.pend.length < 16384) (hBb : b.pend.length < 16384) (hsa : strOk x.a) (hst : strOk x.to) (hxn : intOk x.n) (hbr : BR w x.bv x.xs) (hbd : ∀ (z : Addr) (m c : Nat), x.bv = .slice (some z) m c → 0 < m → z.block ∉ dom (r.heap ++ q.heap)) (hxl : x.xs.length ≤ 8000) (hid : ∀ p ∈ a.now.nm, p.2 ≠ i) (hidb : ∀ p ∈ b.now.nm, p.2 ≠ i) : Con Try.prog 24 [r.ptr, q.ptr, .agg (encS x).toArray] w (r.heap ++ q.heap) fun v S' => PostS r q a b x i v S' := by
  refine con_of_tree mix Try.func24 T24_ok (by kernel_rfl) ?_
  unfold T24
  have hrmA : a.room ≤ 1073741824 := hra
  obtain ⟨bA, bcp, hbf, _⟩ := br_form hbr
  refine j_perm (S' := [r.heap, q.heap]) (by simp) ?_
  have hdr : ∀ (z : Addr) (m c : Nat), x.bv = .slice (some z) m c → 0 < m → z.block ∉ dom q.heap := fun z m c e h0 h1 => hbd z m c e h0 (by rw [dom, List.map_append]; exact List.mem_append_right _ h1)
  refine j_box (l := encS x) rfl (fun g0 hg0 hs0 => ?_)
  refine j_q (qs_ac) ?_
  refine j_q (qs_field Try.underlying50 rfl sz3 (by decide) rfl) ?_
  refine j_q (qs_load (l := encS x) 0 Try.underlying3 rfl rfl rfl rfl) ?_
  refine j_q (qs_eql rfl rfl) ?_
  refine j_cond rfl (fun hc0 => ?_) (fun hc0 => ?_)
  · skip
    have hk : x.kind = 1 := by simpa using hc0
    refine j_cond rfl (fun hc1 => ?_) (fun hc1 => ?_)
    · skip
      refine j_q (qs_field Try.underlying50 rfl sz23 (by decide) rfl) ?_
      refine j_q (qs_load (l := encS x) 0 Try.underlying23 rfl rfl rfl rfl) ?_
      refine j_call0 ent49 rfl rfl rfl (fun w' hw' => roomy_con x.bv x.xs w' (br_keep hbr hbd hw') hxl) (fun u S2 hu => ?_)
      obtain ⟨g, cap, c, rfl, hown, rfl⟩ := hu
      have hcap := own_cap hown
      obtain ⟨rest, fz, rfl, hr2, hr3, hr4, hr5⟩ := own_row hown
      have hown2 : Sx.Own 5 1 (ints (x.xs ++ [171])) (.slice (some ⟨g, 0, none⟩) (x.xs.length + 1) cap) [(g, .cells (ints (x.xs ++ [171, 171]) ++ rest).toArray 5 fz)] := by
        have e : ints (x.xs ++ [171, 171]) ++ rest = ints (x.xs ++ [171]) ++ (.int .u8 171 :: rest) := by simp [ints]
        rw [e] at hr3 hr5 ⊢
        exact own_mk (by rw [ints_length, List.length_append, List.length_singleton, Nat.mul_one]) hr3 (by omega) hr5
      refine j_q (qs_ac) ?_
      refine j_q (qs_ac) ?_
      refine j_q (qs_field Try.underlying50 rfl sz3 (by decide) rfl) ?_
      refine j_q (qs_load (l := encS x) 1 Try.underlying3 rfl rfl rfl rfl) ?_
      refine j_q (qs_eql rfl rfl) ?_
      refine j_cond rfl (fun hc2 => ?_) (fun hc2 => ?_)
      · skip
        refine j_mix [[(g0, .cells (encS x).toArray 50 (0, 0))]] (Le.of_sub (by repeat first | exact slR _ | exact slN _ | apply slC | apply slD)) ?_
        refine j_mq (qs_field Try.underlying50 rfl sz9 (by decide) rfl) ?_
        refine j_mq (qs_load (l := encS x) 0 Try.underlying9 rfl rfl rfl rfl) ?_
        refine j_mq (qs_field Try.underlying50 rfl sz23 (by decide) rfl) ?_
        refine j_mq (qs_load (l := encS x) 0 Try.underlying23 rfl rfl rfl rfl) ?_
        refine j_mq (qs_lenl (n := x.xs.length) (A := bA) (c := bcp) Try.underlying23 hbf) ?_
        refine j_mq (qs_cutl (a := 0) (z := x.xs.length) Try.underlying23 sz5 rfl rfl ⟨.i64, rfl⟩ (by omega) (by omega)) ?_
        rw [if_neg (by omega), Nat.sub_zero, Nat.sub_zero]
        refine j_call 2 ent13 rfl rfl rfl rfl (fun w' hw' => (write_con' r a x.a (.slice (some ⟨g, 0, none⟩) x.xs.length cap) x.xs i w' hok hsa (own_brp hown 0 rfl hw' (by omega) (lt_of_get (hw'.own (g, .cells (ints (x.xs ++ [171, 171]) ++ rest).toArray 5 fz) (by simp)))) (fun z m c e h0 => by
          injection e with e1 e2 e3
          injection e1 with e1
          subst e1
          exact nodup_two hw'.nodup (i := 0) (j := 2) (by decide) rfl rfl g (by simp [dom])) (by omega) hBa hrmA hid).mono (fun u S5 h5 => by
          obtain ⟨h1, r', h2, h3, h4⟩ := h5
          exact (⟨h1, r', h2, h3, h4.gf⟩ : u = .int .i64 (wrE a x.a x.xs) ∧ ∃ r' : FR, S5 = [r'.heap] ∧ r'.Ok (if wrE a x.a x.xs = 0 then stepF a (.wr x.a x.xs i) else a) ∧ r'.gf = r.gf))) (fun u S5 h5 => ?_)
        obtain ⟨rfl, r', rfl, hr', hgf⟩ := h5
        refine j_subl (S' := [r'.heap, [(g, .cells (ints (x.xs ++ [171, 171]) ++ rest).toArray 5 fz)], [(g0, .cells (encS x).toArray 50 (0, 0))], q.heap]) (by repeat first | exact slR _ | exact slN _ | apply slC | apply slD) ?_
        refine j_mR _ (.refl _) ?_
        refine j_mend ?_
        refine j_q (qs_field Try.underlying50 rfl sz9 (by decide) rfl) ?_
        refine j_q (qs_load (l := encS x) 2 Try.underlying9 rfl rfl rfl rfl) ?_
        refine j_q (qs_field Try.underlying50 rfl sz23 (by decide) rfl) ?_
        refine j_q (qs_load (l := encS x) 2 Try.underlying23 rfl rfl rfl rfl) ?_
        refine j_call 3 ent50 rfl rfl rfl rfl (fun w' hw' => rwrite_con q b x.a x.bv x.xs i w' hq hBb hsa (br_keep hbr hbd hw') hdr (by omega) hidb) (fun u S5 h5 => ?_)
        obtain ⟨rfl, q', rfl, hq', hgq⟩ := h5
        refine j_subl (S' := [q'.heap, r'.heap, [(g, .cells (ints (x.xs ++ [171, 171]) ++ rest).toArray 5 fz)], [(g0, .cells (encS x).toArray 50 (0, 0))]]) (by repeat first | exact slR _ | exact slN _ | apply slC | apply slD) ?_
        refine j_q (qs_eql rfl rfl) ?_
        refine j_g rfl (fun hb => qs_mt rfl) ?_
        refine j_g rfl (fun hb => qs_field Try.underlying50 rfl sz23 (by decide) rfl) ?_
        refine j_g rfl (fun hb2 => qs_load (l := encS x) 3 Try.underlying23 rfl (gd_eq hb2) rfl rfl) ?_
        refine j_g (v := .bool true) rfl (fun hb2 => qs_call ent52 rfl rfl (args2 (gd_eq hb2) (gd_eq hb2)) (fun w' hw' => stands_con g cap x.bv x.xs w' (lt_of_get (hw'.own (g, .cells (ints (x.xs ++ [171, 171]) ++ rest).toArray 5 fz) (by simp))) (own_rd hown 2 rfl w' hw') (by omega) (br_keep hbr hbd hw') hxl)) ?_
        refine j_q (qs_and rfl rfl) ?_
        refine j_call 2 ent53 rfl rfl rfl rfl (fun w' hw' => spoilL_con (x.xs ++ [171]) _ _ w' hown2 (by rw [List.length_append]; exact Nat.le_trans (Nat.add_le_add_right hxl 1) (by decide))) (fun u S2 _ => ?_)
        refine j_subl (S' := [q'.heap, r'.heap]) (by
          refine List.Sublist.trans ?_ (List.sublist_append_right _ _)
          exact (by repeat first | exact slR _ | exact slN _ | apply slC | apply slD)) ?_
        refine j_perm (S' := [r'.heap, q'.heap]) (by simp only [List.flatten_cons, List.flatten_nil, List.append_nil]; exact List.perm_append_comm) ?_
        rw [wrE_R] at hr'
        refine j_ret_con (vs := [_]) (fun w' hw' => ⟨rfl, trivial⟩) ?_
        refine ⟨_, rfl, ?_, r', q', rfl, ?_, ?_, hgf, hgq⟩
        · rintro rfl
          rw [show wrE a x.a x.xs = wrR a (usedN a.now) x.a x.xs by rw [wrE_R, usedN_of hok.now]]
          simp [gd]
        · unfold nextF
          rw [if_pos hk]
          exact hr'
        · unfold nextF
          rw [if_pos hk]
          exact hq'
      · skip
        rw [hk] at hc2
        simp at hc2
    · skip
      rw [hc0] at hc1
      cases hc1
  · skip
    have hk1 : x.kind ≠ 1 := by simpa using hc0
    refine j_q (qs_eql rfl rfl) ?_
    refine j_cond rfl (fun hc9 => ?_) (fun hc9 => ?_)
    · skip
      have hk : x.kind = 2 := by simpa using hc9
      refine j_q (qs_field Try.underlying50 rfl sz23 (by decide) rfl) ?_
      refine j_q (qs_load (l := encS x) 0 Try.underlying23 rfl rfl rfl rfl) ?_
      refine j_call0 ent49 rfl rfl rfl (fun w' hw' => roomy_con x.bv x.xs w' (br_keep hbr hbd hw') hxl) (fun u S2 hu => ?_)
      obtain ⟨g, cap, c, rfl, hown, rfl⟩ := hu
      have hcap := own_cap hown
      obtain ⟨rest, fz, rfl, hr2, hr3, hr4, hr5⟩ := own_row hown
      have hown2 : Sx.Own 5 1 (ints (x.xs ++ [171])) (.slice (some ⟨g, 0, none⟩) (x.xs.length + 1) cap) [(g, .cells (ints (x.xs ++ [171, 171]) ++ rest).toArray 5 fz)] := by
        have e : ints (x.xs ++ [171, 171]) ++ rest = ints (x.xs ++ [171]) ++ (.int .u8 171 :: rest) := by simp [ints]
        rw [e] at hr3 hr5 ⊢
        exact own_mk (by rw [ints_length, List.length_append, List.length_singleton, Nat.mul_one]) hr3 (by omega) hr5
      refine j_q (qs_ac) ?_
      refine j_q (qs_ac) ?_
      refine j_q (qs_field Try.underlying50 rfl sz3 (by decide) rfl) ?_
      refine j_q (qs_load (l := encS x) 1 Try.underlying3 rfl rfl rfl rfl) ?_
      refine j_q (qs_eql rfl rfl) ?_
      refine j_cond rfl (fun hc10 => ?_) (fun hc10 => ?_)
      · skip
        rw [hk] at hc10
        simp at hc10
      · skip
        refine j_mix [[(g0, .cells (encS x).toArray 50 (0, 0))]] (Le.of_sub (by repeat first | exact slR _ | exact slN _ | apply slC | apply slD)) ?_
        refine j_mq (qs_field Try.underlying50 rfl sz9 (by decide) rfl) ?_
        refine j_mq (qs_load (l := encS x) 0 Try.underlying9 rfl rfl rfl rfl) ?_
        refine j_mq (qs_field Try.underlying50 rfl sz23 (by decide) rfl) ?_
        refine j_mq (qs_load (l := encS x) 0 Try.underlying23 rfl rfl rfl rfl) ?_
        refine j_mq (qs_lenl (n := x.xs.length) (A := bA) (c := bcp) Try.underlying23 hbf) ?_
        refine j_mq (qs_cutl (a := 0) (z := x.xs.length) Try.underlying23 sz5 rfl rfl ⟨.i64, rfl⟩ (by omega) (by omega)) ?_
        rw [if_neg (by omega), Nat.sub_zero, Nat.sub_zero]
        refine j_call 2 ent16 rfl rfl rfl rfl (fun w' hw' => (appendR_con r a x.a (.slice (some ⟨g, 0, none⟩) x.xs.length cap) x.xs w' hok hBa hsa (own_brp hown 0 rfl hw' (by omega) (lt_of_get (hw'.own (g, .cells (ints (x.xs ++ [171, 171]) ++ rest).toArray 5 fz) (by simp)))) (fun z m c e h0 => by
          injection e with e1 e2 e3
          injection e1 with e1
          subst e1
          exact nodup_two hw'.nodup (i := 0) (j := 2) (by decide) rfl rfl g (by simp [dom])) (by omega) hrmA).mono (fun u S5 h5 => by
          obtain ⟨h1, r', h2, h3, h4⟩ := h5
          exact (⟨h1, r', h2, h3, h4.gf⟩ : u = .int .i64 (appE a x.a x.xs) ∧ ∃ r' : FR, S5 = [r'.heap] ∧ r'.Ok (if appE a x.a x.xs = 0 then stepF a (.ap x.a x.xs) else a) ∧ r'.gf = r.gf))) (fun u S5 h5 => ?_)
        obtain ⟨rfl, r', rfl, hr', hgf⟩ := h5
        refine j_subl (S' := [r'.heap, [(g, .cells (ints (x.xs ++ [171, 171]) ++ rest).toArray 5 fz)], [(g0, .cells (encS x).toArray 50 (0, 0))], q.heap]) (by repeat first | exact slR _ | exact slN _ | apply slC | apply slD) ?_
        refine j_mR _ (.refl _) ?_
        refine j_mend ?_
        refine j_q (qs_field Try.underlying50 rfl sz9 (by decide) rfl) ?_
        refine j_q (qs_load (l := encS x) 2 Try.underlying9 rfl rfl rfl rfl) ?_
        refine j_q (qs_field Try.underlying50 rfl sz23 (by decide) rfl) ?_
        refine j_q (qs_load (l := encS x) 2 Try.underlying23 rfl rfl rfl rfl) ?_
        refine j_call 3 ent51 rfl rfl rfl rfl (fun w' hw' => rappend_con q b x.a x.bv x.xs w' hq hBb hsa (br_keep hbr hbd hw') hdr (by omega)) (fun u S5 h5 => ?_)
        obtain ⟨rfl, q', rfl, hq', hgq⟩ := h5
        refine j_subl (S' := [q'.heap, r'.heap, [(g, .cells (ints (x.xs ++ [171, 171]) ++ rest).toArray 5 fz)], [(g0, .cells (encS x).toArray 50 (0, 0))]]) (by repeat first | exact slR _ | exact slN _ | apply slC | apply slD) ?_
        refine j_q (qs_eql rfl rfl) ?_
        refine j_g rfl (fun hb => qs_mt rfl) ?_
        refine j_g rfl (fun hb => qs_field Try.underlying50 rfl sz23 (by decide) rfl) ?_
        refine j_g rfl (fun hb2 => qs_load (l := encS x) 3 Try.underlying23 rfl (gd_eq hb2) rfl rfl) ?_
        refine j_g (v := .bool true) rfl (fun hb2 => qs_call ent52 rfl rfl (args2 (gd_eq hb2) (gd_eq hb2)) (fun w' hw' => stands_con g cap x.bv x.xs w' (lt_of_get (hw'.own (g, .cells (ints (x.xs ++ [171, 171]) ++ rest).toArray 5 fz) (by simp))) (own_rd hown 2 rfl w' hw') (by omega) (br_keep hbr hbd hw') hxl)) ?_
        refine j_q (qs_and rfl rfl) ?_
        refine j_call 2 ent53 rfl rfl rfl rfl (fun w' hw' => spoilL_con (x.xs ++ [171]) _ _ w' hown2 (by rw [List.length_append]; exact Nat.le_trans (Nat.add_le_add_right hxl 1) (by decide))) (fun u S2 _ => ?_)
        refine j_subl (S' := [q'.heap, r'.heap]) (by
          refine List.Sublist.trans ?_ (List.sublist_append_right _ _)
          exact (by repeat first | exact slR _ | exact slN _ | apply slC | apply slD)) ?_
        refine j_perm (S' := [r'.heap, q'.heap]) (by simp only [List.flatten_cons, List.flatten_nil, List.append_nil]; exact List.perm_append_comm) ?_
        rw [apE_R] at hr'
        refine j_ret_con (vs := [_]) (fun w' hw' => ⟨rfl, trivial⟩) ?_
        refine ⟨_, rfl, ?_, r', q', rfl, ?_, ?_, hgf, hgq⟩
        · rintro rfl
          rw [show appE a x.a x.xs = apR a (usedN a.now) x.a x.xs by rw [apE_R, usedN_of hok.now]]
          simp [gd]
        · unfold nextF
          rw [if_neg (by rw [hk]; decide), if_pos hk]
          exact hr'
        · unfold nextF
          rw [if_neg (by rw [hk]; decide), if_pos hk]
          exact hq'
    · skip
      have hk2 : x.kind ≠ 2 := by simpa using hc9
      refine j_q (qs_eql rfl rfl) ?_
      refine j_cond rfl (fun hc11 => ?_) (fun hc11 => ?_)
      · skip
        have hk : x.kind = 3 := by simpa using hc11
        refine j_mix [[(g0, .cells (encS x).toArray 50 (0, 0))]] (Le.of_sub (by repeat first | exact slR _ | exact slN _ | apply slC | apply slD)) ?_
        refine j_mq (qs_field Try.underlying50 rfl sz9 (by decide) rfl) ?_
        refine j_mq (qs_load (l := encS x) 0 Try.underlying9 rfl rfl rfl rfl) ?_
        refine j_mq (qs_field Try.underlying50 rfl sz9 (by decide) rfl) ?_
        refine j_mq (qs_load (l := encS x) 0 Try.underlying9 rfl rfl rfl rfl) ?_
        refine j_mq (qs_field Try.underlying50 rfl sz9 (by decide) rfl) ?_
        refine j_mq (qs_load (l := encS x) 0 Try.underlying9 rfl rfl rfl rfl) ?_
        refine j_mq (qs_field Try.underlying50 rfl sz9 (by decide) rfl) ?_
        refine j_mq (qs_load (l := encS x) 0 Try.underlying9 rfl rfl rfl rfl) ?_
        refine j_call 1 ent15 rfl rfl rfl rfl (fun w' hw' => (linkR_con r a x.a x.to w' hok hBa hsa hst).mono (fun u S5 h5 => by
          obtain ⟨h1, r', h2, h3, h4⟩ := h5
          exact (⟨h1, r', h2, h3, h4.gf⟩ : u = .int .i64 (linE a x.a x.to) ∧ ∃ r' : FR, S5 = [r'.heap] ∧ r'.Ok (if linE a x.a x.to = 0 then stepF a (.li x.a x.to) else a) ∧ r'.gf = r.gf))) (fun u S5 h5 => ?_)
        obtain ⟨rfl, r', rfl, hr', hgf⟩ := h5
        refine j_subl (S' := [r'.heap, [(g0, .cells (encS x).toArray 50 (0, 0))], q.heap]) (by repeat first | exact slR _ | exact slN _ | apply slC | apply slD) ?_
        refine j_mD0 (Le.of_sub (by repeat first | exact slR _ | exact slN _ | apply slC | apply slD)) ?_
        refine j_call 2 ent54 rfl rfl rfl rfl (fun w' hw' => rlink_con q b x.a x.to w' hq hBb hsa hst) (fun u S5 h5 => ?_)
        obtain ⟨rfl, q', rfl, hq', hgq⟩ := h5
        refine j_subl (S' := [q'.heap, r'.heap]) (by repeat first | exact slR _ | exact slN _ | apply slC | apply slD) ?_
        refine j_perm (S' := [r'.heap, q'.heap]) (by simp only [List.flatten_cons, List.flatten_nil, List.append_nil]; exact List.perm_append_comm) ?_
        refine j_mR _ (.refl _) ?_
        refine j_mq (qs_eql rfl rfl) ?_
        refine j_mend ?_
        skip
        refine j_ret_con (vs := [_]) (fun w' hw' => ⟨rfl, trivial⟩) ?_
        refine ⟨_, rfl, ?_, r', q', rfl, ?_, ?_, hgf, hgq⟩
        · rintro rfl
          simp
        · unfold nextF
          rw [if_neg hk1, if_neg hk2, if_pos hk]
          exact hr'
        · unfold nextF
          rw [if_neg hk1, if_neg hk2, if_pos hk]
          exact hq'
      · skip
        have hk3 : x.kind ≠ 3 := by simpa using hc11
        refine j_q (qs_eql rfl rfl) ?_
        refine j_cond rfl (fun hc12 => ?_) (fun hc12 => ?_)
        · skip
          have hk : x.kind = 4 := by simpa using hc12
          refine j_mix [[(g0, .cells (encS x).toArray 50 (0, 0))]] (Le.of_sub (by repeat first | exact slR _ | exact slN _ | apply slC | apply slD)) ?_
          refine j_mq (qs_field Try.underlying50 rfl sz9 (by decide) rfl) ?_
          refine j_mq (qs_load (l := encS x) 0 Try.underlying9 rfl rfl rfl rfl) ?_
          refine j_mq (qs_field Try.underlying50 rfl sz9 (by decide) rfl) ?_
          refine j_mq (qs_load (l := encS x) 0 Try.underlying9 rfl rfl rfl rfl) ?_
          refine j_mq (qs_field Try.underlying50 rfl sz9 (by decide) rfl) ?_
          refine j_mq (qs_load (l := encS x) 0 Try.underlying9 rfl rfl rfl rfl) ?_
          refine j_mq (qs_field Try.underlying50 rfl sz9 (by decide) rfl) ?_
          refine j_mq (qs_load (l := encS x) 0 Try.underlying9 rfl rfl rfl rfl) ?_
          refine j_call 1 ent27 rfl rfl rfl rfl (fun w' hw' => (rename_con r a x.a x.to w' hok hBa hsa hst).mono (fun u S5 h5 => by
            obtain ⟨h1, r', h2, h3, h4⟩ := h5
            exact (⟨h1, r', h2, h3, h4.gf⟩ : u = .int .i64 (renE a x.a x.to) ∧ ∃ r' : FR, S5 = [r'.heap] ∧ r'.Ok (if renE a x.a x.to = 0 then stepF a (.rn x.a x.to) else a) ∧ r'.gf = r.gf))) (fun u S5 h5 => ?_)
          obtain ⟨rfl, r', rfl, hr', hgf⟩ := h5
          refine j_subl (S' := [r'.heap, [(g0, .cells (encS x).toArray 50 (0, 0))], q.heap]) (by repeat first | exact slR _ | exact slN _ | apply slC | apply slD) ?_
          refine j_mD0 (Le.of_sub (by repeat first | exact slR _ | exact slN _ | apply slC | apply slD)) ?_
          refine j_call 2 ent55 rfl rfl rfl rfl (fun w' hw' => rrename_con q b x.a x.to w' hq hBb hsa hst) (fun u S5 h5 => ?_)
          obtain ⟨rfl, q', rfl, hq', hgq⟩ := h5
          refine j_subl (S' := [q'.heap, r'.heap]) (by repeat first | exact slR _ | exact slN _ | apply slC | apply slD) ?_
          refine j_perm (S' := [r'.heap, q'.heap]) (by simp only [List.flatten_cons, List.flatten_nil, List.append_nil]; exact List.perm_append_comm) ?_
          refine j_mR _ (.refl _) ?_
          refine j_mq (qs_eql rfl rfl) ?_
          refine j_mend ?_
          skip
          refine j_ret_con (vs := [_]) (fun w' hw' => ⟨rfl, trivial⟩) ?_
          refine ⟨_, rfl, ?_, r', q', rfl, ?_, ?_, hgf, hgq⟩
          · rintro rfl
            simp
          · unfold nextF
            rw [if_neg hk1, if_neg hk2, if_neg hk3, if_pos hk]
            exact hr'
          · unfold nextF
            rw [if_neg hk1, if_neg hk2, if_neg hk3, if_pos hk]
            exact hq'
        · skip
          have hk4 : x.kind ≠ 4 := by simpa using hc12
          refine j_q (qs_eql rfl rfl) ?_
          refine j_cond rfl (fun hc13 => ?_) (fun hc13 => ?_)
          · skip
            have hk : x.kind = 5 := by simpa using hc13
            refine j_mix [[(g0, .cells (encS x).toArray 50 (0, 0))]] (Le.of_sub (by repeat first | exact slR _ | exact slN _ | apply slC | apply slD)) ?_
            refine j_mq (qs_field Try.underlying50 rfl sz9 (by decide) rfl) ?_
            refine j_mq (qs_load (l := encS x) 0 Try.underlying9 rfl rfl rfl rfl) ?_
            refine j_mq (qs_field Try.underlying50 rfl sz9 (by decide) rfl) ?_
            refine j_mq (qs_load (l := encS x) 0 Try.underlying9 rfl rfl rfl rfl) ?_
            refine j_call 1 ent28 rfl rfl rfl rfl (fun w' hw' => (remove_con r a x.a w' hok hBa hsa).mono (fun u S5 h5 => by
              obtain ⟨h1, r', h2, h3, h4⟩ := h5
              exact (⟨h1, r', h2, h3, h4.gf⟩ : u = .int .i64 (remE a x.a) ∧ ∃ r' : FR, S5 = [r'.heap] ∧ r'.Ok (if remE a x.a = 0 then stepF a (.rm x.a) else a) ∧ r'.gf = r.gf))) (fun u S5 h5 => ?_)
            obtain ⟨rfl, r', rfl, hr', hgf⟩ := h5
            refine j_subl (S' := [r'.heap, [(g0, .cells (encS x).toArray 50 (0, 0))], q.heap]) (by repeat first | exact slR _ | exact slN _ | apply slC | apply slD) ?_
            refine j_mD0 (Le.of_sub (by repeat first | exact slR _ | exact slN _ | apply slC | apply slD)) ?_
            refine j_call 2 ent56 rfl rfl rfl rfl (fun w' hw' => rremove_con q b x.a w' hq hBb hsa) (fun u S5 h5 => ?_)
            obtain ⟨rfl, q', rfl, hq', hgq⟩ := h5
            refine j_subl (S' := [q'.heap, r'.heap]) (by repeat first | exact slR _ | exact slN _ | apply slC | apply slD) ?_
            refine j_perm (S' := [r'.heap, q'.heap]) (by simp only [List.flatten_cons, List.flatten_nil, List.append_nil]; exact List.perm_append_comm) ?_
            refine j_mR _ (.refl _) ?_
            refine j_mq (qs_eql rfl rfl) ?_
            refine j_mend ?_
            skip
            refine j_ret_con (vs := [_]) (fun w' hw' => ⟨rfl, trivial⟩) ?_
            refine ⟨_, rfl, ?_, r', q', rfl, ?_, ?_, hgf, hgq⟩
            · rintro rfl
              simp
            · unfold nextF
              rw [if_neg hk1, if_neg hk2, if_neg hk3, if_neg hk4, if_pos hk]
              exact hr'
            · unfold nextF
              rw [if_neg hk1, if_neg hk2, if_neg hk3, if_neg hk4, if_pos hk]
              exact hq'
          · skip
            have hk5 : x.kind ≠ 5 := by simpa using hc13
            refine j_q (qs_eql rfl rfl) ?_
            refine j_cond rfl (fun hc14 => ?_) (fun hc14 => ?_)
            · skip
              have hk : x.kind = 6 := by simpa using hc14
              refine j_call 1 ent20 rfl rfl rfl rfl (fun w' hw' => (sync_con r a w' hok).mono (fun u S5 h5 => by
                obtain ⟨h1, r', h2, h3, h4⟩ := h5
                exact (⟨h1, r', h2, h3, h4.gf⟩ : u = .int .i64 (mayE a.fused a.left []) ∧ ∃ r' : FR, S5 = [r'.heap] ∧ r'.Ok (if mayE a.fused a.left [] = 0 then syncF a else a) ∧ r'.gf = r.gf))) (fun u S5 h5 => ?_)
              obtain ⟨rfl, r', rfl, hr', hgf⟩ := h5
              refine j_subl (S' := [r'.heap, [(g0, .cells (encS x).toArray 50 (0, 0))], q.heap]) (by repeat first | exact slR _ | exact slN _ | apply slC | apply slD) ?_
              refine j_call 2 ent57 rfl rfl rfl rfl (fun w' hw' => rsync_con q b w' hq) (fun u S5 h5 => ?_)
              obtain ⟨rfl, q', rfl, hq', hgq⟩ := h5
              refine j_subl (S' := [q'.heap, r'.heap]) (by repeat first | exact slR _ | exact slN _ | apply slC | apply slD) ?_
              refine j_perm (S' := [r'.heap, q'.heap]) (by simp only [List.flatten_cons, List.flatten_nil, List.append_nil]; exact List.perm_append_comm) ?_
              refine j_q (qs_eql rfl rfl) ?_
              skip
              refine j_ret_con (vs := [_]) (fun w' hw' => ⟨rfl, trivial⟩) ?_
              refine ⟨_, rfl, ?_, r', q', rfl, ?_, ?_, hgf, hgq⟩
              · rintro rfl
                simp
              · unfold nextF
                rw [if_neg hk1, if_neg hk2, if_neg hk3, if_neg hk4, if_neg hk5, if_pos hk]
                exact hr'
              · unfold nextF
                rw [if_neg hk1, if_neg hk2, if_neg hk3, if_neg hk4, if_neg hk5, if_pos hk]
                exact hq'
            · skip
              have hk6 : x.kind ≠ 6 := by simpa using hc14
              refine j_q (qs_eql rfl rfl) ?_
              refine j_cond rfl (fun hc15 => ?_) (fun hc15 => ?_)
              · skip
                have hk : x.kind = 7 := by simpa using hc15
                refine j_q (qs_field Try.underlying50 rfl sz3 (by decide) rfl) ?_
                refine j_q (qs_load (l := encS x) 0 Try.underlying3 rfl rfl rfl rfl) ?_
                refine j_call 1 ent21 rfl rfl rfl rfl (fun w' hw' => (crash_con r a x.n w' hok).mono (fun u S5 h5 => by
                  obtain ⟨r', h2, h3, h4⟩ := h5
                  exact (⟨r', h2, h3, h4.gf⟩ : ∃ r' : FR, S5 = [r'.heap] ∧ r'.Ok (crashF a x.n) ∧ r'.gf = r.gf))) (fun u S5 h5 => ?_)
                obtain ⟨r', rfl, hr', hgf⟩ := h5
                refine j_subl (S' := [r'.heap, [(g0, .cells (encS x).toArray 50 (0, 0))], q.heap]) (by repeat first | exact slR _ | exact slN _ | apply slC | apply slD) ?_
                refine j_q (qs_field Try.underlying50 rfl sz3 (by decide) rfl) ?_
                refine j_q (qs_load (l := encS x) 1 Try.underlying3 rfl rfl rfl rfl) ?_
                refine j_call 2 ent58 rfl rfl rfl rfl (fun w' hw' => rcrash_con q b x.n w' hq) (fun u S5 h5 => ?_)
                obtain ⟨q', rfl, hq', hgq⟩ := h5
                refine j_subl (S' := [q'.heap, r'.heap]) (by repeat first | exact slR _ | exact slN _ | apply slC | apply slD) ?_
                refine j_perm (S' := [r'.heap, q'.heap]) (by simp only [List.flatten_cons, List.flatten_nil, List.append_nil]; exact List.perm_append_comm) ?_
                refine j_q (qs_ac) ?_
                skip
                refine j_ret_con (vs := [_]) (fun w' hw' => ⟨rfl, trivial⟩) ?_
                refine ⟨_, rfl, ?_, r', q', rfl, ?_, ?_, hgf, hgq⟩
                · rintro rfl
                  rfl
                · unfold nextF
                  rw [if_neg hk1, if_neg hk2, if_neg hk3, if_neg hk4, if_neg hk5, if_neg hk6, if_pos hk]
                  exact hr'
                · unfold nextF
                  rw [if_neg hk1, if_neg hk2, if_neg hk3, if_neg hk4, if_neg hk5, if_neg hk6, if_pos hk]
                  exact hq'
              · skip
                have hk7 : x.kind ≠ 7 := by simpa using hc15
                refine j_q (qs_eql rfl rfl) ?_
                refine j_cond rfl (fun hc16 => ?_) (fun hc16 => ?_)
                · skip
                  have hk : x.kind = 8 := by simpa using hc16
                  refine j_q (qs_field Try.underlying50 rfl sz3 (by decide) rfl) ?_
                  refine j_q (qs_load (l := encS x) 0 Try.underlying3 rfl rfl rfl rfl) ?_
                  refine j_call 1 ent18 rfl rfl rfl rfl (fun w' hw' => (fuse_con r a x.n w' hok hxn).mono (fun u S5 h5 => by
                    obtain ⟨r', h2, h3, h4⟩ := h5
                    exact (⟨r', h2, h3, h4.gf⟩ : ∃ r' : FR, S5 = [r'.heap] ∧ r'.Ok (fuseF a x.n) ∧ r'.gf = r.gf))) (fun u S5 h5 => ?_)
                  obtain ⟨r', rfl, hr', hgf⟩ := h5
                  refine j_subl (S' := [r'.heap, [(g0, .cells (encS x).toArray 50 (0, 0))], q.heap]) (by repeat first | exact slR _ | exact slN _ | apply slC | apply slD) ?_
                  refine j_q (qs_field Try.underlying50 rfl sz3 (by decide) rfl) ?_
                  refine j_q (qs_load (l := encS x) 1 Try.underlying3 rfl rfl rfl rfl) ?_
                  refine j_call 2 ent59 rfl rfl rfl rfl (fun w' hw' => rfuse_con q b x.n w' hq hxn) (fun u S5 h5 => ?_)
                  obtain ⟨q', rfl, hq', hgq⟩ := h5
                  refine j_subl (S' := [q'.heap, r'.heap]) (by repeat first | exact slR _ | exact slN _ | apply slC | apply slD) ?_
                  refine j_perm (S' := [r'.heap, q'.heap]) (by simp only [List.flatten_cons, List.flatten_nil, List.append_nil]; exact List.perm_append_comm) ?_
                  refine j_q (qs_ac) ?_
                  skip
                  refine j_ret_con (vs := [_]) (fun w' hw' => ⟨rfl, trivial⟩) ?_
                  refine ⟨_, rfl, ?_, r', q', rfl, ?_, ?_, hgf, hgq⟩
                  · rintro rfl
                    rfl
                  · unfold nextF
                    rw [if_neg hk1, if_neg hk2, if_neg hk3, if_neg hk4, if_neg hk5, if_neg hk6, if_neg hk7, if_pos hk]
                    exact hr'
                  · unfold nextF
                    rw [if_neg hk1, if_neg hk2, if_neg hk3, if_neg hk4, if_neg hk5, if_neg hk6, if_neg hk7, if_pos hk]
                    exact hq'
                · skip
                  have hk8 : x.kind ≠ 8 := by simpa using hc16
                  refine j_q (qs_field Try.underlying50 rfl sz9 (by decide) rfl) ?_
                  refine j_q (qs_load (l := encS x) 0 Try.underlying9 rfl rfl rfl rfl) ?_
                  refine j_call0 ent11 rfl rfl rfl (fun w' hw' => readRO_con r a x.a w' (in_own hw' 1 rfl) hok hsa) (fun u S5 h5 => ?_)
                  obtain ⟨v1, c1, rfl, rfl, ho1⟩ := h5
                  refine j_q (qs_ext (vs := [v1, .int .i64 (readE a.now x.a)]) rfl rfl) ?_
                  refine j_q (qs_ext (vs := [v1, .int .i64 (readE a.now x.a)]) rfl rfl) ?_
                  refine j_q (qs_field Try.underlying50 rfl sz9 (by decide) rfl) ?_
                  refine j_q (qs_load (l := encS x) 1 Try.underlying9 rfl rfl rfl rfl) ?_
                  refine j_call0 ent60 rfl rfl rfl (fun w' hw' => rread_con q b x.a w' (in_own hw' 3 rfl) hq) (fun u S5 h5 => ?_)
                  obtain ⟨v2, c2, rfl, rfl, ho2⟩ := h5
                  refine j_q (qs_ext (vs := [v2, .int .i64 (readE b.now x.a)]) rfl rfl) ?_
                  refine j_q (qs_ext (vs := [v2, .int .i64 (readE b.now x.a)]) rfl rfl) ?_
                  refine j_q (qs_call ent14 rfl rfl rfl (fun w' hw' => same_con (contA a.now x.a) (contA b.now x.a) _ _ w' (own_br ho1 1 rfl hw') (own_br ho2 0 rfl hw') (contA_le hok _))) ?_
                  refine j_g rfl (fun hb => qs_mt rfl) ?_
                  refine j_g rfl (fun hb => qs_mt rfl) ?_
                  refine j_g rfl (fun hb => qs_eql (gd_eq hb) (gd_eq hb)) ?_
                  refine j_q (qs_and rfl rfl) ?_
                  refine j_call 1 ent53 rfl rfl rfl rfl (fun w' hw' => spoilL_con (contA a.now x.a) _ _ w' ho1 (by have := contA_le hok x.a; omega)) (fun u S2 _ => ?_)
                  refine j_subl (S' := [r.heap, q.heap]) (by
                    refine List.Sublist.trans ?_ (List.sublist_append_right _ _)
                    exact (by repeat first | exact slR _ | exact slN _ | apply slC | apply slD)) ?_
                  refine j_ret_con (vs := [_]) (fun w' hw' => ⟨rfl, trivial⟩) ?_
                  refine ⟨_, rfl, ?_, r, q, rfl, ?_, ?_, rfl, rfl⟩
                  · rintro rfl
                    simp [gd]
                  · unfold nextF
                    rw [if_neg hk1, if_neg hk2, if_neg hk3, if_neg hk4, if_neg hk5, if_neg hk6, if_neg hk7, if_neg hk8]
                    exact hok
                  · unfold nextF
                    rw [if_neg hk1, if_neg hk2, if_neg hk3, if_neg hk4, if_neg hk5, if_neg hk6, if_neg hk7, if_neg hk8]
                    exact hq
end Go.Proofs.Ytckpegkpdepokaa
/-! Rg9 -/
namespace Go.Proofs.Ytckpegkpdepokaa
open Go Go.Sx
set_option maxRecDepth 100000
set_option maxHeartbeats 4000000
set_option linter.unusedVariables false
set_option linter.unusedSimpArgs false
attribute [local irreducible] J JQ QS Con W opW
open Go.MapKept Go.WideMaps Go.Maps
abbrev steps (rs : List St) : List Value := (rs.map encS).flatten
theorem steps_get {rs : List St} {i k : Nat} {u : Value} (h : i < rs.length) (hk : (encS (rs.getD i St0))[k]? = some u) : (steps rs)[i * 5 + k]? = some u := by
  have hk4 : k < 5 := by
    have := (List.getElem?_eq_some_iff.1 hk).1
    rw [encS_len] at this
    exact this
  rw [flat_get encS_len rs i k hk4, List.getElem?_eq_getElem h]
  rw [List.getD_eq_getElem?_getD, List.getElem?_eq_getElem h] at hk
  exact hk
def Script (w : World) (v : Value) (rs : List St) : Prop := RSlN 5 w v (steps rs) rs.length ∧ ∀ x ∈ rs, x.Ok w
theorem script_form {w : World} {v : Value} {rs : List St} (h : Script w v rs) : ∃ A cap g off, v = .slice A rs.length cap ∧ rs.length ≤ cap ∧ (0 < rs.length → A = some ⟨g, off, none⟩ ∧ g < w.heap.size ∧ Cells w ⟨g, off, none⟩ (steps rs)) := rsln_form h.1
theorem script_ok {w : World} {v : Value} {rs : List St} (h : Script w v rs) {i : Nat} (hi : i < rs.length) : (rs.getD i St0).Ok w := by
  refine h.2 _ ?_
  rw [List.getD_eq_getElem?_getD, List.getElem?_eq_getElem hi, Option.getD_some]
  exact List.getElem_mem hi
theorem script_keep {w w' : World} {v : Value} {rs : List St} (h : Script w v rs) {S : List SH} (hs : Sig ⟨w, dom []⟩ S w') : Script w' v rs := ⟨rsln_keep h.1 hs, fun x hx => ⟨(h.2 x hx).k, (h.2 x hx).n, (h.2 x hx).a, (h.2 x hx).t, br0 (h.2 x hx).b.1 hs, (h.2 x hx).b.2⟩⟩
theorem str_ok {l : List UInt8} (h : l.length ≤ 140737488351232) : strOk l := by show l.length ≤ 9223372036854775807; omega
structure IdsLe (a : AF) (k : Nat) : Prop where
  b : ∀ p ∈ a.base.nm, p.2 ≤ k
  p : ∀ n xs j, AT.wr n xs j ∈ a.pend → j ≤ k
def IdsS (s : AS) (k : Nat) : Prop := ∀ p ∈ s.nm, p.2 ≤ k
theorem ids_lets {s : AS} {k : Nat} (h : IdsS s k) (n : List UInt8) : IdsS (letsA s n) k := fun p hp => by
  rw [(lets_nm s n).1] at hp
  exact h p (List.mem_filter.1 hp).1
theorem ids_gives {s : AS} {k : Nat} (h : IdsS s k) (n : List UInt8) {i : Nat} (hi : i ≤ k) : IdsS (givesA s n i) k := by
  unfold givesA
  split
  · exact h
  · intro p hp
    rcases List.mem_append.1 hp with hp | hp
    · exact ids_lets h n p hp
    · rw [List.mem_singleton] at hp
      rw [hp]
      exact hi
theorem ids_do {s : AS} {k : Nat} (h : IdsS s k) (t : AT) (ht : ∀ n xs j, t = .wr n xs j → j ≤ k) : IdsS (doA s t) k := by
  cases t with
  | wr n xs i =>
    show IdsS (writeA s n xs i) k
    rw [writeA_eq]
    intro p hp
    rcases List.mem_append.1 hp with hp | hp
    · exact ids_lets h n p hp
    · rw [List.mem_singleton] at hp
      rw [hp]
      exact ht n xs i rfl
  | ap n xs =>
    show IdsS (appA s n xs) k
    unfold appA
    split <;> exact h
  | li old n =>
    show IdsS (match alook s.nm old with | none => s | some i => givesA s n i) k
    split
    · exact h
    · rename_i i hi
      exact ids_gives h n (h _ (alook_mem hi))
  | rn old n =>
    show IdsS (if old = n then s else match alook s.nm old with | none => s | some i => letsA (givesA s n i) old) k
    split
    · exact h
    · split
      · exact h
      · rename_i i hi
        exact ids_lets (ids_gives h n (h _ (alook_mem hi))) old
  | rm n => exact ids_lets h n
theorem ids_run {s : AS} {k : Nat} : ∀ {l : List AT}, IdsS s k → (∀ n xs j, AT.wr n xs j ∈ l → j ≤ k) → IdsS (runA s l) k
  | [], h, _ => h
  | t :: l, h, hl => ids_run (l := l) (ids_do h t fun n xs j e => hl n xs j (by rw [e]; exact List.mem_cons_self ..)) fun n xs j hm => hl n xs j (List.mem_cons_of_mem _ hm)
theorem IdsLe.now {a : AF} {k : Nat} (h : IdsLe a k) : IdsS a.now k := ids_run h.b h.p
theorem IdsLe.up {a : AF} {k : Nat} (h : IdsLe a k) : IdsLe a (k + 1) := ⟨fun p hp => Nat.le_succ_of_le (h.b p hp), fun n xs j hm => Nat.le_succ_of_le (h.p n xs j hm)⟩
theorem IdsLe.step {a : AF} {k : Nat} (h : IdsLe a k) (t : AT) (ht : ∀ n xs j, t = .wr n xs j → j ≤ k) : IdsLe (stepF a t) k := ⟨h.b, fun n xs j hm => by
  rcases List.mem_append.1 hm with hm | hm
  · exact h.p n xs j hm
  · rw [List.mem_singleton] at hm
    exact ht n xs j hm.symm⟩
theorem IdsLe.next {a : AF} {k : Nat} (h : IdsLe a k) (u : Int) (x : St) : IdsLe (nextF a u x (k + 1)) (k + 1) := by
  have h1 := h.up
  unfold nextF
  repeat' split
  all_goals first
    | exact h1
    | exact h1.step _ (fun n xs j e => by cases e; exact Nat.le_refl _)
    | exact h1.step _ (fun n xs j e => by cases e)
    | exact ⟨h1.now, fun n xs j hm => by cases hm⟩
    | exact ⟨ids_run (l := a.pend.take _) h1.b (fun n xs j hm => h1.p n xs j (List.mem_of_mem_take hm)), fun n xs j hm => by cases hm⟩
    | exact ⟨h1.b, h1.p⟩
def keptN : List UInt8 := [107, 101, 112, 116]
structure KpS (xa : List UInt8) (s : AS) : Prop where
  l : alook s.nm keptN = some 0
  o : ∀ q ∈ s.nm, q.2 = 0 → q.1 = keptN
  d : s.dt 0 = xa
def offT : AT → Prop
  | .wr n _ i => n ≠ keptN ∧ i ≠ 0
  | .ap n _ => n ≠ keptN
  | .li old n => old ≠ keptN ∧ n ≠ keptN
  | .rn old n => old ≠ keptN ∧ n ≠ keptN
  | .rm n => n ≠ keptN
theorem kp_lets {xa : List UInt8} {s : AS} (h : KpS xa s) {n : List UInt8} (hn : n ≠ keptN) : KpS xa (letsA s n) := by
  have h1 := lets_nm s n
  refine ⟨?_, fun q hq => ?_, by rw [h1.2]; exact h.d⟩
  · rw [h1.1, alook_mdel, if_neg hn]
    exact h.l
  · rw [h1.1] at hq
    exact h.o q (List.mem_filter.1 hq).1
theorem kp_gives {xa : List UInt8} {s : AS} (h : KpS xa s) {n : List UInt8} (hn : n ≠ keptN) {i : Nat} (hi : i ≠ 0) : KpS xa (givesA s n i) := by
  unfold givesA
  split
  · exact h
  · have h1 := kp_lets h hn
    refine ⟨?_, fun q hq => ?_, h1.d⟩
    · show alook ((letsA s n).nm ++ [(n, i)]) keptN = some 0
      rw [alook_app (by rw [h1.l]; rfl)]
      exact h1.l
    · rcases List.mem_append.1 hq with hq | hq
      · exact h1.o q hq
      · rw [List.mem_singleton] at hq
        rw [hq]
        exact fun e => absurd e hi
theorem kp_id {xa : List UInt8} {s : AS} (h : KpS xa s) {n : List UInt8} (hn : n ≠ keptN) {i : Nat} (hi : alook s.nm n = some i) : i ≠ 0 := fun e => hn (h.o _ (alook_mem hi) e)
theorem kp_do {xa : List UInt8} {s : AS} (h : KpS xa s) {t : AT} (ht : offT t) : KpS xa (doA s t) := by
  cases t with
  | wr n xs i =>
    have h1 := kp_lets h ht.1
    show KpS xa (writeA s n xs i)
    rw [writeA_eq]
    refine ⟨?_, fun q hq => ?_, ?_⟩
    · show alook ((letsA s n).nm ++ [(n, i)]) keptN = some 0
      rw [alook_app (by rw [h1.l]; rfl)]
      exact h1.l
    · rcases List.mem_append.1 hq with hq | hq
      · exact h1.o q hq
      · rw [List.mem_singleton] at hq
        rw [hq]
        exact fun e => absurd e ht.2
    · show updA (letsA s n).dt i xs 0 = xa
      unfold updA
      rw [if_neg (fun e => ht.2 e.symm)]
      exact h1.d
  | ap n xs =>
    show KpS xa (appA s n xs)
    unfold appA
    split
    · exact h
    · rename_i i hi
      have h0 := kp_id h ht hi
      refine ⟨h.l, h.o, ?_⟩
      show updA s.dt i (s.dt i ++ xs) 0 = xa
      unfold updA
      rw [if_neg (fun e => h0 e.symm)]
      exact h.d
  | li old n =>
    show KpS xa (match alook s.nm old with | none => s | some i => givesA s n i)
    split
    · exact h
    · rename_i i hi
      exact kp_gives h ht.2 (kp_id h ht.1 hi)
  | rn old n =>
    show KpS xa (if old = n then s else match alook s.nm old with | none => s | some i => letsA (givesA s n i) old)
    split
    · exact h
    · split
      · exact h
      · rename_i i hi
        exact kp_lets (kp_gives h ht.2 (kp_id h ht.1 hi)) ht.1
  | rm n => exact kp_lets h ht
theorem kp_run {xa : List UInt8} {s : AS} : ∀ {l : List AT}, KpS xa s → (∀ t ∈ l, offT t) → KpS xa (runA s l)
  | [], h, _ => h
  | t :: l, h, hl => kp_run (l := l) (kp_do h (hl t (List.mem_cons_self ..))) fun t ht => hl t (List.mem_cons_of_mem _ ht)
structure Kp (xa : List UInt8) (a : AF) : Prop where
  b : KpS xa a.base
  p : ∀ t ∈ a.pend, offT t
theorem Kp.step {xa : List UInt8} {a : AF} (h : Kp xa a) {t : AT} (ht : offT t) : Kp xa (stepF a t) := ⟨h.b, fun u hu => by
  rcases List.mem_append.1 hu with hu | hu
  · exact h.p u hu
  · rw [List.mem_singleton] at hu
    rw [hu]
    exact ht⟩
theorem Kp.crash {xa : List UInt8} {a : AF} (h : Kp xa a) (k : Int) : Kp xa (crashF a k) := ⟨kp_run (l := a.pend.take _) h.b fun t ht => h.p t (List.mem_of_mem_take ht), fun t ht => by cases ht⟩
theorem Kp.next {xa : List UInt8} {a : AF} (h : Kp xa a) (u : Int) {x : St} (h1 : x.a ≠ keptN) (h2 : x.to ≠ keptN) (k : Nat) : Kp xa (nextF a u x (k + 1)) := by
  unfold nextF
  repeat' split
  all_goals first
    | exact h
    | exact h.step ⟨h1, Nat.succ_ne_zero _⟩
    | exact h.step ⟨h1, h2⟩
    | exact h.step h1
    | exact ⟨kp_run h.b h.p, fun t ht => by cases ht⟩
    | exact h.crash _
    | exact ⟨h.b, h.p⟩
theorem first_write {xa : List UInt8} (hx : xa.length ≤ 8000) : wrE (AF0 1048576) keptN xa = 0 := by
  unfold wrE
  have hm : mayE (AF0 1048576).fused (AF0 1048576).left [keptN] = 0 := rfl
  rw [hm, if_neg (by decide), if_neg (by omega), if_neg]
  unfold fullA
  rintro (⟨_, h⟩ | h)
  · exact absurd h (by decide)
  · have h1 : (freesA (AF0 1048576).now keptN) = 0 := rfl
    have h2 : (AF0 1048576).room = 1048576 := rfl
    have h3 : (AF0 1048576).now.used = 0 := rfl
    rw [h1, h2, h3] at h
    omega
abbrev KF (xa : List UInt8) : AF := syncF (stepF (AF0 1048576) (.wr keptN xa 0))
theorem kf_kp (xa : List UInt8) : Kp xa (KF xa) := by
  refine ⟨?_, fun t ht => by cases ht⟩
  have e : (KF xa).base = ⟨[(keptN, 0)], updA (fun _ => []) 0 xa, (xa.length : Int)⟩ := by
    show writeA AS0 keptN xa 0 = _
    rw [writeA_eq]
    simp [letsA, alook, AS0]
  rw [e]
  exact ⟨by simp [alook], fun q hq _ => by rw [List.mem_singleton] at hq; rw [hq], by simp [updA]⟩
theorem kf_ids (xa : List UInt8) : IdsLe (KF xa) 0 := by
  refine ⟨fun p hp => ?_, fun n xs j hm => by cases hm⟩
  have e : (KF xa).base = ⟨[(keptN, 0)], updA (fun _ => []) 0 xa, (xa.length : Int)⟩ := by
    show writeA AS0 keptN xa 0 = _
    rw [writeA_eq]
    simp [letsA, alook, AS0]
  rw [e] at hp
  rw [List.mem_singleton] at hp
  rw [hp]
  exact Nat.le_refl _
theorem kp_read {xa : List UInt8} {a : AF} (h : Kp xa a) : readE a.now keptN = 0 ∧ contA a.now keptN = xa := by
  have h1 := kp_run h.b h.p
  unfold readE contA
  have h2 : alook a.now.nm keptN = some 0 := h1.l
  rw [h2]
  exact ⟨rfl, h1.d⟩
theorem af0_ids (r : Int) : IdsLe (AF0 r) 0 := ⟨(fun p hp => by cases hp), (fun n xs j hm => by cases hm)⟩
theorem off5 (g off i k : Nat) : (⟨g, off + i * 5 + k, none⟩ : Addr) = (⟨g, off, none⟩ : Addr).add (i * 5 + k) := by rw [add_off, Nat.add_assoc]
theorem heavy_con (rs : List St) (v : Value) (w : World) (hs : Script w v rs) : Con Try.prog 22 [v] w [] fun u _ => ∃ hv : Bool, u = .bool hv ∧ (hv = false → ∀ i, i < rs.length → i < 120 → (rs.getD i St0).xs.length ≤ 8000) := by
  refine con_of_tree mix Try.func22 T22_ok (by kernel_rfl) ?_
  unfold T22
  obtain ⟨A, cap, g, off, rfl, hcap, hA⟩ := script_form hs
  refine j_q (qs_ac) ?_
  refine j_q (qs_ac) ?_
  refine j_q (qs_ac) ?_
  refine j_loop (fun m vs S' => ∃ (i : Nat) (n : Int), vs = [.int .i64 n, .int .i64 (i : Int)] ∧ S' = [[]] ∧ 0 ≤ n ∧ n ≤ 8000 ∧ (∀ j, j < i → ((rs.getD j St0).xs.length : Int) ≤ n) ∧ i ≤ rs.length ∧ i ≤ 120 ∧ m = rs.length - i) ⟨_, 0, 0, rfl, rfl, Int.le_refl _, by decide, (fun j hj => by omega), Nat.zero_le _, Nat.zero_le _, rfl⟩ ?_
  rintro m vs S' hlen ⟨i, n, rfl, rfl, hn0, hn1, hall, hi, hi120, rfl⟩
  refine j_q (qs_lenl Try.underlying44 rfl) ?_
  refine j_q (qs_lss rfl rfl) ?_
  refine j_g rfl (fun hb => qs_mt rfl) ?_
  refine j_g rfl (fun hb => qs_lss (gd_eq hb) rfl) ?_
  refine j_q (qs_and rfl rfl) ?_
  refine j_cond rfl (fun hc0 => ?_) (fun hc0 => ?_)
  · skip
    have hb2 : i < rs.length ∧ i < 120 := by
      simp only [gd, Bool.and_eq_true, decide_eq_true_eq] at hc0
      omega
    obtain ⟨hi1, hi2⟩ := hb2
    obtain ⟨rfl, hgs, hcl⟩ := hA (by omega)
    obtain ⟨_, _, hxa, hxt, hxb, hxl⟩ := script_ok hs hi1
    obtain ⟨bA, bcp, hbf, _⟩ := br_form hxb
    refine j_draw ?_
    refine jq_q (qs_ixn (g := g) (off := off) (n := rs.length) (c := cap) (i := i) Try.underlying44 sz50 rfl rfl hi1) ?_
    refine jq_q (qs_field Try.underlying50 rfl sz9 (by decide) rfl) ?_
    refine jq_q (qs_loadR (v := (.string (bs (rs.getD i St0).a))) (a := ⟨g, off, none⟩) (i := i * 5 + 2) (rd_cells hcl (by simp)) Try.underlying9 rfl (congrArg (fun z => Value.pointer (some z)) (off5 g off i 2)) (steps_get hi1 rfl)) ?_
    refine jq_q (qs_lens Try.underlying9 rfl) ?_
    refine jq_q (qs_add64 rfl rfl (by first | omega | (simp only [bnA] at *; omega))) ?_
    refine jq_q (qs_ixn (g := g) (off := off) (n := rs.length) (c := cap) (i := i) Try.underlying44 sz50 rfl rfl hi1) ?_
    refine jq_q (qs_field Try.underlying50 rfl sz9 (by decide) rfl) ?_
    refine jq_q (qs_loadR (v := (.string (bs (rs.getD i St0).to))) (a := ⟨g, off, none⟩) (i := i * 5 + 3) (rd_cells hcl (by simp)) Try.underlying9 rfl (congrArg (fun z => Value.pointer (some z)) (off5 g off i 3)) (steps_get hi1 rfl)) ?_
    refine jq_q (qs_lens Try.underlying9 rfl) ?_
    refine jq_q (qs_add64 rfl rfl (by first | omega | (simp only [bnA] at *; omega))) ?_
    refine jq_q (qs_ixn (g := g) (off := off) (n := rs.length) (c := cap) (i := i) Try.underlying44 sz50 rfl rfl hi1) ?_
    refine jq_q (qs_field Try.underlying50 rfl sz23 (by decide) rfl) ?_
    refine jq_q (qs_loadR (v := (rs.getD i St0).bv) (a := ⟨g, off, none⟩) (i := i * 5 + 4) (rd_cells hcl (by simp)) Try.underlying23 rfl (congrArg (fun z => Value.pointer (some z)) (off5 g off i 4)) (steps_get hi1 rfl)) ?_
    refine jq_q (qs_lenl (n := (rs.getD i St0).xs.length) (A := bA) (c := bcp) Try.underlying23 hbf) ?_
    refine jq_q (qs_add64 rfl rfl (by first | omega | (simp only [bnA] at *; omega))) ?_
    refine jq_nil ?_
    refine j_q (qs_gtr rfl rfl) ?_
    refine j_cond rfl (fun hc1 => ?_) (fun hc1 => ?_)
    · skip
      refine j_q (qs_ac) ?_
      refine j_ret_con (vs := [_]) (fun w' hw' => ⟨rfl, trivial⟩) ?_
      exact ⟨true, rfl, fun h => by cases h⟩
    · skip
      have hle : n + ((rs.getD i St0).a.length : Int) + ((rs.getD i St0).to.length : Int) + ((rs.getD i St0).xs.length : Int) ≤ 8000 := by
        have h9 := of_decide_eq_false hc1
        omega
      refine j_q (qs_add64 rfl rfl (by first | omega | (simp only [bnA] at *; omega))) ?_
      refine j_back rfl ?_
      exact ⟨rs.length - (i + 1), by omega, i + 1, _, rfl, rfl, by omega, hle, fun j hj => by
        rcases Nat.lt_or_ge j i with h | h
        · have := hall j h
          omega
        · obtain rfl : j = i := by omega
          omega, hi1, hi2, rfl⟩
  · skip
    have hb2 : ¬ (i < rs.length ∧ i < 120) := by
      rintro ⟨h1, h2⟩
      have h3 : decide ((i : Int) < (rs.length : Int)) = true := by simpa using h1
      have h4 : decide ((i : Int) < 120) = true := by
        simp only [decide_eq_true_eq]
        omega
      rw [h3] at hc0
      simp only [gd, h4] at hc0
      simp at hc0
    refine j_q (qs_ac) ?_
    refine j_ret_con (vs := [_]) (fun w' hw' => ⟨rfl, trivial⟩) ?_
    exact ⟨false, rfl, fun _ j hj hj2 => by
      have := hall j (by omega)
      omega⟩
theorem fsKeepsW_con (xa : List UInt8) (va : Value) (rs : List St) (vl : Value) (keep : Int) (w : World) (hba : BR w va xa) (hxa0 : xa.length ≤ 140737488351232) (hs : Script w vl rs) (hkb : intOk keep) : Con Try.prog 6 [va, vl, .int .i64 keep] w [] fun u _ => u = .bool true := by
  refine con_of_tree mix Try.func6 T6_ok (by kernel_rfl) ?_
  unfold T6
  obtain ⟨Aa, ca, hav, hca⟩ := br_form hba
  obtain ⟨A, cap, g, off, hvl, hcap, hA⟩ := script_form hs
  subst hvl
  refine j_q (qs_ac) ?_
  refine j_call0 ent22 rfl rfl rfl (fun w' hw' => heavy_con rs _ w' (script_keep hs hw')) (fun u S2 hu => ?_)
  obtain ⟨hv, rfl, hhv⟩ := hu
  refine j_subl (S' := [[]]) (List.sublist_append_right _ _) ?_
  refine j_g rfl (fun hb => qs_mt rfl) ?_
  refine j_g rfl (fun hb => qs_lenl (n := xa.length) (A := Aa) (c := ca) Try.underlying23 ((gd_eq hb).trans hav)) ?_
  refine j_g rfl (fun hb => qs_gtr (gd_eq hb) rfl) ?_
  refine j_q (qs_or rfl rfl) ?_
  refine j_cond rfl (fun hc0 => ?_) (fun hc0 => ?_)
  · skip
    refine j_call0 ent9 rfl rfl rfl (fun w' hw' => known_con w') (fun u S2 hu => ?_)
    subst hu
    refine j_ret_con (vs := [_]) (fun w' hw' => ⟨rfl, trivial⟩) ?_
    rfl
  · skip
    have hhv0 : hv = false ∧ xa.length ≤ 8000 := by
      cases hv with
      | true => simp at hc0
      | false =>
        simp [gd] at hc0
        exact ⟨rfl, by omega⟩
    have hxa := hhv0.2
    have hhv9 := hhv hhv0.1
    refine j_call0 ent10 rfl rfl rfl (fun w' hw' => newR_con 1048576 w' (by decide) (by decide)) (fun u S2 hu => ?_)
    obtain ⟨r0, rfl, rfl, hok0⟩ := hu
    refine j_subl (S' := [r0.heap]) (by repeat first | exact slR _ | exact slN _ | apply slC | apply slD) ?_
    refine j_q (qs_ext (vs := [r0.ptr, .int .i64 0]) rfl rfl) ?_
    refine j_q (qs_ext (vs := [r0.ptr, .int .i64 0]) rfl rfl) ?_
    refine j_q (qs_neq rfl rfl) ?_
    rw [show ((0 : Int) != 0) = false from rfl]
    refine j_gt rfl (qs_mt rfl) ?_
    refine j_gt rfl (qs_pnil Try.underlying25 rfl) ?_
    refine j_q (v := .bool false) (qs_or (b0 := false) (b1 := false) rfl rfl) ?_
    refine j_gt rfl (qs_mt rfl) ?_
    refine j_gt rfl (qs_mt rfl) ?_
    refine j_ga rfl ?_
    refine j_call 0 ent13 rfl rfl rfl rfl (fun w' hw' => (write_con' r0 (AF0 1048576) keptN va xa 0 w' hok0 (by decide) (br0 hba hw') (base_sep hba hw' 0 rfl) (by omega) (by decide) (by decide) (fun p hp => by cases hp)).mono (fun u S5 h5 => by
      obtain ⟨h1, r', h2, h3, h4⟩ := h5
      exact (⟨h1, r', h2, h3, h4.gf⟩ : u = .int .i64 (wrE (AF0 1048576) keptN xa) ∧ ∃ r' : FR, S5 = [r'.heap] ∧ r'.Ok (if wrE (AF0 1048576) keptN xa = 0 then (stepF (AF0 1048576) (.wr keptN xa 0)) else AF0 1048576) ∧ r'.gf = r0.gf))) (fun u S5 h5 => ?_)
    obtain ⟨rfl, r1, rfl, hok1, hgf1⟩ := h5
    rw [first_write hxa] at hok1 ⊢
    rw [if_pos rfl] at hok1
    refine j_subl (S' := [r1.heap]) (by repeat first | exact slR _ | exact slN _ | apply slC | apply slD) ?_
    refine j_gt rfl (qs_neq rfl rfl) ?_
    refine j_q (v := .bool false) (qs_or (b0 := false) (b1 := false) rfl rfl) ?_
    refine j_gt rfl (qs_mt rfl) ?_
    have hp01 : r0.ptr = r1.ptr := by simp only [FR.ptr, hgf1]
    rw [hp01]
    refine j_ga rfl ?_
    refine j_call 0 ent20 rfl rfl rfl rfl (fun w' hw' => (sync_con r1 (stepF (AF0 1048576) (.wr keptN xa 0)) w' hok1).mono (fun u S5 h5 => by
      obtain ⟨h1, r', h2, h3, h4⟩ := h5
      exact (⟨h1, r', h2, h3, h4.gf⟩ : u = .int .i64 (mayE (stepF (AF0 1048576) (.wr keptN xa 0)).fused (stepF (AF0 1048576) (.wr keptN xa 0)).left []) ∧ ∃ r' : FR, S5 = [r'.heap] ∧ r'.Ok (if mayE (stepF (AF0 1048576) (.wr keptN xa 0)).fused (stepF (AF0 1048576) (.wr keptN xa 0)).left [] = 0 then syncF (stepF (AF0 1048576) (.wr keptN xa 0)) else (stepF (AF0 1048576) (.wr keptN xa 0))) ∧ r'.gf = r1.gf))) (fun u S5 h5 => ?_)
    obtain ⟨rfl, r2, rfl, hok2, hgf2⟩ := h5
    have hm0 : mayE (stepF (AF0 1048576) (.wr keptN xa 0)).fused (stepF (AF0 1048576) (.wr keptN xa 0)).left [] = 0 := rfl
    rw [hm0] at hok2 ⊢
    rw [if_pos rfl] at hok2
    refine j_subl (S' := [r2.heap]) (by repeat first | exact slR _ | exact slN _ | apply slC | apply slD) ?_
    refine j_gt rfl (qs_neq rfl rfl) ?_
    refine j_q (v := .bool false) (qs_or (b0 := false) (b1 := false) rfl rfl) ?_
    refine j_cond rfl (fun hc1 => ?_) (fun hc1 => ?_)
    · skip
      simp at hc1
    · skip
      have hp02 : r0.ptr = r2.ptr := by simp only [FR.ptr, hgf2, hgf1]
      refine j_call0 ent23 rfl rfl rfl (fun w' hw' => rnew_con 1048576 w' (by decide) (by decide)) (fun u S2 hu => ?_)
      obtain ⟨q0, rfl, rfl, hq0⟩ := hu
      refine j_perm (S' := [r2.heap, q0.heap]) (by simp only [List.flatten_cons, List.flatten_nil, List.append_nil, List.cons_append, List.nil_append]; exact List.perm_append_comm) ?_
      refine j_q (qs_ext (vs := [q0.ptr, .int .i64 0]) rfl rfl) ?_
      refine j_q (qs_ext (vs := [q0.ptr, .int .i64 0]) rfl rfl) ?_
      refine j_q (qs_ac) ?_
      refine j_loop (fun m vs S' => ∃ (i : Nat) (r : FR) (q : RF) (a b : AF), vs = [.int .i64 (i : Int)] ∧ S' = [r.heap, q.heap] ∧ r.gf = r0.gf ∧ q.gf = q0.gf ∧ r.Ok a ∧ q.Ok b ∧ a.room = 1048576 ∧ a.pend.length ≤ i ∧ b.pend.length ≤ i ∧ IdsLe a i ∧ IdsLe b i ∧ Kp xa a ∧ i ≤ rs.length ∧ i ≤ 120 ∧ m = rs.length - i) ⟨_, 0, r2, q0, KF xa, AF0 1048576, rfl, rfl, hgf2.trans hgf1, rfl, hok2, hq0, rfl, Nat.le_refl _, Nat.le_refl _, kf_ids xa, af0_ids _, kf_kp xa, Nat.zero_le _, Nat.zero_le _, rfl⟩ ?_
      rintro m vs S' hlen ⟨i, r, q, a, b, rfl, rfl, hgf, hgq, hok, hq, hroom, hpa, hpb, hia, hib, hkp, hi, hi120, rfl⟩
      refine j_q (qs_lenl Try.underlying44 rfl) ?_
      refine j_q (qs_lss rfl rfl) ?_
      refine j_g rfl (fun hb => qs_mt rfl) ?_
      refine j_g rfl (fun hb => qs_lss (gd_eq hb) rfl) ?_
      refine j_q (qs_and rfl rfl) ?_
      refine j_cond rfl (fun hc2 => ?_) (fun hc2 => ?_)
      · skip
        have hb2 : i < rs.length ∧ i < 120 := by
          simp only [gd, Bool.and_eq_true, decide_eq_true_eq] at hc2
          omega
        obtain ⟨hi1, hi2⟩ := hb2
        obtain ⟨rfl, hgs, hcl⟩ := hA (by omega)
        refine j_q (qs_ixn (g := g) (off := off) (n := rs.length) (c := cap) (i := i) Try.underlying44 sz50 rfl rfl hi1) ?_
        refine j_q (qs_field Try.underlying50 rfl sz9 (by decide) rfl) ?_
        refine j_q (qs_loadR (v := (.string (bs (rs.getD i St0).a))) (a := ⟨g, off, none⟩) (i := i * 5 + 2) (rd_cells hcl (by simp)) Try.underlying9 rfl (congrArg (fun z => Value.pointer (some z)) (off5 g off i 2)) (steps_get hi1 rfl)) ?_
        refine j_q (qs_seql (l := (rs.getD i St0).a) (l' := keptN) rfl rfl) ?_
        refine j_g rfl (fun hb => qs_mt rfl) ?_
        refine j_g rfl (fun hb => qs_mt rfl) ?_
        refine j_g rfl (fun hb => qs_ixn (g := g) (off := off) (n := rs.length) (c := cap) (i := i) Try.underlying44 sz50 (gd_eq hb) (gd_eq hb) hi1) ?_
        refine j_g rfl (fun hb => qs_field Try.underlying50 rfl sz9 (by decide) (gd_eq hb)) ?_
        refine j_g (v := (.string (bs (rs.getD i St0).to))) rfl (fun hb => qs_loadR (a := ⟨g, off, none⟩) (i := i * 5 + 3) (rd_cells hcl (by simp)) Try.underlying9 rfl ((gd_eq hb).trans (congrArg (fun z => Value.pointer (some z)) (off5 g off i 3))) (steps_get hi1 rfl)) ?_
        refine j_g rfl (fun hb => qs_seql (l := (rs.getD i St0).to) (l' := keptN) (gd_eq hb) rfl) ?_
        refine j_q (qs_or rfl rfl) ?_
        refine j_g rfl (fun hb => qs_mt rfl) ?_
        refine j_g rfl (fun hb => qs_mt rfl) ?_
        refine j_g rfl (fun hb => qs_ixn (g := g) (off := off) (n := rs.length) (c := cap) (i := i) Try.underlying44 sz50 (gd_eq hb) (gd_eq hb) hi1) ?_
        refine j_g rfl (fun hb => qs_field Try.underlying50 rfl sz3 (by decide) (gd_eq hb)) ?_
        refine j_g (v := .int .i64 (rs.getD i St0).kind) rfl (fun hb => qs_loadR (a := ⟨g, off, none⟩) (i := i * 5 + 0) (rd_cells hcl (by simp)) Try.underlying3 rfl ((gd_eq hb).trans (congrArg (fun z => Value.pointer (some z)) (off5 g off i 0))) (steps_get hi1 rfl)) ?_
        refine j_g rfl (fun hb => qs_eql (gd_eq hb) rfl) ?_
        refine j_q (qs_or rfl rfl) ?_
        refine j_cond rfl (fun hc3 => ?_) (fun hc3 => ?_)
        · skip
          refine j_q (qs_add64 rfl rfl (by first | omega | (simp only [bnA] at *; omega))) ?_
          refine j_back rfl ?_
          exact ⟨rs.length - (i + 1), by omega, i + 1, r, q, a, b, rfl, rfl, hgf, hgq, hok, hq, hroom, by omega, by omega, hia.up, hib.up, hkp, hi1, hi2, rfl⟩
        · skip
          have hne : (rs.getD i St0).a ≠ keptN ∧ (rs.getD i St0).to ≠ keptN := by
            refine ⟨fun e => ?_, fun e => ?_⟩
            · rw [e] at hc3
              simp at hc3
            · rw [e] at hc3
              by_cases h9 : (rs.getD i St0).a = keptN
              · rw [h9] at hc3
                simp at hc3
              · simp [gd, h9] at hc3
          refine j_q (qs_ixn (g := g) (off := off) (n := rs.length) (c := cap) (i := i) Try.underlying44 sz50 rfl rfl hi1) ?_
          refine j_q (qs_loadrecw (encA := encS) (rs := rs) (d := St0) (i := i) encS_len (rd_cells hcl (by simp)) hi1 Try.underlying50 rfl sz50 rfl) ?_
          obtain ⟨hxk, hxn, hxa2, hxt, hxb, hxl⟩ := script_ok hs hi1
          have hpr : r1.ptr = r.ptr := by simp only [FR.ptr, hgf, hgf1]
          have hpq : q0.ptr = q.ptr := by simp only [RF.ptr, hgq]
          rw [hpr, hpq]
          refine j_perm (S' := [r.heap ++ q.heap]) (by simp) ?_
          refine j_call 0 ent24 rfl rfl rfl rfl (fun w' hw' => stp_con r q a b (rs.getD i St0) (i + 1) w' hok hq (by rw [hroom]; decide) (by omega) (by omega) (str_ok hxa2) (str_ok hxt) hxn (br0 hxb hw') (base_sep hxb hw' 0 rfl) (hhv9 i hi1 hi2) (fun p hp => by have := hia.now p hp; omega) (fun p hp => by have := hib.now p hp; omega)) (fun u S5 h5 => ?_)
          obtain ⟨ok, rfl, _, r', q', rfl, hok', hq', hgf', hgq'⟩ := h5
          refine j_subl (S' := [r'.heap, q'.heap]) (by repeat first | exact slR _ | exact slN _ | apply slC | apply slD) ?_
          refine j_q (qs_add64 rfl rfl (by first | omega | (simp only [bnA] at *; omega))) ?_
          refine j_back rfl ?_
          have h7 := nextF_len a a.now.used (rs.getD i St0) (i + 1)
          have h8 := nextF_len b (usedN b.now) (rs.getD i St0) (i + 1)
          exact ⟨rs.length - (i + 1), by omega, i + 1, r', q', _, _, rfl, rfl, hgf'.trans hgf, hgq'.trans hgq, hok', hq', (nextF_room _ _ _ _).trans hroom, by omega, by omega, hia.next _ _, hib.next _ _, hkp.next _ hne.1 hne.2 i, hi1, hi2, rfl⟩
      · skip
        have hpr : r1.ptr = r.ptr := by simp only [FR.ptr, hgf, hgf1]
        rw [hpr]
        refine j_call 0 ent21 rfl rfl rfl rfl (fun w' hw' => (crash_con r a keep w' hok).mono (fun u S5 h5 => by
          obtain ⟨r', h2, h3, h4⟩ := h5
          exact (⟨r', h2, h3, h4.gf⟩ : ∃ r' : FR, S5 = [r'.heap] ∧ r'.Ok (crashF a keep) ∧ r'.gf = r.gf))) (fun u S5 h5 => ?_)
        obtain ⟨r5, rfl, hok5, hgf5⟩ := h5
        refine j_subl (S' := [r5.heap]) (by repeat first | exact slR _ | exact slN _ | apply slC | apply slD) ?_
        have hp5 : r.ptr = r5.ptr := by simp only [FR.ptr, hgf5]
        rw [hp5]
        have hkr := kp_read (hkp.crash keep)
        refine j_call0 ent11 rfl rfl rfl (fun w' hw' => readRO_con r5 (crashF a keep) keptN w' (in_own hw' 0 rfl) hok5 (by decide)) (fun u S5 h5 => ?_)
        obtain ⟨v57, c57, rfl, rfl, ho57⟩ := h5
        rw [hkr.1]
        rw [hkr.2] at ho57
        refine j_q (qs_ext (vs := [v57, .int .i64 0]) rfl rfl) ?_
        refine j_q (qs_ext (vs := [v57, .int .i64 0]) rfl rfl) ?_
        refine j_q (qs_eql rfl rfl) ?_
        rw [show ((0 : Int) == 0) = true from rfl]
        refine j_gt rfl (qs_mt rfl) ?_
        refine j_gt rfl (qs_mt rfl) ?_
        refine j_gt rfl (qs_call ent14 rfl rfl rfl (fun w' hw' => same_con xa xa _ _ w' (own_br ho57 0 rfl hw') (br0 hba hw') (by omega))) ?_
        rw [beq_self_eq_true]
        refine j_q (v := .bool true) (qs_and (b0 := true) (b1 := true) rfl rfl) ?_
        refine j_gt rfl (qs_call ent9 rfl rfl rfl (fun w' hw' => known_con w')) ?_
        refine j_q (v := .bool true) (qs_and (b0 := true) (b1 := true) rfl rfl) ?_
        refine j_ret_con (vs := [_]) (fun w' hw' => ⟨rfl, trivial⟩) ?_
        rfl
end Go.Proofs.Ytckpegkpdepokaa
/-! Arg44 -/
namespace Go.Proofs.Ytckpegkpdepokaa
open Go Go.Sx Go.ChangeShapes Go.WideShapes Go.ChangeAt Go.RowKit
set_option linter.unusedVariables false
set_option maxRecDepth 100000
theorem trod_struct5 {H : Type} {enc : TypeId × Value → H} {P : Program} {w : World} {base : Nat} {spare : Nat → Bool} {held : Bool} {t : TypeId} {f0 f1 f2 f3 f4 : Field} {fuel : Nat} {cs : List Value} {x : DataW H × List MemPlace} (ht : P.underlying t = some (.struct #[f0, f1, f2, f3, f4])) (h : DataW.trod enc P w base spare held fuel t cs = some x) :
    ∃ y0 y1 y2 y3 y4 n, x = (.agg [y0.1, y1.1, y2.1, y3.1, y4.1], y0.2 ++ (y1.2 ++ (y2.2 ++ (y3.2 ++ y4.2)))) ∧ cs.length = P.cellsOf t ∧ DataW.trod enc P w base spare held n f0.type ((cs.drop f0.offset).take (P.cellsOf f0.type)) = some y0 ∧
      DataW.trod enc P w base spare held n f1.type ((cs.drop f1.offset).take (P.cellsOf f1.type)) = some y1 ∧ DataW.trod enc P w base spare held n f2.type ((cs.drop f2.offset).take (P.cellsOf f2.type)) = some y2 ∧
      DataW.trod enc P w base spare held n f3.type ((cs.drop f3.offset).take (P.cellsOf f3.type)) = some y3 ∧ DataW.trod enc P w base spare held n f4.type ((cs.drop f4.offset).take (P.cellsOf f4.type)) = some y4 := by
  obtain ⟨xs, n, _, rfl, hl, hlen, hf⟩ := DataW.trod_struct ht h
  match xs, hlen with
  | [y0, y1, y2, y3, y4], _ => exact ⟨y0, y1, y2, y3, y4, n, by simp, hl, by simpa using hf 0 f0 rfl, by simpa using hf 1 f1 rfl, by simpa using hf 2 f2 rfl, by simpa using hf 3 f3 rfl, by simpa using hf 4 f4 rfl⟩
theorem intOk_wf {n : Int} (h : (Lit.int .i64 n).wf = true) : intOk n := by
  have h1 : IntKind.i64.min = -9223372036854775808 := rfl
  have h2 : IntKind.i64.max = 9223372036854775807 := rfl
  simp only [Lit.wf, h1, h2, Bool.and_eq_true, decide_eq_true_eq] at h
  exact h
theorem st_trod {H : Type} {enc : TypeId × Value → H} {w : World} {b0 : Nat} {sp : Nat → Bool} {held : Bool} (fuel : Nat) (cs : List Value) (y : DataW H × List MemPlace) (h : DataW.trod enc Try.prog w b0 sp held fuel 50 cs = some y) (hw : (y.1.weights Try.prog 50).all (· ≤ reachBytes) = true) :
    ∃ a : St, a.Ok w ∧ cs = encS a := by
  obtain ⟨y0, y1, y2, y3, y4, n, rfl, hl, h0, h1, h2, h3, h4⟩ := trod_struct5 Try.underlying50 h
  have hc : Try.prog.cellsOf 50 = 5 := by kernel_rfl
  rw [hc] at hl
  match cs, hl with
  | [c0, c1, c2, c3, c4], _ =>
    have e3 : Try.prog.cellsOf 3 = 1 := by kernel_rfl
    have e9 : Try.prog.cellsOf 9 = 1 := by kernel_rfl
    have e23 : Try.prog.cellsOf 23 = 1 := by kernel_rfl
    simp only [e3, e9, e23, List.drop_zero, List.take_succ_cons, List.take_zero, List.drop_succ_cons] at h0 h1 h2 h3 h4
    obtain ⟨k0, hk0, e0, w0⟩ := DataW.trod_int Try.underlying3 h0
    obtain ⟨k1, hk1, e1, w1⟩ := DataW.trod_int Try.underlying3 h1
    obtain ⟨s2, hs2, e2, w2⟩ := DataW.trod_string Try.underlying9 h2
    obtain ⟨s3, hs3, e3', w3⟩ := DataW.trod_string Try.underlying9 h3
    unfold DataW.weights at hw
    rw [Try.underlying50] at hw
    simp only [List.map_cons, List.map_nil, DataW.weightsEach, List.all_append, List.all_nil, Bool.and_eq_true, Bool.and_true] at hw
    obtain ⟨hw0, hw1, hw2, hw3, hw4⟩ := hw
    obtain ⟨p4, ⟨hp4, hp5⟩, hb4⟩ := row_trod n [c4] y4 h4 hw4
    injection hk0 with hk0
    injection hk1 with hk1
    injection hs2 with hs2
    injection hs3 with hs3
    injection hb4 with hb4
    subst hk0 hk1 hs2 hs3 hb4
    have hreach : reachBytes = 140737488351232 := rfl
    refine ⟨⟨k0, k1, s2.data.toList, s3.data.toList, p4.1, p4.2⟩, ⟨intOk_wf w0, intOk_wf w1, ?_, ?_, brz_br hp4, hp5⟩, ?_⟩
    · subst e2
      simp only [DataW.weights, List.all_cons, List.all_nil, Bool.and_true, decide_eq_true_eq] at hw2
      show s2.data.toList.length ≤ 140737488351232
      omega
    · subst e3'
      simp only [DataW.weights, List.all_cons, List.all_nil, Bool.and_true, decide_eq_true_eq] at hw3
      show s3.data.toList.length ≤ 140737488351232
      omega
    · unfold encS
      simp only [← bs_of]
theorem open_script {H : Type} {enc : TypeId × Value → H} {w : World} {r : Go.Reach} {base b0 : Nat} {sp : Nat → Bool} {held : Bool} {v : Value} {x : DataW H × List MemPlace} (hv : Value.okWide Try.prog w r base 44 v)
    (h : ∃ fuel, DataW.trod enc Try.prog w b0 sp held fuel 44 v.cells.toList = some x) (hw : (x.1.weights Try.prog 44).all (· ≤ reachBytes) = true) : ∃ rs : List St, Script w v rs ∧ rs.length ≤ 4611686018427387903 := by
  obtain ⟨rs, h1, h2, h3⟩ := open_sln (α := St) encS (St.Ok w) encS_len (by decide) Try.underlying44 (by kernel_rfl) hv st_trod h hw
  have hb : Try.prog.bytesOf 50 = 72 := by kernel_rfl
  have hreach : reachBytes = 140737488351232 := rfl
  rw [hb] at h3
  exact ⟨rs, ⟨h1, h2⟩, by omega⟩
theorem fsKeeps_con (xa : List UInt8) (va : Value) (rs : List St) (vl : Value) (keep : Int) (w : World) (h0 : RSl w va (ints xa)) (hs : Script w vl rs) (_ : rs.length ≤ 4611686018427387903) (hk : -9223372036854775808 ≤ keep ∧ keep ≤ 9223372036854775807) (hx : xa.length ≤ 140737488351232) : Con Try.prog 6 [va, vl, .int .i64 keep] w [] fun u _ => u = .bool true := fsKeepsW_con xa va rs vl keep w (br_rsl h0) hx hs hk
end Go.Proofs.Ytckpegkpdepokaa
/-! SxT -/
namespace Go.Sx
open Go Go.ChangeShapes Go.WideShapes Go.ChangeAt Go.RowKit
set_option linter.unusedVariables false
end Go.Sx
/-! RowB -/
namespace Go.Proofs.Ytckpegkpdepokaa
open Go Go.Sx Go.ChangeShapes Go.WideShapes Go.ChangeAt Go.RowKit
set_option linter.unusedVariables false
theorem own_fsKeeps : ownKnob Try.prog.godebug = none := by kernel_rfl
theorem laid_fsKeeps : laidOutB Try.prog = true := by kernel_rfl
set_option maxRecDepth 100000 in
theorem fsKeeps_lifted (os : Os) (started : os.Started) (H : Type) (enc : TypeId × Value → H) :
    ReturnsInHanded {} Try.checked os 6 .any (Rows.fsKeepsSpec.pre6 enc Try.prog Try.f6 Rows.fsKeepsRow.domain false) (Rows.fsKeepsSpec.post enc Try.prog Try.f6 false true false false) := by
  refine returnsInHanded_of_change_sized (C := Try.checked) own_fsKeeps started (by kernel_rfl) Try.func6
    (ChangeSpec.witness6 (enc := enc) (C := Try.checked) false ⟨#[], #[.slice none 0 0, .slice none 0 0, .int .i64 0], []⟩ 8 (by kernel_rfl) (by kernel_rfl) (by kernel_rfl) (by kernel_rfl)) ?_
  intro W base args ds gs before hval0 hW hcnd hsz0 _
  have hsz : (DataW.weightsEach Try.prog (Try.f6.params.toList ++ Rows.fsKeepsSpec.plain.varTypes Try.prog) (ds ++ gs)).all (· ≤ reachBytes) = true := hsz0
  have hreach : reachBytes = 140737488351232 := rfl
  have hval : ∀ (j : Nat) t v, Try.f6.params[j]? = some t → args[j]? = some v → Value.okWide Try.prog W .any base t v := hval0
  have hW' := hW
  obtain ⟨p, q, hA0, hV, rfl, hfz, hnd⟩ := hW
  have hA : DataW.TrodAll enc Try.prog W 0 (fun _ => true) true Try.f6.params.toList args.toList ds p := hA0
  rw [Try.params6] at hA hval
  obtain ⟨v0, v1, v2, d0, d1, d2, p0, p1, p2, rfl, rfl, rfl, h0, h1, h2⟩ := trodAll_three hA
  obtain ⟨rfl, rfl⟩ := trodVars_none hV
  obtain ⟨a0, wa0, wc0⟩ := open_bytesl Try.underlying23 Try.underlying5 (by kernel_rfl) (hval 0 23 v0 rfl rfl) h0
  have wb0 : a0.length ≤ reachBytes := bytes_sized hsz (j := 0) (t := 23) (by rw [Try.params6]; rfl) rfl Try.underlying23 (by kernel_rfl) wc0
  obtain ⟨a1, wa1_0, wa1_1⟩ := open_script (hval 1 44 v1 rfl rfl) h1 (weights_at hsz (j := 1) (t := 44) (by rw [Try.params6]; rfl) rfl)
  obtain ⟨a2, rfl, rfl, rfl, wa2⟩ := open_int Try.underlying3 (hval 2 3 v2 rfl rfl) h2
  clear hA0 hval0
  have hc := fsKeeps_con a0 v0 a1 v1 a2 W wa0 wa1_0 wa1_1 (int_wf wa2) (by omega) (by simp) (by simp)
  refine hc.mono fun e W' h => ?_
  obtain ⟨v, S', rfl, rfl, hS⟩ := h
  exact ⟨_, rfl, post_law hW' rfl rfl laid_fsKeeps (by decide +kernel) rfl Try.underlying4 (below_of_sig hS)⟩
theorem fsKeeps_holds : Rows.FsKeepsSaid :=
  OpenClaim.holds_of_wide 6 Try.f6 rfl rfl rfl rfl rfl rfl rfl ⟨rfl, rfl, rfl, rfl, rfl⟩ rfl rfl rfl rfl rfl (by kernel_rfl) Try.func6 (by kernel_rfl)
    (of_decide_eq_true (by kernel_rfl)) (by unfold Func.isWrapper; first | (rw [if_pos (by decide +kernel)]; kernel_rfl) | (rw [if_neg (by decide +kernel)]; exact ⟨rfl, rfl⟩))
    (fun os started H enc _ => fsKeeps_lifted os started H enc)
end Go.Proofs.Ytckpegkpdepokaa
