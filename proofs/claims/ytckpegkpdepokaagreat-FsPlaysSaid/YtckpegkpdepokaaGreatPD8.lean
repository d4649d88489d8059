/- Part 8. -/
import Derived.Test.YtckpegkpdepokaaGreatPD2
import Derived.Test.YtckpegkpdepokaaGreatPD3
import Derived.Test.YtckpegkpdepokaaGreatPD7
import Derived.Test.YtckpegkpdepokaaGreatPD6
/-! Rg5 -/
namespace Go.Proofs.YtckpegkpdepokaaGreat
open Go Go.Sx
set_option maxRecDepth 100000
set_option maxHeartbeats 4000000
set_option linter.unusedVariables false
set_option linter.unusedSimpArgs false
attribute [local irreducible] J JQ QS Con W opW
open Go.MapKept Go.WideMaps Go.Maps
def usedL (d : Nat → List UInt8) : List Nat → Nat
  | [] => 0
  | i :: l => (if i ∈ l then 0 else (d i).length) + usedL d l
theorem usedL_perm {d : Nat → List UInt8} {l m : List Nat} (h : l.Perm m) : usedL d l = usedL d m := by
  induction h with
  | nil => rfl
  | cons x h ih => simp only [usedL, ih, h.mem_iff]
  | swap x y l =>
    simp only [usedL, List.mem_cons]
    by_cases hxy : x = y
    · subst hxy
      simp
    · by_cases h1 : x ∈ l <;> by_cases h2 : y ∈ l <;> simp [h1, h2, hxy, Ne.symm hxy] <;> omega
  | trans _ _ h1 h2 => exact h1.trans h2
theorem usedL_snoc (d : Nat → List UInt8) (l : List Nat) (i : Nat) : usedL d (l ++ [i]) = usedL d l + if i ∈ l then 0 else (d i).length := by
  rw [usedL_perm (List.perm_append_comm : (l ++ [i]).Perm ([i] ++ l))]
  show (if i ∈ l then 0 else (d i).length) + usedL d l = _
  omega
theorem usedL_le {d : Nat → List UInt8} {B : Nat} : ∀ {l : List Nat}, (∀ i ∈ l, (d i).length ≤ B) → usedL d l ≤ l.length * B
  | [], _ => Nat.zero_le _
  | i :: l, h => by
    have h1 := usedL_le (l := l) fun j hj => h j (List.mem_cons_of_mem _ hj)
    have h2 := h i (List.mem_cons_self ..)
    simp only [usedL, List.length_cons, Nat.add_mul]
    split <;> omega
theorem usedL_sum {d : Nat → List UInt8} : ∀ {l F : List Nat}, F.Nodup → (∀ i, i ∈ F ↔ i ∈ l) → usedL d l = (F.map fun i => (d i).length).sum
  | [], F, _, h => by
    have : F = [] := List.eq_nil_iff_forall_not_mem.2 fun i hi => by simpa using (h i).1 hi
    subst this
    rfl
  | i :: l, F, hn, h => by
    by_cases hi : i ∈ l
    · have := usedL_sum (d := d) (l := l) hn (fun j => by
        rw [h j, List.mem_cons]
        exact ⟨fun q => q.elim (fun e => e ▸ hi) id, .inr⟩)
      simp only [usedL, if_pos hi, this, Nat.zero_add]
    · have hF : i ∈ F := (h i).2 (List.mem_cons_self ..)
      have hp := List.perm_cons_erase hF
      have := usedL_sum (d := d) (l := l) (F := F.erase i) (hn.erase i) (fun j => by
        rw [hn.mem_erase_iff, h j, List.mem_cons]
        exact ⟨fun q => q.2.elim (fun e => absurd e q.1) id, fun q => ⟨fun e => hi (e ▸ q), .inr q⟩⟩)
      simp only [usedL, if_neg hi, this]
      have h2 := (hp.map fun i => (d i).length).sum_nat
      rw [h2]
      rfl
def usedN (a : AS) : Nat := usedL a.dt (a.nm.map Prod.snd)
theorem usedN_of {s : SM} {a : AS} (h : Sx' s a) : (usedN a : Int) = a.used := by
  have h1 := h.ex.ut
  have h2 := h.rep.us
  have hk : usedN a = tot s.fs := by
    unfold usedN
    rw [usedL_sum (F := s.fs.map FL.id) h.raw.ids]
    · unfold tot
      rw [List.map_map]
      congr 1
      exact List.map_congr_left fun f hf => by simp only [Function.comp, h.rep.dt f hf]
    · intro i
      constructor
      · intro hi
        obtain ⟨f, hf, rfl⟩ := List.mem_map.1 hi
        have h3 := h.ex.kc f hf
        have h4 := h.ex.pos f hf (fun q => q)
        have h5 : 0 < cnt s.ml f.id := by
          have : E0 f.id = 0 := rfl
          omega
        obtain ⟨q, hq⟩ := List.exists_mem_of_length_pos h5
        obtain ⟨hq1, hq2⟩ := List.mem_filter.1 hq
        simp only [decide_eq_true_eq] at hq2
        exact List.mem_map.2 ⟨(q.1, q.2.2), h.rep.nm.mem_iff.1 (List.mem_map.2 ⟨q, hq1, rfl⟩), hq2⟩
      · intro hi
        obtain ⟨q, hq, rfl⟩ := List.mem_map.1 hi
        obtain ⟨p, hp, rfl⟩ := List.mem_map.1 (h.rep.nm.mem_iff.2 hq)
        obtain ⟨f, hf, _, h4⟩ := h.raw.has p hp
        exact List.mem_map.2 ⟨f, hf, h4⟩
  omega
structure RF where
  gf : Nat
  room : Int
  base : RM
  now : RM
  L : List (AT × Value)
  lv : Value
  lc : SH
  left : Int
  P : List BK
abbrev rfcells (r : RF) : List Value := [.int .i64 r.room, r.base.ptr, r.now.ptr, r.lv, .int .i64 r.left]
abbrev RF.obj (r : RF) : Obj := .cells (rfcells r).toArray 60 (0, 0)
def RF.heap (r : RF) : SH := [(r.gf, r.obj)] ++ r.base.heap ++ r.now.heap ++ r.lc ++ ph r.P
abbrev RF.ptr (r : RF) : Value := .pointer (some ⟨r.gf, 0, none⟩)
abbrev RF.parts (r : RF) : List SH := [[(r.gf, r.obj)], r.base.heap, r.now.heap, r.lc, ph r.P]
theorem RF.split (r : RF) : ([r.heap] : List SH).flatten.Perm r.parts.flatten := by simp [RF.heap, RF.parts]
def encTs (l : List (AT × Value)) : List Value := (l.map fun p => encT p.1 p.2).flatten
theorem encT_len (t : AT) (v : Value) : (encT t v).length = 4 := by cases t <;> rfl
theorem encTs_len (l : List (AT × Value)) : (encTs l).length = l.length * 4 := by
  unfold encTs
  induction l with
  | nil => rfl
  | cons p l ih => rw [List.map_cons, List.flatten_cons, List.length_append, ih, encT_len, List.length_cons]; omega
theorem encTs_snoc (l : List (AT × Value)) (t : AT) (v : Value) : encTs (l ++ [(t, v)]) = encTs l ++ encT t v := by
  unfold encTs
  rw [List.map_append, List.flatten_append]
  simp
def okR (a : AS) : List AT → Prop
  | [] => a.nm.length ≤ 16384
  | t :: l => canR a t ∧ okR (doA a t) l
theorem okR_append {a : AS} {l : List AT} {t : AT} (h : okR a l) (ht : canA (runA a l) t) (hl : (doA (runA a l) t).nm.length ≤ 16384) : okR a (l ++ [t]) := by
  induction l generalizing a with
  | nil => exact ⟨⟨ht, h⟩, hl⟩
  | cons x l ih => exact ⟨h.1, ih h.2 ht hl⟩
theorem okR_run {a : AS} {l : List AT} (h : okR a l) (k : Nat) : (runA a (l.take k)).nm.length ≤ 16384 := by
  induction l generalizing a k with
  | nil =>
    rw [List.take_nil]
    exact h
  | cons x l ih =>
    cases k with
    | zero => exact h.1.2
    | succ k => exact ih h.2 k
theorem okR_nth {a : AS} {l : List AT} (h : okR a l) {k : Nat} {t : AT} (hk : l[k]? = some t) : canR (runA a (l.take k)) t := by
  induction l generalizing a k with
  | nil => simp at hk
  | cons x l ih =>
    cases k with
    | zero => simp at hk; subst hk; exact h.1
    | succ k => exact ih h.2 (by simpa using hk)
structure RF.Ok (r : RF) (a : AF) : Prop where
  rm : r.room = a.room
  r0 : 0 ≤ a.room ∧ a.room ≤ 1073741824
  lf : r.left = if a.fused then a.left else -1
  l0 : 0 ≤ a.left ∧ a.left ≤ 9223372036854775807
  pd : r.L.map Prod.fst = a.pend
  row : Sx.Own 109 4 (encTs r.L) r.lv r.lc
  ot : ∀ p ∈ r.L, okT r.P p.1 p.2
  lt : a.pend.length ≤ 16384
  ok : okR a.base a.pend
  bs : RS r.base r.P a.base
  nw : RS r.now r.P a.now
theorem RF.in_gf {r : RF} {w : World} (h : In w r.heap) : w.heap[r.gf]? = some r.obj := h (r.gf, r.obj) (by simp [RF.heap])
theorem RF.in_now {r : RF} {w : World} (h : In w r.heap) : In w r.now.heap := fun q hq => h q (by simp [RF.heap, hq])
theorem RF.in_base {r : RF} {w : World} (h : In w r.heap) : In w r.base.heap := fun q hq => h q (by simp [RF.heap, hq])
theorem RF.in_lc {r : RF} {w : World} (h : In w r.heap) : In w r.lc := fun q hq => h q (by simp [RF.heap, hq])
theorem RF.in_P {r : RF} {w : World} (h : In w r.heap) : In w (ph r.P) := fun q hq => h q (by simp [RF.heap, hq])
theorem RF.Ok.len {r : RF} {a : AF} (h : r.Ok a) : r.L.length = a.pend.length := by rw [← h.pd, List.length_map]
theorem zv3 : (Tryz.prog.info? 3).bind (·.zero) = some (.int .i64 0) := by kernel_rfl
theorem rlook_snoc {m : List (Nat × Value)} {k : Nat} {v : Value} (g : Nat) (h : mlook m k = none) : mlook (m ++ [(k, v)]) g = if g = k then some v else mlook m g := by
  unfold mlook at h ⊢
  rw [List.find?_append]
  by_cases hg : g = k
  · subst hg
    rw [Option.map_eq_none_iff.1 h, if_pos rfl]
    simp
  · rw [if_neg hg]
    have : List.find? (fun p => decide (p.1 = g)) [(k, v)] = none := by
      exact List.find?_eq_none.2 (fun q hq => by rw [List.mem_singleton] at hq; rw [hq]; simpa using fun e : k = g => hg e.symm)
    rw [this, Option.or_none]
theorem risName_con (n : List UInt8) (w : World) : Con Tryz.prog 67 [.string (bs n)] w [] fun v _ => v = .bool (nameOk n) := by
  refine con_of_tree mix Tryz.func67 T67_ok (by kernel_rfl) ?_
  unfold T67
  refine j_q (qs_ac) ?_
  refine j_q (qs_lens Tryz.underlying9 rfl) ?_
  refine j_q (qs_geq rfl rfl) ?_
  refine j_g rfl (fun hb => qs_mt rfl) ?_
  refine j_g rfl (fun hb => qs_lens Tryz.underlying9 (gd_eq hb)) ?_
  refine j_g rfl (fun hb => qs_leq (gd_eq hb) rfl) ?_
  refine j_q (qs_and rfl rfl) ?_
  refine j_ret_con (vs := [_]) (fun w' hw' => ⟨rfl, trivial⟩) ?_
  show Value.bool _ = _
  unfold nameOk
  congr 1
  by_cases h1 : 1 ≤ n.length <;> by_cases h2 : n.length ≤ 300 <;> simp [gd, h1, h2] <;> omega
theorem rburnt_con (r : RF) (w : World) (hin : In w r.heap) : Con Tryz.prog 66 [r.ptr] w [] fun v _ => v = .bool (decide (r.left = 0)) := by
  refine con_of_tree mix Tryz.func66 T66_ok (by kernel_rfl) ?_
  unfold T66
  refine j_q (qs_ac) ?_
  refine j_q (qs_nil rfl) ?_
  refine j_q (qs_field Tryz.underlying60 rfl sz3 (by decide) rfl) ?_
  refine j_q (qs_loadO (rdo_base (RF.in_gf hin) (by simp)) Tryz.underlying3 rfl rfl rfl) ?_
  refine j_q (qs_eql rfl rfl) ?_
  refine j_ret_con (vs := [_]) (fun w' hw' => ⟨rfl, trivial⟩) ?_
  show Value.bool (r.left == 0) = _
  congr 1
theorem rburns_con (r : RF) (w : World) (hl : -1 ≤ r.left ∧ r.left ≤ 9223372036854775807) : Con Tryz.prog 73 [r.ptr] w [(r.gf, r.obj)] fun _ S' => S' = [[(r.gf, RF.obj { r with left := if 0 < r.left then r.left - 1 else r.left })]] := by
  refine con_of_tree mix Tryz.func73 T73_ok (by kernel_rfl) ?_
  unfold T73
  refine j_q (qs_nil rfl) ?_
  refine j_q (qs_field Tryz.underlying60 rfl sz3 (by decide) rfl) ?_
  refine j_q (qs_load (l := rfcells r) 0 Tryz.underlying3 rfl rfl rfl rfl) ?_
  refine j_q (qs_gtr rfl rfl) ?_
  refine j_cond rfl (fun hc0 => ?_) (fun hc0 => ?_)
  · skip
    have h1 : 0 < r.left := by simpa using hc0
    refine j_q (qs_nil rfl) ?_
    refine j_q (qs_field Tryz.underlying60 rfl sz3 (by decide) rfl) ?_
    refine j_q (qs_load (l := rfcells r) 0 Tryz.underlying3 rfl rfl rfl rfl) ?_
    refine j_q (qs_sub64 rfl rfl (by first | omega | (simp only [bnA] at *; omega))) ?_
    refine j_q (qs_nil rfl) ?_
    refine j_q (qs_field Tryz.underlying60 rfl sz3 (by decide) rfl) ?_
    refine j_store (l := rfcells r) (i := 4) 0 sz3 rfl rfl rfl rfl (by simp) (by simp) ?_
    refine j_ret_con (vs := []) (fun w' hw' => trivial) ?_
    rw [if_pos h1]
    rfl
  · skip
    have h1 : ¬ 0 < r.left := by simpa using hc0
    refine j_ret_con (vs := []) (fun w' hw' => trivial) ?_
    rw [if_neg h1]
theorem rused_con (r : RF) (P : List BK) (a : AS) (w : World) (hin : In w r.heap) (hS : RS r.now P a) : Con Tryz.prog 53 [r.ptr] w [] fun v _ => v = .int .i64 (usedN a : Int) := by
  refine con_of_tree mix Tryz.func53 T53_ok (by kernel_rfl) ?_
  unfold T53
  have hok := hS.raw
  obtain ⟨A, cap, hfv, hcap⟩ := rsl_form (RM.rf hok (RF.in_now hin))
  rw [RM.ps_len] at hfv hcap
  have hrf := RM.rf hok (RF.in_now hin)
  rw [hfv] at hrf
  have hle := hok.le
  refine j_q (qs_ac) ?_
  refine j_q (qs_ac) ?_
  refine j_mkmap (fun g2 hg2 => ?_)
  refine j_q (qs_ac) ?_
  refine j_subl (S' := [[(g2, .map #[] 0)]]) (by repeat first | exact slR _ | exact slN _ | apply slC | apply slD) ?_
  refine j_loop (fun m vs S' => ∃ (i : Nat) (es : Array MapEntry) (ck : Nat) (mm : List (Nat × Value)), vs = [.int .i64 (usedL a.dt (((r.now.nm.take i).map Prod.snd).map Prod.snd) : Int), .int .i64 (i : Int)] ∧ S' = [[(g2, .map es ck)]] ∧ MapOk pEnc pOk es ck mm ∧ (∀ p ∈ mm, ∃ x ∈ r.now.fs, p.1 = x.g) ∧ (∀ x ∈ r.now.fs, mlook mm x.g = if x.id ∈ (((r.now.nm.take i).map Prod.snd).map Prod.snd) then some (.int .i64 1) else none) ∧ i ≤ r.now.nm.length ∧ m = r.now.nm.length - i) ⟨_, 0, #[], 0, [], rfl, rfl, mapOk_nil, (fun p hp => by cases hp), (fun x hx => rfl), Nat.zero_le _, rfl⟩ ?_
  rintro m vs S' hlen ⟨i, es, ck, mm, rfl, rfl, hmt, hmk, hml, hi, rfl⟩
  refine j_q (qs_nil rfl) ?_
  refine j_q (qs_field Tryz.underlying60 rfl sz53 (by decide) rfl) ?_
  refine j_q (qs_loadO (rdo_base (RF.in_gf hin) (by simp)) Tryz.underlying53 rfl rfl rfl) ?_
  refine j_q (qs_nil rfl) ?_
  refine j_q (qs_field Tryz.underlying57 rfl sz55 (by decide) rfl) ?_
  refine j_q (qs_loadO (rdo_base (RM.in_gs (RF.in_now hin)) (by simp)) Tryz.underlying55 rfl rfl rfl) ?_
  refine j_q (qs_lenl (n := r.now.nm.length) (A := A) (c := cap) Tryz.underlying55 hfv) ?_
  refine j_q (qs_lss rfl rfl) ?_
  refine j_cond rfl (fun hc0 => ?_) (fun hc0 => ?_)
  · skip
    have hi1 : i < r.now.nm.length := by
      simp only [bnA] at *
      omega
    obtain ⟨g, off, rfl, _, hcl⟩ := rsl_addr hrf (by rw [RM.ps_len]; omega)
    obtain ⟨⟨n, gq, iq⟩, hq⟩ : ∃ q, r.now.nm[i]? = some q := ⟨_, List.getElem?_eq_getElem hi1⟩
    obtain ⟨f, hf, hfg, hfi⟩ := hok.has _ (List.mem_of_getElem? hq)
    simp only at hfg hfi
    subst hfg hfi
    have hsc : (((r.now.nm.take (i + 1)).map Prod.snd).map Prod.snd) = (((r.now.nm.take i).map Prod.snd).map Prod.snd) ++ [f.id] := by
      rw [List.take_add_one, hq, Option.toList_some, List.map_append, List.map_append]
      rfl
    have hul : usedL a.dt (((r.now.nm.take i).map Prod.snd).map Prod.snd) ≤ 100000000000000 := by
      have h1 := usedL_le (d := a.dt) (B := 1000000000) (l := (((r.now.nm.take i).map Prod.snd).map Prod.snd)) (fun j hj => by
        obtain ⟨p, hp, rfl⟩ := List.mem_map.1 hj
        obtain ⟨q, hq2, rfl⟩ := List.mem_map.1 hp
        obtain ⟨x, hx, _, hxi⟩ := hok.has q (List.mem_of_mem_take hq2)
        rw [← hxi, hS.dt x hx]
        exact (hS.rv x hx).2)
      have h2 : (((r.now.nm.take i).map Prod.snd).map Prod.snd).length ≤ 100000 := by
        rw [List.length_map, List.length_map]
        exact Nat.le_trans (List.length_take_le _ _) (by omega)
      have h3 := Nat.mul_le_mul_right 1000000000 h2
      omega
    refine j_q (qs_nil rfl) ?_
    refine j_q (qs_field Tryz.underlying60 rfl sz53 (by decide) rfl) ?_
    refine j_q (qs_loadO (rdo_base (RF.in_gf hin) (by simp)) Tryz.underlying53 rfl rfl rfl) ?_
    refine j_q (qs_nil rfl) ?_
    refine j_q (qs_field Tryz.underlying57 rfl sz55 (by decide) rfl) ?_
    refine j_q (qs_loadO (rdo_base (RM.in_gs (RF.in_now hin)) (by simp)) Tryz.underlying55 rfl rfl rfl) ?_
    refine j_q (qs_ixn (g := g) (off := off) (i := i) Tryz.underlying55 sz98 hfv rfl hi1) ?_
    refine j_q (qs_loadR (v := fptr (f.g, f.id)) (a := ⟨g, off, none⟩) (i := i) (rd_cells hcl (by simp)) Tryz.underlying98 rfl (by rw [add_off]; show Value.pointer (some ⟨g, off + i * 1, none⟩) = _; rw [Nat.mul_one]) (rdst_at hq)) ?_
    refine j_q (qs_lookupP (key := f.g) 0 Tryz.underlying98 sz100 (by decide) Tryz.underlying113 zv3 rfl rfl rfl hmt (fun w2 hw2 => ⟨_, _, (rdo_base (RM.in_f (RF.in_now hin) hf) (by simp)) w2 hw2⟩) (fun w2 hw2 p hp => by
      obtain ⟨x, hx, e⟩ := hmk p hp
      rw [e]
      exact ⟨_, _, (rdo_base (RM.in_f (RF.in_now hin) hx) (by simp)) w2 hw2⟩)) ?_
    rw [show (mlook mm f.g).getD (.int .i64 0) = .int .i64 (if f.id ∈ (((r.now.nm.take i).map Prod.snd).map Prod.snd) then 1 else 0) by rw [hml f hf]; split <;> rfl]
    refine j_q (qs_eql rfl rfl) ?_
    refine j_cond rfl (fun hc1 => ?_) (fun hc1 => ?_)
    · skip
      have hnew : f.id ∉ (((r.now.nm.take i).map Prod.snd).map Prod.snd) := fun h => by
        rw [if_pos h] at hc1
        simp at hc1
      refine j_q (qs_nil rfl) ?_
      refine j_q (qs_field Tryz.underlying60 rfl sz53 (by decide) rfl) ?_
      refine j_q (qs_loadO (rdo_base (RF.in_gf hin) (by simp)) Tryz.underlying53 rfl rfl rfl) ?_
      refine j_q (qs_nil rfl) ?_
      refine j_q (qs_field Tryz.underlying57 rfl sz55 (by decide) rfl) ?_
      refine j_q (qs_loadO (rdo_base (RM.in_gs (RF.in_now hin)) (by simp)) Tryz.underlying55 rfl rfl rfl) ?_
      refine j_q (qs_ixn (g := g) (off := off) (i := i) Tryz.underlying55 sz98 hfv rfl hi1) ?_
      refine j_q (qs_loadR (v := fptr (f.g, f.id)) (a := ⟨g, off, none⟩) (i := i) (rd_cells hcl (by simp)) Tryz.underlying98 rfl (by rw [add_off]; show Value.pointer (some ⟨g, off + i * 1, none⟩) = _; rw [Nat.mul_one]) (rdst_at hq)) ?_
      have hno : mlook mm f.g = none := by rw [hml f hf, if_neg hnew]
      refine j_mappushP (key := f.g) (val := .int .i64 1) 0 Tryz.underlying98 sz100 (by decide) Tryz.underlying113 rfl rfl rfl rfl hmt (fun w2 hw2 => ⟨_, _, (rdo_base (RM.in_f (RF.in_now hin) hf) (by simp)) w2 hw2⟩) (fun w2 hw2 p hp => by
        obtain ⟨x, hx, e⟩ := hmk p hp
        rw [e]
        exact ⟨_, _, (rdo_base (RM.in_f (RF.in_now hin) hx) (by simp)) w2 hw2⟩) hno (fun es2 ck2 hmt2 => ?_)
      refine j_q (qs_nil rfl) ?_
      refine j_q (qs_field Tryz.underlying60 rfl sz53 (by decide) rfl) ?_
      refine j_q (qs_loadO (rdo_base (RF.in_gf hin) (by simp)) Tryz.underlying53 rfl rfl rfl) ?_
      refine j_q (qs_nil rfl) ?_
      refine j_q (qs_field Tryz.underlying57 rfl sz55 (by decide) rfl) ?_
      refine j_q (qs_loadO (rdo_base (RM.in_gs (RF.in_now hin)) (by simp)) Tryz.underlying55 rfl rfl rfl) ?_
      refine j_q (qs_ixn (g := g) (off := off) (i := i) Tryz.underlying55 sz98 hfv rfl hi1) ?_
      refine j_q (qs_loadR (v := fptr (f.g, f.id)) (a := ⟨g, off, none⟩) (i := i) (rd_cells hcl (by simp)) Tryz.underlying98 rfl (by rw [add_off]; show Value.pointer (some ⟨g, off + i * 1, none⟩) = _; rw [Nat.mul_one]) (rdst_at hq)) ?_
      refine j_q (qs_nil rfl) ?_
      refine j_q (qs_field Tryz.underlying100 rfl sz32 (by decide) rfl) ?_
      refine j_q (qs_loadO (rdo_base (RM.in_f (RF.in_now hin) hf) (by simp)) Tryz.underlying32 rfl rfl rfl) ?_
      obtain ⟨fA, fcp, hfv2, _, _⟩ := (hS.rv f hf).1.form
      have hfl := (hS.rv f hf).2
      refine j_q (qs_lenl (n := f.xs.length) (A := fA) (c := fcp) Tryz.underlying32 hfv2) ?_
      refine j_q (qs_add64 rfl rfl (by first | omega | (simp only [bnA] at *; omega))) ?_
      refine j_q (qs_add64 rfl rfl (by first | omega | (simp only [bnA] at *; omega))) ?_
      refine j_back rfl ?_
      refine ⟨r.now.nm.length - (i + 1), by omega, i + 1, es2, ck2, _, ?_, rfl, hmt2, fun p hp => ?_, fun x hx => ?_, hi1, rfl⟩
      · have e : usedL a.dt (((r.now.nm.take (i + 1)).map Prod.snd).map Prod.snd) = usedL a.dt (((r.now.nm.take i).map Prod.snd).map Prod.snd) + f.xs.length := by rw [hsc, usedL_snoc, if_neg hnew, hS.dt f hf]
        rw [e]
        rfl
      · rcases List.mem_append.1 hp with hp | hp
        · exact hmk p hp
        · rw [List.mem_singleton] at hp
          exact ⟨f, hf, by rw [hp]⟩
      · rw [rlook_snoc _ hno, hsc]
        by_cases hxf : x.g = f.g
        · rw [if_pos hxf, if_pos (by rw [fs_of hok hf hx hxf]; simp)]
        · have hxi : x.id ≠ f.id := fun e => hxf (by rw [fs_ofi hok hf hx e])
          rw [if_neg hxf, hml x hx]
          simp [hxi]
    · skip
      have hold : f.id ∈ (((r.now.nm.take i).map Prod.snd).map Prod.snd) := Classical.byContradiction fun h => by
        rw [if_neg h] at hc1
        simp at hc1
      refine j_q (qs_add64 rfl rfl (by first | omega | (simp only [bnA] at *; omega))) ?_
      refine j_back rfl ?_
      refine ⟨r.now.nm.length - (i + 1), by omega, i + 1, es, ck, mm, ?_, rfl, hmt, hmk, fun x hx => ?_, hi1, rfl⟩
      · have e : usedL a.dt (((r.now.nm.take (i + 1)).map Prod.snd).map Prod.snd) = usedL a.dt (((r.now.nm.take i).map Prod.snd).map Prod.snd) := by rw [hsc, usedL_snoc, if_pos hold]; rfl
        rw [e]
        rfl
      · rw [hml x hx, hsc]
        by_cases hxf : x.id = f.id
        · rw [hxf, if_pos hold, if_pos (by simp)]
        · simp [hxf]
  · skip
    obtain rfl : i = r.now.nm.length := by
      simp only [bnA] at *
      omega
    refine j_ret_con (vs := [_]) (fun w' hw' => ⟨rfl, trivial⟩) ?_
    rw [List.take_length]
    unfold usedN
    rw [usedL_perm (hS.nm.symm.map Prod.snd), List.map_map, List.map_map]
    rfl
theorem rfreed_con (r : RF) (P : List BK) (a : AS) (n : List UInt8) (w : World) (hin : In w r.heap) (hS : RS r.now P a) : Con Tryz.prog 69 [r.ptr, .string (bs n)] w [] fun v _ => v = .int .i64 (freesA a n : Int) := by
  refine con_of_tree mix Tryz.func69 T69_ok (by kernel_rfl) ?_
  unfold T69
  have hok := hS.raw
  have hF : ∀ b : Bool, (gadr (alook r.now.nm n) = .pointer none ∧ alook a.nm n = none) ∨ ∃ f ∈ r.now.fs, gadr (alook r.now.nm n) = .pointer (some ⟨f.g, 0, none⟩) ∧ alook a.nm n = some f.id := fun _ => by
    cases h : alook a.nm n with
    | none => exact .inl ⟨by rw [hS.get0.2 h]; rfl, rfl⟩
    | some i =>
      obtain ⟨f, hf, h1, h2, _⟩ := hS.get h
      exact .inr ⟨f, hf, by rw [h1]; rfl, by rw [h2]⟩
  refine j_q (qs_ac) ?_
  refine j_q (qs_nil rfl) ?_
  refine j_q (qs_field Tryz.underlying60 rfl sz53 (by decide) rfl) ?_
  refine j_q (qs_loadO (rdo_base (RF.in_gf hin) (by simp)) Tryz.underlying53 rfl rfl rfl) ?_
  refine j_q (qs_call ent68 rfl rfl rfl (fun w' hw' => rget_con r.now n w' (in_keep (RF.in_now hin) hw') hok)) ?_
  refine j_q (qs_pnil (A := (alook r.now.nm n).map fun p => ⟨p.1, 0, none⟩) Tryz.underlying98 rfl) ?_
  refine j_g rfl (fun hb => qs_mt rfl) ?_
  refine j_g rfl (fun hb => qs_nil (gd_eq hb)) ?_
  refine j_g rfl (fun hb => qs_field Tryz.underlying60 rfl sz53 (by decide) (gd_eq hb)) ?_
  refine j_g rfl (fun hb => qs_loadO (rdo_base (RF.in_gf hin) (by simp)) Tryz.underlying53 rfl (gd_eq hb) rfl) ?_
  refine j_g rfl (fun hb => qs_mt rfl) ?_
  refine j_g (v := .int .i64 (match alook a.nm n with | none => 0 | some i => (cntA a.nm i : Int))) rfl (fun hb => by
    rcases hF true with ⟨h1, h2⟩ | ⟨f, hf, h1, h2⟩
    · have h3 : (alook r.now.nm n) = none := hS.get0.2 h2
      rw [h3] at hb
      simp at hb
    · rw [h2]
      simp only
      rw [← hS.cnt]
      exact qs_call ent78 rfl rfl (args2 (gd_eq hb) ((gd_eq hb).trans h1)) (fun w' hw' => rnames_con r.now f w' (in_keep (RF.in_now hin) hw') hok hf)) ?_
  refine j_g rfl (fun hb => qs_gtr (gd_eq hb) rfl) ?_
  refine j_q (qs_or rfl rfl) ?_
  refine j_cond rfl (fun hc0 => ?_) (fun hc0 => ?_)
  · skip
    refine j_q (qs_ac) ?_
    refine j_ret_con (vs := [_]) (fun w' hw' => ⟨rfl, trivial⟩) ?_
    rcases hF true with ⟨h1, h2⟩ | ⟨f, hf, h1, h2⟩
    · show Value.int .i64 0 = _
      simp only [freesA, h2]
      rfl
    · have h3 : (alook r.now.nm n).isSome = true := by
        cases h : alook r.now.nm n with
        | none => rw [hS.get0.1 h] at h2; cases h2
        | some p => rfl
      obtain ⟨p, hp⟩ := Option.isSome_iff_exists.1 h3
      rw [hp, h2] at hc0
      have h4 : (1 : Int) < (cntA a.nm f.id : Int) := by simpa [gd] using hc0
      show Value.int .i64 0 = _
      simp only [freesA, h2]
      rw [if_neg (by omega)]
      rfl
  · skip
    rcases hF true with ⟨h1, h2⟩ | ⟨f, hf, h1, h2⟩
    · have h3 : (alook r.now.nm n) = none := hS.get0.2 h2
      rw [h3] at hc0
      simp at hc0
    obtain ⟨fA, fcp, hfv2, _, _⟩ := (hS.rv f hf).1.form
    rw [h1]
    have h3 : alook r.now.nm n ≠ none := fun e => by rw [hS.get0.1 e] at h2; cases h2
    refine j_q (qs_nil rfl) ?_
    refine j_q (qs_field Tryz.underlying100 rfl sz32 (by decide) rfl) ?_
    refine j_q (v := .slice fA f.xs.length fcp) (hfv2 ▸ qs_loadO (rdo_base (RM.in_f (RF.in_now hin) hf) (by simp)) Tryz.underlying32 rfl rfl rfl) ?_
    refine j_q (qs_lenl (n := f.xs.length) (A := fA) (c := fcp) Tryz.underlying32 rfl) ?_
    refine j_ret_con (vs := [_]) (fun w' hw' => ⟨rfl, trivial⟩) ?_
    obtain ⟨p, hp⟩ := Option.ne_none_iff_exists'.1 h3
    rw [hp, h2] at hc0
    have h4 : ¬ (1 : Int) < (cntA a.nm f.id : Int) := by simpa [gd] using hc0
    have h5 : 1 ≤ cntA a.nm f.id := by
      unfold cntA
      exact List.length_pos_of_mem (List.mem_filter.2 ⟨alook_mem h2, by simp⟩)
    simp only [freesA, h2]
    rw [if_pos (by omega), hS.dt f hf]
    rfl
end Go.Proofs.YtckpegkpdepokaaGreat
/-! Rg6 -/
namespace Go.Proofs.YtckpegkpdepokaaGreat
open Go Go.Sx
set_option maxRecDepth 100000
set_option maxHeartbeats 4000000
set_option linter.unusedVariables false
set_option linter.unusedSimpArgs false
attribute [local irreducible] J JQ QS Con W opW
open Go.MapKept Go.WideMaps Go.Maps
abbrev RM0 (g : Nat) : RM := ⟨g, .slice none 0 0, [], .slice none 0 0, [], [], []⟩
theorem rs0 (g : Nat) (P : List BK) : RS (RM0 g) P AS0 := ⟨⟨⟨own_nil, own_nil, .nil, .nil, .nil, (fun q hq => by cases hq), (fun q hq => by cases hq), Nat.zero_le _⟩, .nil, (fun f hf => by cases hf), (fun f hf => by cases hf)⟩, (fun f hf => by cases hf)⟩
theorem encT_3 (t : AT) (v : Value) : (encT t v)[3]? = some v := by cases t <;> rfl
theorem encT_set (t : AT) (v u : Value) : (encT t v).set 3 u = encT t u := by cases t <;> rfl
theorem encT_one (t : AT) {v : Value} (h : oneV v = true) : ∀ u ∈ encT t v, oneV u = true := fun u hu => by
  cases t <;> simp only [encT, List.mem_cons, List.mem_nil_iff, or_false] at hu <;> rcases hu with rfl | rfl | rfl | rfl <;> first | rfl | exact h
def xsT : AT → List UInt8
  | .wr _ xs _ => xs
  | .ap _ xs => xs
  | _ => []
def nsT : AT → Prop
  | .wr n xs _ => strOk n ∧ xs.length ≤ 1048576
  | .ap n xs => strOk n ∧ xs.length ≤ 1048576
  | .li old n => strOk old ∧ strOk n
  | .rn old n => strOk old ∧ strOk n
  | .rm n => strOk n
theorem nsT_len {t : AT} (h : nsT t) : (xsT t).length ≤ 1048576 := by
  cases t <;> first | exact h.2 | exact Nat.zero_le _
theorem okT_mk {P : List BK} {t : AT} {v : Value} (h : nsT t) (hv : RV P v (xsT t)) : okT P t v := by
  cases t with
  | wr n xs i => exact ⟨h.1, hv, h.2⟩
  | ap n xs => exact ⟨h.1, hv, h.2⟩
  | li old n => exact ⟨h.1, h.2, hv⟩
  | rn old n => exact ⟨h.1, h.2, hv⟩
  | rm n => exact ⟨h, hv⟩
theorem okT_mono {P P' : List BK} (hs : ∀ b ∈ P, b ∈ P') {t : AT} {v : Value} (h : okT P t v) : okT P' t v := by
  cases t with
  | wr n xs i => exact ⟨h.1, h.2.1.subl hs, h.2.2⟩
  | ap n xs => exact ⟨h.1, h.2.1.subl hs, h.2.2⟩
  | li old n => exact ⟨h.1, h.2.1, h.2.2.subl hs⟩
  | rn old n => exact ⟨h.1, h.2.1, h.2.2.subl hs⟩
  | rm n => exact ⟨h.1, h.2.subl hs⟩
theorem br_srcD {w : World} {D : List Nat} {S : List SH} {v : Value} {xs : List UInt8} (h : BR w v xs) (hd : ∀ (a : Addr) (m c : Nat), v = .slice (some a) m c → 0 < m → a.block ∉ D) : Src (⟨w, D⟩ : Base) S 1 v xs.length (ints xs) := by
  rcases h with ⟨rfl, rfl⟩ | ⟨a, cap, rfl, _, _, h⟩
  · exact .inr (.inl ⟨0, rfl, rfl, rfl⟩)
  · refine .inl ⟨a, cap, rfl, ?_, by rw [ints_length, Nat.mul_one]⟩
    rcases Nat.eq_zero_or_pos xs.length with h0 | h0
    · rw [List.eq_nil_of_length_eq_zero h0]
      intro w' _ j u hu
      simp [ints] at hu
    · exact rd_cells h (hd a _ _ rfl h0)
abbrev T0 : AT × Value := (.rm [], .slice none 0 0)
theorem RF.Ok.lenP {r : RF} {a : AF} (h : r.Ok a) : ∃ A cap, r.lv = .slice A r.L.length cap := by
  obtain ⟨n, A, cap, e, hn⟩ := own_form h.row (by decide)
  rw [encTs_len] at hn
  have : n = r.L.length := by omega
  subst this
  exact ⟨A, cap, e⟩
theorem RF.Ok.burn {r : RF} {a : AF} (h : r.Ok a) (hz : a.fused = true → a.left ≠ 0) : (if 0 < r.left then r.left - 1 else r.left) = if a.fused then burnL a else -1 := by
  have h1 := h.lf
  have h2 := h.l0
  unfold burnL
  cases hf : a.fused with
  | false =>
    rw [hf] at h1
    simp only [Bool.false_eq_true, if_false] at h1 ⊢
    rw [h1]
    rfl
  | true =>
    rw [hf] at h1
    simp only [if_true] at h1 ⊢
    have := hz hf
    rw [h1, if_pos (by omega)]
theorem RF.Ok.burn0 {r : RF} {a : AF} (h : r.Ok a) (hz : a.fused = true → a.left ≠ 0) : 0 ≤ burnL a ∧ burnL a ≤ 9223372036854775807 := by
  have h2 := h.l0
  unfold burnL
  split
  · rename_i hf
    have := hz hf
    omega
  · exact h2
theorem mayE_nil {f : Bool} {l : Int} (h : mayE f l [] = 0) : f = true → l ≠ 0 := fun hf hl => by
  unfold mayE at h
  rw [hf, hl] at h
  simp at h
theorem rnew_con (room : Int) (w : World) (h0 : 0 ≤ room) (h1 : room ≤ 1073741824) : Con Tryz.prog 7 [.int .i64 room] w [] fun v S' => ∃ r : RF, S' = [r.heap] ∧ v = .tuple #[r.ptr, .int .i64 0] ∧ r.Ok (AF0 room) := by
  refine con_of_tree mix Tryz.func7 T7_ok (by kernel_rfl) ?_
  unfold T7
  refine j_q (qs_ac) ?_
  refine j_q (qs_ac) ?_
  refine j_q (qs_lss rfl rfl) ?_
  refine j_g rfl (fun hb => qs_mt rfl) ?_
  refine j_g rfl (fun hb => qs_gtr (gd_eq hb) rfl) ?_
  refine j_q (qs_or rfl rfl) ?_
  refine j_cond rfl (fun hc0 => ?_) (fun hc0 => ?_)
  · skip
    simp [gd] at hc0
    omega
  · skip
    refine j_q (qs_build (places := [(0, 1), (1, 1)]) (offs := []) Tryz.underlying57 zero57 (by kernel_rfl) rfl (by rintro (_ | _ | _ | _ | j) p q hp hq <;> first | (simp at hp hq; subst hp hq; exact ⟨rfl, rfl, by simp⟩) | (simp at hp))) ?_
    refine j_box (l := [.slice none 0 0, .slice none 0 0]) rfl (fun g9 hg9 hs9 => ?_)
    refine j_q (qs_build (places := [(0, 1), (1, 1)]) (offs := []) Tryz.underlying57 zero57 (by kernel_rfl) rfl (by rintro (_ | _ | _ | _ | j) p q hp hq <;> first | (simp at hp hq; subst hp hq; exact ⟨rfl, rfl, by simp⟩) | (simp at hp))) ?_
    refine j_box (l := [.slice none 0 0, .slice none 0 0]) rfl (fun g11 hg11 hs11 => ?_)
    refine j_q (qs_build (places := [(0, 1), (1, 1), (2, 1), (3, 1), (4, 1)]) (offs := [(0, [.int .i64 room]), (1, [ptr0 g9]), (2, [ptr0 g11]), (4, [.int .i64 (-1)])]) Tryz.underlying60 zero60 (by kernel_rfl) rfl (by rintro (_ | _ | _ | _ | j) p q hp hq <;> first | (simp at hp hq; subst hp hq; exact ⟨rfl, rfl, by simp⟩) | (simp at hp))) ?_
    refine j_box (l := [.int .i64 room, ptr0 g9, ptr0 g11, .slice none 0 0, .int .i64 (-1)]) rfl (fun g13 hg13 hs13 => ?_)
    refine j_q (qs_ac) ?_
    refine j_perm (S' := [RF.heap (⟨g13, room, RM0 g9, RM0 g11, [], .slice none 0 0, [], -1, []⟩ : RF)]) (by
      classical
      refine List.perm_iff_count.2 fun x => ?_
      simp only [RF.heap, RM.heap, RF.obj, rfcells, RM.sobj, rmcells, RM.ptr, ptr0, ph, List.map_nil, List.flatten_cons, List.flatten_nil, List.append_nil, List.nil_append, List.cons_append, List.count_append, List.count_cons, List.count_nil] <;> omega) ?_
    refine j_ret_con (vs := [_, _]) (fun w' hw' => ⟨rfl, rfl, trivial⟩) ?_
    exact ⟨_, rfl, rfl, ⟨rfl, ⟨h0, h1⟩, rfl, ⟨Int.le_refl 0, by show (0 : Int) ≤ _; decide⟩, rfl, own_nil, (fun p hp => by cases hp), Nat.zero_le _, Nat.zero_le _, rs0 _ _, rs0 _ _⟩⟩
theorem rfuse_con (r : RF) (a : AF) (n : Int) (w : World) (hok : r.Ok a) (hn : -9223372036854775808 ≤ n ∧ n ≤ 9223372036854775807) : Con Tryz.prog 47 [r.ptr, .int .i64 n] w r.heap fun _ S' => ∃ r' : RF, S' = [r'.heap] ∧ r'.Ok (fuseF a n) ∧ r'.gf = r.gf := by
  refine con_of_tree mix Tryz.func47 T47_ok (by kernel_rfl) ?_
  unfold T47
  refine j_perm (S' := [[(r.gf, r.obj)], r.base.heap, r.now.heap, r.lc, ph r.P]) r.split ?_
  refine j_q (qs_max rfl rfl) ?_
  refine j_q (qs_nil rfl) ?_
  refine j_q (qs_field Tryz.underlying60 rfl sz3 (by decide) rfl) ?_
  refine j_store (l := rfcells r) (i := 4) 0 sz3 rfl rfl rfl rfl (by simp) (by simp) ?_
  refine j_perm (S' := [RF.heap { r with left := max (-1) n }]) (RF.split { r with left := max (-1) n }).symm ?_
  refine j_ret_con (vs := []) (fun w' hw' => trivial) ?_
  refine ⟨_, rfl, ⟨hok.rm, hok.r0, ?_, ⟨Int.le_max_left 0 n, by show max 0 n ≤ 9223372036854775807; omega⟩, hok.pd, hok.row, hok.ot, hok.lt, hok.ok, hok.bs, hok.nw⟩, rfl⟩
  show max (-1) n = if decide (0 ≤ n) = true then max 0 n else -1
  split
  · rename_i h
    simp only [decide_eq_true_eq] at h
    omega
  · rename_i h
    simp only [decide_eq_true_eq] at h
    omega
theorem rlasts_con (r : RF) (a : AF) (w : World) (hok : r.Ok a) : Con Tryz.prog 74 [r.ptr] w r.heap fun _ S' => ∃ s' : RM, S' = [RF.heap ({ r with base := s', L := [], lv := .slice none 0 0, lc := [] } : RF)] ∧ RS s' r.P a.now := by
  refine con_of_tree mix Tryz.func74 T74_ok (by kernel_rfl) ?_
  unfold T74
  refine j_perm (S' := [[(r.gf, r.obj)], r.base.heap, r.now.heap, r.lc, ph r.P]) r.split ?_
  refine j_q (qs_nil rfl) ?_
  refine j_q (qs_field Tryz.underlying60 rfl sz53 (by decide) rfl) ?_
  refine j_q (qs_load (l := rfcells r) 0 Tryz.underlying53 rfl rfl rfl rfl) ?_
  refine j_call0 ent23 rfl rfl rfl (fun w' hw' => rclone_con r.now r.P a.now w' (in_own hw' 2 rfl) hok.nw) (fun u S2 hu => ?_)
  obtain ⟨s', rfl, rfl, hs'⟩ := hu
  refine j_subl (S' := [s'.heap, [(r.gf, r.obj)], r.now.heap, r.lc, ph r.P]) (by repeat first | exact slR _ | exact slN _ | apply slC | apply slD) ?_
  refine j_q (qs_nil rfl) ?_
  refine j_q (qs_field Tryz.underlying60 rfl sz53 (by decide) rfl) ?_
  refine j_store (l := rfcells r) (i := 1) 1 sz53 rfl rfl rfl rfl (by simp) (by simp) ?_
  refine j_q (qs_nil rfl) ?_
  refine j_q (qs_field Tryz.underlying60 rfl sz58 (by decide) rfl) ?_
  refine j_store (l := rfcells { r with base := s' }) (i := 3) 1 sz58 rfl rfl rfl rfl (by simp) (by simp) ?_
  refine j_subl (S' := [s'.heap, [(r.gf, RF.obj ({ r with base := s', L := [], lv := .slice none 0 0, lc := [] } : RF))], r.now.heap, ph r.P]) (by repeat first | exact slR _ | exact slN _ | apply slC | apply slD) ?_
  refine j_perm (S' := [RF.heap ({ r with base := s', L := [], lv := .slice none 0 0, lc := [] } : RF)]) (by
    classical
    refine List.perm_iff_count.2 fun x => ?_
    simp only [RF.heap, ph, List.map_append, List.map_nil, List.set, List.flatten_cons, List.flatten_nil, List.append_nil, List.nil_append, List.cons_append, List.count_append, List.count_cons, List.count_nil] <;> omega) ?_
  refine j_ret_con (vs := []) (fun w' hw' => trivial) ?_
  exact ⟨s', rfl, hs'⟩
theorem rsync_con (r : RF) (a : AF) (w : World) (hok : r.Ok a) : Con Tryz.prog 44 [r.ptr] w r.heap fun v S' => v = .int .i64 (mayE a.fused a.left []) ∧ ∃ r' : RF, S' = [r'.heap] ∧ r'.Ok (if mayE a.fused a.left [] = 0 then syncF a else a) ∧ r'.gf = r.gf := by
  refine con_of_tree mix Tryz.func44 T44_ok (by kernel_rfl) ?_
  unfold T44
  have hB : decide (r.left = 0) = true ↔ mayE a.fused a.left [] ≠ 0 := by
    have h1 := hok.lf
    unfold mayE
    rw [h1]
    cases a.fused <;> simp
  refine j_q (qs_ac) ?_
  refine j_q (qs_call ent66 rfl rfl rfl (fun w' hw' => rburnt_con r w' (in_own hw' 0 rfl))) ?_
  refine j_cond rfl (fun hc0 => ?_) (fun hc0 => ?_)
  · skip
    have hm := hB.1 hc0
    refine j_q (qs_ac) ?_
    refine j_ret_con (vs := [_]) (fun w' hw' => ⟨rfl, trivial⟩) ?_
    have h26 : mayE a.fused a.left [] = 26 := by
      unfold mayE at hm ⊢
      split
      · rfl
      · rename_i h
        rw [if_neg h] at hm
        exact absurd rfl hm
    rw [if_neg hm, h26]
    exact ⟨rfl, r, rfl, hok, rfl⟩
  · skip
    have hm : mayE a.fused a.left [] = 0 := Classical.byContradiction fun h => by rw [hB.2 h] at hc0; cases hc0
    have hz := mayE_nil hm
    have hbu := hok.burn hz
    have hb0 := hok.burn0 hz
    refine j_perm (S' := [[(r.gf, r.obj)], r.base.heap, r.now.heap, r.lc, ph r.P]) r.split ?_
    refine j_call 0 ent73 rfl rfl rfl rfl (fun w' hw' => rburns_con r w' (by have h1 := hok.lf; have h2 := hok.l0; split at h1 <;> omega)) (fun u S2 hu => ?_)
    subst hu
    refine j_subl (S' := [[(r.gf, RF.obj ({ r with left := if 0 < r.left then r.left - 1 else r.left } : RF))], r.base.heap, r.now.heap, r.lc, ph r.P]) (by repeat first | exact slR _ | exact slN _ | apply slC | apply slD) ?_
    have hok1 : RF.Ok ({ r with left := if 0 < r.left then r.left - 1 else r.left } : RF) { a with left := burnL a } := ⟨hok.rm, hok.r0, hbu, hb0, hok.pd, hok.row, hok.ot, hok.lt, hok.ok, hok.bs, hok.nw⟩
    refine j_perm (S' := [RF.heap ({ r with left := if 0 < r.left then r.left - 1 else r.left } : RF)]) (RF.split ({ r with left := if 0 < r.left then r.left - 1 else r.left } : RF)).symm ?_
    refine j_call 0 ent74 rfl rfl rfl rfl (fun w' hw' => rlasts_con ({ r with left := if 0 < r.left then r.left - 1 else r.left } : RF) { a with left := burnL a } w' hok1) (fun u S2 hu => ?_)
    obtain ⟨s', rfl, hs'⟩ := hu
    refine j_subl (S' := [RF.heap ({ ({ r with left := if 0 < r.left then r.left - 1 else r.left } : RF) with base := s', L := [], lv := .slice none 0 0, lc := [] } : RF)]) (by repeat first | exact slR _ | exact slN _ | apply slC | apply slD) ?_
    refine j_q (qs_ac) ?_
    refine j_ret_con (vs := [_]) (fun w' hw' => ⟨rfl, trivial⟩) ?_
    rw [if_pos hm, hm]
    exact ⟨rfl, _, rfl, ⟨hok1.rm, hok1.r0, hok1.lf, hok1.l0, rfl, own_nil, (fun p hp => by cases hp), Nat.zero_le _, (by show a.now.nm.length ≤ 16384; have := okR_run hok.ok a.pend.length; rw [List.take_length] at this; exact this), hs', hok1.nw⟩, rfl⟩
theorem rcrash_con (r : RF) (a : AF) (keep : Int) (w : World) (hok : r.Ok a) : Con Tryz.prog 45 [r.ptr, .int .i64 keep] w r.heap fun _ S' => ∃ r' : RF, S' = [r'.heap] ∧ r'.Ok (crashF a keep) ∧ r'.gf = r.gf := by
  refine con_of_tree mix Tryz.func45 T45_ok (by kernel_rfl) ?_
  unfold T45
  obtain ⟨A1, cap1, hlv⟩ := hok.lenP
  have hlen := hok.len
  have hlt := hok.lt
  obtain ⟨k, hk⟩ : ∃ k, k = keepN a.pend.length keep := ⟨_, rfl⟩
  have hkk : max 0 (min keep (r.L.length : Int)) = (k : Int) := by
    rw [hk]
    unfold keepN
    rw [hlen]
    omega
  have hkl : k ≤ a.pend.length := by
    rw [hk]
    unfold keepN
    omega
  have hrow := hok.row
  rw [hlv] at hrow
  refine j_perm (S' := [[(r.gf, r.obj)], r.base.heap ++ ph r.P, r.now.heap, r.lc]) (by
    have h0 := r.split
    refine h0.trans ?_
    exact (by
    classical
    refine List.perm_iff_count.2 fun x => ?_
    simp only [RF.parts, ph, List.map_append, List.map_nil, List.set, List.flatten_cons, List.flatten_nil, List.append_nil, List.nil_append, List.cons_append, List.count_append, List.count_cons, List.count_nil] <;> omega)) ?_
  refine j_q (qs_nil rfl) ?_
  refine j_q (qs_field Tryz.underlying60 rfl sz58 (by decide) rfl) ?_
  refine j_q (qs_load (l := rfcells r) 0 Tryz.underlying58 rfl rfl rfl rfl) ?_
  refine j_q (qs_lenl (n := r.L.length) (A := A1) (c := cap1) Tryz.underlying58 hlv) ?_
  refine j_q (qs_min rfl rfl) ?_
  refine j_q (qs_max rfl rfl) ?_
  rw [hkk]
  refine j_q (qs_nil rfl) ?_
  refine j_q (qs_field Tryz.underlying60 rfl sz53 (by decide) rfl) ?_
  refine j_q (qs_load (l := rfcells r) 0 Tryz.underlying53 rfl rfl rfl rfl) ?_
  refine j_q (qs_ac) ?_
  refine j_loop (fun m vs S' => ∃ (i : Nat) (s : RM) (P : List BK), vs = [.int .i64 (i : Int)] ∧ S' = [[(r.gf, r.obj)], s.heap ++ ph P, r.now.heap, r.lc] ∧ s.gs = r.base.gs ∧ RS s P (runA a.base (a.pend.take i)) ∧ (∀ b ∈ r.P, b ∈ P) ∧ i ≤ k ∧ m = k - i) ⟨_, 0, r.base, r.P, rfl, rfl, rfl, hok.bs, (fun b hb => hb), Nat.zero_le _, rfl⟩ ?_
  rintro m vs S' hlen ⟨i, s, P, rfl, rfl, hgs, hs, hPP, hik, rfl⟩
  refine j_q (qs_lss rfl rfl) ?_
  refine j_cond rfl (fun hc0 => ?_) (fun hc0 => ?_)
  · skip
    have hi : i < k := by
      have h5 : (i : Int) < (k : Int) := by simpa using hc0
      omega
    obtain ⟨t, ht⟩ : ∃ t, r.L[i]? = some t := ⟨_, List.getElem?_eq_getElem (by omega)⟩
    have htm := List.mem_of_getElem? ht
    have htd : r.L.getD i T0 = t := by rw [List.getD_eq_getElem?_getD, ht]; rfl
    have htp : a.pend[i]? = some t.1 := by rw [← hok.pd, List.getElem?_map, ht]; rfl
    obtain ⟨gl, nl, capl, hgl⟩ := own_some hrow (by intro e; have := congrArg List.length e; rw [encTs_len] at this; simp at this; omega)
    injection hgl with e1 e2 e3
    subst e1
    refine j_q (qs_nil rfl) ?_
    refine j_q (qs_field Tryz.underlying60 rfl sz58 (by decide) rfl) ?_
    refine j_q (qs_load (l := rfcells r) 0 Tryz.underlying58 rfl rfl rfl rfl) ?_
    refine j_q (qs_ixn (g := gl) (off := 0) (i := i) Tryz.underlying58 sz109 hlv rfl (by omega)) ?_
    refine j_q (qs_loadrecw (encA := fun p : AT × Value => encT p.1 p.2) (rs := r.L) (d := T0) (i := i) (fun p => encT_len _ _) (own_rd hrow 3 rfl) (by omega) Tryz.underlying109 rfl sz109 rfl) ?_
    rw [htd]
    have hp : r.base.ptr = s.ptr := by simp only [RM.ptr, hgs]
    rw [hp]
    refine j_call 1 ent75 rfl rfl rfl rfl (fun w' hw' => rdoes_con s P (runA a.base (a.pend.take i)) t.1 t.2 w' hs (okT_mono hPP (hok.ot t htm)) (okR_nth hok.ok htp)) (fun u S2 hu => ?_)
    obtain ⟨s2, Q, rfl, hgs2, hs2⟩ := hu
    refine j_perm (S' := [[(r.gf, r.obj)], s2.heap ++ ph (Q ++ P), r.now.heap, r.lc]) (by
      classical
      refine List.perm_iff_count.2 fun x => ?_
      simp only [RF.heap, ph, List.map_append, List.map_nil, List.set, List.flatten_cons, List.flatten_nil, List.append_nil, List.nil_append, List.cons_append, List.count_append, List.count_cons, List.count_nil] <;> omega) ?_
    refine j_q (qs_add64 rfl rfl (by first | omega | (simp only [bnA] at *; omega))) ?_
    refine j_back rfl ?_
    exact ⟨k - (i + 1), by omega, i + 1, s2, Q ++ P, rfl, rfl, hgs2.trans hgs, by rw [runA_succ htp]; exact hs2, (fun b hb => List.mem_append_right _ (hPP b hb)), hi, rfl⟩
  · skip
    obtain rfl : i = k := by
      have h5 : ¬ (i : Int) < (k : Int) := by simpa using hc0
      omega
    refine j_q (qs_nil rfl) ?_
    refine j_q (qs_field Tryz.underlying60 rfl sz53 (by decide) rfl) ?_
    have hp : r.base.ptr = s.ptr := by simp only [RM.ptr, hgs]
    rw [hp]
    refine j_store (l := rfcells r) (i := 1) 0 sz53 rfl rfl rfl rfl (by simp) (by simp) ?_
    refine j_subl (S' := [[(r.gf, RF.obj { r with base := s })], s.heap ++ ph P]) (by repeat first | exact slR _ | exact slN _ | apply slC | apply slD) ?_
    refine j_perm (S' := [[(r.gf, RF.obj { r with base := s })], s.heap, ph P]) (by
      classical
      refine List.perm_iff_count.2 fun x => ?_
      simp only [RF.heap, ph, List.map_append, List.map_nil, List.set, List.flatten_cons, List.flatten_nil, List.append_nil, List.nil_append, List.cons_append, List.count_append, List.count_cons, List.count_nil] <;> omega) ?_
    refine j_call0 ent23 rfl rfl rfl (fun w' hw' => rclone_con s P (runA a.base (a.pend.take i)) w' (in_own hw' 1 rfl) hs) (fun u S2 hu => ?_)
    obtain ⟨s', rfl, rfl, hs'⟩ := hu
    refine j_q (qs_nil rfl) ?_
    refine j_q (qs_field Tryz.underlying60 rfl sz53 (by decide) rfl) ?_
    refine j_store (l := rfcells { r with base := s }) (i := 2) 1 sz53 rfl rfl rfl rfl (by simp) (by simp) ?_
    refine j_q (qs_nil rfl) ?_
    refine j_q (qs_field Tryz.underlying60 rfl sz58 (by decide) rfl) ?_
    refine j_store (l := rfcells { r with base := s, now := s' }) (i := 3) 1 sz58 rfl rfl rfl rfl (by simp) (by simp) ?_
    refine j_q (qs_nil rfl) ?_
    refine j_q (qs_field Tryz.underlying60 rfl sz3 (by decide) rfl) ?_
    refine j_store (l := rfcells { r with base := s, now := s', lv := .slice none 0 0 }) (i := 4) 1 sz3 rfl rfl rfl rfl (by simp) (by simp) ?_
    refine j_subl (S' := [s'.heap, [(r.gf, RF.obj ({ r with base := s, now := s', L := [], lv := .slice none 0 0, lc := [], left := -1, P := P } : RF))], s.heap, ph P]) (by repeat first | exact slR _ | exact slN _ | apply slC | apply slD) ?_
    refine j_perm (S' := [RF.heap ({ r with base := s, now := s', L := [], lv := .slice none 0 0, lc := [], left := -1, P := P } : RF)]) (by
      classical
      refine List.perm_iff_count.2 fun x => ?_
      simp only [RF.heap, ph, List.map_append, List.map_nil, List.set, List.flatten_cons, List.flatten_nil, List.append_nil, List.nil_append, List.cons_append, List.count_append, List.count_cons, List.count_nil] <;> omega) ?_
    refine j_ret_con (vs := []) (fun w' hw' => trivial) ?_
    have hl := okR_run hok.ok i
    exact ⟨_, rfl, ⟨hok.rm, hok.r0, rfl, hok.l0, rfl, own_nil, (fun p hp => by cases hp), Nat.zero_le _, by show (runA a.base (a.pend.take (keepN a.pend.length keep))).nm.length ≤ _; rw [← hk]; exact hl, by show RS s P (runA a.base (a.pend.take (keepN a.pend.length keep))); rw [← hk]; exact hs, by show RS s' P (runA a.base (a.pend.take (keepN a.pend.length keep))); rw [← hk]; exact hs'⟩, rfl⟩
theorem rdo_con (r : RF) (a : AF) (t : AT) (bv : Value) (w : World) (hok : r.Ok a) (hB : a.pend.length < 16384) (hz : a.fused = true → a.left ≠ 0) (ht : nsT t) (hbr : BR w bv (xsT t)) (hbd : ∀ (a : Addr) (m c : Nat), bv = .slice (some a) m c → 0 < m → a.block ∉ dom r.heap) (hc : canA a.now t) (hl : (doA a.now t).nm.length ≤ 16384) : Con Tryz.prog 70 [r.ptr, .agg (encT t bv).toArray] w r.heap fun v S' => v = .int .i64 0 ∧ ∃ r' : RF, S' = [r'.heap] ∧ r'.Ok (stepF a t) ∧ r'.gf = r.gf := by
  refine con_of_tree mix Tryz.func70 T70_ok (by kernel_rfl) ?_
  unfold T70
  obtain ⟨A1, cap1, hlv⟩ := hok.lenP
  have hlen := hok.len
  have hbu := hok.burn hz
  have hb0 := hok.burn0 hz
  have hxl := nsT_len ht
  have hnl : a.now.nm.length ≤ 16384 := by have := okR_run hok.ok a.pend.length; rw [List.take_length] at this; exact this
  obtain ⟨bA, bcp, hbf, _⟩ := br_form hbr
  have hone0 : oneV bv = true := by rw [hbf]; rfl
  refine j_perm (S' := [[(r.gf, r.obj)], r.base.heap, r.now.heap, r.lc, ph r.P]) r.split ?_
  refine j_box (l := encT t bv) rfl (fun g0 hg0 hs0 => ?_)
  refine j_q (qs_ac) ?_
  refine j_q (qs_nil rfl) ?_
  refine j_q (qs_field Tryz.underlying60 rfl sz58 (by decide) rfl) ?_
  refine j_q (qs_load (l := rfcells r) 1 Tryz.underlying58 rfl rfl rfl rfl) ?_
  refine j_q (qs_lenl (n := r.L.length) (A := A1) (c := cap1) Tryz.underlying58 hlv) ?_
  refine j_q (qs_geq rfl rfl) ?_
  refine j_cond rfl (fun hc0 => ?_) (fun hc0 => ?_)
  · skip
    exfalso
    simp at hc0
    omega
  · skip
    refine j_call 1 ent73 rfl rfl rfl rfl (fun w' hw' => rburns_con r w' (by have h1 := hok.lf; have h2 := hok.l0; split at h1 <;> omega)) (fun u S2 hu => ?_)
    subst hu
    refine j_subl (S' := [[(r.gf, RF.obj ({ r with left := if 0 < r.left then r.left - 1 else r.left } : RF))], [(g0, .cells (encT t bv).toArray 109 (0, 0))], r.base.heap, r.now.heap, r.lc, ph r.P]) (by repeat first | exact slR _ | exact slN _ | apply slC | apply slD) ?_
    refine j_lit (vs := []) Tryz.underlying32 sz5 zero5 rfl (by simp [oneV]) ⟨rfl, by decide⟩ (fun g31 v31 c31 hv31 hc31 ho31 => ?_)
    subst hv31 hc31
    refine j_q (qs_field Tryz.underlying109 rfl sz32 (by decide) rfl) ?_
    refine j_q (qs_load (l := encT t bv) 2 Tryz.underlying32 rfl rfl rfl (encT_3 t bv)) ?_
    refine j_append 0 Tryz.underlying32 Tryz.underlying32 (.inr ⟨_, rfl⟩) sb5 zero5 rfl ho31 rfl (br_srcD hbr hbd) ints_one ⟨(by rw [ints_length]; simp only [List.length_nil]; omega), (by decide)⟩ (fun v34 c34 ho34 => ?_)
    refine j_q (qs_field Tryz.underlying109 rfl sz32 (by decide) rfl) ?_
    rw [List.nil_append] at ho34
    obtain ⟨m34, A34, cap34, hv34, _⟩ := own_form ho34 (by decide)
    have hone34 : oneV v34 = true := by rw [hv34]; rfl
    obtain ⟨Q, rfl, hQ⟩ := own_pool ho34
    refine j_store (l := encT t bv) (i := 3) 2 sz32 rfl rfl hone34 rfl (by rw [encT_len]; decide) (by simp) ?_
    rw [encT_set]
    refine j_subl (S' := [ph Q, [(r.gf, RF.obj ({ r with left := if 0 < r.left then r.left - 1 else r.left } : RF))], [(g0, .cells (encT t v34).toArray 109 (0, 0))], r.base.heap, r.now.heap, r.lc, ph r.P]) (by repeat first | exact slR _ | exact slN _ | apply slC | apply slD) ?_
    refine j_perm (S' := [[(r.gf, RF.obj ({ r with left := if 0 < r.left then r.left - 1 else r.left } : RF))], [(g0, .cells (encT t v34).toArray 109 (0, 0))], r.base.heap, r.now.heap ++ ph (Q ++ r.P), r.lc]) (by
      classical
      refine List.perm_iff_count.2 fun x => ?_
      simp only [RF.heap, ph, List.map_append, List.map_nil, List.set, List.flatten_cons, List.flatten_nil, List.append_nil, List.nil_append, List.cons_append, List.count_append, List.count_cons, List.count_nil] <;> omega) ?_
    refine j_mix [[(r.gf, RF.obj ({ r with left := if 0 < r.left then r.left - 1 else r.left } : RF))], [(g0, .cells (encT t v34).toArray 109 (0, 0))]] (Le.of_sub (by repeat first | exact slR _ | exact slN _ | apply slC | apply slD)) ?_
    refine j_mq (qs_nil rfl) ?_
    refine j_mq (qs_field Tryz.underlying60 rfl sz53 (by decide) rfl) ?_
    refine j_mq (qs_load (l := rfcells ({ r with left := if 0 < r.left then r.left - 1 else r.left } : RF)) 0 Tryz.underlying53 rfl rfl rfl rfl) ?_
    refine j_mq (qs_loadw (l := encT t v34) 1 Tryz.underlying109 rfl sz109 rfl rfl (encT_len _ _)) ?_
    refine j_call 3 ent75 rfl rfl rfl rfl (fun w' hw' => rdoes_con r.now (Q ++ r.P) a.now t v34 w' (hok.nw.more (fun b hb => List.mem_append_right _ hb)) (okT_mk ht (hQ.subl fun b hb => List.mem_append_left _ hb)) ⟨hc, hnl⟩) (fun u S2 hu => ?_)
    obtain ⟨s', Q', rfl, hgs, hs'⟩ := hu
    refine j_subl (S' := [s'.heap, ph (Q' ++ (Q ++ r.P)), [(r.gf, RF.obj ({ r with left := if 0 < r.left then r.left - 1 else r.left } : RF))], [(g0, .cells (encT t v34).toArray 109 (0, 0))], r.base.heap, r.lc]) (by repeat first | exact slR _ | exact slN _ | apply slC | apply slD) ?_
    refine j_perm (S' := [[(r.gf, RF.obj ({ r with left := if 0 < r.left then r.left - 1 else r.left } : RF))], [(g0, .cells (encT t v34).toArray 109 (0, 0))], r.base.heap, r.lc, s'.heap, ph (Q' ++ (Q ++ r.P))]) (by
      classical
      refine List.perm_iff_count.2 fun x => ?_
      simp only [RF.heap, ph, List.map_append, List.map_nil, List.set, List.flatten_cons, List.flatten_nil, List.append_nil, List.nil_append, List.cons_append, List.count_append, List.count_cons, List.count_nil] <;> omega) ?_
    refine j_mR _ (.refl _) ?_
    refine j_mend ?_
    refine j_mix [[(r.gf, RF.obj ({ r with left := if 0 < r.left then r.left - 1 else r.left } : RF))], [(g0, .cells (encT t v34).toArray 109 (0, 0))]] (Le.of_sub (by repeat first | exact slR _ | exact slN _ | apply slC | apply slD)) ?_
    refine j_mq (qs_nil rfl) ?_
    refine j_mq (qs_field Tryz.underlying60 rfl sz58 (by decide) rfl) ?_
    refine j_mq (qs_load (l := rfcells ({ r with left := if 0 < r.left then r.left - 1 else r.left } : RF)) 0 Tryz.underlying58 rfl rfl rfl rfl) ?_
    refine j_mq (qs_loadw (l := encT t v34) 1 Tryz.underlying109 rfl sz109 rfl rfl (encT_len _ _)) ?_
    refine j_litw (vs := encT t v34) Tryz.underlying58 sz109 zero109 rfl rfl ⟨encT_len _ _, by decide, by decide⟩ (fun g46 hg46 ho46 => ?_)
    refine j_mD0 (Le.of_sub (by repeat first | exact slR _ | exact slN _ | apply slC | apply slD)) ?_
    refine j_append 4 Tryz.underlying58 Tryz.underlying58 (.inr ⟨_, rfl⟩) sb109 zero109 rfl hok.row rfl (.inl ⟨_, _, rfl, own_rd ho46 0 rfl, (encT_len _ _)⟩) (encT_one t hone34) ⟨(by rw [encTs_len, encT_len]; omega), (by decide)⟩ (fun v47 c47 ho47 => ?_)
    refine j_mD0 (Le.of_sub (by repeat first | exact slR _ | exact slN _ | apply slC | apply slD)) ?_
    refine j_mq (qs_nil rfl) ?_
    refine j_mq (qs_field Tryz.underlying60 rfl sz58 (by decide) rfl) ?_
    have hgs' : r.now.ptr = s'.ptr := by simp only [RM.ptr, hgs]
    refine j_store (l := rfcells ({ r with left := if 0 < r.left then r.left - 1 else r.left } : RF)) (i := 3) 1 sz58 rfl rfl (by obtain ⟨a1, a2, a3, a4, _⟩ := own_form ho47 (by decide); show oneV v47 = true; rw [a4]; rfl) rfl (by simp) (by simp) ?_
    refine j_mR _ (.refl _) ?_
    refine j_mend ?_
    refine j_q (qs_ac) ?_
    have hPs : ∀ b ∈ r.P, b ∈ (Q' ++ (Q ++ r.P)) := fun b hb => List.mem_append_right _ (List.mem_append_right _ hb)
    refine j_subl (S' := [[(r.gf, RF.obj ({ ({ r with left := if 0 < r.left then r.left - 1 else r.left } : RF) with now := s', L := r.L ++ [(t, v34)], lv := v47, lc := c47, P := (Q' ++ (Q ++ r.P)) } : RF))], r.base.heap, c47, s'.heap, ph (Q' ++ (Q ++ r.P))]) (by rw [show RF.obj ({ ({ r with left := if 0 < r.left then r.left - 1 else r.left } : RF) with now := s', L := r.L ++ [(t, v34)], lv := v47, lc := c47, P := (Q' ++ (Q ++ r.P)) } : RF) = .cells [.int .i64 r.room, r.base.ptr, r.now.ptr, v47, .int .i64 (if 0 < r.left then r.left - 1 else r.left)].toArray 60 (0, 0) by simp only [RF.obj, rfcells, hgs']]; exact (by repeat first | exact slR _ | exact slN _ | apply slC | apply slD)) ?_
    refine j_perm (S' := [RF.heap ({ ({ r with left := if 0 < r.left then r.left - 1 else r.left } : RF) with now := s', L := r.L ++ [(t, v34)], lv := v47, lc := c47, P := (Q' ++ (Q ++ r.P)) } : RF)]) (by
      classical
      refine List.perm_iff_count.2 fun x => ?_
      simp only [RF.heap, ph, List.map_append, List.map_nil, List.set, List.flatten_cons, List.flatten_nil, List.append_nil, List.nil_append, List.cons_append, List.count_append, List.count_cons, List.count_nil] <;> omega) ?_
    refine j_ret_con (vs := [_]) (fun w' hw' => ⟨rfl, trivial⟩) ?_
    refine ⟨rfl, _, rfl, ⟨hok.rm, hok.r0, hbu, hb0, ?_, ?_, fun p hp => ?_, ?_, okR_append hok.ok hc hl, hok.bs.more hPs, ?_⟩, rfl⟩
    · show (r.L ++ [(t, v34)]).map Prod.fst = a.pend ++ [t]
      rw [List.map_append, hok.pd]
      rfl
    · show Sx.Own 109 4 (encTs (r.L ++ [(t, v34)])) v47 c47
      rw [encTs_snoc]
      exact ho47
    · rcases List.mem_append.1 hp with hp | hp
      · exact okT_mono hPs (hok.ot p hp)
      · rw [List.mem_singleton] at hp
        subst hp
        exact okT_mk ht (hQ.subl fun b hb => List.mem_append_right _ (List.mem_append_left _ hb))
    · show (a.pend ++ [t]).length ≤ 16384
      rw [List.length_append, List.length_singleton]
      omega
    · show RS s' (Q' ++ (Q ++ r.P)) (runA a.base (a.pend ++ [t]))
      rw [runA_snoc]
      exact hs'
end Go.Proofs.YtckpegkpdepokaaGreat
/-! Rg7 -/
namespace Go.Proofs.YtckpegkpdepokaaGreat
open Go Go.Sx
set_option maxRecDepth 100000
set_option maxHeartbeats 4000000
set_option linter.unusedVariables false
set_option linter.unusedSimpArgs false
attribute [local irreducible] J JQ QS Con W opW
open Go.MapKept Go.WideMaps Go.Maps
def wrR (a : AF) (u : Int) (n xs : List UInt8) : Int := if mayE a.fused a.left [n] ≠ 0 then mayE a.fused a.left [n] else if 1048576 < xs.length then 5 else if (alook a.now.nm n = none ∧ 16384 ≤ a.now.nm.length) ∨ a.room < u - (freesA a.now n : Int) + (xs.length : Int) then 6 else 0
def apR (a : AF) (u : Int) (n xs : List UInt8) : Int := if mayE a.fused a.left [n] ≠ 0 then mayE a.fused a.left [n] else if alook a.now.nm n = none then 7 else if 1048576 < sizeA a.now n + xs.length then 5 else if a.room < u + (xs.length : Int) then 6 else 0
theorem wrE_R (a : AF) (n xs : List UInt8) : wrE a n xs = wrR a a.now.used n xs := by
  unfold wrE wrR fullA
  rfl
theorem apE_R (a : AF) (n xs : List UInt8) : appE a n xs = apR a a.now.used n xs := rfl
theorem usedN_le {s : RM} {P : List BK} {a : AS} (h : RS s P a) : usedN a ≤ 100000000000000 := by
  have h1 := usedL_le (d := a.dt) (B := 1000000000) (l := a.nm.map Prod.snd) (fun j hj => by
    obtain ⟨q, hq, rfl⟩ := List.mem_map.1 hj
    obtain ⟨p, hp, rfl⟩ := List.mem_map.1 (h.nm.mem_iff.2 hq)
    obtain ⟨f, hf, _, h2⟩ := h.raw.has p hp
    simp only
    rw [← h2, h.dt f hf]
    exact (h.rv f hf).2)
  have h2 : (a.nm.map Prod.snd).length ≤ 100000 := by
    rw [List.length_map, ← h.len]
    exact h.raw.le
  have h3 := Nat.mul_le_mul_right 1000000000 h2
  unfold usedN
  omega
theorem freesA_le {s : RM} {P : List BK} {a : AS} (h : RS s P a) (n : List UInt8) : freesA a n ≤ 1000000000 := by
  unfold freesA
  split
  · exact Nat.zero_le _
  · rename_i i hi
    split
    · obtain ⟨f, hf, _, h1, h2⟩ := h.get hi
      rw [← h2]
      exact (h.rv f hf).2
    · exact Nat.zero_le _
theorem lens_del {nm : NL Nat} (n : List UInt8) : (mdel nm n).length ≤ nm.length := List.length_filter_le _ _
theorem mdel_lt {nm : NL Nat} {n : List UInt8} (h : alook nm n ≠ none) : (mdel nm n).length + 1 ≤ nm.length := by
  obtain ⟨i, hi⟩ := Option.ne_none_iff_exists'.1 h
  have hm := alook_mem hi
  have : (mdel nm n).length < nm.length := by
    unfold mdel
    exact List.length_filter_lt_length_iff_exists.2 ⟨_, hm, by simp⟩
  omega
theorem wr_len {a : AS} {n xs : List UInt8} {i : Nat} (hl : a.nm.length ≤ 16384) (h : ¬ (alook a.nm n = none ∧ 16384 ≤ a.nm.length)) : (doA a (.wr n xs i)).nm.length ≤ 16384 := by
  show (writeA a n xs i).nm.length ≤ _
  rw [writeA_eq]
  show ((letsA a n).nm ++ [(n, i)]).length ≤ _
  rw [(lets_nm a n).1, List.length_append, List.length_singleton]
  by_cases h1 : alook a.nm n = none
  · have h2 : ¬ 16384 ≤ a.nm.length := fun h2 => h ⟨h1, h2⟩
    have := lens_del (nm := a.nm) n
    omega
  · have := mdel_lt h1
    omega
theorem li_len {a : AS} {old n : List UInt8} (hn : (a.nm.map Prod.fst).Nodup) (hl : ¬ 16384 ≤ a.nm.length) (h : alook a.nm old ≠ none) : (doA a (.li old n)).nm.length ≤ 16384 := by
  obtain ⟨i, hi⟩ := Option.ne_none_iff_exists'.1 h
  show (match alook a.nm old with | none => a | some i => givesA a n i).nm.length ≤ _
  rw [hi]
  simp only
  rw [(gives_nm hn n i).1.length_eq, List.length_cons]
  have := lens_del (nm := a.nm) n
  omega
theorem rn_len {a : AS} {old n : List UInt8} (hn : (a.nm.map Prod.fst).Nodup) (hl : a.nm.length ≤ 16384) (h : alook a.nm old ≠ none) : (doA a (.rn old n)).nm.length ≤ 16384 := by
  obtain ⟨i, hi⟩ := Option.ne_none_iff_exists'.1 h
  show (if old = n then a else match alook a.nm old with | none => a | some i => letsA (givesA a n i) old).nm.length ≤ _
  split
  · exact hl
  · rename_i hne
    rw [hi]
    simp only
    rw [(lets_nm _ _).1]
    have h1 := ((gives_nm hn n i).1.filter (fun q => decide (q.1 ≠ old))).length_eq
    rw [List.filter_cons_of_pos (by simpa using fun e => hne e.symm)] at h1
    have h2 : (mdel (givesA a n i).nm old).length = _ := h1
    rw [h2, List.length_cons]
    have h3 : ((mdel a.nm n).filter fun q => decide (q.1 ≠ old)) = (mdel a.nm old).filter fun q => decide (q.1 ≠ n) := by
      unfold mdel
      rw [List.filter_filter, List.filter_filter]
      exact List.filter_congr fun q _ => Bool.and_comm _ _
    rw [h3]
    have h4 := mdel_lt h
    have h5 := List.length_filter_le (fun q => decide (q.1 ≠ n)) (mdel a.nm old)
    omega
theorem rm_len {a : AS} {n : List UInt8} (hl : a.nm.length ≤ 16384) : (doA a (.rm n)).nm.length ≤ 16384 := by
  show (letsA a n).nm.length ≤ _
  rw [(lets_nm a n).1]
  exact Nat.le_trans (lens_del n) hl
theorem ap_len {a : AS} {n xs : List UInt8} (hl : a.nm.length ≤ 16384) : (doA a (.ap n xs)).nm.length ≤ 16384 := by
  show (appA a n xs).nm.length ≤ _
  unfold appA
  split <;> exact hl
theorem RF.Ok.burnt {r : RF} {a : AF} (h : r.Ok a) : decide (r.left = 0) = (a.fused && decide (a.left = 0)) := by
  have h1 := h.lf
  rw [h1]
  cases a.fused <;> simp
theorem RF.Ok.nl {r : RF} {a : AF} (h : r.Ok a) : a.now.nm.length ≤ 16384 := by
  have := okR_run h.ok a.pend.length
  rwa [List.take_length] at this
theorem RF.Ok.nv {r : RF} {a : AF} (h : r.Ok a) : ∃ A cap, r.now.nv = .slice A r.now.nm.length cap := by
  obtain ⟨n, A, cap, e, hn⟩ := own_form h.nw.raw.on (by decide)
  rw [strs_length, RM.ns_len, Nat.mul_one] at hn
  subst hn
  exact ⟨A, cap, e⟩
theorem gadr_none {o : Option (Nat × Nat)} : (o.map fun p => (⟨p.1, 0, none⟩ : Addr)).isNone = o.isNone := by cases o <;> rfl
theorem may26 {f : Bool} {l : Int} {ns : List (List UInt8)} (h : (f && decide (l = 0)) = true) : mayE f l ns = 26 := by unfold mayE; rw [if_pos h]
theorem may9 {f : Bool} {l : Int} {ns : List (List UInt8)} (h : (f && decide (l = 0)) = false) (hn : ns.all nameOk = false) : mayE f l ns = 9 := by
  unfold mayE
  rw [h, hn]
  rfl
theorem may0 {f : Bool} {l : Int} {ns : List (List UInt8)} (h : (f && decide (l = 0)) = false) (hn : ns.all nameOk = true) : mayE f l ns = 0 := by
  unfold mayE
  rw [h, hn]
  rfl
theorem src_rvw {w : World} {S : List SH} {P : List BK} {v : Value} {xs : List UInt8} (h : RV P v xs) (hin : In w (ph P)) : Src (⟨w, dom []⟩ : Base) S 1 v xs.length (ints xs) := br_src (br_rv h hin)
theorem rwrite_con (r : RF) (a : AF) (n : List UInt8) (bv : Value) (xs : List UInt8) (i : Nat) (w : World) (hok : r.Ok a) (hB : a.pend.length < 16384) (hn : strOk n) (hbr : BR w bv xs) (hbd : ∀ (a : Addr) (m c : Nat), bv = .slice (some a) m c → 0 < m → a.block ∉ dom r.heap) (hx9 : xs.length ≤ 1000000000) (hid : ∀ q ∈ a.now.nm, q.2 ≠ i) : Con Tryz.prog 34 [r.ptr, .string (bs n), bv] w r.heap fun v S' => v = .int .i64 (wrR a (usedN a.now) n xs) ∧ ∃ r' : RF, S' = [r'.heap] ∧ r'.Ok (if wrR a (usedN a.now) n xs = 0 then stepF a (.wr n xs i) else a) ∧ r'.gf = r.gf := by
  refine con_of_tree mix Tryz.func34 T34_ok (by kernel_rfl) ?_
  unfold T34
  obtain ⟨bA, bcp, hbf, _⟩ := br_form hbr
  have hbvc : bv.cells = #[bv] := by rw [hbf]; rfl
  have hfl := freesA_le hok.nw n
  obtain ⟨A1, cap1, hnv⟩ := hok.nv
  have hnl := hok.nl
  have hrm := hok.rm
  have hr0 := hok.r0
  have hul := usedN_le hok.nw
  have hb := hok.burnt
  have hnd := hok.nw.nd
  have hlen := hok.nw.len
  refine j_perm (S' := [[(r.gf, r.obj)], r.base.heap, r.now.heap, r.lc, ph r.P]) r.split ?_
  refine j_q (qs_ac) ?_
  refine j_q (qs_call ent66 rfl rfl rfl (fun w' hw' => rburnt_con r w' (in_own (hw'.perm r.split.symm) 0 rfl))) ?_
  refine j_cond rfl (fun hc0 => ?_) (fun hc0 => ?_)
  · skip
    have hm : mayE a.fused a.left [n] = 26 := may26 (hb ▸ hc0)
    refine j_q (qs_ac) ?_
    refine j_perm (S' := [r.heap]) r.split.symm ?_
    have hwe : wrR a (usedN a.now) n xs = 26 := by
      unfold wrR
      rw [if_pos (by rw [hm]; decide), hm]
    refine j_ret_con (vs := [_]) (fun w' hw' => ⟨rfl, trivial⟩) ?_
    rw [hwe, if_neg (by decide)]
    exact ⟨rfl, r, rfl, hok, rfl⟩
  · skip
    have hnb : (a.fused && decide (a.left = 0)) = false := hb ▸ hc0
    have hz : a.fused = true → a.left ≠ 0 := fun hf hl => by
      rw [hf, hl] at hnb
      simp at hnb
    refine j_q (qs_call ent67 rfl rfl rfl (fun w' hw' => risName_con n w')) ?_
    refine j_q (qs_not rfl) ?_
    refine j_cond rfl (fun hc1 => ?_) (fun hc1 => ?_)
    · skip
      have hm : mayE a.fused a.left [n] = 9 := may9 hnb (by simpa using hc1)
      refine j_q (qs_ac) ?_
      refine j_perm (S' := [r.heap]) r.split.symm ?_
      have hwe : wrR a (usedN a.now) n xs = 9 := by
        unfold wrR
        rw [if_pos (by rw [hm]; decide), hm]
      refine j_ret_con (vs := [_]) (fun w' hw' => ⟨rfl, trivial⟩) ?_
      rw [hwe, if_neg (by decide)]
      exact ⟨rfl, r, rfl, hok, rfl⟩
    · skip
      have hm : mayE a.fused a.left [n] = 0 := may0 hnb (by simpa using hc1)
      refine j_q (qs_lenl (n := xs.length) (A := bA) (c := bcp) Tryz.underlying32 hbf) ?_
      refine j_q (qs_gtr rfl rfl) ?_
      refine j_cond rfl (fun hc2 => ?_) (fun hc2 => ?_)
      · skip
        have hbig : 1048576 < xs.length := by
          simp at hc2
          omega
        refine j_q (qs_ac) ?_
        refine j_perm (S' := [r.heap]) r.split.symm ?_
        have hwe : wrR a (usedN a.now) n xs = 5 := by
          unfold wrR
          rw [if_neg (by rw [hm]; simp), if_pos hbig]
        refine j_ret_con (vs := [_]) (fun w' hw' => ⟨rfl, trivial⟩) ?_
        rw [hwe, if_neg (by decide)]
        exact ⟨rfl, r, rfl, hok, rfl⟩
      · skip
        have hbig : ¬ 1048576 < xs.length := by
          simp at hc2
          omega
        refine j_q (qs_nil rfl) ?_
        refine j_q (qs_field Tryz.underlying60 rfl sz53 (by decide) rfl) ?_
        refine j_q (qs_load (l := rfcells r) 0 Tryz.underlying53 rfl rfl rfl rfl) ?_
        refine j_q (qs_call ent68 rfl rfl rfl (fun w' hw' => rget_con r.now n w' (in_own hw' 2 rfl) hok.nw.raw)) ?_
        refine j_q (qs_pnil (A := (alook r.now.nm n).map fun p => ⟨p.1, 0, none⟩) Tryz.underlying98 rfl) ?_
        rw [gadr_none]
        refine j_g rfl (fun hb => qs_mt rfl) ?_
        refine j_g rfl (fun hb => qs_nil (gd_eq hb)) ?_
        refine j_g rfl (fun hb => qs_field Tryz.underlying60 rfl sz53 (by decide) (gd_eq hb)) ?_
        refine j_g rfl (fun hb2 => qs_load (l := rfcells r) 0 Tryz.underlying53 rfl (gd_eq hb2) rfl rfl) ?_
        refine j_g rfl (fun hb => qs_nil (gd_eq hb)) ?_
        refine j_g rfl (fun hb => qs_field Tryz.underlying57 rfl sz54 (by decide) (gd_eq hb)) ?_
        refine j_g rfl (fun hb2 => qs_loadO (rdo_mem (o := r.now.sobj) 2 rfl (by simp [RM.heap])) Tryz.underlying54 rfl (gd_eq hb2) rfl) ?_
        refine j_g rfl (fun hb2 => qs_lenl (n := r.now.nm.length) (A := A1) (c := cap1) Tryz.underlying54 ((gd_eq hb2).trans hnv)) ?_
        refine j_g rfl (fun hb => qs_geq (gd_eq hb) rfl) ?_
        refine j_q (qs_and rfl rfl) ?_
        refine j_cond rfl (fun hc3 => ?_) (fun hc3 => ?_)
        · skip
          have hfn : (alook a.now.nm n = none ∧ 16384 ≤ a.now.nm.length) := by
            simp only [Bool.and_eq_true, decide_eq_true_eq, Option.isNone_iff_eq_none] at hc3
            exact ⟨hok.nw.get0.1 hc3.1, by omega⟩
          refine j_q (qs_ac) ?_
          refine j_perm (S' := [r.heap]) r.split.symm ?_
          have hwe : wrR a (usedN a.now) n xs = 6 := by
            unfold wrR
            rw [if_neg (by rw [hm]; simp), if_neg hbig, if_pos (.inl hfn)]
          refine j_ret_con (vs := [_]) (fun w' hw' => ⟨rfl, trivial⟩) ?_
          rw [hwe, if_neg (by decide)]
          exact ⟨rfl, r, rfl, hok, rfl⟩
        · skip
          have hfn : ¬ (alook a.now.nm n = none ∧ 16384 ≤ a.now.nm.length) := fun h => by
            have h1 := hok.nw.get0.2 h.1
            rw [h1] at hc3
            simp at hc3
            omega
          refine j_draw ?_
          refine jq_q (qs_call ent53 rfl rfl rfl (fun w' hw' => rused_con r r.P a.now w' (in_own (hw'.perm r.split.symm) 0 rfl) hok.nw)) ?_
          refine jq_q (qs_call ent69 rfl rfl rfl (fun w' hw' => rfreed_con r r.P a.now n w' (in_own (hw'.perm r.split.symm) 0 rfl) hok.nw)) ?_
          refine jq_q (qs_sub64 rfl rfl (by first | omega | (simp only [bnA] at *; omega))) ?_
          refine jq_q (qs_lenl (n := xs.length) (A := bA) (c := bcp) Tryz.underlying32 hbf) ?_
          refine jq_q (qs_add64 rfl rfl (by first | omega | (simp only [bnA] at *; omega))) ?_
          refine jq_q (qs_nil rfl) ?_
          refine jq_q (qs_field Tryz.underlying60 rfl sz3 (by decide) rfl) ?_
          refine jq_q (qs_load (l := rfcells r) 0 Tryz.underlying3 rfl rfl rfl rfl) ?_
          refine jq_q (qs_gtr rfl rfl) ?_
          refine jq_nil ?_
          refine j_cond rfl (fun hc4 => ?_) (fun hc4 => ?_)
          · skip
            have hfr : a.room < (usedN a.now : Int) - (freesA a.now n : Int) + (xs.length : Int) := by
              simp at hc4
              omega
            refine j_q (qs_ac) ?_
            refine j_perm (S' := [r.heap]) r.split.symm ?_
            have hwe : wrR a (usedN a.now) n xs = 6 := by
              unfold wrR
              rw [if_neg (by rw [hm]; simp), if_neg hbig, if_pos (.inr hfr)]
            refine j_ret_con (vs := [_]) (fun w' hw' => ⟨rfl, trivial⟩) ?_
            rw [hwe, if_neg (by decide)]
            exact ⟨rfl, r, rfl, hok, rfl⟩
          · skip
            have hfr : ¬ a.room < (usedN a.now : Int) - (freesA a.now n : Int) + (xs.length : Int) := by
              simp at hc4
              omega
            refine j_q (qs_build (places := [(0, 1), (1, 1), (2, 1), (3, 1)]) (offs := [(0, [.int .i64 1]), (2, [.string (bs n)]), (3, [bv])]) Tryz.underlying109 zero109 (by kernel_rfl) rfl (by rintro (_ | _ | _ | _ | j) p q hp hq <;> first | (simp at hp hq; subst hp hq; exact ⟨rfl, rfl, by simp⟩) | (simp at hp hq; subst hp hq; exact ⟨rfl, hbvc, by simp⟩) | (simp at hp))) ?_
            refine j_perm (S' := [r.heap]) r.split.symm ?_
            refine j_call 0 ent70 rfl rfl rfl rfl (fun w' hw' => rdo_con r a (.wr n xs i) bv w' hok hB hz ⟨hn, by omega⟩ (br_keep hbr hbd hw') hbd hid (wr_len hnl hfn)) (fun u S2 hu => ?_)
            obtain ⟨rfl, r', rfl, hr', hgf'⟩ := hu
            refine j_subl (S' := [r'.heap]) (by repeat first | exact slR _ | exact slN _ | apply slC | apply slD) ?_
            have hwe : wrR a (usedN a.now) n xs = 0 := by
              unfold wrR
              rw [if_neg (by rw [hm]; simp), if_neg hbig, if_neg (fun h => h.elim hfn hfr)]
            refine j_ret_con (vs := [_]) (fun w' hw' => ⟨rfl, trivial⟩) ?_
            rw [hwe, if_pos rfl]
            exact ⟨rfl, r', rfl, hr', hgf'⟩
theorem rappend_con (r : RF) (a : AF) (n : List UInt8) (bv : Value) (xs : List UInt8) (w : World) (hok : r.Ok a) (hB : a.pend.length < 16384) (hn : strOk n) (hbr : BR w bv xs) (hbd : ∀ (a : Addr) (m c : Nat), bv = .slice (some a) m c → 0 < m → a.block ∉ dom r.heap) (hx9 : xs.length ≤ 1000000000) : Con Tryz.prog 35 [r.ptr, .string (bs n), bv] w r.heap fun v S' => v = .int .i64 (apR a (usedN a.now) n xs) ∧ ∃ r' : RF, S' = [r'.heap] ∧ r'.Ok (if apR a (usedN a.now) n xs = 0 then stepF a (.ap n xs) else a) ∧ r'.gf = r.gf := by
  refine con_of_tree mix Tryz.func35 T35_ok (by kernel_rfl) ?_
  unfold T35
  obtain ⟨bA, bcp, hbf, _⟩ := br_form hbr
  have hbvc : bv.cells = #[bv] := by rw [hbf]; rfl
  obtain ⟨A1, cap1, hnv⟩ := hok.nv
  have hnl := hok.nl
  have hrm := hok.rm
  have hr0 := hok.r0
  have hul := usedN_le hok.nw
  have hb := hok.burnt
  have hnd := hok.nw.nd
  have hlen := hok.nw.len
  refine j_perm (S' := [[(r.gf, r.obj)], r.base.heap, r.now.heap, r.lc, ph r.P]) r.split ?_
  refine j_q (qs_ac) ?_
  refine j_q (qs_call ent66 rfl rfl rfl (fun w' hw' => rburnt_con r w' (in_own (hw'.perm r.split.symm) 0 rfl))) ?_
  refine j_cond rfl (fun hc0 => ?_) (fun hc0 => ?_)
  · skip
    have hm : mayE a.fused a.left [n] = 26 := may26 (hb ▸ hc0)
    refine j_q (qs_ac) ?_
    refine j_perm (S' := [r.heap]) r.split.symm ?_
    have hwe : apR a (usedN a.now) n xs = 26 := by
      unfold apR
      rw [if_pos (by rw [hm]; decide), hm]
    refine j_ret_con (vs := [_]) (fun w' hw' => ⟨rfl, trivial⟩) ?_
    rw [hwe, if_neg (by decide)]
    exact ⟨rfl, r, rfl, hok, rfl⟩
  · skip
    have hnb : (a.fused && decide (a.left = 0)) = false := hb ▸ hc0
    have hz : a.fused = true → a.left ≠ 0 := fun hf hl => by
      rw [hf, hl] at hnb
      simp at hnb
    refine j_q (qs_call ent67 rfl rfl rfl (fun w' hw' => risName_con n w')) ?_
    refine j_q (qs_not rfl) ?_
    refine j_cond rfl (fun hc1 => ?_) (fun hc1 => ?_)
    · skip
      have hm : mayE a.fused a.left [n] = 9 := may9 hnb (by simpa using hc1)
      refine j_q (qs_ac) ?_
      refine j_perm (S' := [r.heap]) r.split.symm ?_
      have hwe : apR a (usedN a.now) n xs = 9 := by
        unfold apR
        rw [if_pos (by rw [hm]; decide), hm]
      refine j_ret_con (vs := [_]) (fun w' hw' => ⟨rfl, trivial⟩) ?_
      rw [hwe, if_neg (by decide)]
      exact ⟨rfl, r, rfl, hok, rfl⟩
    · skip
      have hm : mayE a.fused a.left [n] = 0 := may0 hnb (by simpa using hc1)
      refine j_q (qs_nil rfl) ?_
      refine j_q (qs_field Tryz.underlying60 rfl sz53 (by decide) rfl) ?_
      refine j_q (qs_load (l := rfcells r) 0 Tryz.underlying53 rfl rfl rfl rfl) ?_
      refine j_q (qs_call ent68 rfl rfl rfl (fun w' hw' => rget_con r.now n w' (in_own hw' 2 rfl) hok.nw.raw)) ?_
      refine j_q (qs_pnil (A := (alook r.now.nm n).map fun p => ⟨p.1, 0, none⟩) Tryz.underlying98 rfl) ?_
      rw [gadr_none]
      refine j_cond rfl (fun hc2 => ?_) (fun hc2 => ?_)
      · skip
        have hl0 : alook a.now.nm n = none := hok.nw.get0.1 (by simpa using hc2)
        refine j_q (qs_ac) ?_
        refine j_perm (S' := [r.heap]) r.split.symm ?_
        have hwe : apR a (usedN a.now) n xs = 7 := by
          unfold apR
          rw [if_neg (by rw [hm]; simp), if_pos hl0]
        refine j_ret_con (vs := [_]) (fun w' hw' => ⟨rfl, trivial⟩) ?_
        rw [hwe, if_neg (by decide)]
        exact ⟨rfl, r, rfl, hok, rfl⟩
      · skip
        have hl0 : alook a.now.nm n ≠ none := fun e => by
          rw [hok.nw.get0.2 e] at hc2
          simp at hc2
        obtain ⟨i, hi⟩ := Option.ne_none_iff_exists'.1 hl0
        obtain ⟨f, hf, hlk, hfi, hfx⟩ := hok.nw.get hi
        obtain ⟨fA, fcp, hfv, _, _⟩ := (hok.nw.rv f hf).1.form
        have hfl := (hok.nw.rv f hf).2
        have hsz : sizeA a.now n = f.xs.length := by simp only [sizeA, hi, hfx]
        rw [in_addr hok.nw.toRS0 hlk]
        refine j_q (qs_nil rfl) ?_
        refine j_q (qs_field Tryz.underlying100 rfl sz32 (by decide) rfl) ?_
        refine j_q (qs_loadO (l := [f.v]) (rdo_mem (o := f.h.2) 2 rfl (by unfold RM.heap; exact List.mem_append_right _ (List.mem_map.2 ⟨f, hf, rfl⟩))) Tryz.underlying32 rfl rfl rfl) ?_
        refine j_q (qs_lenl (n := f.xs.length) (A := fA) (c := fcp) Tryz.underlying32 hfv) ?_
        refine j_q (qs_lenl (n := xs.length) (A := bA) (c := bcp) Tryz.underlying32 hbf) ?_
        refine j_q (qs_add64 rfl rfl (by first | omega | (simp only [bnA] at *; omega))) ?_
        refine j_q (qs_gtr rfl rfl) ?_
        refine j_cond rfl (fun hc3 => ?_) (fun hc3 => ?_)
        · skip
          have hbig : 1048576 < sizeA a.now n + xs.length := by
            rw [hsz]
            simp at hc3
            omega
          refine j_q (qs_ac) ?_
          refine j_perm (S' := [r.heap]) r.split.symm ?_
          have hwe : apR a (usedN a.now) n xs = 5 := by
            unfold apR
            rw [if_neg (by rw [hm]; simp), if_neg hl0, if_pos hbig]
          refine j_ret_con (vs := [_]) (fun w' hw' => ⟨rfl, trivial⟩) ?_
          rw [hwe, if_neg (by decide)]
          exact ⟨rfl, r, rfl, hok, rfl⟩
        · skip
          have hbig : ¬ 1048576 < sizeA a.now n + xs.length := by
            rw [hsz]
            simp at hc3
            omega
          have hbig2 := hbig
          rw [hsz] at hbig2
          refine j_draw ?_
          refine jq_q (qs_call ent53 rfl rfl rfl (fun w' hw' => rused_con r r.P a.now w' (in_own (hw'.perm r.split.symm) 0 rfl) hok.nw)) ?_
          refine jq_q (qs_lenl (n := xs.length) (A := bA) (c := bcp) Tryz.underlying32 hbf) ?_
          refine jq_q (qs_add64 rfl rfl (by first | omega | (simp only [bnA] at *; omega))) ?_
          refine jq_q (qs_nil rfl) ?_
          refine jq_q (qs_field Tryz.underlying60 rfl sz3 (by decide) rfl) ?_
          refine jq_q (qs_load (l := rfcells r) 0 Tryz.underlying3 rfl rfl rfl rfl) ?_
          refine jq_q (qs_gtr rfl rfl) ?_
          refine jq_nil ?_
          refine j_cond rfl (fun hc4 => ?_) (fun hc4 => ?_)
          · skip
            have hfr : a.room < (usedN a.now : Int) + (xs.length : Int) := by
              simp at hc4
              omega
            refine j_q (qs_ac) ?_
            refine j_perm (S' := [r.heap]) r.split.symm ?_
            have hwe : apR a (usedN a.now) n xs = 6 := by
              unfold apR
              rw [if_neg (by rw [hm]; simp), if_neg hl0, if_neg hbig, if_pos hfr]
            refine j_ret_con (vs := [_]) (fun w' hw' => ⟨rfl, trivial⟩) ?_
            rw [hwe, if_neg (by decide)]
            exact ⟨rfl, r, rfl, hok, rfl⟩
          · skip
            have hfr : ¬ a.room < (usedN a.now : Int) + (xs.length : Int) := by
              simp at hc4
              omega
            refine j_q (qs_build (places := [(0, 1), (1, 1), (2, 1), (3, 1)]) (offs := [(0, [.int .i64 2]), (2, [.string (bs n)]), (3, [bv])]) Tryz.underlying109 zero109 (by kernel_rfl) rfl (by rintro (_ | _ | _ | _ | j) p q hp hq <;> first | (simp at hp hq; subst hp hq; exact ⟨rfl, rfl, by simp⟩) | (simp at hp hq; subst hp hq; exact ⟨rfl, hbvc, by simp⟩) | (simp at hp))) ?_
            refine j_perm (S' := [r.heap]) r.split.symm ?_
            refine j_call 0 ent70 rfl rfl rfl rfl (fun w' hw' => rdo_con r a (.ap n xs) bv w' hok hB hz ⟨hn, by omega⟩ (br_keep hbr hbd hw') hbd ⟨i, hi, by rw [← hfx]; omega⟩ (ap_len hnl)) (fun u S2 hu => ?_)
            obtain ⟨rfl, r', rfl, hr', hgf'⟩ := hu
            refine j_subl (S' := [r'.heap]) (by repeat first | exact slR _ | exact slN _ | apply slC | apply slD) ?_
            have hwe : apR a (usedN a.now) n xs = 0 := by
              unfold apR
              rw [if_neg (by rw [hm]; simp), if_neg hl0, if_neg hbig, if_neg hfr]
            refine j_ret_con (vs := [_]) (fun w' hw' => ⟨rfl, trivial⟩) ?_
            rw [hwe, if_pos rfl]
            exact ⟨rfl, r', rfl, hr', hgf'⟩
theorem rlink_con (r : RF) (a : AF) (old n : List UInt8) (w : World) (hok : r.Ok a) (hB : a.pend.length < 16384) (hso : strOk old) (hn : strOk n) : Con Tryz.prog 38 [r.ptr, .string (bs old), .string (bs n)] w r.heap fun v S' => v = .int .i64 (linE a old n) ∧ ∃ r' : RF, S' = [r'.heap] ∧ r'.Ok (if linE a old n = 0 then stepF a (.li old n) else a) ∧ r'.gf = r.gf := by
  refine con_of_tree mix Tryz.func38 T38_ok (by kernel_rfl) ?_
  unfold T38
  obtain ⟨A1, cap1, hnv⟩ := hok.nv
  have hnl := hok.nl
  have hrm := hok.rm
  have hr0 := hok.r0
  have hul := usedN_le hok.nw
  have hb := hok.burnt
  have hnd := hok.nw.nd
  have hlen := hok.nw.len
  refine j_perm (S' := [[(r.gf, r.obj)], r.base.heap, r.now.heap, r.lc, ph r.P]) r.split ?_
  refine j_q (qs_ac) ?_
  refine j_q (qs_call ent66 rfl rfl rfl (fun w' hw' => rburnt_con r w' (in_own (hw'.perm r.split.symm) 0 rfl))) ?_
  refine j_cond rfl (fun hc0 => ?_) (fun hc0 => ?_)
  · skip
    have hm : mayE a.fused a.left [old, n] = 26 := may26 (hb ▸ hc0)
    refine j_q (qs_ac) ?_
    refine j_perm (S' := [r.heap]) r.split.symm ?_
    have hwe : linE a old n = 26 := by
      unfold linE
      rw [if_pos (by rw [hm]; decide), hm]
    refine j_ret_con (vs := [_]) (fun w' hw' => ⟨rfl, trivial⟩) ?_
    rw [hwe, if_neg (by decide)]
    exact ⟨rfl, r, rfl, hok, rfl⟩
  · skip
    have hnb : (a.fused && decide (a.left = 0)) = false := hb ▸ hc0
    have hz : a.fused = true → a.left ≠ 0 := fun hf hl => by
      rw [hf, hl] at hnb
      simp at hnb
    refine j_q (qs_call ent67 rfl rfl rfl (fun w' hw' => risName_con old w')) ?_
    refine j_q (qs_not rfl) ?_
    refine j_g rfl (fun hb => qs_mt rfl) ?_
    refine j_g rfl (fun hb2 => qs_call ent67 rfl rfl (args1 (gd_eq hb2)) (fun w' hw' => risName_con n w')) ?_
    refine j_g rfl (fun hb => qs_not (gd_eq hb)) ?_
    refine j_q (qs_or rfl rfl) ?_
    refine j_cond rfl (fun hc1 => ?_) (fun hc1 => ?_)
    · skip
      have hm : mayE a.fused a.left [old, n] = 9 := may9 hnb (by
        simp only [List.all_cons, List.all_nil, Bool.and_true]
        revert hc1
        cases nameOk old <;> cases nameOk n <;> simp [gd])
      refine j_q (qs_ac) ?_
      refine j_perm (S' := [r.heap]) r.split.symm ?_
      have hwe : linE a old n = 9 := by
        unfold linE
        rw [if_pos (by rw [hm]; decide), hm]
      refine j_ret_con (vs := [_]) (fun w' hw' => ⟨rfl, trivial⟩) ?_
      rw [hwe, if_neg (by decide)]
      exact ⟨rfl, r, rfl, hok, rfl⟩
    · skip
      have hm : mayE a.fused a.left [old, n] = 0 := may0 hnb (by
        simp only [List.all_cons, List.all_nil, Bool.and_true]
        revert hc1
        cases nameOk old <;> cases nameOk n <;> simp [gd])
      refine j_q (qs_nil rfl) ?_
      refine j_q (qs_field Tryz.underlying60 rfl sz53 (by decide) rfl) ?_
      refine j_q (qs_load (l := rfcells r) 0 Tryz.underlying53 rfl rfl rfl rfl) ?_
      refine j_q (qs_call ent68 rfl rfl rfl (fun w' hw' => rget_con r.now old w' (in_own hw' 2 rfl) hok.nw.raw)) ?_
      refine j_q (qs_pnil (A := (alook r.now.nm old).map fun p => ⟨p.1, 0, none⟩) Tryz.underlying98 rfl) ?_
      rw [gadr_none]
      refine j_cond rfl (fun hc2 => ?_) (fun hc2 => ?_)
      · skip
        have hl0 : alook a.now.nm old = none := hok.nw.get0.1 (by simpa using hc2)
        refine j_q (qs_ac) ?_
        refine j_perm (S' := [r.heap]) r.split.symm ?_
        have hwe : linE a old n = 7 := by
          unfold linE
          rw [if_neg (by rw [hm]; simp), if_pos hl0]
        refine j_ret_con (vs := [_]) (fun w' hw' => ⟨rfl, trivial⟩) ?_
        rw [hwe, if_neg (by decide)]
        exact ⟨rfl, r, rfl, hok, rfl⟩
      · skip
        have hl0 : alook a.now.nm old ≠ none := fun e => by
          rw [hok.nw.get0.2 e] at hc2
          simp at hc2
        refine j_q (qs_nil rfl) ?_
        refine j_q (qs_field Tryz.underlying60 rfl sz53 (by decide) rfl) ?_
        refine j_q (qs_load (l := rfcells r) 0 Tryz.underlying53 rfl rfl rfl rfl) ?_
        refine j_q (qs_call ent68 rfl rfl rfl (fun w' hw' => rget_con r.now n w' (in_own hw' 2 rfl) hok.nw.raw)) ?_
        refine j_q (qs_pnnil (A := (alook r.now.nm n).map fun p => ⟨p.1, 0, none⟩) Tryz.underlying98 rfl) ?_
        refine j_cond rfl (fun hc3 => ?_) (fun hc3 => ?_)
        · skip
          have hl1 : alook a.now.nm n ≠ none := fun e => by
            rw [hok.nw.get0.2 e] at hc3
            simp at hc3
          refine j_q (qs_ac) ?_
          refine j_perm (S' := [r.heap]) r.split.symm ?_
          have hwe : linE a old n = 8 := by
            unfold linE
            rw [if_neg (by rw [hm]; simp), if_neg hl0, if_pos hl1]
          refine j_ret_con (vs := [_]) (fun w' hw' => ⟨rfl, trivial⟩) ?_
          rw [hwe, if_neg (by decide)]
          exact ⟨rfl, r, rfl, hok, rfl⟩
        · skip
          have hl1 : alook a.now.nm n = none := hok.nw.get0.1 (by simpa using hc3)
          refine j_q (qs_nil rfl) ?_
          refine j_q (qs_field Tryz.underlying60 rfl sz53 (by decide) rfl) ?_
          refine j_q (qs_load (l := rfcells r) 0 Tryz.underlying53 rfl rfl rfl rfl) ?_
          refine j_q (qs_nil rfl) ?_
          refine j_q (qs_field Tryz.underlying57 rfl sz54 (by decide) rfl) ?_
          refine j_q (qs_loadO (rdo_mem (o := r.now.sobj) 2 rfl (by simp [RM.heap])) Tryz.underlying54 rfl rfl rfl) ?_
          refine j_q (qs_lenl (n := r.now.nm.length) (A := A1) (c := cap1) Tryz.underlying54 hnv) ?_
          refine j_q (qs_geq rfl rfl) ?_
          refine j_cond rfl (fun hc4 => ?_) (fun hc4 => ?_)
          · skip
            have hfl : 16384 ≤ a.now.nm.length := by
              simp at hc4
              omega
            refine j_q (qs_ac) ?_
            refine j_perm (S' := [r.heap]) r.split.symm ?_
            have hwe : linE a old n = 6 := by
              unfold linE
              rw [if_neg (by rw [hm]; simp), if_neg hl0, if_neg (by rw [hl1]; simp), if_pos hfl]
            refine j_ret_con (vs := [_]) (fun w' hw' => ⟨rfl, trivial⟩) ?_
            rw [hwe, if_neg (by decide)]
            exact ⟨rfl, r, rfl, hok, rfl⟩
          · skip
            have hfl : ¬ 16384 ≤ a.now.nm.length := by
              simp at hc4
              omega
            refine j_q (qs_build (places := [(0, 1), (1, 1), (2, 1), (3, 1)]) (offs := [(0, [.int .i64 3]), (1, [.string (bs old)]), (2, [.string (bs n)])]) Tryz.underlying109 zero109 (by kernel_rfl) rfl (by rintro (_ | _ | _ | _ | j) p q hp hq <;> first | (simp at hp hq; subst hp hq; exact ⟨rfl, rfl, by simp⟩) | (simp at hp))) ?_
            refine j_perm (S' := [r.heap]) r.split.symm ?_
            refine j_call 0 ent70 rfl rfl rfl rfl (fun w' hw' => rdo_con r a (.li old n) (.slice none 0 0) w' hok hB hz ⟨hso, hn⟩ (.inl ⟨rfl, rfl⟩) (fun _ _ _ e => by cases e) (Option.isSome_iff_ne_none.2 hl0) (li_len hnd hfl hl0)) (fun u S2 hu => ?_)
            obtain ⟨rfl, r', rfl, hr', hgf'⟩ := hu
            refine j_subl (S' := [r'.heap]) (by repeat first | exact slR _ | exact slN _ | apply slC | apply slD) ?_
            have hwe : linE a old n = 0 := by
              unfold linE
              rw [if_neg (by rw [hm]; simp), if_neg hl0, if_neg (by rw [hl1]; simp), if_neg hfl]
            refine j_ret_con (vs := [_]) (fun w' hw' => ⟨rfl, trivial⟩) ?_
            rw [hwe, if_pos rfl]
            exact ⟨rfl, r', rfl, hr', hgf'⟩
theorem rrename_con (r : RF) (a : AF) (old n : List UInt8) (w : World) (hok : r.Ok a) (hB : a.pend.length < 16384) (hso : strOk old) (hn : strOk n) : Con Tryz.prog 40 [r.ptr, .string (bs old), .string (bs n)] w r.heap fun v S' => v = .int .i64 (renE a old n) ∧ ∃ r' : RF, S' = [r'.heap] ∧ r'.Ok (if renE a old n = 0 then stepF a (.rn old n) else a) ∧ r'.gf = r.gf := by
  refine con_of_tree mix Tryz.func40 T40_ok (by kernel_rfl) ?_
  unfold T40
  obtain ⟨A1, cap1, hnv⟩ := hok.nv
  have hnl := hok.nl
  have hrm := hok.rm
  have hr0 := hok.r0
  have hul := usedN_le hok.nw
  have hb := hok.burnt
  have hnd := hok.nw.nd
  have hlen := hok.nw.len
  refine j_perm (S' := [[(r.gf, r.obj)], r.base.heap, r.now.heap, r.lc, ph r.P]) r.split ?_
  refine j_q (qs_ac) ?_
  refine j_q (qs_call ent66 rfl rfl rfl (fun w' hw' => rburnt_con r w' (in_own (hw'.perm r.split.symm) 0 rfl))) ?_
  refine j_cond rfl (fun hc0 => ?_) (fun hc0 => ?_)
  · skip
    have hm : mayE a.fused a.left [old, n] = 26 := may26 (hb ▸ hc0)
    refine j_q (qs_ac) ?_
    refine j_perm (S' := [r.heap]) r.split.symm ?_
    have hwe : renE a old n = 26 := by
      unfold renE
      rw [if_pos (by rw [hm]; decide), hm]
    refine j_ret_con (vs := [_]) (fun w' hw' => ⟨rfl, trivial⟩) ?_
    rw [hwe, if_neg (by decide)]
    exact ⟨rfl, r, rfl, hok, rfl⟩
  · skip
    have hnb : (a.fused && decide (a.left = 0)) = false := hb ▸ hc0
    have hz : a.fused = true → a.left ≠ 0 := fun hf hl => by
      rw [hf, hl] at hnb
      simp at hnb
    refine j_q (qs_call ent67 rfl rfl rfl (fun w' hw' => risName_con old w')) ?_
    refine j_q (qs_not rfl) ?_
    refine j_g rfl (fun hb => qs_mt rfl) ?_
    refine j_g rfl (fun hb2 => qs_call ent67 rfl rfl (args1 (gd_eq hb2)) (fun w' hw' => risName_con n w')) ?_
    refine j_g rfl (fun hb => qs_not (gd_eq hb)) ?_
    refine j_q (qs_or rfl rfl) ?_
    refine j_cond rfl (fun hc1 => ?_) (fun hc1 => ?_)
    · skip
      have hm : mayE a.fused a.left [old, n] = 9 := may9 hnb (by
        simp only [List.all_cons, List.all_nil, Bool.and_true]
        revert hc1
        cases nameOk old <;> cases nameOk n <;> simp [gd])
      refine j_q (qs_ac) ?_
      refine j_perm (S' := [r.heap]) r.split.symm ?_
      have hwe : renE a old n = 9 := by
        unfold renE
        rw [if_pos (by rw [hm]; decide), hm]
      refine j_ret_con (vs := [_]) (fun w' hw' => ⟨rfl, trivial⟩) ?_
      rw [hwe, if_neg (by decide)]
      exact ⟨rfl, r, rfl, hok, rfl⟩
    · skip
      have hm : mayE a.fused a.left [old, n] = 0 := may0 hnb (by
        simp only [List.all_cons, List.all_nil, Bool.and_true]
        revert hc1
        cases nameOk old <;> cases nameOk n <;> simp [gd])
      refine j_q (qs_nil rfl) ?_
      refine j_q (qs_field Tryz.underlying60 rfl sz53 (by decide) rfl) ?_
      refine j_q (qs_load (l := rfcells r) 0 Tryz.underlying53 rfl rfl rfl rfl) ?_
      refine j_q (qs_call ent68 rfl rfl rfl (fun w' hw' => rget_con r.now old w' (in_own hw' 2 rfl) hok.nw.raw)) ?_
      refine j_q (qs_pnil (A := (alook r.now.nm old).map fun p => ⟨p.1, 0, none⟩) Tryz.underlying98 rfl) ?_
      rw [gadr_none]
      refine j_cond rfl (fun hc2 => ?_) (fun hc2 => ?_)
      · skip
        have hl0 : alook a.now.nm old = none := hok.nw.get0.1 (by simpa using hc2)
        refine j_q (qs_ac) ?_
        refine j_perm (S' := [r.heap]) r.split.symm ?_
        have hwe : renE a old n = 7 := by
          unfold renE
          rw [if_neg (by rw [hm]; simp), if_pos hl0]
        refine j_ret_con (vs := [_]) (fun w' hw' => ⟨rfl, trivial⟩) ?_
        rw [hwe, if_neg (by decide)]
        exact ⟨rfl, r, rfl, hok, rfl⟩
      · skip
        have hl0 : alook a.now.nm old ≠ none := fun e => by
          rw [hok.nw.get0.2 e] at hc2
          simp at hc2
        refine j_q (qs_build (places := [(0, 1), (1, 1), (2, 1), (3, 1)]) (offs := [(0, [.int .i64 4]), (1, [.string (bs old)]), (2, [.string (bs n)])]) Tryz.underlying109 zero109 (by kernel_rfl) rfl (by rintro (_ | _ | _ | _ | j) p q hp hq <;> first | (simp at hp hq; subst hp hq; exact ⟨rfl, rfl, by simp⟩) | (simp at hp))) ?_
        refine j_perm (S' := [r.heap]) r.split.symm ?_
        refine j_call 0 ent70 rfl rfl rfl rfl (fun w' hw' => rdo_con r a (.rn old n) (.slice none 0 0) w' hok hB hz ⟨hso, hn⟩ (.inl ⟨rfl, rfl⟩) (fun _ _ _ e => by cases e) (Option.isSome_iff_ne_none.2 hl0) (rn_len hnd hnl hl0)) (fun u S2 hu => ?_)
        obtain ⟨rfl, r', rfl, hr', hgf'⟩ := hu
        refine j_subl (S' := [r'.heap]) (by repeat first | exact slR _ | exact slN _ | apply slC | apply slD) ?_
        have hwe : renE a old n = 0 := by
          unfold renE
          rw [if_neg (by rw [hm]; simp), if_neg hl0]
        refine j_ret_con (vs := [_]) (fun w' hw' => ⟨rfl, trivial⟩) ?_
        rw [hwe, if_pos rfl]
        exact ⟨rfl, r', rfl, hr', hgf'⟩
theorem rremove_con (r : RF) (a : AF) (n : List UInt8) (w : World) (hok : r.Ok a) (hB : a.pend.length < 16384) (hn : strOk n) : Con Tryz.prog 42 [r.ptr, .string (bs n)] w r.heap fun v S' => v = .int .i64 (remE a n) ∧ ∃ r' : RF, S' = [r'.heap] ∧ r'.Ok (if remE a n = 0 then stepF a (.rm n) else a) ∧ r'.gf = r.gf := by
  refine con_of_tree mix Tryz.func42 T42_ok (by kernel_rfl) ?_
  unfold T42
  obtain ⟨A1, cap1, hnv⟩ := hok.nv
  have hnl := hok.nl
  have hrm := hok.rm
  have hr0 := hok.r0
  have hul := usedN_le hok.nw
  have hb := hok.burnt
  have hnd := hok.nw.nd
  have hlen := hok.nw.len
  refine j_perm (S' := [[(r.gf, r.obj)], r.base.heap, r.now.heap, r.lc, ph r.P]) r.split ?_
  refine j_q (qs_ac) ?_
  refine j_q (qs_call ent66 rfl rfl rfl (fun w' hw' => rburnt_con r w' (in_own (hw'.perm r.split.symm) 0 rfl))) ?_
  refine j_cond rfl (fun hc0 => ?_) (fun hc0 => ?_)
  · skip
    have hm : mayE a.fused a.left [n] = 26 := may26 (hb ▸ hc0)
    refine j_q (qs_ac) ?_
    refine j_perm (S' := [r.heap]) r.split.symm ?_
    have hwe : remE a n = 26 := by
      unfold remE
      rw [if_pos (by rw [hm]; decide), hm]
    refine j_ret_con (vs := [_]) (fun w' hw' => ⟨rfl, trivial⟩) ?_
    rw [hwe, if_neg (by decide)]
    exact ⟨rfl, r, rfl, hok, rfl⟩
  · skip
    have hnb : (a.fused && decide (a.left = 0)) = false := hb ▸ hc0
    have hz : a.fused = true → a.left ≠ 0 := fun hf hl => by
      rw [hf, hl] at hnb
      simp at hnb
    refine j_q (qs_call ent67 rfl rfl rfl (fun w' hw' => risName_con n w')) ?_
    refine j_q (qs_not rfl) ?_
    refine j_cond rfl (fun hc1 => ?_) (fun hc1 => ?_)
    · skip
      have hm : mayE a.fused a.left [n] = 9 := may9 hnb (by simpa using hc1)
      refine j_q (qs_ac) ?_
      refine j_perm (S' := [r.heap]) r.split.symm ?_
      have hwe : remE a n = 9 := by
        unfold remE
        rw [if_pos (by rw [hm]; decide), hm]
      refine j_ret_con (vs := [_]) (fun w' hw' => ⟨rfl, trivial⟩) ?_
      rw [hwe, if_neg (by decide)]
      exact ⟨rfl, r, rfl, hok, rfl⟩
    · skip
      have hm : mayE a.fused a.left [n] = 0 := may0 hnb (by simpa using hc1)
      refine j_q (qs_nil rfl) ?_
      refine j_q (qs_field Tryz.underlying60 rfl sz53 (by decide) rfl) ?_
      refine j_q (qs_load (l := rfcells r) 0 Tryz.underlying53 rfl rfl rfl rfl) ?_
      refine j_q (qs_call ent68 rfl rfl rfl (fun w' hw' => rget_con r.now n w' (in_own hw' 2 rfl) hok.nw.raw)) ?_
      refine j_q (qs_pnil (A := (alook r.now.nm n).map fun p => ⟨p.1, 0, none⟩) Tryz.underlying98 rfl) ?_
      rw [gadr_none]
      refine j_cond rfl (fun hc2 => ?_) (fun hc2 => ?_)
      · skip
        have hl0 : alook a.now.nm n = none := hok.nw.get0.1 (by simpa using hc2)
        refine j_q (qs_ac) ?_
        refine j_perm (S' := [r.heap]) r.split.symm ?_
        have hwe : remE a n = 7 := by
          unfold remE
          rw [if_neg (by rw [hm]; simp), if_pos hl0]
        refine j_ret_con (vs := [_]) (fun w' hw' => ⟨rfl, trivial⟩) ?_
        rw [hwe, if_neg (by decide)]
        exact ⟨rfl, r, rfl, hok, rfl⟩
      · skip
        have hl0 : alook a.now.nm n ≠ none := fun e => by
          rw [hok.nw.get0.2 e] at hc2
          simp at hc2
        refine j_q (qs_build (places := [(0, 1), (1, 1), (2, 1), (3, 1)]) (offs := [(0, [.int .i64 5]), (2, [.string (bs n)])]) Tryz.underlying109 zero109 (by kernel_rfl) rfl (by rintro (_ | _ | _ | _ | j) p q hp hq <;> first | (simp at hp hq; subst hp hq; exact ⟨rfl, rfl, by simp⟩) | (simp at hp))) ?_
        refine j_perm (S' := [r.heap]) r.split.symm ?_
        refine j_call 0 ent70 rfl rfl rfl rfl (fun w' hw' => rdo_con r a (.rm n) (.slice none 0 0) w' hok hB hz hn (.inl ⟨rfl, rfl⟩) (fun _ _ _ e => by cases e) trivial (rm_len hnl)) (fun u S2 hu => ?_)
        obtain ⟨rfl, r', rfl, hr', hgf'⟩ := hu
        refine j_subl (S' := [r'.heap]) (by repeat first | exact slR _ | exact slN _ | apply slC | apply slD) ?_
        have hwe : remE a n = 0 := by
          unfold remE
          rw [if_neg (by rw [hm]; simp), if_neg hl0]
        refine j_ret_con (vs := [_]) (fun w' hw' => ⟨rfl, trivial⟩) ?_
        rw [hwe, if_pos rfl]
        exact ⟨rfl, r', rfl, hr', hgf'⟩
theorem rread_con (r : RF) (a : AF) (n : List UInt8) (w : World) (hin : In w r.heap) (hok : r.Ok a) : Con Tryz.prog 48 [r.ptr, .string (bs n)] w [] fun u S' => ∃ (v : Value) (c : SH), u = .tuple #[v, .int .i64 (readE a.now n)] ∧ S' = [c] ∧ Sx.Own 5 1 (ints (contA a.now n)) v c := by
  refine con_of_tree mix Tryz.func48 T48_ok (by kernel_rfl) ?_
  unfold T48
  refine j_q (qs_ac) ?_
  refine j_q (qs_ac) ?_
  refine j_q (qs_nil rfl) ?_
  refine j_q (qs_field Tryz.underlying60 rfl sz53 (by decide) rfl) ?_
  refine j_q (qs_loadO (rdo_base (RF.in_gf hin) (by simp)) Tryz.underlying53 rfl rfl rfl) ?_
  refine j_q (qs_call ent68 rfl rfl rfl (fun w' hw' => rget_con r.now n w' (in_keep (RF.in_now hin) hw') hok.nw.raw)) ?_
  refine j_q (qs_pnil (A := (alook r.now.nm n).map fun p => ⟨p.1, 0, none⟩) Tryz.underlying98 rfl) ?_
  rw [gadr_none]
  refine j_cond rfl (fun hc0 => ?_) (fun hc0 => ?_)
  · skip
    have hl0 : alook a.now.nm n = none := hok.nw.get0.1 (by simpa using hc0)
    refine j_q (qs_ac) ?_
    refine j_q (qs_ac) ?_
    refine j_ret_con (vs := [_, _]) (fun w' hw' => ⟨rfl, rfl, trivial⟩) ?_
    refine ⟨.slice none 0 0, [], ?_, rfl, ?_⟩
    · unfold readE
      rw [if_pos hl0]
      rfl
    · simp only [contA, hl0]
      exact own_nil
  · skip
    have hl0 : alook a.now.nm n ≠ none := fun e => by
      rw [hok.nw.get0.2 e] at hc0
      simp at hc0
    obtain ⟨i, hi⟩ := Option.ne_none_iff_exists'.1 hl0
    obtain ⟨f, hf, hlk, hfi, hfx⟩ := hok.nw.get hi
    obtain ⟨hfv, hfl⟩ := hok.nw.rv f hf
    rw [in_addr hok.nw.toRS0 hlk]
    refine j_lit (vs := []) Tryz.underlying32 sz5 zero5 rfl (by simp [oneV]) ⟨rfl, by decide⟩ (fun g9 v9 c9 hv9 hc9 ho9 => ?_)
    subst hv9 hc9
    refine j_q (qs_nil rfl) ?_
    refine j_q (qs_field Tryz.underlying100 rfl sz32 (by decide) rfl) ?_
    refine j_q (qs_loadO (l := [f.v]) (rdo_base (RM.in_f (RF.in_now hin) hf) (by simp)) Tryz.underlying32 rfl rfl rfl) ?_
    refine j_append 0 Tryz.underlying32 Tryz.underlying32 (.inr ⟨_, rfl⟩) sb5 zero5 rfl ho9 rfl (src_rvw hfv (RF.in_P hin)) ints_one ⟨(by rw [ints_length]; simp only [List.length_nil]; omega), (by decide)⟩ (fun v13 c13 ho13 => ?_)
    refine j_q (qs_ac) ?_
    rw [List.nil_append] at ho13
    refine j_subl (S' := [c13]) (by repeat first | exact slR _ | exact slN _ | apply slC | apply slD) ?_
    refine j_ret_con (vs := [_, _]) (fun w' hw' => ⟨rfl, rfl, trivial⟩) ?_
    refine ⟨v13, c13, ?_, rfl, ?_⟩
    · unfold readE
      rw [if_neg hl0]
      rfl
    · simp only [contA, hi]
      rw [← hfx]
      exact ho13
end Go.Proofs.YtckpegkpdepokaaGreat
/-! Rg8 -/
namespace Go.Proofs.YtckpegkpdepokaaGreat
open Go Go.Sx
set_option maxRecDepth 100000
set_option maxHeartbeats 4000000
set_option linter.unusedVariables false
set_option linter.unusedSimpArgs false
attribute [local irreducible] J JQ QS Con W opW
open Go.MapKept Go.WideMaps Go.Maps
structure St where
  kind : Int
  n : Int
  a : List UInt8
  to : List UInt8
  bv : Value
  xs : List UInt8
def encS (x : St) : List Value := [.int .i64 x.kind, .int .i64 x.n, .string (bs x.a), .string (bs x.to), x.bv]
theorem encS_len (x : St) : (encS x).length = 5 := rfl
def intOk (n : Int) : Prop := -9223372036854775808 ≤ n ∧ n ≤ 9223372036854775807
structure St.Ok (w : World) (x : St) : Prop where
  k : intOk x.kind
  n : intOk x.n
  a : x.a.length ≤ 140737488351232
  t : x.to.length ≤ 140737488351232
  b : BR w x.bv x.xs ∧ x.xs.length ≤ 140737488351232
abbrev St0 : St := ⟨0, 0, [], [], .slice none 0 0, []⟩
def nextF (a : AF) (u : Int) (x : St) (i : Nat) : AF :=
  if x.kind = 1 then (if wrR a u x.a x.xs = 0 then stepF a (.wr x.a x.xs i) else a)
  else if x.kind = 2 then (if apR a u x.a x.xs = 0 then stepF a (.ap x.a x.xs) else a)
  else if x.kind = 3 then (if linE a x.a x.to = 0 then stepF a (.li x.a x.to) else a)
  else if x.kind = 4 then (if renE a x.a x.to = 0 then stepF a (.rn x.a x.to) else a)
  else if x.kind = 5 then (if remE a x.a = 0 then stepF a (.rm x.a) else a)
  else if x.kind = 6 then (if mayE a.fused a.left [] = 0 then syncF a else a)
  else if x.kind = 7 then crashF a x.n
  else if x.kind = 8 then fuseF a x.n
  else a
theorem own_brp {b : Base} {S : List SH} {w : World} {xs ys : List UInt8} {g n cap : Nat} {c : SH} (ho : Sx.Own 5 1 (ints (xs ++ ys)) (.slice (some ⟨g, 0, none⟩) n cap) c) (k : Nat) (hk : S[k]? = some c) (hw : Sig b S w) (hc : xs.length ≤ cap) (hg : g < w.heap.size) : BR w (.slice (some ⟨g, 0, none⟩) xs.length cap) xs :=
  .inr ⟨_, cap, rfl, hc, fun _ => hg, fun j u hu => own_rd ho k hk w hw j u (by rw [ints_append]; exact getE_left hu)⟩
theorem nextF_room (a : AF) (u : Int) (x : St) (i : Nat) : (nextF a u x i).room = a.room := by
  unfold nextF
  repeat' split
  all_goals rfl
theorem nextF_len (a : AF) (u : Int) (x : St) (i : Nat) : (nextF a u x i).pend.length ≤ a.pend.length + 1 := by
  unfold nextF
  repeat' split
  all_goals first | exact Nat.le_succ _ | exact Nat.zero_le _ | (show (a.pend ++ [_]).length ≤ _; rw [List.length_append]; exact Nat.le_refl _)
abbrev PostS (r : FR) (q : RF) (a b : AF) (x : St) (i : Nat) (v : Value) (S' : List SH) : Prop := ∃ ok : Bool, v = .bool ok ∧ (a = b → ok = true) ∧ ∃ (r' : FR) (q' : RF), S' = [r'.heap, q'.heap] ∧ r'.Ok (nextF a a.now.used x i) ∧ q'.Ok (nextF b (usedN b.now) x i) ∧ r'.gf = r.gf ∧ q'.gf = q.gf
theorem contA_le {r : FR} {a : AF} (h : r.Ok a) (n : List UInt8) : (contA a.now n).length ≤ 1000000000 := by
  unfold contA
  split
  · exact Nat.zero_le _
  · rename_i i hi
    obtain ⟨f, hf, _, h1, h2⟩ := look_rep h.now.raw h.now.rep hi
    rw [← h2]
    obtain ⟨A, cap, _, h3⟩ := h.now.raw.form f hf
    exact h3
theorem spoilL_con (ys : List UInt8) (v : Value) (c : SH) (w : World) (ho : Sx.Own 5 1 (ints ys) v c) (hl : ys.length ≤ 2000000000) : Con Tryz.prog 37 [v] w c fun _ _ => True := by
  refine con_of_tree mix Tryz.func37 T37_ok (by kernel_rfl) ?_
  unfold T37
  refine j_lit (vs := [.int .u8 _]) Tryz.underlying32 sz5 zero5 rfl (by simp [oneV]) ⟨rfl, by decide⟩ (fun g0 v0 c0 hv0 hc0 ho0 => ?_)
  subst hv0 hc0
  refine j_append 1 Tryz.underlying32 Tryz.underlying32 (.inr ⟨_, rfl⟩) sb5 zero5 rfl ho rfl (.inl ⟨_, _, rfl, own_rd ho0 0 rfl, rfl⟩) (by intro u hu; rw [List.mem_singleton] at hu; rw [hu]; rfl) ⟨(by rw [ints_length]; simp only [List.length_singleton]; omega), (by decide)⟩ (fun v1 c1 ho1 => ?_)
  obtain ⟨g, n1, cap, hv1⟩ := own_some ho1 (by simp)
  subst hv1
  obtain ⟨rest, fz, rfl, h2, h3, h4, h5⟩ := own_row ho1
  rw [List.length_append, ints_length, List.length_singleton, Nat.mul_one] at h2
  obtain ⟨l0, hl0⟩ : ∃ l, l = ints ys ++ [.int .u8 99] ++ rest := ⟨_, rfl⟩
  rw [← hl0] at h3 h5 ⊢
  refine j_subl (S' := [[(g, .cells l0.toArray 5 fz)]]) (by repeat first | exact slR _ | exact slN _ | apply slC | apply slD) ?_
  refine j_q (qs_ac) ?_
  refine j_loop (fun m vs S' => ∃ (i : Nat) (l : List Value), vs = [.int .i64 (i : Int)] ∧ S' = [[(g, .cells l.toArray 5 fz)]] ∧ l.length = l0.length ∧ i ≤ n1 ∧ m = n1 - i) ⟨_, 0, l0, rfl, rfl, rfl, Nat.zero_le _, rfl⟩ ?_
  rintro m vs S' hlen ⟨i, l, rfl, rfl, hll, hi, rfl⟩
  refine j_q (qs_lenl Tryz.underlying32 rfl) ?_
  refine j_q (qs_lss rfl rfl) ?_
  refine j_cond rfl (fun hc0 => ?_) (fun hc0 => ?_)
  · skip
    have hi1 : i < n1 := by
      have h6 : (i : Int) < (n1 : Int) := by simpa using hc0
      omega
    refine j_q (qs_ixn (g := g) (off := 0) (n := n1) (c := cap) (i := i) Tryz.underlying32 sz5 rfl rfl hi1) ?_
    refine j_store (l := l) (i := 0 + i * 1) 0 sz5 rfl rfl rfl rfl (by omega) (h5 _ (by omega)) ?_
    refine j_q (qs_add64 rfl rfl (by first | omega | (simp only [bnA] at *; omega))) ?_
    refine j_back rfl ?_
    exact ⟨n1 - (i + 1), by omega, i + 1, _, rfl, rfl, by rw [List.length_set]; exact hll, hi1, rfl⟩
  · skip
    refine j_ret_con (vs := []) (fun w' hw' => trivial) ?_
    trivial
theorem stp_con (r : FR) (q : RF) (a b : AF) (x : St) (i : Nat) (w : World) (hok : r.Ok a) (hq : q.Ok b) (hra : a.room ≤ 1073741824) (hBa : a.pend.length < 16384) (hBb : b.pend.length < 16384) (hsa : strOk x.a) (hst : strOk x.to) (hxn : intOk x.n) (hbr : BR w x.bv x.xs) (hbd : ∀ (z : Addr) (m c : Nat), x.bv = .slice (some z) m c → 0 < m → z.block ∉ dom (r.heap ++ q.heap)) (hxl : x.xs.length ≤ 8000) (hid : ∀ p ∈ a.now.nm, p.2 ≠ i) (hidb : ∀ p ∈ b.now.nm, p.2 ≠ i) : Con Tryz.prog 12 [r.ptr, q.ptr, .agg (encS x).toArray] w (r.heap ++ q.heap) fun v S' => PostS r q a b x i v S' := by
  refine con_of_tree mix Tryz.func12 T12_ok (by kernel_rfl) ?_
  unfold T12
  have hrmA : a.room ≤ 1073741824 := hra
  obtain ⟨bA, bcp, hbf, _⟩ := br_form hbr
  refine j_perm (S' := [r.heap, q.heap]) (by simp) ?_
  have hdr : ∀ (z : Addr) (m c : Nat), x.bv = .slice (some z) m c → 0 < m → z.block ∉ dom q.heap := fun z m c e h0 h1 => hbd z m c e h0 (by rw [dom, List.map_append]; exact List.mem_append_right _ h1)
  refine j_box (l := encS x) rfl (fun g0 hg0 hs0 => ?_)
  refine j_q (qs_ac) ?_
  refine j_q (qs_field Tryz.underlying34 rfl sz3 (by decide) rfl) ?_
  refine j_q (qs_load (l := encS x) 0 Tryz.underlying3 rfl rfl rfl rfl) ?_
  refine j_q (qs_eql rfl rfl) ?_
  refine j_cond rfl (fun hc0 => ?_) (fun hc0 => ?_)
  · skip
    have hk : x.kind = 1 := by simpa using hc0
    refine j_cond rfl (fun hc1 => ?_) (fun hc1 => ?_)
    · skip
      refine j_q (qs_field Tryz.underlying34 rfl sz32 (by decide) rfl) ?_
      refine j_q (qs_load (l := encS x) 0 Tryz.underlying32 rfl rfl rfl rfl) ?_
      refine j_call0 ent33 rfl rfl rfl (fun w' hw' => roomy_con x.bv x.xs w' (br_keep hbr hbd hw') hxl) (fun u S2 hu => ?_)
      obtain ⟨g, cap, c, rfl, hown, rfl⟩ := hu
      have hcap := own_cap hown
      obtain ⟨rest, fz, rfl, hr2, hr3, hr4, hr5⟩ := own_row hown
      have hown2 : Sx.Own 5 1 (ints (x.xs ++ [171])) (.slice (some ⟨g, 0, none⟩) (x.xs.length + 1) cap) [(g, .cells (ints (x.xs ++ [171, 171]) ++ rest).toArray 5 fz)] := by
        have e : ints (x.xs ++ [171, 171]) ++ rest = ints (x.xs ++ [171]) ++ (.int .u8 171 :: rest) := by simp [ints]
        rw [e] at hr3 hr5 ⊢
        exact own_mk (by rw [ints_length, List.length_append, List.length_singleton, Nat.mul_one]) hr3 (by omega) hr5
      refine j_q (qs_ac) ?_
      refine j_q (qs_ac) ?_
      refine j_q (qs_field Tryz.underlying34 rfl sz3 (by decide) rfl) ?_
      refine j_q (qs_load (l := encS x) 1 Tryz.underlying3 rfl rfl rfl rfl) ?_
      refine j_q (qs_eql rfl rfl) ?_
      refine j_cond rfl (fun hc2 => ?_) (fun hc2 => ?_)
      · skip
        refine j_mix [[(g0, .cells (encS x).toArray 34 (0, 0))]] (Le.of_sub (by repeat first | exact slR _ | exact slN _ | apply slC | apply slD)) ?_
        refine j_mq (qs_field Tryz.underlying34 rfl sz9 (by decide) rfl) ?_
        refine j_mq (qs_load (l := encS x) 0 Tryz.underlying9 rfl rfl rfl rfl) ?_
        refine j_mq (qs_field Tryz.underlying34 rfl sz32 (by decide) rfl) ?_
        refine j_mq (qs_load (l := encS x) 0 Tryz.underlying32 rfl rfl rfl rfl) ?_
        refine j_mq (qs_lenl (n := x.xs.length) (A := bA) (c := bcp) Tryz.underlying32 hbf) ?_
        refine j_mq (qs_cutl (a := 0) (z := x.xs.length) Tryz.underlying32 sz5 rfl rfl ⟨.i64, rfl⟩ (by omega) (by omega)) ?_
        rw [if_neg (by omega), Nat.sub_zero, Nat.sub_zero]
        refine j_call 2 ent10 rfl rfl rfl rfl (fun w' hw' => (write_con' r a x.a (.slice (some ⟨g, 0, none⟩) x.xs.length cap) x.xs i w' hok hsa (own_brp hown 0 rfl hw' (by omega) (lt_of_get (hw'.own (g, .cells (ints (x.xs ++ [171, 171]) ++ rest).toArray 5 fz) (by simp)))) (fun z m c e h0 => by
          injection e with e1 e2 e3
          injection e1 with e1
          subst e1
          exact nodup_two hw'.nodup (i := 0) (j := 2) (by decide) rfl rfl g (by simp [dom])) (by omega) hBa hrmA hid).mono (fun u S5 h5 => by
          obtain ⟨h1, r', h2, h3, h4⟩ := h5
          exact (⟨h1, r', h2, h3, h4.gf⟩ : u = .int .i64 (wrE a x.a x.xs) ∧ ∃ r' : FR, S5 = [r'.heap] ∧ r'.Ok (if wrE a x.a x.xs = 0 then stepF a (.wr x.a x.xs i) else a) ∧ r'.gf = r.gf))) (fun u S5 h5 => ?_)
        obtain ⟨rfl, r', rfl, hr', hgf⟩ := h5
        refine j_subl (S' := [r'.heap, [(g, .cells (ints (x.xs ++ [171, 171]) ++ rest).toArray 5 fz)], [(g0, .cells (encS x).toArray 34 (0, 0))], q.heap]) (by repeat first | exact slR _ | exact slN _ | apply slC | apply slD) ?_
        refine j_mR _ (.refl _) ?_
        refine j_mend ?_
        refine j_q (qs_field Tryz.underlying34 rfl sz9 (by decide) rfl) ?_
        refine j_q (qs_load (l := encS x) 2 Tryz.underlying9 rfl rfl rfl rfl) ?_
        refine j_q (qs_field Tryz.underlying34 rfl sz32 (by decide) rfl) ?_
        refine j_q (qs_load (l := encS x) 2 Tryz.underlying32 rfl rfl rfl rfl) ?_
        refine j_call 3 ent34 rfl rfl rfl rfl (fun w' hw' => rwrite_con q b x.a x.bv x.xs i w' hq hBb hsa (br_keep hbr hbd hw') hdr (by omega) hidb) (fun u S5 h5 => ?_)
        obtain ⟨rfl, q', rfl, hq', hgq⟩ := h5
        refine j_subl (S' := [q'.heap, r'.heap, [(g, .cells (ints (x.xs ++ [171, 171]) ++ rest).toArray 5 fz)], [(g0, .cells (encS x).toArray 34 (0, 0))]]) (by repeat first | exact slR _ | exact slN _ | apply slC | apply slD) ?_
        refine j_q (qs_eql rfl rfl) ?_
        refine j_g rfl (fun hb => qs_mt rfl) ?_
        refine j_g rfl (fun hb => qs_field Tryz.underlying34 rfl sz32 (by decide) rfl) ?_
        refine j_g rfl (fun hb2 => qs_load (l := encS x) 3 Tryz.underlying32 rfl (gd_eq hb2) rfl rfl) ?_
        refine j_g (v := .bool true) rfl (fun hb2 => qs_call ent36 rfl rfl (args2 (gd_eq hb2) (gd_eq hb2)) (fun w' hw' => stands_con g cap x.bv x.xs w' (lt_of_get (hw'.own (g, .cells (ints (x.xs ++ [171, 171]) ++ rest).toArray 5 fz) (by simp))) (own_rd hown 2 rfl w' hw') (by omega) (br_keep hbr hbd hw') hxl)) ?_
        refine j_q (qs_and rfl rfl) ?_
        refine j_call 2 ent37 rfl rfl rfl rfl (fun w' hw' => spoilL_con (x.xs ++ [171]) _ _ w' hown2 (by rw [List.length_append]; exact Nat.le_trans (Nat.add_le_add_right hxl 1) (by decide))) (fun u S2 _ => ?_)
        refine j_subl (S' := [q'.heap, r'.heap]) (by
          refine List.Sublist.trans ?_ (List.sublist_append_right _ _)
          exact (by repeat first | exact slR _ | exact slN _ | apply slC | apply slD)) ?_
        refine j_perm (S' := [r'.heap, q'.heap]) (by simp only [List.flatten_cons, List.flatten_nil, List.append_nil]; exact List.perm_append_comm) ?_
        rw [wrE_R] at hr'
        refine j_ret_con (vs := [_]) (fun w' hw' => ⟨rfl, trivial⟩) ?_
        refine ⟨_, rfl, ?_, r', q', rfl, ?_, ?_, hgf, hgq⟩
        · rintro rfl
          rw [show wrE a x.a x.xs = wrR a (usedN a.now) x.a x.xs by rw [wrE_R, usedN_of hok.now]]
          simp [gd]
        · unfold nextF
          rw [if_pos hk]
          exact hr'
        · unfold nextF
          rw [if_pos hk]
          exact hq'
      · skip
        rw [hk] at hc2
        simp at hc2
    · skip
      rw [hc0] at hc1
      cases hc1
  · skip
    have hk1 : x.kind ≠ 1 := by simpa using hc0
    refine j_q (qs_eql rfl rfl) ?_
    refine j_cond rfl (fun hc9 => ?_) (fun hc9 => ?_)
    · skip
      have hk : x.kind = 2 := by simpa using hc9
      refine j_q (qs_field Tryz.underlying34 rfl sz32 (by decide) rfl) ?_
      refine j_q (qs_load (l := encS x) 0 Tryz.underlying32 rfl rfl rfl rfl) ?_
      refine j_call0 ent33 rfl rfl rfl (fun w' hw' => roomy_con x.bv x.xs w' (br_keep hbr hbd hw') hxl) (fun u S2 hu => ?_)
      obtain ⟨g, cap, c, rfl, hown, rfl⟩ := hu
      have hcap := own_cap hown
      obtain ⟨rest, fz, rfl, hr2, hr3, hr4, hr5⟩ := own_row hown
      have hown2 : Sx.Own 5 1 (ints (x.xs ++ [171])) (.slice (some ⟨g, 0, none⟩) (x.xs.length + 1) cap) [(g, .cells (ints (x.xs ++ [171, 171]) ++ rest).toArray 5 fz)] := by
        have e : ints (x.xs ++ [171, 171]) ++ rest = ints (x.xs ++ [171]) ++ (.int .u8 171 :: rest) := by simp [ints]
        rw [e] at hr3 hr5 ⊢
        exact own_mk (by rw [ints_length, List.length_append, List.length_singleton, Nat.mul_one]) hr3 (by omega) hr5
      refine j_q (qs_ac) ?_
      refine j_q (qs_ac) ?_
      refine j_q (qs_field Tryz.underlying34 rfl sz3 (by decide) rfl) ?_
      refine j_q (qs_load (l := encS x) 1 Tryz.underlying3 rfl rfl rfl rfl) ?_
      refine j_q (qs_eql rfl rfl) ?_
      refine j_cond rfl (fun hc10 => ?_) (fun hc10 => ?_)
      · skip
        rw [hk] at hc10
        simp at hc10
      · skip
        refine j_mix [[(g0, .cells (encS x).toArray 34 (0, 0))]] (Le.of_sub (by repeat first | exact slR _ | exact slN _ | apply slC | apply slD)) ?_
        refine j_mq (qs_field Tryz.underlying34 rfl sz9 (by decide) rfl) ?_
        refine j_mq (qs_load (l := encS x) 0 Tryz.underlying9 rfl rfl rfl rfl) ?_
        refine j_mq (qs_field Tryz.underlying34 rfl sz32 (by decide) rfl) ?_
        refine j_mq (qs_load (l := encS x) 0 Tryz.underlying32 rfl rfl rfl rfl) ?_
        refine j_mq (qs_lenl (n := x.xs.length) (A := bA) (c := bcp) Tryz.underlying32 hbf) ?_
        refine j_mq (qs_cutl (a := 0) (z := x.xs.length) Tryz.underlying32 sz5 rfl rfl ⟨.i64, rfl⟩ (by omega) (by omega)) ?_
        rw [if_neg (by omega), Nat.sub_zero, Nat.sub_zero]
        refine j_call 2 ent15 rfl rfl rfl rfl (fun w' hw' => (appendR_con r a x.a (.slice (some ⟨g, 0, none⟩) x.xs.length cap) x.xs w' hok hBa hsa (own_brp hown 0 rfl hw' (by omega) (lt_of_get (hw'.own (g, .cells (ints (x.xs ++ [171, 171]) ++ rest).toArray 5 fz) (by simp)))) (fun z m c e h0 => by
          injection e with e1 e2 e3
          injection e1 with e1
          subst e1
          exact nodup_two hw'.nodup (i := 0) (j := 2) (by decide) rfl rfl g (by simp [dom])) (by omega) hrmA).mono (fun u S5 h5 => by
          obtain ⟨h1, r', h2, h3, h4⟩ := h5
          exact (⟨h1, r', h2, h3, h4.gf⟩ : u = .int .i64 (appE a x.a x.xs) ∧ ∃ r' : FR, S5 = [r'.heap] ∧ r'.Ok (if appE a x.a x.xs = 0 then stepF a (.ap x.a x.xs) else a) ∧ r'.gf = r.gf))) (fun u S5 h5 => ?_)
        obtain ⟨rfl, r', rfl, hr', hgf⟩ := h5
        refine j_subl (S' := [r'.heap, [(g, .cells (ints (x.xs ++ [171, 171]) ++ rest).toArray 5 fz)], [(g0, .cells (encS x).toArray 34 (0, 0))], q.heap]) (by repeat first | exact slR _ | exact slN _ | apply slC | apply slD) ?_
        refine j_mR _ (.refl _) ?_
        refine j_mend ?_
        refine j_q (qs_field Tryz.underlying34 rfl sz9 (by decide) rfl) ?_
        refine j_q (qs_load (l := encS x) 2 Tryz.underlying9 rfl rfl rfl rfl) ?_
        refine j_q (qs_field Tryz.underlying34 rfl sz32 (by decide) rfl) ?_
        refine j_q (qs_load (l := encS x) 2 Tryz.underlying32 rfl rfl rfl rfl) ?_
        refine j_call 3 ent35 rfl rfl rfl rfl (fun w' hw' => rappend_con q b x.a x.bv x.xs w' hq hBb hsa (br_keep hbr hbd hw') hdr (by omega)) (fun u S5 h5 => ?_)
        obtain ⟨rfl, q', rfl, hq', hgq⟩ := h5
        refine j_subl (S' := [q'.heap, r'.heap, [(g, .cells (ints (x.xs ++ [171, 171]) ++ rest).toArray 5 fz)], [(g0, .cells (encS x).toArray 34 (0, 0))]]) (by repeat first | exact slR _ | exact slN _ | apply slC | apply slD) ?_
        refine j_q (qs_eql rfl rfl) ?_
        refine j_g rfl (fun hb => qs_mt rfl) ?_
        refine j_g rfl (fun hb => qs_field Tryz.underlying34 rfl sz32 (by decide) rfl) ?_
        refine j_g rfl (fun hb2 => qs_load (l := encS x) 3 Tryz.underlying32 rfl (gd_eq hb2) rfl rfl) ?_
        refine j_g (v := .bool true) rfl (fun hb2 => qs_call ent36 rfl rfl (args2 (gd_eq hb2) (gd_eq hb2)) (fun w' hw' => stands_con g cap x.bv x.xs w' (lt_of_get (hw'.own (g, .cells (ints (x.xs ++ [171, 171]) ++ rest).toArray 5 fz) (by simp))) (own_rd hown 2 rfl w' hw') (by omega) (br_keep hbr hbd hw') hxl)) ?_
        refine j_q (qs_and rfl rfl) ?_
        refine j_call 2 ent37 rfl rfl rfl rfl (fun w' hw' => spoilL_con (x.xs ++ [171]) _ _ w' hown2 (by rw [List.length_append]; exact Nat.le_trans (Nat.add_le_add_right hxl 1) (by decide))) (fun u S2 _ => ?_)
        refine j_subl (S' := [q'.heap, r'.heap]) (by
          refine List.Sublist.trans ?_ (List.sublist_append_right _ _)
          exact (by repeat first | exact slR _ | exact slN _ | apply slC | apply slD)) ?_
        refine j_perm (S' := [r'.heap, q'.heap]) (by simp only [List.flatten_cons, List.flatten_nil, List.append_nil]; exact List.perm_append_comm) ?_
        rw [apE_R] at hr'
        refine j_ret_con (vs := [_]) (fun w' hw' => ⟨rfl, trivial⟩) ?_
        refine ⟨_, rfl, ?_, r', q', rfl, ?_, ?_, hgf, hgq⟩
        · rintro rfl
          rw [show appE a x.a x.xs = apR a (usedN a.now) x.a x.xs by rw [apE_R, usedN_of hok.now]]
          simp [gd]
        · unfold nextF
          rw [if_neg (by rw [hk]; decide), if_pos hk]
          exact hr'
        · unfold nextF
          rw [if_neg (by rw [hk]; decide), if_pos hk]
          exact hq'
    · skip
      have hk2 : x.kind ≠ 2 := by simpa using hc9
      refine j_q (qs_eql rfl rfl) ?_
      refine j_cond rfl (fun hc11 => ?_) (fun hc11 => ?_)
      · skip
        have hk : x.kind = 3 := by simpa using hc11
        refine j_mix [[(g0, .cells (encS x).toArray 34 (0, 0))]] (Le.of_sub (by repeat first | exact slR _ | exact slN _ | apply slC | apply slD)) ?_
        refine j_mq (qs_field Tryz.underlying34 rfl sz9 (by decide) rfl) ?_
        refine j_mq (qs_load (l := encS x) 0 Tryz.underlying9 rfl rfl rfl rfl) ?_
        refine j_mq (qs_field Tryz.underlying34 rfl sz9 (by decide) rfl) ?_
        refine j_mq (qs_load (l := encS x) 0 Tryz.underlying9 rfl rfl rfl rfl) ?_
        refine j_mq (qs_field Tryz.underlying34 rfl sz9 (by decide) rfl) ?_
        refine j_mq (qs_load (l := encS x) 0 Tryz.underlying9 rfl rfl rfl rfl) ?_
        refine j_mq (qs_field Tryz.underlying34 rfl sz9 (by decide) rfl) ?_
        refine j_mq (qs_load (l := encS x) 0 Tryz.underlying9 rfl rfl rfl rfl) ?_
        refine j_call 1 ent14 rfl rfl rfl rfl (fun w' hw' => (linkR_con r a x.a x.to w' hok hBa hsa hst).mono (fun u S5 h5 => by
          obtain ⟨h1, r', h2, h3, h4⟩ := h5
          exact (⟨h1, r', h2, h3, h4.gf⟩ : u = .int .i64 (linE a x.a x.to) ∧ ∃ r' : FR, S5 = [r'.heap] ∧ r'.Ok (if linE a x.a x.to = 0 then stepF a (.li x.a x.to) else a) ∧ r'.gf = r.gf))) (fun u S5 h5 => ?_)
        obtain ⟨rfl, r', rfl, hr', hgf⟩ := h5
        refine j_subl (S' := [r'.heap, [(g0, .cells (encS x).toArray 34 (0, 0))], q.heap]) (by repeat first | exact slR _ | exact slN _ | apply slC | apply slD) ?_
        refine j_mD0 (Le.of_sub (by repeat first | exact slR _ | exact slN _ | apply slC | apply slD)) ?_
        refine j_call 2 ent38 rfl rfl rfl rfl (fun w' hw' => rlink_con q b x.a x.to w' hq hBb hsa hst) (fun u S5 h5 => ?_)
        obtain ⟨rfl, q', rfl, hq', hgq⟩ := h5
        refine j_subl (S' := [q'.heap, r'.heap]) (by repeat first | exact slR _ | exact slN _ | apply slC | apply slD) ?_
        refine j_perm (S' := [r'.heap, q'.heap]) (by simp only [List.flatten_cons, List.flatten_nil, List.append_nil]; exact List.perm_append_comm) ?_
        refine j_mR _ (.refl _) ?_
        refine j_mq (qs_eql rfl rfl) ?_
        refine j_mend ?_
        skip
        refine j_ret_con (vs := [_]) (fun w' hw' => ⟨rfl, trivial⟩) ?_
        refine ⟨_, rfl, ?_, r', q', rfl, ?_, ?_, hgf, hgq⟩
        · rintro rfl
          simp
        · unfold nextF
          rw [if_neg hk1, if_neg hk2, if_pos hk]
          exact hr'
        · unfold nextF
          rw [if_neg hk1, if_neg hk2, if_pos hk]
          exact hq'
      · skip
        have hk3 : x.kind ≠ 3 := by simpa using hc11
        refine j_q (qs_eql rfl rfl) ?_
        refine j_cond rfl (fun hc12 => ?_) (fun hc12 => ?_)
        · skip
          have hk : x.kind = 4 := by simpa using hc12
          refine j_mix [[(g0, .cells (encS x).toArray 34 (0, 0))]] (Le.of_sub (by repeat first | exact slR _ | exact slN _ | apply slC | apply slD)) ?_
          refine j_mq (qs_field Tryz.underlying34 rfl sz9 (by decide) rfl) ?_
          refine j_mq (qs_load (l := encS x) 0 Tryz.underlying9 rfl rfl rfl rfl) ?_
          refine j_mq (qs_field Tryz.underlying34 rfl sz9 (by decide) rfl) ?_
          refine j_mq (qs_load (l := encS x) 0 Tryz.underlying9 rfl rfl rfl rfl) ?_
          refine j_mq (qs_field Tryz.underlying34 rfl sz9 (by decide) rfl) ?_
          refine j_mq (qs_load (l := encS x) 0 Tryz.underlying9 rfl rfl rfl rfl) ?_
          refine j_mq (qs_field Tryz.underlying34 rfl sz9 (by decide) rfl) ?_
          refine j_mq (qs_load (l := encS x) 0 Tryz.underlying9 rfl rfl rfl rfl) ?_
          refine j_call 1 ent39 rfl rfl rfl rfl (fun w' hw' => (rename_con r a x.a x.to w' hok hBa hsa hst).mono (fun u S5 h5 => by
            obtain ⟨h1, r', h2, h3, h4⟩ := h5
            exact (⟨h1, r', h2, h3, h4.gf⟩ : u = .int .i64 (renE a x.a x.to) ∧ ∃ r' : FR, S5 = [r'.heap] ∧ r'.Ok (if renE a x.a x.to = 0 then stepF a (.rn x.a x.to) else a) ∧ r'.gf = r.gf))) (fun u S5 h5 => ?_)
          obtain ⟨rfl, r', rfl, hr', hgf⟩ := h5
          refine j_subl (S' := [r'.heap, [(g0, .cells (encS x).toArray 34 (0, 0))], q.heap]) (by repeat first | exact slR _ | exact slN _ | apply slC | apply slD) ?_
          refine j_mD0 (Le.of_sub (by repeat first | exact slR _ | exact slN _ | apply slC | apply slD)) ?_
          refine j_call 2 ent40 rfl rfl rfl rfl (fun w' hw' => rrename_con q b x.a x.to w' hq hBb hsa hst) (fun u S5 h5 => ?_)
          obtain ⟨rfl, q', rfl, hq', hgq⟩ := h5
          refine j_subl (S' := [q'.heap, r'.heap]) (by repeat first | exact slR _ | exact slN _ | apply slC | apply slD) ?_
          refine j_perm (S' := [r'.heap, q'.heap]) (by simp only [List.flatten_cons, List.flatten_nil, List.append_nil]; exact List.perm_append_comm) ?_
          refine j_mR _ (.refl _) ?_
          refine j_mq (qs_eql rfl rfl) ?_
          refine j_mend ?_
          skip
          refine j_ret_con (vs := [_]) (fun w' hw' => ⟨rfl, trivial⟩) ?_
          refine ⟨_, rfl, ?_, r', q', rfl, ?_, ?_, hgf, hgq⟩
          · rintro rfl
            simp
          · unfold nextF
            rw [if_neg hk1, if_neg hk2, if_neg hk3, if_pos hk]
            exact hr'
          · unfold nextF
            rw [if_neg hk1, if_neg hk2, if_neg hk3, if_pos hk]
            exact hq'
        · skip
          have hk4 : x.kind ≠ 4 := by simpa using hc12
          refine j_q (qs_eql rfl rfl) ?_
          refine j_cond rfl (fun hc13 => ?_) (fun hc13 => ?_)
          · skip
            have hk : x.kind = 5 := by simpa using hc13
            refine j_mix [[(g0, .cells (encS x).toArray 34 (0, 0))]] (Le.of_sub (by repeat first | exact slR _ | exact slN _ | apply slC | apply slD)) ?_
            refine j_mq (qs_field Tryz.underlying34 rfl sz9 (by decide) rfl) ?_
            refine j_mq (qs_load (l := encS x) 0 Tryz.underlying9 rfl rfl rfl rfl) ?_
            refine j_mq (qs_field Tryz.underlying34 rfl sz9 (by decide) rfl) ?_
            refine j_mq (qs_load (l := encS x) 0 Tryz.underlying9 rfl rfl rfl rfl) ?_
            refine j_call 1 ent41 rfl rfl rfl rfl (fun w' hw' => (remove_con r a x.a w' hok hBa hsa).mono (fun u S5 h5 => by
              obtain ⟨h1, r', h2, h3, h4⟩ := h5
              exact (⟨h1, r', h2, h3, h4.gf⟩ : u = .int .i64 (remE a x.a) ∧ ∃ r' : FR, S5 = [r'.heap] ∧ r'.Ok (if remE a x.a = 0 then stepF a (.rm x.a) else a) ∧ r'.gf = r.gf))) (fun u S5 h5 => ?_)
            obtain ⟨rfl, r', rfl, hr', hgf⟩ := h5
            refine j_subl (S' := [r'.heap, [(g0, .cells (encS x).toArray 34 (0, 0))], q.heap]) (by repeat first | exact slR _ | exact slN _ | apply slC | apply slD) ?_
            refine j_mD0 (Le.of_sub (by repeat first | exact slR _ | exact slN _ | apply slC | apply slD)) ?_
            refine j_call 2 ent42 rfl rfl rfl rfl (fun w' hw' => rremove_con q b x.a w' hq hBb hsa) (fun u S5 h5 => ?_)
            obtain ⟨rfl, q', rfl, hq', hgq⟩ := h5
            refine j_subl (S' := [q'.heap, r'.heap]) (by repeat first | exact slR _ | exact slN _ | apply slC | apply slD) ?_
            refine j_perm (S' := [r'.heap, q'.heap]) (by simp only [List.flatten_cons, List.flatten_nil, List.append_nil]; exact List.perm_append_comm) ?_
            refine j_mR _ (.refl _) ?_
            refine j_mq (qs_eql rfl rfl) ?_
            refine j_mend ?_
            skip
            refine j_ret_con (vs := [_]) (fun w' hw' => ⟨rfl, trivial⟩) ?_
            refine ⟨_, rfl, ?_, r', q', rfl, ?_, ?_, hgf, hgq⟩
            · rintro rfl
              simp
            · unfold nextF
              rw [if_neg hk1, if_neg hk2, if_neg hk3, if_neg hk4, if_pos hk]
              exact hr'
            · unfold nextF
              rw [if_neg hk1, if_neg hk2, if_neg hk3, if_neg hk4, if_pos hk]
              exact hq'
          · skip
            have hk5 : x.kind ≠ 5 := by simpa using hc13
            refine j_q (qs_eql rfl rfl) ?_
            refine j_cond rfl (fun hc14 => ?_) (fun hc14 => ?_)
            · skip
              have hk : x.kind = 6 := by simpa using hc14
              refine j_call 1 ent43 rfl rfl rfl rfl (fun w' hw' => (sync_con r a w' hok).mono (fun u S5 h5 => by
                obtain ⟨h1, r', h2, h3, h4⟩ := h5
                exact (⟨h1, r', h2, h3, h4.gf⟩ : u = .int .i64 (mayE a.fused a.left []) ∧ ∃ r' : FR, S5 = [r'.heap] ∧ r'.Ok (if mayE a.fused a.left [] = 0 then syncF a else a) ∧ r'.gf = r.gf))) (fun u S5 h5 => ?_)
              obtain ⟨rfl, r', rfl, hr', hgf⟩ := h5
              refine j_subl (S' := [r'.heap, [(g0, .cells (encS x).toArray 34 (0, 0))], q.heap]) (by repeat first | exact slR _ | exact slN _ | apply slC | apply slD) ?_
              refine j_call 2 ent44 rfl rfl rfl rfl (fun w' hw' => rsync_con q b w' hq) (fun u S5 h5 => ?_)
              obtain ⟨rfl, q', rfl, hq', hgq⟩ := h5
              refine j_subl (S' := [q'.heap, r'.heap]) (by repeat first | exact slR _ | exact slN _ | apply slC | apply slD) ?_
              refine j_perm (S' := [r'.heap, q'.heap]) (by simp only [List.flatten_cons, List.flatten_nil, List.append_nil]; exact List.perm_append_comm) ?_
              refine j_q (qs_eql rfl rfl) ?_
              skip
              refine j_ret_con (vs := [_]) (fun w' hw' => ⟨rfl, trivial⟩) ?_
              refine ⟨_, rfl, ?_, r', q', rfl, ?_, ?_, hgf, hgq⟩
              · rintro rfl
                simp
              · unfold nextF
                rw [if_neg hk1, if_neg hk2, if_neg hk3, if_neg hk4, if_neg hk5, if_pos hk]
                exact hr'
              · unfold nextF
                rw [if_neg hk1, if_neg hk2, if_neg hk3, if_neg hk4, if_neg hk5, if_pos hk]
                exact hq'
            · skip
              have hk6 : x.kind ≠ 6 := by simpa using hc14
              refine j_q (qs_eql rfl rfl) ?_
              refine j_cond rfl (fun hc15 => ?_) (fun hc15 => ?_)
              · skip
                have hk : x.kind = 7 := by simpa using hc15
                refine j_q (qs_field Tryz.underlying34 rfl sz3 (by decide) rfl) ?_
                refine j_q (qs_load (l := encS x) 0 Tryz.underlying3 rfl rfl rfl rfl) ?_
                refine j_call 1 ent11 rfl rfl rfl rfl (fun w' hw' => (crash_con r a x.n w' hok).mono (fun u S5 h5 => by
                  obtain ⟨r', h2, h3, h4⟩ := h5
                  exact (⟨r', h2, h3, h4.gf⟩ : ∃ r' : FR, S5 = [r'.heap] ∧ r'.Ok (crashF a x.n) ∧ r'.gf = r.gf))) (fun u S5 h5 => ?_)
                obtain ⟨r', rfl, hr', hgf⟩ := h5
                refine j_subl (S' := [r'.heap, [(g0, .cells (encS x).toArray 34 (0, 0))], q.heap]) (by repeat first | exact slR _ | exact slN _ | apply slC | apply slD) ?_
                refine j_q (qs_field Tryz.underlying34 rfl sz3 (by decide) rfl) ?_
                refine j_q (qs_load (l := encS x) 1 Tryz.underlying3 rfl rfl rfl rfl) ?_
                refine j_call 2 ent45 rfl rfl rfl rfl (fun w' hw' => rcrash_con q b x.n w' hq) (fun u S5 h5 => ?_)
                obtain ⟨q', rfl, hq', hgq⟩ := h5
                refine j_subl (S' := [q'.heap, r'.heap]) (by repeat first | exact slR _ | exact slN _ | apply slC | apply slD) ?_
                refine j_perm (S' := [r'.heap, q'.heap]) (by simp only [List.flatten_cons, List.flatten_nil, List.append_nil]; exact List.perm_append_comm) ?_
                refine j_q (qs_ac) ?_
                skip
                refine j_ret_con (vs := [_]) (fun w' hw' => ⟨rfl, trivial⟩) ?_
                refine ⟨_, rfl, ?_, r', q', rfl, ?_, ?_, hgf, hgq⟩
                · rintro rfl
                  rfl
                · unfold nextF
                  rw [if_neg hk1, if_neg hk2, if_neg hk3, if_neg hk4, if_neg hk5, if_neg hk6, if_pos hk]
                  exact hr'
                · unfold nextF
                  rw [if_neg hk1, if_neg hk2, if_neg hk3, if_neg hk4, if_neg hk5, if_neg hk6, if_pos hk]
                  exact hq'
              · skip
                have hk7 : x.kind ≠ 7 := by simpa using hc15
                refine j_q (qs_eql rfl rfl) ?_
                refine j_cond rfl (fun hc16 => ?_) (fun hc16 => ?_)
                · skip
                  have hk : x.kind = 8 := by simpa using hc16
                  refine j_q (qs_field Tryz.underlying34 rfl sz3 (by decide) rfl) ?_
                  refine j_q (qs_load (l := encS x) 0 Tryz.underlying3 rfl rfl rfl rfl) ?_
                  refine j_call 1 ent46 rfl rfl rfl rfl (fun w' hw' => (fuse_con r a x.n w' hok hxn).mono (fun u S5 h5 => by
                    obtain ⟨r', h2, h3, h4⟩ := h5
                    exact (⟨r', h2, h3, h4.gf⟩ : ∃ r' : FR, S5 = [r'.heap] ∧ r'.Ok (fuseF a x.n) ∧ r'.gf = r.gf))) (fun u S5 h5 => ?_)
                  obtain ⟨r', rfl, hr', hgf⟩ := h5
                  refine j_subl (S' := [r'.heap, [(g0, .cells (encS x).toArray 34 (0, 0))], q.heap]) (by repeat first | exact slR _ | exact slN _ | apply slC | apply slD) ?_
                  refine j_q (qs_field Tryz.underlying34 rfl sz3 (by decide) rfl) ?_
                  refine j_q (qs_load (l := encS x) 1 Tryz.underlying3 rfl rfl rfl rfl) ?_
                  refine j_call 2 ent47 rfl rfl rfl rfl (fun w' hw' => rfuse_con q b x.n w' hq hxn) (fun u S5 h5 => ?_)
                  obtain ⟨q', rfl, hq', hgq⟩ := h5
                  refine j_subl (S' := [q'.heap, r'.heap]) (by repeat first | exact slR _ | exact slN _ | apply slC | apply slD) ?_
                  refine j_perm (S' := [r'.heap, q'.heap]) (by simp only [List.flatten_cons, List.flatten_nil, List.append_nil]; exact List.perm_append_comm) ?_
                  refine j_q (qs_ac) ?_
                  skip
                  refine j_ret_con (vs := [_]) (fun w' hw' => ⟨rfl, trivial⟩) ?_
                  refine ⟨_, rfl, ?_, r', q', rfl, ?_, ?_, hgf, hgq⟩
                  · rintro rfl
                    rfl
                  · unfold nextF
                    rw [if_neg hk1, if_neg hk2, if_neg hk3, if_neg hk4, if_neg hk5, if_neg hk6, if_neg hk7, if_pos hk]
                    exact hr'
                  · unfold nextF
                    rw [if_neg hk1, if_neg hk2, if_neg hk3, if_neg hk4, if_neg hk5, if_neg hk6, if_neg hk7, if_pos hk]
                    exact hq'
                · skip
                  have hk8 : x.kind ≠ 8 := by simpa using hc16
                  refine j_q (qs_field Tryz.underlying34 rfl sz9 (by decide) rfl) ?_
                  refine j_q (qs_load (l := encS x) 0 Tryz.underlying9 rfl rfl rfl rfl) ?_
                  refine j_call0 ent16 rfl rfl rfl (fun w' hw' => readRO_con r a x.a w' (in_own hw' 1 rfl) hok hsa) (fun u S5 h5 => ?_)
                  obtain ⟨v1, c1, rfl, rfl, ho1⟩ := h5
                  refine j_q (qs_ext (vs := [v1, .int .i64 (readE a.now x.a)]) rfl rfl) ?_
                  refine j_q (qs_ext (vs := [v1, .int .i64 (readE a.now x.a)]) rfl rfl) ?_
                  refine j_q (qs_field Tryz.underlying34 rfl sz9 (by decide) rfl) ?_
                  refine j_q (qs_load (l := encS x) 1 Tryz.underlying9 rfl rfl rfl rfl) ?_
                  refine j_call0 ent48 rfl rfl rfl (fun w' hw' => rread_con q b x.a w' (in_own hw' 3 rfl) hq) (fun u S5 h5 => ?_)
                  obtain ⟨v2, c2, rfl, rfl, ho2⟩ := h5
                  refine j_q (qs_ext (vs := [v2, .int .i64 (readE b.now x.a)]) rfl rfl) ?_
                  refine j_q (qs_ext (vs := [v2, .int .i64 (readE b.now x.a)]) rfl rfl) ?_
                  refine j_q (qs_call ent18 rfl rfl rfl (fun w' hw' => same_con (contA a.now x.a) (contA b.now x.a) _ _ w' (own_br ho1 1 rfl hw') (own_br ho2 0 rfl hw') (contA_le hok _))) ?_
                  refine j_g rfl (fun hb => qs_mt rfl) ?_
                  refine j_g rfl (fun hb => qs_mt rfl) ?_
                  refine j_g rfl (fun hb => qs_eql (gd_eq hb) (gd_eq hb)) ?_
                  refine j_q (qs_and rfl rfl) ?_
                  refine j_call 1 ent37 rfl rfl rfl rfl (fun w' hw' => spoilL_con (contA a.now x.a) _ _ w' ho1 (by have := contA_le hok x.a; omega)) (fun u S2 _ => ?_)
                  refine j_subl (S' := [r.heap, q.heap]) (by
                    refine List.Sublist.trans ?_ (List.sublist_append_right _ _)
                    exact (by repeat first | exact slR _ | exact slN _ | apply slC | apply slD)) ?_
                  refine j_ret_con (vs := [_]) (fun w' hw' => ⟨rfl, trivial⟩) ?_
                  refine ⟨_, rfl, ?_, r, q, rfl, ?_, ?_, rfl, rfl⟩
                  · rintro rfl
                    simp [gd]
                  · unfold nextF
                    rw [if_neg hk1, if_neg hk2, if_neg hk3, if_neg hk4, if_neg hk5, if_neg hk6, if_neg hk7, if_neg hk8]
                    exact hok
                  · unfold nextF
                    rw [if_neg hk1, if_neg hk2, if_neg hk3, if_neg hk4, if_neg hk5, if_neg hk6, if_neg hk7, if_neg hk8]
                    exact hq
end Go.Proofs.YtckpegkpdepokaaGreat
