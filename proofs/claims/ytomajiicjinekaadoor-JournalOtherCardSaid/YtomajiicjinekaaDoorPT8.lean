/- Part 8. -/
import Derived.Test.YtomajiicjinekaaDoorPT2
import Derived.Test.YtomajiicjinekaaDoorPT3
import Derived.Test.YtomajiicjinekaaDoorPT7
import Derived.Test.YtomajiicjinekaaDoorPT5
import Derived.SliceStrings
import Derived.Test.YtomajiicjinekaaDoorRows
import Derived.ProofKit
import Derived.LaidMore
import Derived.Lib.LaidTab
import Derived.Stop.LaidErr
import Derived.MakeChecks
import Derived.SevenTiedAt
import Derived.Test.YtomajiicjinekaaDoorCards
import Derived.Test.YtomajiicjinekaaDoorTie
import Derived.Carry
import Derived.SizedLaws
/-! Jn10 -/
namespace Go.Proofs.YtomajiicjinekaaDoor
open Go Go.Sx
set_option maxRecDepth 100000
set_option maxHeartbeats 4000000
set_option linter.unusedVariables false
set_option linter.unusedSimpArgs false
attribute [local irreducible] J JQ QS Con W opW
structure NR where
  v : Value
  c : SH
  L : List RR
def NR.lf (n : NR) : SH := (n.L.map RR.heap).flatten
def NR.gs (n : NR) : List (List (List UInt8)) := n.L.map RR.rs
structure NR.Ok (n : NR) : Prop where
  row : Sx.Own 39 1 (n.L.map RR.v) n.v n.c
  rr : ∀ x ∈ n.L, x.Ok
def NR.add (n : NR) (v : Value) (c : SH) (x : RR) : NR := ⟨v, c, n.L ++ [x]⟩
theorem NR.add_gs (n : NR) {v : Value} {c : SH} {x : RR} : (n.add v c x).gs = n.gs ++ [x.rs] := by
  unfold NR.gs NR.add
  rw [List.map_append]
  rfl
theorem NR.add_lf (n : NR) {v : Value} {c : SH} {x : RR} : (n.add v c x).lf = n.lf ++ x.heap := by
  unfold NR.lf NR.add
  rw [List.map_append, List.flatten_append, List.map_singleton, List.flatten_singleton]
theorem NR.Ok.add {n : NR} (h : n.Ok) {v : Value} {c : SH} {x : RR} (hv : Sx.Own 39 1 ((n.L.map RR.v) ++ [x.v]) v c) (hx : x.Ok) : (n.add v c x).Ok := by
  refine ⟨?_, fun t ht => ?_⟩
  · unfold NR.add
    rw [List.map_append]
    exact hv
  · rcases List.mem_append.1 ht with ht | ht
    · exact h.rr t ht
    · rw [List.mem_singleton.1 ht]
      exact hx
theorem nr0 : NR.Ok ⟨nilS, [], []⟩ := ⟨own_nil, fun t ht => by cases ht⟩
theorem own_cellsI {e : TypeId} {xs : List Value} {g n cap : Nat} {c : SH} {w : World} (h : Sx.Own e 1 xs (.slice (some ⟨g, 0, none⟩) n cap) c) (hin : In w c) : Cells w ⟨g, 0, none⟩ xs := by
  obtain ⟨rest, fz, rfl, h1, h2, h3, h4⟩ := own_row h
  intro j u hu
  rw [add_off, Nat.zero_add, cell_of (hin _ (List.mem_singleton.2 rfl))]
  show (xs ++ rest)[j]? = some u
  rw [List.getElem?_append_left (List.getElem?_eq_some_iff.1 hu).1]
  exact hu
theorem GS.Ok.form {s : GS} (h : s.Ok) : ∃ A cap, s.v = .slice A s.G.length cap ∧ (0 < s.G.length → ∃ g, A = some ⟨g, 0, none⟩) := by
  rcases h.row with ⟨h1, h2, h3⟩ | ⟨g, n, cap, rest, fz, h1, h2, h3, h4, h5, h6⟩
  · have : s.G = [] := by simpa using h2
    exact ⟨none, 0, by rw [h1, this]; rfl, fun hp => by rw [this] at hp; simp at hp⟩
  · rw [List.length_map, Nat.mul_one] at h3
    exact ⟨_, cap, by rw [h1, h3], fun _ => ⟨g, rfl⟩⟩
theorem GS.in_get {s : GS} {w : World} (h : In w s.heap) {x : GR} (hx : x ∈ s.G) : In w x.heap := fun q hq => h q (List.mem_append_right _ (List.mem_flatten.2 ⟨_, List.mem_map.2 ⟨x, hx, rfl⟩, hq⟩))
theorem JM.in_s {j : JM} {w : World} (h : In w j.heap) : In w j.s.heap := fun q hq => h q (List.mem_cons_of_mem _ (List.mem_cons_of_mem _ (List.mem_append_left _ hq)))
theorem JM.in_j {j : JM} {w : World} (h : In w j.heap) : w.heap[j.gj]? = some j.obj := h (j.gj, j.obj) (List.mem_cons_self ..)
theorem notin0 (g : Nat) : g ∉ dom [] := by simp [dom]
attribute [local irreducible] sum gsE headE fileN contA readE
theorem open_con (r : FR) (a : AF) (name : List UInt8) (age : Nat) (gs : List (List (List UInt8))) (w : World) (hin : In w r.heap) (hok : r.Ok a) (hj : JS name age gs a.now) (hl : limG gs) (hag : age < 10000) (hnl : name.length ≤ 100) (hn1 : 1 ≤ name.length) (hP : P10 w) : Con Tryd.prog 7 [r.ptr, .string (bs name)] w [] fun u S' => ∃ j : JM, u = .tuple #[j.ptr, .int .i64 0] ∧ S' = [j.heap] ∧ j.Ok ⟨name, age, gs, [], false⟩ ∧ j.fp = r.ptr := by
  refine con_of_tree mix Tryd.func7 T7_ok (by kernel_rfl) ?_
  unfold T7
  refine j_q (qs_ac) ?_
  refine j_q (qs_ac) ?_
  refine j_q (qs_pnil Tryd.underlying23 rfl) ?_
  refine j_gt rfl (qs_mt rfl) ?_
  refine j_gt rfl (qs_lens Tryd.underlying9 rfl) ?_
  refine j_gt rfl (qs_lss rfl rfl) ?_
  rw [decide_eq_false (show ¬ ((name.length : Nat) : Int) < 1 by omega)]
  refine j_q (qs_or rfl rfl) ?_
  refine j_gt rfl (qs_mt rfl) ?_
  refine j_gt rfl (qs_lens Tryd.underlying9 rfl) ?_
  refine j_gt rfl (qs_gtr rfl rfl) ?_
  rw [decide_eq_false (show ¬ ((name.length : Nat) : Int) > 100 by omega)]
  refine j_q (qs_or rfl rfl) ?_
  refine j_cond rfl (fun hc0 => ?_) (fun hc0 => ?_)
  · skip
    simp at hc0
  · skip
    refine j_call0 ent26 rfl rfl rfl (fun w' hw' => within_con r a name age gs w' (in_keep0 hin hw') hok hj hl hag (by omega) (hP.keep hw' (by simp))) (fun u S2 hu => ?_)
    obtain ⟨j, rfl, rfl, hjo, hjf⟩ := hu
    refine j_q (qs_ext rfl rfl) ?_
    refine j_q (qs_ext rfl rfl) ?_
    refine j_subl (S' := [j.heap]) (by repeat first | exact slR _ | exact slN _ | apply slC | apply slD) ?_
    refine j_ret_con (vs := [_, _]) (fun w' hw' => ⟨rfl, rfl, trivial⟩) ?_
    exact ⟨j, rfl, rfl, hjo, hjf⟩
theorem jgroups_con (j : JM) (a : JA) (w : World) (hin : In w j.heap) (hok : j.Ok a) (hl : limG a.gs) : Con Tryd.prog 8 [j.ptr] w [] fun u S' => ∃ n : NR, u = n.v ∧ S' = [n.c, n.lf] ∧ n.Ok ∧ n.gs = a.gs := by
  refine con_of_tree mix Tryd.func8 T8_ok (by kernel_rfl) ?_
  unfold T8
  obtain ⟨A, cap, hv, hA⟩ := hok.s.form
  have hgj : w.heap[j.gj]? = some (.cells j.jl.toArray 71 (0, 0)) := JM.in_j hin
  have hds := notin0
  have hl1 := hl.1
  have hgl : j.s.G.length = a.gs.length := by
    rw [← hok.gs]
    exact (List.length_map _).symm
  refine j_q (qs_ac) ?_
  refine j_q (qs_pnil Tryd.underlying29 rfl) ?_
  refine j_cond rfl (fun hc0 => ?_) (fun hc0 => ?_)
  · skip
    simp at hc0
  · skip
    refine j_q (qs_ac) ?_
    refine j_q (qs_nil rfl) ?_
    refine j_q (qs_field Tryd.underlying71 rfl sz65 (by decide) rfl) ?_
    refine j_q (qs_loadO (rdo_base hgj (hds _)) Tryd.underlying65 rfl rfl rfl) ?_
    rw [hv]
    refine j_perm (S' := [[], []]) (by simp) ?_
    refine j_q (qs_lenl Tryd.underlying65 rfl) ?_
    refine j_q (qs_mc) ?_
    refine j_loop (fun m vs S' => ∃ (i : Nat) (n : NR), vs = [n.v, .int .i64 (i : Int)] ∧ S' = [n.c, n.lf] ∧ n.Ok ∧ n.gs = j.s.gs.take i ∧ i ≤ j.s.G.length ∧ m = j.s.G.length - i) ⟨_, 0, ⟨nilS, [], []⟩, rfl, rfl, nr0, rfl, Nat.zero_le _, rfl⟩ ?_
    rintro m vs S' hlen ⟨i, n, rfl, rfl, hno, hng, hin2, rfl⟩
    refine j_q (qs_lss rfl rfl) ?_
    refine j_cond rfl (fun hc1 => ?_) (fun hc1 => ?_)
    · skip
      have hi : i < j.s.G.length := by
        simp only [bnA] at *
        omega
      obtain ⟨g0, hg0⟩ := hA (by omega)
      have hrow := hok.s.row
      rw [hv, hg0] at hrow
      have hsin := JM.in_s hin
      have hcl := own_cellsI hrow (fun q hq => hsin q (List.mem_append_left _ hq))
      obtain ⟨x, hx⟩ : ∃ x, x = j.s.G[i] := ⟨_, rfl⟩
      have hxm : x ∈ j.s.G := by rw [hx]; exact List.getElem_mem hi
      have hxh := GS.in_get hsin hxm
      have hxg : w.heap[x.g]? = some (.cells (x.r.v :: x.o).toArray 80 (0, 0)) := hxh (x.g, _) (List.mem_cons_self ..)
      have hxo := hok.s.rr x hxm
      obtain ⟨Ax, capx, hxv, hAx⟩ := hxo.form
      have hxlf : In w x.r.lf := fun q hq => hxh q (List.mem_cons_of_mem _ (List.mem_append_right _ hq))
      have hxc : In w x.r.c := fun q hq => hxh q (List.mem_cons_of_mem _ (List.mem_append_left _ hq))
      have hxl : limR x.r.rs := by
        refine hl.2 _ ?_
        rw [← hok.gs]
        exact List.mem_map.2 ⟨x, hxm, rfl⟩
      have hxn : x.r.rs.length = x.r.L.length := List.length_map _
      have hxl1 := hxl.1
      refine j_q (qs_ixl0 (a := ⟨g0, 0, none⟩) (n := j.s.G.length) (c := cap) Tryd.underlying65 sz66 (by show Value.slice A _ _ = _; rw [hg0]) rfl (by omega)) ?_
      refine j_q (qs_loadR (v := .pointer (some ⟨x.g, 0, none⟩)) (a := ⟨g0, 0, none⟩) (i := i) (rd_cells hcl (by simp)) Tryd.underlying66 rfl (by show Value.pointer (some (Addr.add ⟨g0, 0, none⟩ (i : Int).toNat)) = _; rw [Int.toNat_natCast]) (by rw [List.getElem?_map, List.getElem?_eq_getElem hi, hx]; rfl)) ?_
      refine j_q (qs_ac) ?_
      refine j_q (qs_nil rfl) ?_
      refine j_q (qs_field Tryd.underlying80 rfl sz39 (by decide) rfl) ?_
      refine j_q (qs_loadO (rdo_base hxg (hds _)) Tryd.underlying39 rfl rfl rfl) ?_
      rw [hxv]
      refine j_perm (S' := [n.c, n.lf, [], []]) (by simp) ?_
      refine j_q (qs_lenl Tryd.underlying39 rfl) ?_
      refine j_q (qs_mc) ?_
      refine j_loop (fun m vs S' => ∃ (k : Nat) (r : RR), vs = [r.v, .int .i64 (k : Int)] ∧ S' = [n.c, n.lf, r.c, r.lf] ∧ r.Ok ∧ r.rs = x.r.rs.take k ∧ k ≤ x.r.L.length ∧ m = x.r.L.length - k) ⟨_, 0, ⟨nilS, [], []⟩, rfl, rfl, rr0, rfl, Nat.zero_le _, rfl⟩ ?_
      rintro m vs S' hlen ⟨k, r, rfl, rfl, hro, hrs, hkn, rfl⟩
      refine j_q (qs_lss rfl rfl) ?_
      refine j_cond rfl (fun hc2 => ?_) (fun hc2 => ?_)
      · skip
        have hk : k < x.r.L.length := by
          simp only [bnA] at *
          omega
        obtain ⟨g1, hg1⟩ := hAx (by omega)
        have hrowx := hxo.row
        rw [hxv, hg1] at hrowx
        have hclx := own_cellsI hrowx hxc
        obtain ⟨t, ht⟩ : ∃ t, t = x.r.L[k] := ⟨_, rfl⟩
        have htm : t ∈ x.r.L := by rw [ht]; exact List.getElem_mem hk
        have htx : x.r.L[k]? = some t := by rw [ht]; exact List.getElem?_eq_getElem hk
        have htl : t.1.length ≤ 12000 := Nat.le_trans (sizeR_get (rs := x.r.rs) (List.mem_map.2 ⟨t, htm, rfl⟩)) hxl.2
        have hrl : r.L.length = k := by
          have h8 : r.rs.length = r.L.length := List.length_map _
          rw [← h8, hrs, List.length_take]
          omega
        refine j_q (qs_ixl0 (a := ⟨g1, 0, none⟩) (n := x.r.L.length) (c := capx) Tryd.underlying39 sz22 (by show Value.slice Ax _ _ = _; rw [hg1]) rfl (by omega)) ?_
        refine j_q (qs_loadR (v := t.2.1) (a := ⟨g1, 0, none⟩) (i := k) (rd_cells hclx (by simp)) Tryd.underlying22 rfl (by show Value.pointer (some (Addr.add ⟨g1, 0, none⟩ (k : Int).toNat)) = _; rw [Int.toNat_natCast]) (by rw [List.getElem?_map, htx]; rfl)) ?_
        refine j_call0 ent18 rfl rfl rfl (fun w' hw' => cloneO_con t.2.1 t.1 w' (br0 (hxo.br hxlf htm) hw') (by omega)) (fun u S2 hu => ?_)
        obtain ⟨c21, rfl, ho21⟩ := hu
        obtain ⟨n21, A21, cap21, rfl, hn21⟩ := own_form ho21 (by decide)
        refine j_lit (vs := [.slice A21 n21 cap21]) Tryd.underlying39 sz22 zero22 rfl (by simp [oneV]) ⟨rfl, by decide⟩ (fun g22 v22 c22 hv22 hc22 ho22 => ?_)
        subst hv22 hc22
        refine j_append 4 Tryd.underlying39 Tryd.underlying39 (.inr ⟨_, rfl⟩) sb22 zero22 rfl hro.row rfl (.inl ⟨_, _, rfl, rd_own (off := 0) (n := 1) 0 rfl rfl, rfl⟩) (by simp [oneV]) ⟨(by simp only [List.length_map]; simp; omega), (by decide)⟩ (fun v23 c23 ho23 => ?_)
        refine j_q (qs_add64 rfl rfl (by omega)) ?_
        refine j_subl (S' := [c21, n.c, n.lf, c23, r.lf]) (by repeat first | exact slR _ | exact slN _ | apply slC | apply slD) ?_
        refine j_perm (S' := [n.c, n.lf, c23, r.lf ++ c21]) (by
          classical
          refine List.perm_iff_count.2 fun x => ?_
          simp only [RR.heap, List.set, List.flatten_cons, List.flatten_nil, List.append_nil, List.nil_append, List.cons_append, List.count_append, List.count_cons, List.count_nil]
          omega) ?_
        refine j_back rfl ?_
        refine ⟨_, by omega, k + 1, r.add _ c23 t.1 (.slice A21 n21 cap21) c21, rfl, ?_, hro.add ho23 ho21, ?_, by omega, rfl⟩
        · rw [RR.add_lf]
          rfl
        · rw [RR.add_rs, hrs, List.take_add_one]
          unfold RR.rs
          rw [List.getElem?_map, htx]
          rfl
      · skip
        have hk : k = x.r.L.length := by
          simp only [bnA] at *
          omega
        have hnl : n.L.length = i := by
          have h8 : n.gs.length = n.L.length := List.length_map _
          rw [← h8, hng, List.length_take]
          have h9 : j.s.gs.length = j.s.G.length := List.length_map _
          omega
        obtain ⟨Ar, capr, hrv, _⟩ := hro.form
        rw [hrv]
        refine j_lit (vs := [.slice Ar r.L.length capr]) Tryd.underlying32 sz39 zero39 rfl (by simp [oneV]) ⟨rfl, by decide⟩ (fun g25 v25 c25 hv25 hc25 ho25 => ?_)
        subst hv25 hc25
        refine j_append 1 Tryd.underlying32 Tryd.underlying32 (.inr ⟨_, rfl⟩) sb39 zero39 rfl hno.row rfl (.inl ⟨_, _, rfl, rd_own (off := 0) (n := 1) 0 rfl rfl, rfl⟩) (by simp [oneV]) ⟨(by simp only [List.length_map]; simp; omega), (by decide)⟩ (fun v26 c26 ho26 => ?_)
        refine j_q (qs_add64 rfl rfl (by omega)) ?_
        refine j_subl (S' := [c26, n.lf, r.c, r.lf]) (by repeat first | exact slR _ | exact slN _ | apply slC | apply slD) ?_
        refine j_perm (S' := [c26, n.lf ++ r.heap]) (by simp [RR.heap]) ?_
        refine j_back rfl ?_
        refine ⟨_, by omega, i + 1, n.add _ c26 r, rfl, ?_, hno.add (by rw [hrv]; exact ho26) hro, ?_, by omega, rfl⟩
        · rw [NR.add_lf]
          rfl
        · rw [NR.add_gs, hng, List.take_add_one]
          unfold GS.gs
          rw [List.getElem?_map, List.getElem?_eq_getElem hi, hrs, hk, ← hxn, List.take_length, hx]
          rfl
    · skip
      have hi : i = j.s.G.length := by
        simp only [bnA] at *
        omega
      refine j_ret_con (vs := [_]) (fun w' hw' => ⟨rfl, trivial⟩) ?_
      refine ⟨n, rfl, rfl, hno, ?_⟩
      rw [hng, hi, ← hok.gs]
      have h9 : j.s.gs.length = j.s.G.length := List.length_map _
      rw [← h9, List.take_length]
end Go.Proofs.YtomajiicjinekaaDoor
/-! Jn11 -/
namespace Go.Proofs.YtomajiicjinekaaDoor
open Go Go.Sx
set_option maxRecDepth 100000
set_option maxHeartbeats 4000000
set_option linter.unusedVariables false
set_option linter.unusedSimpArgs false
attribute [local irreducible] J JQ QS Con W opW
def burnt (f : AF) : Bool := f.fused && decide (f.left = 0)
def comT (a : JA) (id : Nat) : AT := if a.gs = [] then .wr (fileN a.name a.age 0) (grpE a.down) id else .ap (fileN a.name a.age 0) (grpE a.down)
def comE (a : JA) (f : AF) (id : Nat) : Int := if a.dead then 26 else if a.down = [] then 0 else if burnt f then 26 else if burnt (stepF f (comT a id)) then 26 else 0
def comJ (a : JA) (f : AF) (id : Nat) : JA := if a.dead then a else if a.down = [] then a else if burnt f then { a with dead := true } else if burnt (stepF f (comT a id)) then { a with dead := true } else { a with gs := a.gs ++ [a.down], down := [] }
def comA (a : JA) (f : AF) (id : Nat) : AF := if a.dead then f else if a.down = [] then f else if burnt f then f else if burnt (stepF f (comT a id)) then stepF f (comT a id) else syncF (stepF f (comT a id))
theorem mayE_b (f : AF) {ns : List (List UInt8)} (h : ns.all nameOk = true) : mayE f.fused f.left ns = if burnt f then 26 else 0 := by
  unfold mayE burnt
  rw [h]
  simp
theorem sep_chunks {S : List SH} (hn : (dom S.flatten).Nodup) {k m g : Nat} {c H : SH} (hk : S[k]? = some c) (hm : S[m]? = some H) (hkm : k ≠ m) (h1 : g ∈ dom c) (h2 : g ∈ dom H) : False := by
  unfold dom at hn
  rw [List.map_flatten] at hn
  have h3 := (List.pairwise_flatten.1 hn).2
  have hk' : (S.map (List.map Prod.fst))[k]? = some (dom c) := by rw [List.getElem?_map, hk]; rfl
  have hm' : (S.map (List.map Prod.fst))[m]? = some (dom H) := by rw [List.getElem?_map, hm]; rfl
  obtain ⟨hkl, hk2⟩ := List.getElem?_eq_some_iff.1 hk'
  obtain ⟨hml, hm2⟩ := List.getElem?_eq_some_iff.1 hm'
  rcases Nat.lt_or_gt_of_ne hkm with h | h
  · have := List.pairwise_iff_getElem.1 h3 k m hkl hml h
    rw [hk2, hm2] at this
    exact this g h1 g h2 rfl
  · have := List.pairwise_iff_getElem.1 h3 m k hml hkl h
    rw [hk2, hm2] at this
    exact this g h2 g h1 rfl
theorem sep_own {b : Base} {S : List SH} {w : World} {v : Value} {c H : SH} {xs : List UInt8} (ho : Sx.Own 5 1 (ints xs) v c) {k m : Nat} (hk : S[k]? = some c) (hm : S[m]? = some H) (hkm : k ≠ m) (hw : Sig b S w) : ∀ (a : Addr) (n cp : Nat), v = .slice (some a) n cp → 0 < n → a.block ∉ dom H := fun a n cp e hn hd => by
  rcases ho with ⟨h1, _⟩ | ⟨g, n', cap, rest, fz, h1, rfl, _⟩
  · rw [h1] at e
    cases e
  · rw [h1] at e
    injection e with e1 e2 e3
    injection e1 with e1
    rw [← e1] at hd
    exact sep_chunks hw.nodup hk hm hkm (List.mem_singleton.2 rfl) hd
theorem wrE_val {f : AF} {n xs : List UInt8} (hn : nameOk n = true) (hx : xs.length ≤ 1048576) (hf : ¬ fullA f n xs) : wrE f n xs = if burnt f then 26 else 0 := by
  unfold wrE
  rw [mayE_b f (by simp [hn])]
  cases hb : burnt f
  · rw [show (if false = true then (26 : Int) else 0) = 0 from rfl, if_neg (show ¬ ((0 : Int) ≠ 0) by simp), if_neg (show ¬ 1048576 < xs.length by omega), if_neg hf]
  · rw [show (if true = true then (26 : Int) else 0) = 26 from rfl, if_pos (show ((26 : Int) ≠ 0) by decide)]
theorem appE_val {f : AF} {n xs : List UInt8} (hn : nameOk n = true) (ha : alook f.now.nm n ≠ none) (hx : sizeA f.now n + xs.length ≤ 1048576) (hr : f.now.used + (xs.length : Int) ≤ f.room) : appE f n xs = if burnt f then 26 else 0 := by
  unfold appE
  rw [mayE_b f (by simp [hn])]
  cases hb : burnt f
  · rw [show (if false = true then (26 : Int) else 0) = 0 from rfl, if_neg (show ¬ ((0 : Int) ≠ 0) by simp), if_neg ha, if_neg (show ¬ 1048576 < sizeA f.now n + xs.length by omega), if_neg (show ¬ f.room < f.now.used + (xs.length : Int) by omega)]
  · rw [show (if true = true then (26 : Int) else 0) = 26 from rfl, if_pos (show ((26 : Int) ≠ 0) by decide)]
theorem sizeA_cont (s : AS) (n : List UInt8) : sizeA s n = (contA s n).length := by
  unfold sizeA contA
  cases alook s.nm n with
  | none => rfl
  | some i => rfl
theorem nameOk_file {name : List UInt8} {age : Nat} (h1 : name.length ≤ 100) (h2 : age < 10000) : nameOk (fileN name age 0) = true := by
  have h4 := dec_len h2
  have h5 := dec_len (show 0 < 10000 by omega)
  have h6 : (fileN name age 0).length = name.length + 1 + (dec age).length + 1 + (dec 0).length := by
    unfold fileN
    simp only [List.length_append, List.length_cons, List.length_nil]
  unfold nameOk
  rw [decide_eq_true (by omega), decide_eq_true (by omega)]
  rfl
theorem jmet_con (gj : Nat) (l : List Value) (n : Int) (w : World) (hl : l[8]? = some (.int .u32 n)) : Con Tryd.prog 31 [.pointer (some ⟨gj, 0, none⟩), .int .i64 26] w [(gj, .cells l.toArray 71 (0, 0))] fun u S' => u = .int .i64 26 ∧ S' = [[(gj, .cells (l.set 8 (.int .u32 1)).toArray 71 (0, 0))]] := by
  refine con_of_tree mix Tryd.func31 T31_ok (by kernel_rfl) ?_
  unfold T31
  refine j_q (qs_ac) ?_
  refine j_q (qs_neq rfl rfl) ?_
  rw [show ((26 : Int) != 0) = true from rfl]
  refine j_gt rfl (qs_mt rfl) ?_
  refine j_gt rfl (qs_neq rfl rfl) ?_
  rw [show ((26 : Int) != 6) = true from rfl]
  refine j_q (qs_and rfl rfl) ?_
  refine j_cond rfl (fun hc0 => ?_) (fun hc0 => ?_)
  · skip
    refine j_q (qs_nil rfl) ?_
    refine j_q (qs_field Tryd.underlying71 rfl sz69 (by decide) rfl) ?_
    refine j_call 0 ent49 rfl rfl rfl rfl (fun w' hw' => bstore_con gj 8 l 71 n w' hl) (fun u S2 hu => ?_)
    obtain ⟨rfl, rfl⟩ := hu
    refine j_subl (S' := [[(gj, .cells (l.set 8 (.int .u32 1)).toArray 71 (0, 0))]]) (by repeat first | exact slR _ | exact slN _ | apply slC | apply slD) ?_
    refine j_ret_con (vs := [_]) (fun w' hw' => ⟨rfl, trivial⟩) ?_
    exact ⟨rfl, rfl⟩
  · skip
    simp at hc0
end Go.Proofs.YtomajiicjinekaaDoor
/-! Jn12 -/
namespace Go.Proofs.YtomajiicjinekaaDoor
open Go Go.Sx
set_option maxRecDepth 100000
set_option maxHeartbeats 4000000
set_option linter.unusedVariables false
set_option linter.unusedSimpArgs false
attribute [local irreducible] J JQ QS Con W opW
structure ComOk (a : JA) (f : AF) (id : Nat) : Prop where
  js : JS a.name a.age a.gs f.now
  ln : a.gs.length ≤ 99
  lg : ∀ g ∈ a.gs, limR g
  dn : limR a.down
  sz : sizeG a.gs ≤ 500000
  by_ : (gsE a.gs).length + (grpE a.down).length ≤ 1048576
  rm : f.room ≤ 1073741824
  us : 0 ≤ f.now.used ∧ f.now.used + ((grpE a.down).length : Int) ≤ f.room
  nm : f.now.nm.length < 16384
  pd : f.pend.length < 16000
  id : ∀ q ∈ f.now.nm, q.2 ≠ id
  ag : a.age < 10000
  nl : a.name.length ≤ 100
theorem com1 {a : JA} {f : AF} {id : Nat} (hd : a.dead = false) (hdn : a.down ≠ []) (hb : burnt f = true) : comE a f id = 26 ∧ comJ a f id = { a with dead := true } ∧ comA a f id = f := by
  unfold comE comJ comA
  rw [hd, hb]
  simp [hdn]
theorem com2 {a : JA} {f : AF} {id : Nat} (hd : a.dead = false) (hdn : a.down ≠ []) (hb : burnt f = false) (hb2 : burnt (stepF f (comT a id)) = true) : comE a f id = 26 ∧ comJ a f id = { a with dead := true } ∧ comA a f id = stepF f (comT a id) := by
  unfold comE comJ comA
  rw [hd, hb, hb2]
  simp [hdn]
theorem com3 {a : JA} {f : AF} {id : Nat} (hd : a.dead = false) (hdn : a.down ≠ []) (hb : burnt f = false) (hb2 : burnt (stepF f (comT a id)) = false) : comE a f id = 0 ∧ comJ a f id = { a with gs := a.gs ++ [a.down], down := [] } ∧ comA a f id = syncF (stepF f (comT a id)) := by
  unfold comE comJ comA
  rw [hd, hb, hb2]
  simp [hdn]
theorem fillE_nil {gs : List (List (List UInt8))} (h : gs = []) : fillE gs = -1 := by rw [fillE, if_pos h]
theorem fillE_cons {gs : List (List (List UInt8))} (h : gs ≠ []) : fillE gs = ((gsE gs).length : Int) := by rw [fillE, if_neg h]
theorem perm_c7 (j : JM) (r : FR) : (j.heap ++ r.heap).Perm ([[(j.gj, j.obj)], [(j.lg, j.lobj)], j.s.c, j.s.gl, j.laid.c, j.laid.lf, r.heap] : List SH).flatten := by
  classical
  refine List.perm_iff_count.2 fun x => ?_
  simp only [RR.heap, GS.heap, JM.heap, List.flatten_cons, List.flatten_nil, List.append_nil, List.nil_append, List.cons_append, List.count_append, List.count_cons, List.count_nil]
  omega
theorem notFull {a : JA} {f : AF} {id : Nat} (h : ComOk a f id) (hg : a.gs = []) : ¬ fullA f (fileN a.name a.age 0) (grpE a.down) := by
  have hno : alook f.now.nm (fileN a.name a.age 0) = none := by
    rcases h.js.f0 with ⟨_, h2⟩ | ⟨h2, _⟩
    · exact h2
    · exact absurd hg h2
  have hu := h.us
  have hn := h.nm
  unfold fullA
  rintro (⟨_, h2⟩ | h2)
  · omega
  · have : (0 : Int) ≤ (freesA f.now (fileN a.name a.age 0) : Int) := Int.natCast_nonneg _
    have h3 : freesA f.now (fileN a.name a.age 0) = 0 := by
      unfold freesA
      rw [hno]
    rw [h3] at h2
    omega
theorem writeG_con (r : FR) (a : AF) (n : List UInt8) (bv : Value) (xs : List UInt8) (id : Nat) (w : World) (hok : r.Ok a) (hn : strOk n) (hbr : BR w bv xs) (hbd : ∀ (a : Addr) (m c : Nat), bv = .slice (some a) m c → 0 < m → a.block ∉ dom r.heap) (hxl : xs.length ≤ 1000000000) (hB : a.pend.length < 16384) (hrm : a.room ≤ 1073741824) (hid : ∀ q ∈ a.now.nm, q.2 ≠ id) : Con Tryd.prog 5 [r.ptr, .string (bs n), bv] w r.heap fun v S' => v = .int .i64 (wrE a n xs) ∧ ∃ r' : FR, S' = [r'.heap] ∧ r'.Ok (if wrE a n xs = 0 then stepF a (.wr n xs id) else a) ∧ r'.gf = r.gf :=
  (write_con' r a n bv xs id w hok hn hbr hbd hxl hB hrm hid).mono fun u S' hu => by
    obtain ⟨h1, r', h2, h3, h4⟩ := hu
    exact ⟨h1, r', h2, h3, h4.gf⟩
theorem appendG_con (r : FR) (a : AF) (n : List UInt8) (bv : Value) (xs : List UInt8) (w : World) (hok : r.Ok a) (hB : a.pend.length < 16384) (hn : strOk n) (hbr : BR w bv xs) (hbd : ∀ (a : Addr) (m c : Nat), bv = .slice (some a) m c → 0 < m → a.block ∉ dom r.heap) (hxl : xs.length ≤ 1000000000) (hrm : a.room ≤ 1073741824) : Con Tryd.prog 30 [r.ptr, .string (bs n), bv] w r.heap fun v S' => v = .int .i64 (appE a n xs) ∧ ∃ r' : FR, S' = [r'.heap] ∧ r'.Ok (if appE a n xs = 0 then stepF a (.ap n xs) else a) ∧ r'.gf = r.gf :=
  (appendR_con r a n bv xs w hok hB hn hbr hbd hxl hrm).mono fun u S' hu => by
    obtain ⟨h1, r', h2, h3, h4⟩ := hu
    exact ⟨h1, r', h2, h3, h4.gf⟩
theorem syncG_con (r : FR) (a : AF) (w : World) (hok : r.Ok a) : Con Tryd.prog 6 [r.ptr] w r.heap fun v S' => v = .int .i64 (mayE a.fused a.left []) ∧ ∃ r' : FR, S' = [r'.heap] ∧ r'.Ok (if mayE a.fused a.left [] = 0 then syncF a else a) ∧ r'.gf = r.gf :=
  (sync_con r a w hok).mono fun u S' hu => by
    obtain ⟨h1, r', h2, h3, h4⟩ := hu
    exact ⟨h1, r', h2, h3, h4.gf⟩
theorem gsE_nil : gsE [] = [] := rfl
theorem gsE_snoc (gs : List (List (List UInt8))) (g : List (List UInt8)) : gsE (gs ++ [g]) = gsE gs ++ grpE g := by
  unfold gsE
  rw [List.map_append, List.flatten_append, List.map_singleton, List.flatten_singleton]
theorem sizeG_snoc (gs : List (List (List UInt8))) (g : List (List UInt8)) : sizeG (gs ++ [g]) = sizeG gs + sizeR g := by
  unfold sizeG
  rw [List.map_append, List.sum_append]
  simp
theorem jm_fin (j : JM) (r : FR) : ([[(j.gj, j.obj)], [(j.lg, j.lobj)], j.s.c, j.s.gl, r.heap, j.laid.c, j.laid.lf] : List SH).flatten.Perm [j.heap, r.heap].flatten := by
  classical
  refine List.perm_iff_count.2 fun x => ?_
  simp only [RR.heap, GS.heap, JM.heap, List.flatten_cons, List.flatten_nil, List.append_nil, List.nil_append, List.cons_append, List.count_append, List.count_cons, List.count_nil]
  omega
theorem jm_com (j : JM) (r : FR) {fl : Int} {v bv : Value} {c : SH} {g82 g31 : Nat} : ([[(g82, gobj nilS 0 0 0 0 nilS)], [(j.gj, .cells (jl j.fp j.name j.age 0 fl v (((sizeG j.s.gs : Nat) : Int) + ((sizeR j.laid.rs : Nat) : Int)) g82 j.dead).toArray 71 (0, 0))], c, j.s.gl, r.heap, [(g31, gobj j.laid.v ((sizeR j.laid.rs : Nat) : Int) 1 0 0 bv)], j.laid.c, j.laid.lf] : List SH).flatten.Perm [JM.heap ⟨j.gj, g82, j.fp, j.name, j.age, fl, j.s.add v c ⟨g31, j.laid, [.int .i64 ((sizeR j.laid.rs : Nat) : Int), .int .u32 1, .int .i32 0, .int .u32 0, bv]⟩, ⟨nilS, [], []⟩, j.dead⟩, r.heap].flatten := by
  have e1 : JM.obj ⟨j.gj, g82, j.fp, j.name, j.age, fl, j.s.add v c ⟨g31, j.laid, [.int .i64 ((sizeR j.laid.rs : Nat) : Int), .int .u32 1, .int .i32 0, .int .u32 0, bv]⟩, ⟨nilS, [], []⟩, j.dead⟩ = .cells (jl j.fp j.name j.age 0 fl v (((sizeG j.s.gs : Nat) : Int) + ((sizeR j.laid.rs : Nat) : Int)) g82 j.dead).toArray 71 (0, 0) := by
    unfold JM.obj
    simp only
    rw [GS.add_gs, sizeG_snoc, Int.natCast_add]
    rfl
  have e2 : JM.lobj ⟨j.gj, g82, j.fp, j.name, j.age, fl, j.s.add v c ⟨g31, j.laid, [.int .i64 ((sizeR j.laid.rs : Nat) : Int), .int .u32 1, .int .i32 0, .int .u32 0, bv]⟩, ⟨nilS, [], []⟩, j.dead⟩ = gobj nilS 0 0 0 0 nilS := rfl
  have e3 : GS.heap (j.s.add v c ⟨g31, j.laid, [.int .i64 ((sizeR j.laid.rs : Nat) : Int), .int .u32 1, .int .i32 0, .int .u32 0, bv]⟩) = c ++ (j.s.gl ++ ((g31, gobj j.laid.v ((sizeR j.laid.rs : Nat) : Int) 1 0 0 bv) :: (j.laid.c ++ j.laid.lf))) := by
    unfold GS.heap
    rw [GS.add_gl]
    rfl
  have e4 : RR.heap ⟨nilS, [], []⟩ = [] := rfl
  classical
  refine List.perm_iff_count.2 fun x => ?_
  unfold JM.heap
  rw [e1, e2]
  simp only
  rw [e3, e4]
  simp only [List.flatten_cons, List.flatten_nil, List.append_nil, List.nil_append, List.cons_append, List.count_append, List.count_cons, List.count_nil]
  omega
attribute [local irreducible] sum gsE headE fileN contA readE grpE fillE
theorem jcom_con (j : JM) (a : JA) (r : FR) (f : AF) (id : Nat) (w : World) (hok : j.Ok a) (hfo : r.Ok f) (hfp : j.fp = r.ptr) (hd : a.dead = false) (hdn : a.down ≠ []) (hc : ComOk a f id) (hP : P10 w) (h0 : 0 ∉ dom (j.heap ++ r.heap)) : Con Tryd.prog 10 [j.ptr] w (j.heap ++ r.heap) fun u S' => u = .int .i64 (comE a f id) ∧ ∃ (j' : JM) (r' : FR), S' = [j'.heap, r'.heap] ∧ j'.Ok (comJ a f id) ∧ r'.Ok (comA a f id) ∧ j'.gj = j.gj ∧ j'.fp = j.fp ∧ r'.gf = r.gf := by
  refine con_of_tree mix Tryd.func10 T10_ok (by kernel_rfl) ?_
  unfold T10
  obtain ⟨A, cap, hv, hA⟩ := hok.l.form
  have hlr : j.laid.L.length = a.down.length := by
    rw [← hok.dn]
    exact (List.length_map _).symm
  have hdl : 0 < a.down.length := List.length_pos_iff.2 hdn
  have hgr := grpE_lim hc.dn
  have hszl := hc.sz
  have hs2 := hc.dn.2
  have hby := hc.by_
  have hjg : j.s.G.length = a.gs.length := by
    rw [← hok.gs]
    exact (List.length_map _).symm
  have hln := hc.ln
  rw [← hok.gs] at hszl
  rw [← hok.dn] at hs2
  refine j_perm (S' := [[(j.gj, j.obj)], [(j.lg, j.lobj)], j.s.c, j.s.gl, j.laid.c, j.laid.lf, r.heap]) (by simpa using perm_c7 j r) ?_
  refine j_q (qs_ac) ?_
  refine j_q (qs_call ent27 rfl rfl rfl (fun w' hw' => jmay_con j a w' hok (hw'.at_ (k := 0) rfl))) ?_
  refine j_q (qs_neq rfl rfl) ?_
  rw [mayJ, hd, if_neg (show ¬ (false = true) by simp), show ((0 : Int) != 0) = false from rfl]
  refine j_gt rfl (qs_mt rfl) ?_
  refine j_gt rfl (qs_nil rfl) ?_
  refine j_gt rfl (qs_field Tryd.underlying71 rfl sz66 (by decide) rfl) ?_
  refine j_gt rfl (qs_load (l := j.jl) (v := .pointer (some ⟨j.lg, 0, none⟩)) 0 Tryd.underlying66 rfl rfl rfl rfl) ?_
  refine j_gt rfl (qs_nil rfl) ?_
  refine j_gt rfl (qs_field Tryd.underlying80 rfl sz39 (by decide) rfl) ?_
  refine j_gt rfl (qs_load (l := j.ll) (v := .slice A j.laid.L.length cap) 1 Tryd.underlying39 rfl rfl rfl (congrArg some hv)) ?_
  refine j_gt rfl (qs_lenl Tryd.underlying39 rfl) ?_
  refine j_gt rfl (qs_eql rfl rfl) ?_
  rw [show (((j.laid.L.length : Nat) : Int) == 0) = false by rw [beq_eq_false_iff_ne]; omega]
  refine j_q (qs_or rfl rfl) ?_
  refine j_cond rfl (fun hc0 => ?_) (fun hc0 => ?_)
  · skip
    simp at hc0
  · skip
    refine j_q (qs_nil rfl) ?_
    refine j_q (qs_field Tryd.underlying71 rfl sz3 (by decide) rfl) ?_
    refine j_q (qs_load (l := j.jl) (v := .int .i64 ((sizeG j.s.gs : Nat) : Int)) 0 Tryd.underlying3 rfl rfl rfl rfl) ?_
    refine j_q (qs_geq rfl rfl) ?_
    refine j_cond rfl (fun hc1 => ?_) (fun hc1 => ?_)
    · skip
      simp at hc1
      omega
    · skip
      refine j_mix [[(j.gj, .cells (j.jl).toArray 71 (0, 0))], [(j.lg, j.lobj)]] (Le.of_sub (by repeat first | exact slR _ | exact slN _ | apply slC | apply slD)) ?_
      refine j_mq (qs_nil rfl) ?_
      refine j_mq (qs_field Tryd.underlying71 rfl sz66 (by decide) rfl) ?_
      refine j_mq (qs_load (l := j.jl) (v := .pointer (some ⟨j.lg, 0, none⟩)) 0 Tryd.underlying66 rfl rfl rfl rfl) ?_
      refine j_mq (qs_nil rfl) ?_
      refine j_mq (qs_field Tryd.underlying80 rfl sz39 (by decide) rfl) ?_
      refine j_mq (qs_load (l := j.ll) (v := .slice A j.laid.L.length cap) 1 Tryd.underlying39 rfl rfl rfl (congrArg some hv)) ?_
      refine j_mq (qs_nil rfl) ?_
      refine j_mq (qs_field Tryd.underlying71 rfl sz66 (by decide) rfl) ?_
      refine j_mq (qs_load (l := j.jl) (v := .pointer (some ⟨j.lg, 0, none⟩)) 0 Tryd.underlying66 rfl rfl rfl rfl) ?_
      refine j_mq (qs_nil rfl) ?_
      refine j_mq (qs_field Tryd.underlying80 rfl sz3 (by decide) rfl) ?_
      refine j_mq (qs_load (l := j.ll) (v := .int .i64 ((sizeR j.laid.rs : Nat) : Int)) 1 Tryd.underlying3 rfl rfl rfl rfl) ?_
      refine j_mq (qs_build (places := [(0, 1), (1, 1), (2, 3), (5, 1)]) (offs := [(0, [.slice A j.laid.L.length cap]), (1, [.int .i64 ((sizeR j.laid.rs : Nat) : Int)])]) Tryd.underlying80 zero80 (by kernel_rfl) rfl (by rintro (_ | _ | _ | _ | j) p q hp hq <;> first | (simp at hp hq; subst hp hq; exact ⟨rfl, rfl, by simp⟩) | (simp at hp))) ?_
      refine j_box (l := gl (.slice A j.laid.L.length cap) ((sizeR j.laid.rs : Nat) : Int) 0 0 0 nilS) rfl (fun g31 hg31 hs31 => ?_)
      refine j_mR _ (.refl _) ?_
      refine j_mend ?_
      rw [← hv]
      refine j_subl (S' := [[(g31, gobj j.laid.v ((sizeR j.laid.rs : Nat) : Int) 0 0 0 nilS)], [(j.gj, .cells (j.jl).toArray 71 (0, 0))], [(j.lg, j.lobj)], j.s.c, j.s.gl, j.laid.c, j.laid.lf, r.heap]) (by repeat first | exact slR _ | exact slN _ | apply slC | apply slD) ?_
      refine j_perm (S' := [(g31, gobj j.laid.v ((sizeR j.laid.rs : Nat) : Int) 0 0 0 nilS) :: j.laid.heap, [(j.gj, .cells (j.jl).toArray 71 (0, 0))], [(j.lg, j.lobj)], j.s.c, j.s.gl, r.heap]) (by
        classical
        refine List.perm_iff_count.2 fun x => ?_
        simp only [RR.heap, GS.heap, List.set, List.flatten_cons, List.flatten_nil, List.append_nil, List.nil_append, List.cons_append, List.count_append, List.count_cons, List.count_nil]
        omega) ?_
      refine j_call 0 ent28 rfl rfl rfl rfl (fun w' hw' => made_con g31 j.laid ((sizeR j.laid.rs : Nat) : Int) w' hok.l (by rw [hok.dn]; exact hc.dn)) (fun u S2 hu => ?_)
      obtain ⟨bv, cb, rfl, rfl, hcb⟩ := hu
      rw [hok.dn] at hcb
      obtain ⟨nb, Ab, capb, rfl, hnb⟩ := own_form hcb (by decide)
      rw [ints_length, Nat.mul_one] at hnb
      subst hnb
      refine j_perm (S' := [[(j.gj, .cells (j.jl).toArray 71 (0, 0))], [(j.lg, j.lobj)], j.s.c, j.s.gl, r.heap, cb, [(g31, gobj j.laid.v ((sizeR j.laid.rs : Nat) : Int) 1 0 0 (.slice Ab (grpE a.down).length capb))], j.laid.c, j.laid.lf]) (by
        classical
        refine List.perm_iff_count.2 fun x => ?_
        simp only [RR.heap, GS.heap, List.set, List.flatten_cons, List.flatten_nil, List.append_nil, List.nil_append, List.cons_append, List.count_append, List.count_cons, List.count_nil]
        omega) ?_
      refine j_mix [[(j.gj, .cells (j.jl).toArray 71 (0, 0))]] (Le.of_sub (by repeat first | exact slR _ | exact slN _ | apply slC | apply slD)) ?_
      refine j_mq (qs_nil rfl) ?_
      refine j_mq (qs_field Tryd.underlying71 rfl sz3 (by decide) rfl) ?_
      refine j_mq (qs_load (l := j.jl) (v := .int .i64 0) 0 Tryd.underlying3 rfl rfl rfl rfl) ?_
      refine j_mq (qs_nil rfl) ?_
      refine j_mq (qs_field Tryd.underlying71 rfl sz3 (by decide) rfl) ?_
      refine j_mq (qs_load (l := j.jl) (v := .int .i64 j.fl) 0 Tryd.underlying3 rfl rfl rfl rfl) ?_
      refine j_mend ?_
      refine j_q (qs_ac) ?_
      refine j_q (qs_lss rfl rfl) ?_
      refine j_cond rfl (fun hc2 => ?_) (fun hc2 => ?_)
      · skip
        have hg0 : a.gs = [] := by
          rcases Classical.em (a.gs = []) with h | h
          · exact h
          · have h8 := hok.fl hd
            rw [fillE_cons h] at h8
            simp only [bnA] at *
            omega
        have hwr := wrE_val (f := f) (nameOk_file hc.nl hc.ag) (show (grpE a.down).length ≤ 1048576 by omega) (notFull hc hg0)
        have hcT : comT a id = .wr (fileN a.name a.age 0) (grpE a.down) id := by rw [comT, if_pos hg0]
        refine j_mix [[(j.gj, .cells (j.jl).toArray 71 (0, 0))]] (Le.of_sub (by repeat first | exact slR _ | exact slN _ | apply slC | apply slD)) ?_
        refine j_mq (qs_nil rfl) ?_
        refine j_mq (qs_field Tryd.underlying71 rfl sz23 (by decide) rfl) ?_
        refine j_mq (qs_load (l := j.jl) (v := r.ptr) 0 Tryd.underlying23 rfl rfl rfl (congrArg some hfp)) ?_
        refine j_q (qs_call ent29 rfl rfl rfl (fun w' hw' => file_con j.gj j.fp a.name a.age 0 _ w' (by rw [← hok.nm, ← hok.ag]; exact hw'.at_ (k := 0) rfl) (hP.keep hw' h0) hc.ag (by decide) (by have := hc.nl; omega))) ?_
        refine j_mD0 (Le.of_sub (by repeat first | exact slR _ | exact slN _ | apply slC | apply slD)) ?_
        refine j_call 4 ent5 rfl rfl rfl rfl (fun w' hw' => writeG_con r f (fileN a.name a.age 0) _ (grpE a.down) id w' hfo (strOk_file (by have := hc.nl; omega) hc.ag (by decide)) (own_br hcb 5 rfl hw') (sep_own hcb (k := 5) (m := 4) rfl rfl (by decide) hw') (by omega) (by have := hc.pd; omega) hc.rm hc.id) (fun u S2 hu => ?_)
        obtain ⟨rfl, r1, rfl, hr1, hto1⟩ := hu
        rw [hwr] at hr1 ⊢
        rw [← hcT] at hr1
        refine j_mR _ (.refl _) ?_
        refine j_mend ?_
        refine j_perm (S' := [[(j.gj, .cells (j.jl).toArray 71 (0, 0))], [(j.lg, j.lobj)], j.s.c, j.s.gl, r1.heap, cb, [(g31, gobj j.laid.v ((sizeR j.laid.rs : Nat) : Int) 1 0 0 (.slice Ab (grpE a.down).length capb))], j.laid.c, j.laid.lf]) (by
          classical
          refine List.perm_iff_count.2 fun x => ?_
          simp only [RR.heap, GS.heap, List.set, List.flatten_cons, List.flatten_nil, List.append_nil, List.nil_append, List.cons_append, List.count_append, List.count_cons, List.count_nil]
          omega) ?_
        refine j_q (qs_ac) ?_
        refine j_q (qs_neq rfl rfl) ?_
        refine j_cond rfl (fun hc3 => ?_) (fun hc3 => ?_)
        · skip
          have hb : burnt f = true := by
            cases hx : burnt f
            · rw [hx] at hc3
              simp at hc3
            · rfl
          rw [hb] at hr1 ⊢
          rw [if_neg (by simp)] at hr1
          rw [if_pos rfl]
          refine j_call 0 ent31 rfl rfl rfl rfl (fun w' hw' => jmet_con j.gj j.jl j.dead w' rfl) (fun u S2 hu => ?_)
          obtain ⟨rfl, rfl⟩ := hu
          refine j_subl (S' := [[(j.gj, JM.obj ⟨j.gj, j.lg, j.fp, j.name, j.age, j.fl, j.s, j.laid, 1⟩)], [(j.lg, j.lobj)], j.s.c, j.s.gl, r1.heap, j.laid.c, j.laid.lf]) (by repeat first | exact slR _ | exact slN _ | apply slC | apply slD) ?_
          refine j_perm (S' := [JM.heap ⟨j.gj, j.lg, j.fp, j.name, j.age, j.fl, j.s, j.laid, 1⟩, r1.heap]) (jm_fin ⟨j.gj, j.lg, j.fp, j.name, j.age, j.fl, j.s, j.laid, 1⟩ r1) ?_
          refine j_ret_con (vs := [_]) (fun w' hw' => ⟨rfl, trivial⟩) ?_
          have hX := com1 (id := id) hd hdn hb
          exact ⟨by rw [hX.1]; rfl, ⟨j.gj, j.lg, j.fp, j.name, j.age, j.fl, j.s, j.laid, 1⟩, r1, rfl, by rw [hX.2.1]; exact ⟨hok.s, hok.l, hok.nm, hok.ag, hok.gs, hok.dn, rfl, fun h => by simp at h⟩, by rw [hX.2.2]; exact hr1, rfl, rfl, hto1⟩
        · skip
          have hb : burnt f = false := by
            cases hx : burnt f
            · rfl
            · rw [hx] at hc3
              simp at hc3
          rw [hb] at hr1
          rw [if_pos (by simp)] at hr1
          refine j_q (qs_lenl Tryd.underlying22 rfl) ?_
          refine j_q (qs_add64 rfl rfl (by first | omega | (simp only [bnA] at *; omega))) ?_
          refine j_q (qs_nil rfl) ?_
          refine j_q (qs_field Tryd.underlying71 rfl sz3 (by decide) rfl) ?_
          refine j_store (l := j.jl) 0 sz3 rfl rfl rfl rfl (by simp) (by simp) ?_
          refine j_q (qs_nil rfl) ?_
          refine j_q (qs_field Tryd.underlying71 rfl sz3 (by decide) rfl) ?_
          refine j_store (l := j.jl) 0 sz3 rfl rfl rfl rfl (by simp) (by simp) ?_
          refine j_q (qs_nil rfl) ?_
          refine j_q (qs_field Tryd.underlying71 rfl sz23 (by decide) rfl) ?_
          refine j_q (qs_load (l := jl j.fp j.name j.age 0 ((0 : Int) + ((grpE a.down).length : Int)) (j.s.v) (((sizeG j.s.gs : Nat) : Int)) j.lg j.dead) (v := r.ptr) 0 Tryd.underlying23 rfl rfl rfl (congrArg some hfp)) ?_
          rw [show r.ptr = r1.ptr from by rw [FR.ptr, FR.ptr, hto1]]
          refine j_call 4 ent6 rfl rfl rfl rfl (fun w' hw' => syncG_con r1 (stepF f (comT a id)) w' hr1) (fun u S2 hu => ?_)
          obtain ⟨rfl, r2, rfl, hr2, hto2⟩ := hu
          rw [mayE_b (stepF f (comT a id)) (ns := []) rfl] at hr2 ⊢
          refine j_subl (S' := [r2.heap, [(j.gj, .cells (jl j.fp j.name j.age 0 ((0 : Int) + ((grpE a.down).length : Int)) (j.s.v) (((sizeG j.s.gs : Nat) : Int)) j.lg j.dead).toArray 71 (0, 0))], [(j.lg, j.lobj)], j.s.c, j.s.gl, cb, [(g31, gobj j.laid.v ((sizeR j.laid.rs : Nat) : Int) 1 0 0 (.slice Ab (grpE a.down).length capb))], j.laid.c, j.laid.lf]) (by repeat first | exact slR _ | exact slN _ | apply slC | apply slD) ?_
          refine j_perm (S' := [[(j.gj, .cells (jl j.fp j.name j.age 0 ((0 : Int) + ((grpE a.down).length : Int)) (j.s.v) (((sizeG j.s.gs : Nat) : Int)) j.lg j.dead).toArray 71 (0, 0))], [(j.lg, j.lobj)], j.s.c, j.s.gl, r2.heap, cb, [(g31, gobj j.laid.v ((sizeR j.laid.rs : Nat) : Int) 1 0 0 (.slice Ab (grpE a.down).length capb))], j.laid.c, j.laid.lf]) (by
            classical
            refine List.perm_iff_count.2 fun x => ?_
            simp only [RR.heap, GS.heap, List.set, List.flatten_cons, List.flatten_nil, List.append_nil, List.nil_append, List.cons_append, List.count_append, List.count_cons, List.count_nil]
            omega) ?_
          refine j_q (qs_neq rfl rfl) ?_
          refine j_cond rfl (fun hc4 => ?_) (fun hc4 => ?_)
          · skip
            have hb2 : burnt (stepF f (comT a id)) = true := by
              cases hx : burnt (stepF f (comT a id))
              · rw [hx] at hc4
                simp at hc4
              · rfl
            rw [hb2] at hr2 ⊢
            rw [if_neg (by simp)] at hr2
            rw [if_pos rfl]
            refine j_call 0 ent31 rfl rfl rfl rfl (fun w' hw' => jmet_con j.gj (jl j.fp j.name j.age 0 ((0 : Int) + ((grpE a.down).length : Int)) (j.s.v) (((sizeG j.s.gs : Nat) : Int)) j.lg j.dead) j.dead w' rfl) (fun u S2 hu => ?_)
            obtain ⟨rfl, rfl⟩ := hu
            refine j_subl (S' := [[(j.gj, JM.obj ⟨j.gj, j.lg, j.fp, j.name, j.age, ((0 : Int) + ((grpE a.down).length : Int)), j.s, j.laid, 1⟩)], [(j.lg, j.lobj)], j.s.c, j.s.gl, r2.heap, j.laid.c, j.laid.lf]) (by repeat first | exact slR _ | exact slN _ | apply slC | apply slD) ?_
            refine j_perm (S' := [JM.heap ⟨j.gj, j.lg, j.fp, j.name, j.age, ((0 : Int) + ((grpE a.down).length : Int)), j.s, j.laid, 1⟩, r2.heap]) (jm_fin ⟨j.gj, j.lg, j.fp, j.name, j.age, ((0 : Int) + ((grpE a.down).length : Int)), j.s, j.laid, 1⟩ r2) ?_
            refine j_ret_con (vs := [_]) (fun w' hw' => ⟨rfl, trivial⟩) ?_
            have hX := com2 hd hdn hb hb2
            exact ⟨by rw [hX.1]; rfl, ⟨j.gj, j.lg, j.fp, j.name, j.age, ((0 : Int) + ((grpE a.down).length : Int)), j.s, j.laid, 1⟩, r2, rfl, by rw [hX.2.1]; exact ⟨hok.s, hok.l, hok.nm, hok.ag, hok.gs, hok.dn, rfl, fun h => by simp at h⟩, by rw [hX.2.2]; exact hr2, rfl, rfl, hto2.trans hto1⟩
          · skip
            have hb2 : burnt (stepF f (comT a id)) = false := by
              cases hx : burnt (stepF f (comT a id))
              · rfl
              · rw [hx] at hc4
                simp at hc4
            rw [hb2] at hr2
            rw [if_pos (by simp)] at hr2
            refine j_q (qs_nil rfl) ?_
            refine j_q (qs_field Tryd.underlying71 rfl sz65 (by decide) rfl) ?_
            refine j_q (qs_load (l := jl j.fp j.name j.age 0 ((0 : Int) + ((grpE a.down).length : Int)) (j.s.v) (((sizeG j.s.gs : Nat) : Int)) j.lg j.dead) (v := j.s.v) 0 Tryd.underlying65 rfl rfl rfl rfl) ?_
            refine j_lit (vs := [.pointer (some ⟨g31, 0, none⟩)]) Tryd.underlying65 sz66 zero66 rfl (by simp [oneV]) ⟨rfl, by decide⟩ (fun g66 v66 c66 hv66 hc66 ho66 => ?_)
            subst hv66 hc66
            refine j_append 3 Tryd.underlying65 Tryd.underlying65 (.inr ⟨_, rfl⟩) sb66 zero66 rfl hok.s.row rfl (.inl ⟨_, _, rfl, rd_own (off := 0) (n := 1) 0 rfl rfl, rfl⟩) (by simp [oneV]) ⟨(by simp only [List.length_map]; simp; omega), (by decide)⟩ (fun v67 c67 ho67 => ?_)
            obtain ⟨n67, A67, cap67, rfl, hn67⟩ := own_form ho67 (by decide)
            refine j_q (qs_nil rfl) ?_
            refine j_q (qs_field Tryd.underlying71 rfl sz65 (by decide) rfl) ?_
            refine j_store (l := jl j.fp j.name j.age 0 ((0 : Int) + ((grpE a.down).length : Int)) (j.s.v) (((sizeG j.s.gs : Nat) : Int)) j.lg j.dead) 1 sz65 rfl rfl rfl rfl (by simp) (by simp) ?_
            refine j_mix [[(j.gj, .cells (jl j.fp j.name j.age 0 ((0 : Int) + ((grpE a.down).length : Int)) (.slice A67 n67 cap67) (((sizeG j.s.gs : Nat) : Int)) j.lg j.dead).toArray 71 (0, 0))], [(g31, gobj j.laid.v ((sizeR j.laid.rs : Nat) : Int) 1 0 0 (.slice Ab (grpE a.down).length capb))]] (Le.of_sub (by repeat first | exact slR _ | exact slN _ | apply slC | apply slD)) ?_
            refine j_mq (qs_nil rfl) ?_
            refine j_mq (qs_field Tryd.underlying71 rfl sz3 (by decide) rfl) ?_
            refine j_mq (qs_load (l := jl j.fp j.name j.age 0 ((0 : Int) + ((grpE a.down).length : Int)) (.slice A67 n67 cap67) (((sizeG j.s.gs : Nat) : Int)) j.lg j.dead) (v := .int .i64 ((sizeG j.s.gs : Nat) : Int)) 0 Tryd.underlying3 rfl rfl rfl rfl) ?_
            refine j_mq (qs_nil rfl) ?_
            refine j_mq (qs_field Tryd.underlying80 rfl sz3 (by decide) rfl) ?_
            refine j_mq (qs_load (l := gl j.laid.v ((sizeR j.laid.rs : Nat) : Int) 1 0 0 (.slice Ab (grpE a.down).length capb)) (v := .int .i64 ((sizeR j.laid.rs : Nat) : Int)) 1 Tryd.underlying3 rfl rfl rfl rfl) ?_
            refine j_mq (qs_add64 rfl rfl (by first | omega | (simp only [bnA] at *; omega))) ?_
            refine j_mq (qs_nil rfl) ?_
            refine j_mq (qs_field Tryd.underlying71 rfl sz3 (by decide) rfl) ?_
            refine j_store (l := jl j.fp j.name j.age 0 ((0 : Int) + ((grpE a.down).length : Int)) (.slice A67 n67 cap67) (((sizeG j.s.gs : Nat) : Int)) j.lg j.dead) 1 sz3 rfl rfl rfl rfl (by simp) (by simp) ?_
            refine j_mR _ (.refl _) ?_
            refine j_mend ?_
            refine j_q (qs_run (v := .agg ([nilS, .int .i64 0, .int .u32 0, .int .i32 0, .int .u32 0, nilS]).toArray) (fun w => by kernel_rfl)) ?_
            refine j_box (l := [nilS, .int .i64 0, .int .u32 0, .int .i32 0, .int .u32 0, nilS]) rfl (fun g82 hg82 hs82 => ?_)
            refine j_q (qs_nil rfl) ?_
            refine j_q (qs_field Tryd.underlying71 rfl sz66 (by decide) rfl) ?_
            refine j_store (l := jl j.fp j.name j.age 0 ((0 : Int) + ((grpE a.down).length : Int)) (.slice A67 n67 cap67) (((sizeG j.s.gs : Nat) : Int) + ((sizeR j.laid.rs : Nat) : Int)) j.lg j.dead) 2 sz66 rfl rfl rfl rfl (by simp) (by simp) ?_
            refine j_q (qs_ac) ?_
            refine j_subl (S' := [[(g82, gobj nilS 0 0 0 0 nilS)], [(j.gj, .cells (jl j.fp j.name j.age 0 ((0 : Int) + ((grpE a.down).length : Int)) (.slice A67 n67 cap67) (((sizeG j.s.gs : Nat) : Int) + ((sizeR j.laid.rs : Nat) : Int)) g82 j.dead).toArray 71 (0, 0))], c67, j.s.gl, r2.heap, [(g31, gobj j.laid.v ((sizeR j.laid.rs : Nat) : Int) 1 0 0 (.slice Ab (grpE a.down).length capb))], j.laid.c, j.laid.lf]) (by repeat first | exact slR _ | exact slN _ | apply slC | apply slD) ?_
            refine j_perm (S' := [JM.heap ⟨j.gj, g82, j.fp, j.name, j.age, (0 : Int) + ((grpE a.down).length : Int), j.s.add (.slice A67 n67 cap67) c67 ⟨g31, j.laid, [.int .i64 ((sizeR j.laid.rs : Nat) : Int), .int .u32 1, .int .i32 0, .int .u32 0, .slice Ab (grpE a.down).length capb]⟩, ⟨nilS, [], []⟩, j.dead⟩, r2.heap]) (jm_com j r2) ?_
            refine j_ret_con (vs := [_]) (fun w' hw' => ⟨rfl, trivial⟩) ?_
            have hX := com3 hd hdn hb hb2
            exact ⟨by rw [hX.1]; rfl, ⟨j.gj, g82, j.fp, j.name, j.age, (0 : Int) + ((grpE a.down).length : Int), j.s.add (.slice A67 n67 cap67) c67 ⟨g31, j.laid, [.int .i64 ((sizeR j.laid.rs : Nat) : Int), .int .u32 1, .int .i32 0, .int .u32 0, .slice Ab (grpE a.down).length capb]⟩, ⟨nilS, [], []⟩, j.dead⟩, r2, rfl, by rw [hX.2.1]; exact ⟨hok.s.add ho67 hok.l, rr0, hok.nm, hok.ag, by rw [GS.add_gs, hok.gs, hok.dn], rfl, by rw [hok.dd, hd], by
              intro _
              rw [fillE_cons (by simp), gsE_snoc, List.length_append, Int.natCast_add]
              simp only
              rw [hg0, gsE_nil]
              rfl⟩, by rw [hX.2.2]; exact hr2, rfl, rfl, hto2.trans hto1⟩
      · skip
        have hg0 : a.gs ≠ [] := fun h => by
          have h8 := hok.fl hd
          rw [fillE_nil h] at h8
          simp only [bnA] at *
          omega
        have hfl : j.fl = ((gsE a.gs).length : Int) := by rw [hok.fl hd, fillE_cons hg0]
        obtain ⟨hyes, hcon⟩ : alook f.now.nm (fileN a.name a.age 0) ≠ none ∧ contA f.now (fileN a.name a.age 0) = gsE a.gs := by
          rcases hc.js.f0 with ⟨h, _⟩ | ⟨_, h, h'⟩
          · exact absurd h hg0
          · exact ⟨h, h'⟩
        have hwr := appE_val (f := f) (xs := grpE a.down) (nameOk_file hc.nl hc.ag) hyes (by rw [sizeA_cont, hcon]; exact hc.by_) hc.us.2
        have hcT : comT a id = .ap (fileN a.name a.age 0) (grpE a.down) := by rw [comT, if_neg hg0]
        refine j_q (qs_lenl Tryd.underlying22 rfl) ?_
        refine j_q (qs_add64 rfl rfl (by first | omega | (simp only [bnA] at *; omega))) ?_
        refine j_q (qs_gtr rfl rfl) ?_
        refine j_cond rfl (fun hc5 => ?_) (fun hc5 => ?_)
        · skip
          rw [hfl] at hc5
          simp only [bnA] at *
          omega
        · skip
          refine j_mix [[(j.gj, .cells (j.jl).toArray 71 (0, 0))]] (Le.of_sub (by repeat first | exact slR _ | exact slN _ | apply slC | apply slD)) ?_
          refine j_mq (qs_nil rfl) ?_
          refine j_mq (qs_field Tryd.underlying71 rfl sz23 (by decide) rfl) ?_
          refine j_mq (qs_load (l := j.jl) (v := r.ptr) 0 Tryd.underlying23 rfl rfl rfl (congrArg some hfp)) ?_
          refine j_q (qs_call ent29 rfl rfl rfl (fun w' hw' => file_con j.gj j.fp a.name a.age 0 _ w' (by rw [← hok.nm, ← hok.ag]; exact hw'.at_ (k := 0) rfl) (hP.keep hw' h0) hc.ag (by decide) (by have := hc.nl; omega))) ?_
          refine j_mD0 (Le.of_sub (by repeat first | exact slR _ | exact slN _ | apply slC | apply slD)) ?_
          refine j_call 4 ent30 rfl rfl rfl rfl (fun w' hw' => appendG_con r f (fileN a.name a.age 0) _ (grpE a.down) w' hfo (by have := hc.pd; omega) (strOk_file (by have := hc.nl; omega) hc.ag (by decide)) (own_br hcb 5 rfl hw') (sep_own hcb (k := 5) (m := 4) rfl rfl (by decide) hw') (by omega) hc.rm) (fun u S2 hu => ?_)
          obtain ⟨rfl, r1, rfl, hr1, hto1⟩ := hu
          rw [hwr] at hr1 ⊢
          rw [← hcT] at hr1
          refine j_mR _ (.refl _) ?_
          refine j_mend ?_
          refine j_perm (S' := [[(j.gj, .cells (j.jl).toArray 71 (0, 0))], [(j.lg, j.lobj)], j.s.c, j.s.gl, r1.heap, cb, [(g31, gobj j.laid.v ((sizeR j.laid.rs : Nat) : Int) 1 0 0 (.slice Ab (grpE a.down).length capb))], j.laid.c, j.laid.lf]) (by
            classical
            refine List.perm_iff_count.2 fun x => ?_
            simp only [RR.heap, GS.heap, List.set, List.flatten_cons, List.flatten_nil, List.append_nil, List.nil_append, List.cons_append, List.count_append, List.count_cons, List.count_nil]
            omega) ?_
          refine j_q (qs_neq rfl rfl) ?_
          refine j_cond rfl (fun hc8 => ?_) (fun hc8 => ?_)
          · skip
            have hb : burnt f = true := by
              cases hx : burnt f
              · rw [hx] at hc8
                simp at hc8
              · rfl
            rw [hb] at hr1 ⊢
            rw [if_neg (by simp)] at hr1
            rw [if_pos rfl]
            refine j_call 0 ent31 rfl rfl rfl rfl (fun w' hw' => jmet_con j.gj j.jl j.dead w' rfl) (fun u S2 hu => ?_)
            obtain ⟨rfl, rfl⟩ := hu
            refine j_subl (S' := [[(j.gj, JM.obj ⟨j.gj, j.lg, j.fp, j.name, j.age, j.fl, j.s, j.laid, 1⟩)], [(j.lg, j.lobj)], j.s.c, j.s.gl, r1.heap, j.laid.c, j.laid.lf]) (by repeat first | exact slR _ | exact slN _ | apply slC | apply slD) ?_
            refine j_perm (S' := [JM.heap ⟨j.gj, j.lg, j.fp, j.name, j.age, j.fl, j.s, j.laid, 1⟩, r1.heap]) (jm_fin ⟨j.gj, j.lg, j.fp, j.name, j.age, j.fl, j.s, j.laid, 1⟩ r1) ?_
            refine j_ret_con (vs := [_]) (fun w' hw' => ⟨rfl, trivial⟩) ?_
            have hX := com1 (id := id) hd hdn hb
            exact ⟨by rw [hX.1]; rfl, ⟨j.gj, j.lg, j.fp, j.name, j.age, j.fl, j.s, j.laid, 1⟩, r1, rfl, by rw [hX.2.1]; exact ⟨hok.s, hok.l, hok.nm, hok.ag, hok.gs, hok.dn, rfl, fun h => by simp at h⟩, by rw [hX.2.2]; exact hr1, rfl, rfl, hto1⟩
          · skip
            have hb : burnt f = false := by
              cases hx : burnt f
              · rfl
              · rw [hx] at hc8
                simp at hc8
            rw [hb] at hr1
            rw [if_pos (by simp)] at hr1
            refine j_q (qs_lenl Tryd.underlying22 rfl) ?_
            refine j_q (qs_add64 rfl rfl (by first | omega | (simp only [bnA] at *; omega))) ?_
            refine j_q (qs_nil rfl) ?_
            refine j_q (qs_field Tryd.underlying71 rfl sz3 (by decide) rfl) ?_
            refine j_store (l := j.jl) 0 sz3 rfl rfl rfl rfl (by simp) (by simp) ?_
            refine j_q (qs_nil rfl) ?_
            refine j_q (qs_field Tryd.underlying71 rfl sz3 (by decide) rfl) ?_
            refine j_store (l := j.jl) 0 sz3 rfl rfl rfl rfl (by simp) (by simp) ?_
            refine j_q (qs_nil rfl) ?_
            refine j_q (qs_field Tryd.underlying71 rfl sz23 (by decide) rfl) ?_
            refine j_q (qs_load (l := jl j.fp j.name j.age 0 (j.fl + ((grpE a.down).length : Int)) (j.s.v) (((sizeG j.s.gs : Nat) : Int)) j.lg j.dead) (v := r.ptr) 0 Tryd.underlying23 rfl rfl rfl (congrArg some hfp)) ?_
            rw [show r.ptr = r1.ptr from by rw [FR.ptr, FR.ptr, hto1]]
            refine j_call 4 ent6 rfl rfl rfl rfl (fun w' hw' => syncG_con r1 (stepF f (comT a id)) w' hr1) (fun u S2 hu => ?_)
            obtain ⟨rfl, r2, rfl, hr2, hto2⟩ := hu
            rw [mayE_b (stepF f (comT a id)) (ns := []) rfl] at hr2 ⊢
            refine j_subl (S' := [r2.heap, [(j.gj, .cells (jl j.fp j.name j.age 0 (j.fl + ((grpE a.down).length : Int)) (j.s.v) (((sizeG j.s.gs : Nat) : Int)) j.lg j.dead).toArray 71 (0, 0))], [(j.lg, j.lobj)], j.s.c, j.s.gl, cb, [(g31, gobj j.laid.v ((sizeR j.laid.rs : Nat) : Int) 1 0 0 (.slice Ab (grpE a.down).length capb))], j.laid.c, j.laid.lf]) (by repeat first | exact slR _ | exact slN _ | apply slC | apply slD) ?_
            refine j_perm (S' := [[(j.gj, .cells (jl j.fp j.name j.age 0 (j.fl + ((grpE a.down).length : Int)) (j.s.v) (((sizeG j.s.gs : Nat) : Int)) j.lg j.dead).toArray 71 (0, 0))], [(j.lg, j.lobj)], j.s.c, j.s.gl, r2.heap, cb, [(g31, gobj j.laid.v ((sizeR j.laid.rs : Nat) : Int) 1 0 0 (.slice Ab (grpE a.down).length capb))], j.laid.c, j.laid.lf]) (by
              classical
              refine List.perm_iff_count.2 fun x => ?_
              simp only [RR.heap, GS.heap, List.set, List.flatten_cons, List.flatten_nil, List.append_nil, List.nil_append, List.cons_append, List.count_append, List.count_cons, List.count_nil]
              omega) ?_
            refine j_q (qs_neq rfl rfl) ?_
            refine j_cond rfl (fun hc9 => ?_) (fun hc9 => ?_)
            · skip
              have hb2 : burnt (stepF f (comT a id)) = true := by
                cases hx : burnt (stepF f (comT a id))
                · rw [hx] at hc9
                  simp at hc9
                · rfl
              rw [hb2] at hr2 ⊢
              rw [if_neg (by simp)] at hr2
              rw [if_pos rfl]
              refine j_call 0 ent31 rfl rfl rfl rfl (fun w' hw' => jmet_con j.gj (jl j.fp j.name j.age 0 (j.fl + ((grpE a.down).length : Int)) (j.s.v) (((sizeG j.s.gs : Nat) : Int)) j.lg j.dead) j.dead w' rfl) (fun u S2 hu => ?_)
              obtain ⟨rfl, rfl⟩ := hu
              refine j_subl (S' := [[(j.gj, JM.obj ⟨j.gj, j.lg, j.fp, j.name, j.age, (j.fl + ((grpE a.down).length : Int)), j.s, j.laid, 1⟩)], [(j.lg, j.lobj)], j.s.c, j.s.gl, r2.heap, j.laid.c, j.laid.lf]) (by repeat first | exact slR _ | exact slN _ | apply slC | apply slD) ?_
              refine j_perm (S' := [JM.heap ⟨j.gj, j.lg, j.fp, j.name, j.age, (j.fl + ((grpE a.down).length : Int)), j.s, j.laid, 1⟩, r2.heap]) (jm_fin ⟨j.gj, j.lg, j.fp, j.name, j.age, (j.fl + ((grpE a.down).length : Int)), j.s, j.laid, 1⟩ r2) ?_
              refine j_ret_con (vs := [_]) (fun w' hw' => ⟨rfl, trivial⟩) ?_
              have hX := com2 hd hdn hb hb2
              exact ⟨by rw [hX.1]; rfl, ⟨j.gj, j.lg, j.fp, j.name, j.age, (j.fl + ((grpE a.down).length : Int)), j.s, j.laid, 1⟩, r2, rfl, by rw [hX.2.1]; exact ⟨hok.s, hok.l, hok.nm, hok.ag, hok.gs, hok.dn, rfl, fun h => by simp at h⟩, by rw [hX.2.2]; exact hr2, rfl, rfl, hto2.trans hto1⟩
            · skip
              have hb2 : burnt (stepF f (comT a id)) = false := by
                cases hx : burnt (stepF f (comT a id))
                · rfl
                · rw [hx] at hc9
                  simp at hc9
              rw [hb2] at hr2
              rw [if_pos (by simp)] at hr2
              refine j_q (qs_nil rfl) ?_
              refine j_q (qs_field Tryd.underlying71 rfl sz65 (by decide) rfl) ?_
              refine j_q (qs_load (l := jl j.fp j.name j.age 0 (j.fl + ((grpE a.down).length : Int)) (j.s.v) (((sizeG j.s.gs : Nat) : Int)) j.lg j.dead) (v := j.s.v) 0 Tryd.underlying65 rfl rfl rfl rfl) ?_
              refine j_lit (vs := [.pointer (some ⟨g31, 0, none⟩)]) Tryd.underlying65 sz66 zero66 rfl (by simp [oneV]) ⟨rfl, by decide⟩ (fun g66 v66 c66 hv66 hc66 ho66 => ?_)
              subst hv66 hc66
              refine j_append 3 Tryd.underlying65 Tryd.underlying65 (.inr ⟨_, rfl⟩) sb66 zero66 rfl hok.s.row rfl (.inl ⟨_, _, rfl, rd_own (off := 0) (n := 1) 0 rfl rfl, rfl⟩) (by simp [oneV]) ⟨(by simp only [List.length_map]; simp; omega), (by decide)⟩ (fun v162 c162 ho162 => ?_)
              obtain ⟨n67, A67, cap67, rfl, hn67⟩ := own_form ho162 (by decide)
              refine j_q (qs_nil rfl) ?_
              refine j_q (qs_field Tryd.underlying71 rfl sz65 (by decide) rfl) ?_
              refine j_store (l := jl j.fp j.name j.age 0 (j.fl + ((grpE a.down).length : Int)) (j.s.v) (((sizeG j.s.gs : Nat) : Int)) j.lg j.dead) 1 sz65 rfl rfl rfl rfl (by simp) (by simp) ?_
              refine j_mix [[(j.gj, .cells (jl j.fp j.name j.age 0 (j.fl + ((grpE a.down).length : Int)) (.slice A67 n67 cap67) (((sizeG j.s.gs : Nat) : Int)) j.lg j.dead).toArray 71 (0, 0))], [(g31, gobj j.laid.v ((sizeR j.laid.rs : Nat) : Int) 1 0 0 (.slice Ab (grpE a.down).length capb))]] (Le.of_sub (by repeat first | exact slR _ | exact slN _ | apply slC | apply slD)) ?_
              refine j_mq (qs_nil rfl) ?_
              refine j_mq (qs_field Tryd.underlying71 rfl sz3 (by decide) rfl) ?_
              refine j_mq (qs_load (l := jl j.fp j.name j.age 0 (j.fl + ((grpE a.down).length : Int)) (.slice A67 n67 cap67) (((sizeG j.s.gs : Nat) : Int)) j.lg j.dead) (v := .int .i64 ((sizeG j.s.gs : Nat) : Int)) 0 Tryd.underlying3 rfl rfl rfl rfl) ?_
              refine j_mq (qs_nil rfl) ?_
              refine j_mq (qs_field Tryd.underlying80 rfl sz3 (by decide) rfl) ?_
              refine j_mq (qs_load (l := gl j.laid.v ((sizeR j.laid.rs : Nat) : Int) 1 0 0 (.slice Ab (grpE a.down).length capb)) (v := .int .i64 ((sizeR j.laid.rs : Nat) : Int)) 1 Tryd.underlying3 rfl rfl rfl rfl) ?_
              refine j_mq (qs_add64 rfl rfl (by first | omega | (simp only [bnA] at *; omega))) ?_
              refine j_mq (qs_nil rfl) ?_
              refine j_mq (qs_field Tryd.underlying71 rfl sz3 (by decide) rfl) ?_
              refine j_store (l := jl j.fp j.name j.age 0 (j.fl + ((grpE a.down).length : Int)) (.slice A67 n67 cap67) (((sizeG j.s.gs : Nat) : Int)) j.lg j.dead) 1 sz3 rfl rfl rfl rfl (by simp) (by simp) ?_
              refine j_mR _ (.refl _) ?_
              refine j_mend ?_
              refine j_q (qs_run (v := .agg ([nilS, .int .i64 0, .int .u32 0, .int .i32 0, .int .u32 0, nilS]).toArray) (fun w => by kernel_rfl)) ?_
              refine j_box (l := [nilS, .int .i64 0, .int .u32 0, .int .i32 0, .int .u32 0, nilS]) rfl (fun g82 hg82 hs82 => ?_)
              refine j_q (qs_nil rfl) ?_
              refine j_q (qs_field Tryd.underlying71 rfl sz66 (by decide) rfl) ?_
              refine j_store (l := jl j.fp j.name j.age 0 (j.fl + ((grpE a.down).length : Int)) (.slice A67 n67 cap67) (((sizeG j.s.gs : Nat) : Int) + ((sizeR j.laid.rs : Nat) : Int)) j.lg j.dead) 2 sz66 rfl rfl rfl rfl (by simp) (by simp) ?_
              refine j_q (qs_ac) ?_
              refine j_subl (S' := [[(g82, gobj nilS 0 0 0 0 nilS)], [(j.gj, .cells (jl j.fp j.name j.age 0 (j.fl + ((grpE a.down).length : Int)) (.slice A67 n67 cap67) (((sizeG j.s.gs : Nat) : Int) + ((sizeR j.laid.rs : Nat) : Int)) g82 j.dead).toArray 71 (0, 0))], c162, j.s.gl, r2.heap, [(g31, gobj j.laid.v ((sizeR j.laid.rs : Nat) : Int) 1 0 0 (.slice Ab (grpE a.down).length capb))], j.laid.c, j.laid.lf]) (by repeat first | exact slR _ | exact slN _ | apply slC | apply slD) ?_
              refine j_perm (S' := [JM.heap ⟨j.gj, g82, j.fp, j.name, j.age, j.fl + ((grpE a.down).length : Int), j.s.add (.slice A67 n67 cap67) c162 ⟨g31, j.laid, [.int .i64 ((sizeR j.laid.rs : Nat) : Int), .int .u32 1, .int .i32 0, .int .u32 0, .slice Ab (grpE a.down).length capb]⟩, ⟨nilS, [], []⟩, j.dead⟩, r2.heap]) (jm_com j r2) ?_
              refine j_ret_con (vs := [_]) (fun w' hw' => ⟨rfl, trivial⟩) ?_
              have hX := com3 hd hdn hb hb2
              exact ⟨by rw [hX.1]; rfl, ⟨j.gj, g82, j.fp, j.name, j.age, j.fl + ((grpE a.down).length : Int), j.s.add (.slice A67 n67 cap67) c162 ⟨g31, j.laid, [.int .i64 ((sizeR j.laid.rs : Nat) : Int), .int .u32 1, .int .i32 0, .int .u32 0, .slice Ab (grpE a.down).length capb]⟩, ⟨nilS, [], []⟩, j.dead⟩, r2, rfl, by rw [hX.2.1]; exact ⟨hok.s.add ho162 hok.l, rr0, hok.nm, hok.ag, by rw [GS.add_gs, hok.gs, hok.dn], rfl, by rw [hok.dd, hd], by
                intro _
                rw [fillE_cons (by simp), gsE_snoc, List.length_append, Int.natCast_add]
                simp only
                rw [hfl]⟩, by rw [hX.2.2]; exact hr2, rfl, rfl, hto2.trans hto1⟩
end Go.Proofs.YtomajiicjinekaaDoor
/-! Jn13 -/
namespace Go.Proofs.YtomajiicjinekaaDoor
open Go Go.Sx
set_option maxRecDepth 100000
set_option maxHeartbeats 4000000
set_option linter.unusedVariables false
set_option linter.unusedSimpArgs false
attribute [local irreducible] J JQ QS Con W opW
attribute [local irreducible] sum gsE headE fileN contA readE grpE fillE
theorem jcomD_con (j : JM) (a : JA) (r : FR) (f : AF) (id : Nat) (w : World) (hok : j.Ok a) (hfo : r.Ok f) (hd : a.dead = true) : Con Tryd.prog 10 [j.ptr] w (j.heap ++ r.heap) fun u S' => u = .int .i64 (comE a f id) ∧ ∃ (j' : JM) (r' : FR), S' = [j'.heap, r'.heap] ∧ j'.Ok (comJ a f id) ∧ r'.Ok (comA a f id) ∧ j'.gj = j.gj ∧ j'.fp = j.fp ∧ r'.gf = r.gf := by
  refine con_of_tree mix Tryd.func10 T10_ok (by kernel_rfl) ?_
  unfold T10
  refine j_perm (S' := [[(j.gj, j.obj)], [(j.lg, j.lobj)], j.s.c, j.s.gl, j.laid.c, j.laid.lf, r.heap]) (by simpa using perm_c7 j r) ?_
  refine j_q (qs_ac) ?_
  refine j_q (qs_call ent27 rfl rfl rfl (fun w' hw' => jmay_con j a w' hok (hw'.at_ (k := 0) rfl))) ?_
  refine j_q (qs_neq rfl rfl) ?_
  rw [mayJ, hd, if_pos rfl, show ((26 : Int) != 0) = true from rfl]
  refine j_gf rfl (by simp) ?_
  refine j_gf rfl (by simp) ?_
  refine j_gf rfl (by simp) ?_
  refine j_gf rfl (by simp) ?_
  refine j_gf rfl (by simp) ?_
  refine j_gf rfl (by simp) ?_
  refine j_gf rfl (by simp) ?_
  refine j_gf rfl (by simp) ?_
  refine j_gf rfl (by simp) ?_
  refine j_q (qs_or (b0 := true) (b1 := false) rfl rfl) ?_
  refine j_cond rfl (fun hc0 => ?_) (fun hc0 => ?_)
  · skip
    refine j_perm (S' := [j.heap, r.heap]) (by simpa using (perm_c7 j r).symm) ?_
    refine j_ret_con (vs := [_]) (fun w' hw' => ⟨rfl, trivial⟩) ?_
    exact ⟨by rw [show comE a f id = 26 from by simp [comE, hd]]; rfl, j, r, rfl, by simp only [comJ, hd]; simpa using hok, by simp only [comA, hd]; simpa using hfo, rfl, rfl, rfl⟩
  · skip
    simp at hc0
theorem jcom0_con (j : JM) (a : JA) (r : FR) (f : AF) (id : Nat) (w : World) (hok : j.Ok a) (hfo : r.Ok f) (hd : a.dead = false) (hdn : a.down = []) : Con Tryd.prog 10 [j.ptr] w (j.heap ++ r.heap) fun u S' => u = .int .i64 (comE a f id) ∧ ∃ (j' : JM) (r' : FR), S' = [j'.heap, r'.heap] ∧ j'.Ok (comJ a f id) ∧ r'.Ok (comA a f id) ∧ j'.gj = j.gj ∧ j'.fp = j.fp ∧ r'.gf = r.gf := by
  refine con_of_tree mix Tryd.func10 T10_ok (by kernel_rfl) ?_
  unfold T10
  obtain ⟨A, cap, hv, hA⟩ := hok.l.form
  have hlr : j.laid.L.length = 0 := by
    have h8 : j.laid.rs.length = j.laid.L.length := List.length_map _
    rw [← h8, hok.dn, hdn]
    rfl
  refine j_perm (S' := [[(j.gj, j.obj)], [(j.lg, j.lobj)], j.s.c, j.s.gl, j.laid.c, j.laid.lf, r.heap]) (by simpa using perm_c7 j r) ?_
  refine j_q (qs_ac) ?_
  refine j_q (qs_call ent27 rfl rfl rfl (fun w' hw' => jmay_con j a w' hok (hw'.at_ (k := 0) rfl))) ?_
  refine j_q (qs_neq rfl rfl) ?_
  rw [mayJ, hd, if_neg (show ¬ (false = true) by simp), show ((0 : Int) != 0) = false from rfl]
  refine j_gt rfl (qs_mt rfl) ?_
  refine j_gt rfl (qs_nil rfl) ?_
  refine j_gt rfl (qs_field Tryd.underlying71 rfl sz66 (by decide) rfl) ?_
  refine j_gt rfl (qs_load (l := j.jl) (v := .pointer (some ⟨j.lg, 0, none⟩)) 0 Tryd.underlying66 rfl rfl rfl rfl) ?_
  refine j_gt rfl (qs_nil rfl) ?_
  refine j_gt rfl (qs_field Tryd.underlying80 rfl sz39 (by decide) rfl) ?_
  refine j_gt rfl (qs_load (l := j.ll) (v := .slice A j.laid.L.length cap) 1 Tryd.underlying39 rfl rfl rfl (congrArg some hv)) ?_
  refine j_gt rfl (qs_lenl Tryd.underlying39 rfl) ?_
  refine j_gt rfl (qs_eql rfl rfl) ?_
  rw [show (((j.laid.L.length : Nat) : Int) == 0) = true by rw [beq_iff_eq]; omega]
  refine j_q (qs_or rfl rfl) ?_
  refine j_cond rfl (fun hc0 => ?_) (fun hc0 => ?_)
  · skip
    refine j_perm (S' := [j.heap, r.heap]) (by simpa using (perm_c7 j r).symm) ?_
    refine j_ret_con (vs := [_]) (fun w' hw' => ⟨rfl, trivial⟩) ?_
    exact ⟨by rw [show comE a f id = 0 from by simp [comE, hd, hdn]]; rfl, j, r, rfl, by simp only [comJ, hd, hdn]; simpa using hok, by simp only [comA, hd, hdn]; simpa using hfo, rfl, rfl, rfl⟩
  · skip
    simp at hc0
theorem jcomU_con (j : JM) (a : JA) (r : FR) (f : AF) (id : Nat) (w : World) (hok : j.Ok a) (hfo : r.Ok f) (hfp : j.fp = r.ptr) (hc : a.dead = false → a.down ≠ [] → ComOk a f id) (hP : P10 w) (h0 : 0 ∉ dom (j.heap ++ r.heap)) : Con Tryd.prog 10 [j.ptr] w (j.heap ++ r.heap) fun u S' => u = .int .i64 (comE a f id) ∧ ∃ (j' : JM) (r' : FR), S' = [j'.heap, r'.heap] ∧ j'.Ok (comJ a f id) ∧ r'.Ok (comA a f id) ∧ j'.gj = j.gj ∧ j'.fp = j.fp ∧ r'.gf = r.gf := by
  cases hd : a.dead
  · by_cases hdn : a.down = []
    · exact jcom0_con j a r f id w hok hfo hd hdn
    · exact jcom_con j a r f id w hok hfo hfp hd hdn (hc hd hdn) hP h0
  · exact jcomD_con j a r f id w hok hfo hd
end Go.Proofs.YtomajiicjinekaaDoor
/-! Jn14 -/
namespace Go.Proofs.YtomajiicjinekaaDoor
open Go Go.Sx
set_option maxRecDepth 100000
set_option maxHeartbeats 4000000
set_option linter.unusedVariables false
set_option linter.unusedSimpArgs false
attribute [local irreducible] J JQ QS Con W opW
def rmF (f : AF) (n : List UInt8) : AF := if remE f n = 0 then stepF f (.rm n) else f
structure ResOk (a : JA) (f : AF) (id : Nat) : Prop where
  nl : 1 ≤ a.name.length ∧ a.name.length ≤ 100
  ag : a.age + 1 < 10000
  rm : f.room ≤ 1073741824
  us : 0 ≤ f.now.used ∧ f.now.used + 100 ≤ f.room
  nm : f.now.nm.length < 16000
  pd : f.pend.length < 16000
  id : ∀ q ∈ f.now.nm, q.2 ≠ id
attribute [local irreducible] sum gsE headE fileN contA readE grpE fillE
end Go.Proofs.YtomajiicjinekaaDoor
/-! Jn15 -/
namespace Go.Proofs.YtomajiicjinekaaDoor
open Go Go.Sx
set_option maxRecDepth 100000
set_option maxHeartbeats 4000000
set_option linter.unusedVariables false
set_option linter.unusedSimpArgs false
attribute [local irreducible] J JQ QS Con W opW
def NR.heap (n : NR) : SH := n.c ++ n.lf
attribute [local irreducible] sum gsE headE fileN contA readE grpE fillE
end Go.Proofs.YtomajiicjinekaaDoor
/-! Jn16 -/
namespace Go.Proofs.YtomajiicjinekaaDoor
open Go Go.Sx
set_option maxRecDepth 100000
set_option maxHeartbeats 4000000
set_option linter.unusedVariables false
set_option linter.unusedSimpArgs false
attribute [local irreducible] J JQ QS Con W opW
theorem NR.Ok.form {s : NR} (h : s.Ok) : ∃ A cap, s.v = .slice A s.L.length cap ∧ (0 < s.L.length → ∃ g, A = some ⟨g, 0, none⟩) := by
  rcases h.row with ⟨h1, h2, h3⟩ | ⟨g, n, cap, rest, fz, h1, h2, h3, h4, h5, h6⟩
  · have : s.L = [] := by simpa using h2
    exact ⟨none, 0, by rw [h1, this]; rfl, fun hp => by rw [this] at hp; simp at hp⟩
  · rw [List.length_map, Nat.mul_one] at h3
    exact ⟨_, cap, by rw [h1, h3], fun _ => ⟨g, rfl⟩⟩
theorem NR.in_get {n : NR} {w : World} (h : In w n.lf) {x : RR} (hx : x ∈ n.L) : In w x.heap := fun q hq => h q (List.mem_flatten.2 ⟨_, List.mem_map.2 ⟨x, hx, rfl⟩, hq⟩)
attribute [local irreducible] sum gsE headE fileN contA readE grpE fillE
end Go.Proofs.YtomajiicjinekaaDoor
/-! Jn17 -/
namespace Go.Proofs.YtomajiicjinekaaDoor
open Go Go.Sx
set_option maxRecDepth 100000
set_option maxHeartbeats 4000000
set_option linter.unusedVariables false
set_option linter.unusedSimpArgs false
attribute [local irreducible] J JQ QS Con W opW
def SeenL {α : Type} (R : World → Value → α → Prop) (w : World) (v : Value) (l : List α) : Prop :=
  ∃ (A : Option Addr) (cap : Nat) (vs : List Value), v = .slice A l.length cap ∧ vs.length = l.length ∧ (0 < l.length → ∃ a, A = some a ∧ Cells w a vs) ∧ ∀ (i : Nat) (x : α) (u : Value), l[i]? = some x → vs[i]? = some u → R w u x
abbrev BRR : World → Value → List (List UInt8) → Prop := SeenL BR
abbrev BGG : World → Value → List (List (List UInt8)) → Prop := SeenL BRR
theorem RR.Ok.seen {r : RR} (h : r.Ok) {w : World} (hin : In w r.heap) : BRR w r.v r.rs := by
  obtain ⟨A, cap, hv, hA⟩ := h.form
  refine ⟨A, cap, r.L.map fun t => t.2.1, by rw [hv, RR.rs, List.length_map], by rw [RR.rs, List.length_map, List.length_map], fun hp => ?_, fun i x u hx hu => ?_⟩
  · rw [RR.rs, List.length_map] at hp
    obtain ⟨g, hg⟩ := hA hp
    have hrow := h.row
    rw [hv, hg] at hrow
    exact ⟨_, hg, own_cellsI hrow fun q hq => hin q (List.mem_append_left _ hq)⟩
  · rw [RR.rs, List.getElem?_map] at hx
    rw [List.getElem?_map] at hu
    cases ht : r.L[i]? with
    | none => rw [ht] at hx; cases hx
    | some t =>
      rw [ht] at hx hu
      cases hx
      cases hu
      exact h.br (fun q hq => hin q (List.mem_append_right _ hq)) (List.mem_of_getElem? ht)
theorem NR.Ok.seen {n : NR} (h : n.Ok) {w : World} (hin : In w n.heap) : BGG w n.v n.gs := by
  obtain ⟨A, cap, hv, hA⟩ := h.form
  refine ⟨A, cap, n.L.map RR.v, by rw [hv, NR.gs, List.length_map], by rw [NR.gs, List.length_map, List.length_map], fun hp => ?_, fun i x u hx hu => ?_⟩
  · rw [NR.gs, List.length_map] at hp
    obtain ⟨g, hg⟩ := hA hp
    have hrow := h.row
    rw [hv, hg] at hrow
    exact ⟨_, hg, own_cellsI hrow fun q hq => hin q (List.mem_append_left _ hq)⟩
  · rw [NR.gs, List.getElem?_map] at hx
    rw [List.getElem?_map] at hu
    cases ht : n.L[i]? with
    | none => rw [ht] at hx; cases hx
    | some t =>
      rw [ht] at hx hu
      cases hx
      cases hu
      have htm := List.mem_of_getElem? ht
      exact (h.rr t htm).seen (NR.in_get (fun q hq => hin q (List.mem_append_right _ hq)) htm)
theorem SeenL.form {α : Type} {R : World → Value → α → Prop} {w : World} {v : Value} {l : List α} (h : SeenL R w v l) : ∃ A cap, v = .slice A l.length cap := by
  obtain ⟨A, cap, _, h1, _⟩ := h
  exact ⟨A, cap, h1⟩
theorem SeenL.at {α : Type} {R : World → Value → α → Prop} {w : World} {A : Option Addr} {cap : Nat} {l : List α} (h : SeenL R w (.slice A l.length cap) l) {i : Nat} (hi : i < l.length) : ∃ (a : Addr) (vs : List Value) (u : Value), A = some a ∧ Cells w a vs ∧ vs[i]? = some u ∧ R w u l[i] := by
  obtain ⟨A', cap', vs, h1, h2, h3, h4⟩ := h
  injection h1 with e1 e2 e3
  obtain ⟨a, ha, hc⟩ := h3 (by omega)
  have hv : vs[i]? = some vs[i] := List.getElem?_eq_getElem (by omega)
  exact ⟨a, vs, vs[i], e1.trans ha, hc, hv, h4 i _ _ (List.getElem?_eq_getElem hi) hv⟩
attribute [local irreducible] sum gsE headE fileN contA readE grpE fillE
theorem groups_con (xs ys : List (List (List UInt8))) (v1 v2 : Value) (w : World) (h1 : BGG w v1 xs) (h2 : BGG w v2 ys) (hl : xs.length ≤ 1000000) (hl2 : ∀ g ∈ xs, g.length ≤ 1000000 ∧ ∀ r ∈ g, r.length ≤ 1000000) : Con Tryd.prog 13 [v1, v2] w [] fun u _ => ∃ b, u = .bool b ∧ (xs = ys → b = true) := by
  refine con_of_tree mix Tryd.func13 T13_ok (by kernel_rfl) ?_
  unfold T13
  obtain ⟨A1, c1, hv1⟩ := h1.form
  obtain ⟨A2, c2, hv2⟩ := h2.form
  subst hv1 hv2
  refine j_q (qs_ac) ?_
  refine j_q (qs_lenl Tryd.underlying32 rfl) ?_
  refine j_q (qs_lenl Tryd.underlying32 rfl) ?_
  refine j_q (qs_neq rfl rfl) ?_
  refine j_cond rfl (fun hc0 => ?_) (fun hc0 => ?_)
  · skip
    have hne : xs.length ≠ ys.length := by
      simp only [bnA] at *
      omega
    refine j_q (qs_ac) ?_
    refine j_ret_con (vs := [_]) (fun w' hw' => ⟨rfl, trivial⟩) ?_
    exact ⟨false, rfl, fun e => absurd (congrArg List.length e) hne⟩
  · skip
    have heq : xs.length = ys.length := by
      simp only [bnA] at *
      omega
    refine j_q (qs_ac) ?_
    refine j_loop (fun m vs S' => ∃ i : Nat, vs = [.int .i64 (i : Int)] ∧ S' = [[]] ∧ i ≤ xs.length ∧ m = xs.length - i) ⟨_, 0, rfl, rfl, Nat.zero_le _, rfl⟩ ?_
    rintro m vs S' hlen ⟨i, rfl, rfl, hin, rfl⟩
    refine j_q (qs_lenl Tryd.underlying32 rfl) ?_
    refine j_q (qs_lss rfl rfl) ?_
    refine j_cond rfl (fun hc1 => ?_) (fun hc1 => ?_)
    · skip
      have hi : i < xs.length := by
        simp only [bnA] at *
        omega
      have hi2 : i < ys.length := by omega
      obtain ⟨a1, vs1, u1, ha1, hq1, hu1, hR1⟩ := h1.at hi
      obtain ⟨a2, vs2, u2, ha2, hq2, hu2, hR2⟩ := h2.at hi2
      obtain ⟨p1, hp1⟩ : ∃ p, p = xs[i] := ⟨_, rfl⟩
      obtain ⟨p2, hp2⟩ : ∃ p, p = ys[i] := ⟨_, rfl⟩
      rw [← hp1] at hR1
      rw [← hp2] at hR2
      obtain ⟨B1, d1, hf1⟩ := hR1.form
      obtain ⟨B2, d2, hf2⟩ := hR2.form
      rw [hf1] at hR1
      rw [hf2] at hR2
      have hlx := hl2 p1 (by rw [hp1]; exact List.getElem_mem hi)
      have hL : ∀ k (h : k < p1.length), p1[k].length ≤ 1000000 := fun k h => hlx.2 _ (List.getElem_mem h)
      have hpl := hlx.1
      have hpe : xs = ys → p1 = p2 := fun e => by subst e; rw [hp1, hp2]
      refine j_draw ?_
      refine jq_q (qs_ixl0 (a := a1) (n := xs.length) (c := c1) Tryd.underlying32 sz39 (by show Value.slice A1 _ _ = _; rw [ha1]) rfl (by omega)) ?_
      refine jq_q (qs_loadR (v := u1) (a := a1) (i := i) (rd_cells hq1 (by simp)) Tryd.underlying39 rfl (by show Value.pointer (some (Addr.add a1 (i : Int).toNat)) = _; rw [Int.toNat_natCast]) hu1) ?_
      rw [hf1]
      refine jq_q (qs_lenl Tryd.underlying39 rfl) ?_
      refine jq_q (qs_ixl0 (a := a2) (n := ys.length) (c := c2) Tryd.underlying32 sz39 (by show Value.slice A2 _ _ = _; rw [ha2]) rfl (by omega)) ?_
      refine jq_q (qs_loadR (v := u2) (a := a2) (i := i) (rd_cells hq2 (by simp)) Tryd.underlying39 rfl (by show Value.pointer (some (Addr.add a2 (i : Int).toNat)) = _; rw [Int.toNat_natCast]) hu2) ?_
      rw [hf2]
      refine jq_q (qs_lenl Tryd.underlying39 rfl) ?_
      refine jq_q (qs_neq rfl rfl) ?_
      refine jq_nil ?_
      refine j_cond rfl (fun hc2 => ?_) (fun hc2 => ?_)
      · skip
        have hne : p1.length ≠ p2.length := by
          simp only [bnA] at *
          omega
        refine j_q (qs_ac) ?_
        refine j_ret_con (vs := [_]) (fun w' hw' => ⟨rfl, trivial⟩) ?_
        exact ⟨false, rfl, fun e => absurd (congrArg List.length (hpe e)) hne⟩
      · skip
        have hpq : p1.length = p2.length := by
          simp only [bnA] at *
          omega
        refine j_q (qs_ac) ?_
        refine j_loop (fun m vs S' => ∃ k : Nat, vs = [.int .i64 (k : Int)] ∧ S' = [[]] ∧ k ≤ p1.length ∧ m = p1.length - k) ⟨_, 0, rfl, rfl, Nat.zero_le _, rfl⟩ ?_
        rintro m vs S' hlen ⟨k, rfl, rfl, hkn, rfl⟩
        refine j_q (qs_ixl0 (a := a1) (n := xs.length) (c := c1) Tryd.underlying32 sz39 (by show Value.slice A1 _ _ = _; rw [ha1]) rfl (by omega)) ?_
        refine j_q (qs_loadR (v := u1) (a := a1) (i := i) (rd_cells hq1 (by simp)) Tryd.underlying39 rfl (by show Value.pointer (some (Addr.add a1 (i : Int).toNat)) = _; rw [Int.toNat_natCast]) hu1) ?_
        rw [hf1]
        refine j_q (qs_lenl Tryd.underlying39 rfl) ?_
        refine j_q (qs_lss rfl rfl) ?_
        refine j_cond rfl (fun hc3 => ?_) (fun hc3 => ?_)
        · skip
          have hk1 : k < p1.length := by
            simp only [bnA] at *
            omega
          have hk2 : k < p2.length := by omega
          obtain ⟨b1, ws1, t1, hb1, hd1, ht1, hr1⟩ := hR1.at hk1
          obtain ⟨b2, ws2, t2, hb2, hd2, ht2, hr2⟩ := hR2.at hk2
          have hx8 := hL k hk1
          have hx9 : p1 = p2 → p1[k] = p2[k] := fun e => by subst e; rfl
          obtain ⟨x1, hx1⟩ : ∃ z, z = p1[k] := ⟨_, rfl⟩
          obtain ⟨x2, hx2⟩ : ∃ z, z = p2[k] := ⟨_, rfl⟩
          rw [← hx1] at hr1 hx8 hx9
          rw [← hx2] at hr2 hx9
          refine j_draw ?_
          refine jq_q (qs_ixl0 (a := a1) (n := xs.length) (c := c1) Tryd.underlying32 sz39 (by show Value.slice A1 _ _ = _; rw [ha1]) rfl (by omega)) ?_
          refine jq_q (qs_loadR (v := u1) (a := a1) (i := i) (rd_cells hq1 (by simp)) Tryd.underlying39 rfl (by show Value.pointer (some (Addr.add a1 (i : Int).toNat)) = _; rw [Int.toNat_natCast]) hu1) ?_
          rw [hf1]
          refine jq_q (qs_ixl0 (a := b1) (n := p1.length) (c := d1) Tryd.underlying39 sz22 (by show Value.slice B1 _ _ = _; rw [hb1]) rfl (by omega)) ?_
          refine jq_q (qs_loadR (v := t1) (a := b1) (i := k) (rd_cells hd1 (by simp)) Tryd.underlying22 rfl (by show Value.pointer (some (Addr.add b1 (k : Int).toNat)) = _; rw [Int.toNat_natCast]) ht1) ?_
          refine jq_q (qs_ixl0 (a := a2) (n := ys.length) (c := c2) Tryd.underlying32 sz39 (by show Value.slice A2 _ _ = _; rw [ha2]) rfl (by omega)) ?_
          refine jq_q (qs_loadR (v := u2) (a := a2) (i := i) (rd_cells hq2 (by simp)) Tryd.underlying39 rfl (by show Value.pointer (some (Addr.add a2 (i : Int).toNat)) = _; rw [Int.toNat_natCast]) hu2) ?_
          rw [hf2]
          refine jq_q (qs_ixl0 (a := b2) (n := p2.length) (c := d2) Tryd.underlying39 sz22 (by show Value.slice B2 _ _ = _; rw [hb2]) rfl (by omega)) ?_
          refine jq_q (qs_loadR (v := t2) (a := b2) (i := k) (rd_cells hd2 (by simp)) Tryd.underlying22 rfl (by show Value.pointer (some (Addr.add b2 (k : Int).toNat)) = _; rw [Int.toNat_natCast]) ht2) ?_
          refine jq_q (qs_call ent12 rfl rfl rfl (fun w' hw' => same_con x1 x2 _ _ w' (br0 hr1 hw') (br0 hr2 hw') (by omega))) ?_
          refine jq_q (qs_not rfl) ?_
          refine jq_nil ?_
          refine j_cond rfl (fun hc4 => ?_) (fun hc4 => ?_)
          · skip
            have hdf : x1 ≠ x2 := fun e => by
              rw [e] at hc4
              simp at hc4
            refine j_q (qs_ac) ?_
            refine j_ret_con (vs := [_]) (fun w' hw' => ⟨rfl, trivial⟩) ?_
            exact ⟨false, rfl, fun e => absurd (hx9 (hpe e)) hdf⟩
          · skip
            refine j_q (qs_add64 rfl rfl (by first | omega | (simp only [bnA] at *; omega))) ?_
            refine j_back rfl ?_
            exact ⟨_, by omega, k + 1, rfl, rfl, by omega, rfl⟩
        · skip
          refine j_q (qs_add64 rfl rfl (by first | omega | (simp only [bnA] at *; omega))) ?_
          refine j_back rfl ?_
          exact ⟨_, by omega, i + 1, rfl, rfl, by omega, rfl⟩
    · skip
      refine j_q (qs_ac) ?_
      refine j_ret_con (vs := [_]) (fun w' hw' => ⟨rfl, trivial⟩) ?_
      exact ⟨true, rfl, fun _ => rfl⟩
end Go.Proofs.YtomajiicjinekaaDoor
/-! Jn18 -/
namespace Go.Proofs.YtomajiicjinekaaDoor
open Go Go.Sx Go.MapKept Go.WideMaps Go.Maps
set_option maxRecDepth 100000
set_option linter.unusedVariables false
theorem alook_lets {a : AS} {n k : List UInt8} : alook (letsA a n).nm k = if n = k then none else alook a.nm k := by
  unfold letsA
  cases h : alook a.nm n with
  | none =>
    simp only
    split
    · rename_i e
      rw [← e, h]
    · rfl
  | some i =>
    simp only
    exact alook_mdel _ _ _
theorem alook_snoc (m : List (List UInt8 × Nat)) (n k : List UInt8) (i : Nat) (h : alook m n = none) : alook (m ++ [(n, i)]) k = if n = k then some i else alook m k := by
  split
  · rename_i e
    rw [← e]
    exact alook_append_hit (fun q hq => alook_none.1 h q hq)
  · rename_i e
    cases hk : alook m k with
    | some v => rw [alook_app (by rw [hk]; rfl), hk]
    | none =>
      refine alook_none.2 fun p hp => ?_
      rcases List.mem_append.1 hp with hp | hp
      · exact alook_none.1 hk p hp
      · rw [List.mem_singleton.1 hp]
        exact e
theorem alook_gives {a : AS} {n k : List UInt8} {i : Nat} : alook (givesA a n i).nm k = if n = k then some i else alook a.nm k := by
  unfold givesA
  split
  · rename_i h
    split
    · rename_i e
      rw [← e, h]
    · rfl
  · rename_i h
    simp only
    rw [alook_snoc _ _ _ _ (by rw [alook_lets, if_pos rfl]), alook_lets]
    split
    · rfl
    · rfl
theorem alook_write {a : AS} {n xs k : List UInt8} {i : Nat} : alook (writeA a n xs i).nm k = if n = k then some i else alook a.nm k := by
  unfold writeA
  simp only
  rw [alook_gives]
  split
  · rfl
  · rename_i e
    simp only
    rw [alook_lets, if_neg e]
theorem letsA_dt {a : AS} {n : List UInt8} : (letsA a n).dt = a.dt := by
  unfold letsA
  split <;> rfl
theorem givesA_dt {a : AS} {n : List UInt8} {i : Nat} : (givesA a n i).dt = a.dt := by
  unfold givesA
  split
  · rfl
  · exact letsA_dt
theorem dt_write {a : AS} {n xs : List UInt8} {i : Nat} : (writeA a n xs i).dt = updA a.dt i xs := by
  unfold writeA
  simp only
  rw [givesA_dt, letsA_dt]
theorem cont_write {a : AS} {n xs k : List UInt8} {i : Nat} (hf : ∀ q ∈ a.nm, q.2 ≠ i) : contA (writeA a n xs i) k = if n = k then xs else contA a k := by
  unfold contA
  rw [alook_write, dt_write]
  split
  · rename_i e
    split at e
    · cases e
    · rename_i h
      rw [if_neg h, e]
  · rename_i j e
    split at e
    · rename_i h
      injection e with e
      rw [if_pos h, ← e]
      unfold updA
      rw [if_pos rfl]
    · rename_i h
      rw [if_neg h, e]
      simp only
      unfold updA
      rw [if_neg (hf _ (alook_mem e))]
theorem alook_appA {a : AS} {n xs k : List UInt8} : alook (appA a n xs).nm k = alook a.nm k := by
  unfold appA
  split <;> rfl
def Sole (a : AS) : Prop := ∀ k k' i, alook a.nm k = some i → alook a.nm k' = some i → k = k'
theorem cont_app {a : AS} {n xs k : List UInt8} (hs : Sole a) (hn : alook a.nm n ≠ none) : contA (appA a n xs) k = if n = k then contA a n ++ xs else contA a k := by
  obtain ⟨i, hi⟩ := Option.ne_none_iff_exists'.1 hn
  unfold contA
  rw [alook_appA]
  have hd : (appA a n xs).dt = updA a.dt i (a.dt i ++ xs) := by
    unfold appA
    rw [hi]
  rw [hd]
  split
  · rename_i e
    rw [hi]
    split
    · rename_i h
      rw [← h, hi] at e
      cases e
    · rfl
  · rename_i j e
    rw [hi]
    split
    · rename_i h
      rw [← h, hi] at e
      injection e with e
      simp only
      rw [← e]
      unfold updA
      rw [if_pos rfl]
    · rename_i h
      unfold updA
      rw [if_neg]
      intro hj
      rw [hj] at e
      exact h (hs _ _ _ hi e)
theorem cont_lets {a : AS} {n k : List UInt8} (h : n ≠ k) : contA (letsA a n) k = contA a k := by
  unfold contA
  rw [alook_lets, if_neg h, letsA_dt]
theorem Sole.write {a : AS} (h : Sole a) {n xs : List UInt8} {i : Nat} (hf : ∀ q ∈ a.nm, q.2 ≠ i) : Sole (writeA a n xs i) := fun k k' j h1 h2 => by
  rw [alook_write] at h1 h2
  split at h1 <;> split at h2
  · rename_i e1 e2
    rw [← e1, e2]
  · injection h1 with h1
    exact absurd h1.symm (hf _ (alook_mem h2))
  · injection h2 with h2
    exact absurd h2.symm (hf _ (alook_mem h1))
  · exact h k k' j h1 h2
theorem Sole.app {a : AS} (h : Sole a) {n xs : List UInt8} : Sole (appA a n xs) := fun k k' j h1 h2 => by
  rw [alook_appA] at h1 h2
  exact h k k' j h1 h2
theorem Sole.lets {a : AS} (h : Sole a) {n : List UInt8} : Sole (letsA a n) := fun k k' j h1 h2 => by
  rw [alook_lets] at h1 h2
  split at h1
  · cases h1
  · split at h2
    · cases h2
    · exact h k k' j h1 h2
end Go.Proofs.YtomajiicjinekaaDoor
/-! Jn19 -/
namespace Go.Proofs.YtomajiicjinekaaDoor
open Go Go.Sx Go.MapKept Go.WideMaps Go.Maps
set_option maxRecDepth 100000
set_option linter.unusedVariables false
def valD (l : List UInt8) : Nat := l.foldl (fun n c => n * 10 + (c.toNat - 48)) 0
theorem valD_snoc (l : List UInt8) (c : UInt8) : valD (l ++ [c]) = valD l * 10 + (c.toNat - 48) := by
  unfold valD
  rw [List.foldl_append]
  rfl
theorem dig_nat {d : Nat} (h : d < 10) : (UInt8.ofNat (48 + d)).toNat = 48 + d := by
  rw [UInt8.toNat_ofNat']
  omega
theorem valD_dec (n : Nat) : valD (dec n) = n := by
  induction n using Nat.strongRecOn with
  | _ n ih =>
    by_cases h : n < 10
    · rw [dec_small h]
      show 0 * 10 + ((UInt8.ofNat (48 + n)).toNat - 48) = n
      rw [dig_nat h]
      omega
    · rw [dec_big (by omega), valD_snoc, ih (n / 10) (by omega), dig_nat (Nat.mod_lt _ (by decide))]
      omega
theorem dec_dig (n : Nat) : ∀ c ∈ dec n, c ≠ 46 := by
  induction n using Nat.strongRecOn with
  | _ n ih =>
    intro c hc e
    by_cases h : n < 10
    · rw [dec_small h, List.mem_singleton] at hc
      rw [hc] at e
      have := congrArg UInt8.toNat e
      rw [dig_nat h] at this
      simp at this
      omega
    · rw [dec_big (by omega)] at hc
      rcases List.mem_append.1 hc with hc | hc
      · exact ih (n / 10) (by omega) c hc e
      · rw [List.mem_singleton] at hc
        rw [hc] at e
        have := congrArg UInt8.toNat e
        rw [dig_nat (Nat.mod_lt _ (by decide))] at this
        simp at this
        omega
theorem dec_inj {n m : Nat} (h : dec n = dec m) : n = m := by rw [← valD_dec n, h, valD_dec]
theorem split46 {a b c d : List UInt8} (ha : ∀ x ∈ a, x ≠ 46) (hb : ∀ x ∈ b, x ≠ 46) (h : a ++ 46 :: c = b ++ 46 :: d) : a = b ∧ c = d := by
  induction a generalizing b with
  | nil =>
    cases b with
    | nil => exact ⟨rfl, by simpa using h⟩
    | cons y b =>
      rw [List.nil_append, List.cons_append] at h
      injection h with h1 h2
      exact absurd h1.symm (hb y (List.mem_cons_self ..))
  | cons x a ih =>
    cases b with
    | nil =>
      rw [List.nil_append, List.cons_append] at h
      injection h with h1 h2
      exact absurd h1 (ha x (List.mem_cons_self ..))
    | cons y b =>
      rw [List.cons_append, List.cons_append] at h
      injection h with h1 h2
      obtain ⟨h3, h4⟩ := ih (fun z hz => ha z (List.mem_cons_of_mem _ hz)) (fun z hz => hb z (List.mem_cons_of_mem _ hz)) h2
      exact ⟨by rw [h1, h3], h4⟩
theorem fileN_inj {name : List UInt8} {a p a' p' : Nat} (h : fileN name a p = fileN name a' p') : a = a' ∧ p = p' := by
  unfold fileN at h
  simp only [List.append_assoc, List.cons_append, List.nil_append] at h
  have h1 := List.append_cancel_left h
  injection h1 with _ h2
  obtain ⟨h3, h4⟩ := split46 (dec_dig a) (dec_dig a') h2
  exact ⟨dec_inj h3, dec_inj h4⟩
theorem fileN_ne (name : List UInt8) (a p : Nat) : fileN name a p ≠ name := fun h => by
  have := congrArg List.length h
  unfold fileN at this
  simp only [List.length_append, List.length_cons, List.length_nil] at this
  omega
theorem JS.rm {name : List UInt8} {age : Nat} {s : AS} (h : JS name age [] s) {n : List UInt8} (hn : n ≠ name) : JS name age [] (letsA s n) := by
  have hno : ∀ k, alook s.nm k = none → alook (letsA s n).nm k = none := fun k hk => by
    rw [alook_lets]
    split
    · rfl
    · exact hk
  refine ⟨?_, .inl ⟨rfl, ?_⟩, hno _ h.f1, fun a ha p => hno _ (h.nx a ha p)⟩
  · rcases h.hd with ⟨h1, h2⟩ | ⟨h1, h2⟩
    · exact .inl ⟨h1, hno _ h2⟩
    · refine .inr ⟨?_, by rw [cont_lets hn]; exact h2⟩
      rw [alook_lets, if_neg hn]
      exact h1
  · rcases h.f0 with ⟨_, h2⟩ | ⟨h2, _⟩
    · exact hno _ h2
    · exact absurd rfl h2
theorem JS.com {a : JA} {s : AS} (h : JS a.name a.age a.gs s) (hs : Sole s) {id : Nat} (hf : ∀ q ∈ s.nm, q.2 ≠ id) : JS a.name a.age (a.gs ++ [a.down]) (doA s (comT a id)) := by
  have h1 : ∀ p, fileN a.name a.age 0 ≠ fileN a.name a.age (p + 1) := fun p e => by have := (fileN_inj e).2; omega
  have h2 : ∀ b p, a.age < b → fileN a.name a.age 0 ≠ fileN a.name b p := fun b p hb e => by have := (fileN_inj e).1; omega
  have h3 := fileN_ne a.name a.age 0
  unfold comT
  by_cases hg : a.gs = []
  · rw [if_pos hg]
    show JS _ _ _ (writeA s _ _ id)
    refine ⟨?_, .inr ⟨by simp, by rw [alook_write, if_pos rfl]; simp, by rw [cont_write hf, if_pos rfl, hg, gsE_snoc, gsE_nil, List.nil_append]⟩, ?_, fun b hb p => ?_⟩
    · rw [alook_write, if_neg h3, cont_write hf, if_neg h3]
      exact h.hd
    · rw [alook_write, if_neg (h1 0)]
      exact h.f1
    · rw [alook_write, if_neg (h2 b p hb)]
      exact h.nx b hb p
  · rw [if_neg hg]
    obtain ⟨hy, hc⟩ : alook s.nm (fileN a.name a.age 0) ≠ none ∧ contA s (fileN a.name a.age 0) = gsE a.gs := by
      rcases h.f0 with ⟨h4, _⟩ | ⟨_, h4, h5⟩
      · exact absurd h4 hg
      · exact ⟨h4, h5⟩
    show JS _ _ _ (appA s _ _)
    refine ⟨?_, .inr ⟨by simp, by rw [alook_appA]; exact hy, by rw [cont_app hs hy, if_pos rfl, hc, gsE_snoc]⟩, ?_, fun b hb p => ?_⟩
    · rw [alook_appA, cont_app hs hy, if_neg h3]
      exact h.hd
    · rw [alook_appA]
      exact h.f1
    · rw [alook_appA]
      exact h.nx b hb p
end Go.Proofs.YtomajiicjinekaaDoor
/-! Jn20 -/
namespace Go.Proofs.YtomajiicjinekaaDoor
open Go Go.Sx Go.MapKept Go.WideMaps Go.Maps
set_option maxRecDepth 100000
set_option linter.unusedVariables false
structure Bd (a : AS) (u : Int) (n i : Nat) : Prop where
  us : a.used ≤ u
  nm : a.nm.length ≤ n
  id : ∀ q ∈ a.nm, q.2 < i
theorem mdel_le {β : Type} (m : List (List UInt8 × β)) (k : List UInt8) : (mdel m k).length ≤ m.length := by
  unfold mdel
  exact List.length_filter_le _ _
theorem mem_mdel {β : Type} {m : List (List UInt8 × β)} {k : List UInt8} {q : List UInt8 × β} (h : q ∈ mdel m k) : q ∈ m := by
  unfold mdel at h
  exact (List.mem_filter.1 h).1
theorem Bd.lets {a : AS} {u : Int} {n i : Nat} (h : Bd a u n i) (k : List UInt8) : Bd (letsA a k) u n i := by
  unfold letsA
  cases hk : alook a.nm k with
  | none => exact h
  | some j =>
    refine ⟨?_, Nat.le_trans (mdel_le _ _) h.nm, fun q hq => h.id q (mem_mdel hq)⟩
    simp only
    have := h.us
    split
    · have : (0 : Int) ≤ ((a.dt j).length : Int) := Int.natCast_nonneg _
      omega
    · exact this
theorem Bd.gives {a : AS} {u : Int} {n i : Nat} (h : Bd a u n i) (k : List UInt8) {j : Nat} (hj : j < i) : Bd (givesA a k j) u (n + 1) i := by
  unfold givesA
  split
  · exact ⟨h.us, Nat.le_succ_of_le h.nm, h.id⟩
  · have h1 := h.lets k
    refine ⟨h1.us, ?_, fun q hq => ?_⟩
    · simp only [List.length_append, List.length_cons, List.length_nil]
      have := h1.nm
      omega
    · rcases List.mem_append.1 hq with hq | hq
      · exact h1.id q hq
      · rw [List.mem_singleton.1 hq]
        exact hj
theorem Bd.mono {a : AS} {u u' : Int} {n n' i i' : Nat} (h : Bd a u n i) (hu : u ≤ u') (hn : n ≤ n') (hi : i ≤ i') : Bd a u' n' i' :=
  ⟨Int.le_trans h.us hu, Nat.le_trans h.nm hn, fun q hq => Nat.lt_of_lt_of_le (h.id q hq) hi⟩
theorem Bd.write {a : AS} {u : Int} {n i : Nat} (h : Bd a u n i) (k xs : List UInt8) : Bd (writeA a k xs i) (u + (xs.length : Int)) (n + 1) (i + 1) := by
  have h1 := (h.lets k).mono (Int.le_refl _) (Nat.le_refl _) (Nat.le_succ i)
  have h2 : Bd { letsA a k with dt := updA (letsA a k).dt i xs } u n (i + 1) := ⟨h1.us, h1.nm, h1.id⟩
  have h3 := h2.gives k (j := i) (Nat.lt_succ_self i)
  unfold writeA
  exact ⟨Int.add_le_add_right h3.us _, h3.nm, h3.id⟩
theorem Bd.app {a : AS} {u : Int} {n i : Nat} (h : Bd a u n i) (k xs : List UInt8) : Bd (appA a k xs) (u + (xs.length : Int)) n i := by
  unfold appA
  have := h.us
  split
  · exact ⟨by omega, h.nm, h.id⟩
  · exact ⟨by simp only; omega, h.nm, h.id⟩
end Go.Proofs.YtomajiicjinekaaDoor
/-! Jn21 -/
namespace Go.Proofs.YtomajiicjinekaaDoor
open Go Go.Sx Go.MapKept Go.WideMaps Go.Maps
set_option maxRecDepth 100000
set_option linter.unusedVariables false
def AllF (P : AS → Prop) (f : AF) : Prop := ∀ k, k ≤ f.pend.length → P (runA f.base (f.pend.take k))
theorem AllF.now {P : AS → Prop} {f : AF} (h : AllF P f) : P f.now := by
  have := h f.pend.length (Nat.le_refl _)
  rwa [List.take_length] at this
theorem AllF.mono {P Q : AS → Prop} {f : AF} (h : AllF P f) (hq : ∀ s, P s → Q s) : AllF Q f := fun k hk => hq _ (h k hk)
theorem AllF.and {P Q : AS → Prop} {f : AF} (h : AllF P f) (h2 : AllF Q f) : AllF (fun s => P s ∧ Q s) f := fun k hk => ⟨h k hk, h2 k hk⟩
theorem AllF.step {P : AS → Prop} {f : AF} (h : AllF P f) {t : AT} (ht : P (doA f.now t)) : AllF P (stepF f t) := fun k hk => by
  have hk' : k ≤ f.pend.length + 1 := by simpa [stepF] using hk
  show P (runA f.base ((f.pend ++ [t]).take k))
  rcases Nat.lt_or_ge k (f.pend.length + 1) with h1 | h1
  · rw [List.take_append_of_le_length (by omega)]
    exact h k (by omega)
  · rw [List.take_of_length_le (by rw [List.length_append]; simp; omega), runA_snoc]
    exact ht
theorem AllF.sync {P : AS → Prop} {f : AF} (h : P f.now) : AllF P (syncF f) := fun k hk => by
  have hk' : k ≤ 0 := by simpa [syncF] using hk
  have h0 : k = 0 := by omega
  subst h0
  exact h
theorem AllF.crash {P : AS → Prop} {f : AF} (h : AllF P f) (keep : Int) : AllF P (crashF f keep) := fun k hk => by
  have hk' : k ≤ 0 := by simpa [crashF] using hk
  have h0 : k = 0 := by omega
  subst h0
  show P (runA f.base (f.pend.take (keepN f.pend.length keep)))
  rcases Nat.le_total (keepN f.pend.length keep) f.pend.length with h1 | h1
  · exact h _ h1
  · rw [List.take_of_length_le h1, ← List.take_length (l := f.pend)]
    exact h _ (Nat.le_refl _)
theorem AllF.rm {P : AS → Prop} {f : AF} (h : AllF P f) {n : List UInt8} (ht : P (letsA f.now n)) : AllF P (rmF f n) := by
  unfold rmF
  split
  · exact h.step ht
  · exact h
theorem AllF.new {P : AS → Prop} {room : Int} (h : P AS0) : AllF P (AF0 room) := fun k hk => by
  have hk' : k ≤ 0 := by simpa [AF0] using hk
  have h0 : k = 0 := by omega
  subst h0
  exact h
end Go.Proofs.YtomajiicjinekaaDoor
/-! Jn22 -/
namespace Go.Proofs.YtomajiicjinekaaDoor
open Go Go.Sx Go.MapKept Go.WideMaps Go.Maps
set_option maxRecDepth 100000
set_option linter.unusedVariables false
def JI (u : Int) (n i : Nat) (a : JA) (f : AF) : Prop := AllF (fun s => JS a.name a.age a.gs s ∧ Sole s ∧ Bd s u n i) f
theorem Bd.fresh {s : AS} {u : Int} {n i : Nat} (h : Bd s u n i) : ∀ q ∈ s.nm, q.2 ≠ i := fun q hq => Nat.ne_of_lt (h.id q hq)
theorem JI.mono {u u' : Int} {n n' i i' : Nat} {a : JA} {f : AF} (h : JI u n i a f) (hu : u ≤ u') (hn : n ≤ n') (hi : i ≤ i') : JI u' n' i' a f :=
  AllF.mono h fun s hs => ⟨hs.1, hs.2.1, hs.2.2.mono hu hn hi⟩
theorem JI.comNow {u : Int} {n i : Nat} {a : JA} {f : AF} (h : JI u n i a f) : JS a.name a.age (a.gs ++ [a.down]) (doA f.now (comT a i)) ∧ Sole (doA f.now (comT a i)) ∧ Bd (doA f.now (comT a i)) (u + ((grpE a.down).length : Int)) (n + 1) (i + 1) := by
  obtain ⟨h1, h2, h3⟩ := AllF.now h
  refine ⟨h1.com h2 h3.fresh, ?_, ?_⟩
  · unfold comT
    split
    · exact h2.write h3.fresh
    · exact h2.app
  · unfold comT
    split
    · exact h3.write _ _
    · exact (h3.app _ _).mono (Int.le_refl _) (Nat.le_succ n) (Nat.le_succ i)
theorem JI.com {u : Int} {n i : Nat} {a : JA} {f : AF} (h : JI u n i a f) (he : comE a f i = 0) : JI (u + ((grpE a.down).length : Int)) (n + 1) (i + 1) (comJ a f i) (comA a f i) := by
  have h0 := h.mono (show u ≤ u + ((grpE a.down).length : Int) by have : (0 : Int) ≤ ((grpE a.down).length : Int) := Int.natCast_nonneg _; omega) (Nat.le_succ n) (Nat.le_succ i)
  cases hd : a.dead
  · by_cases hdn : a.down = []
    · have e1 : comJ a f i = a := by simp [comJ, hd, hdn]
      have e2 : comA a f i = f := by simp [comA, hd, hdn]
      rw [e1, e2]
      exact h0
    · cases hb : burnt f
      · cases hb2 : burnt (stepF f (comT a i))
        · obtain ⟨_, e1, e2⟩ := com3 (id := i) hd hdn hb hb2
          rw [e1, e2]
          refine AllF.sync ?_
          show _ ∧ _
          have := h.comNow
          have e : (stepF f (comT a i)).now = doA f.now (comT a i) := runA_snoc
          rw [e]
          exact this
        · obtain ⟨e0, _⟩ := com2 (id := i) hd hdn hb hb2
          rw [e0] at he
          cases he
      · obtain ⟨e0, _⟩ := com1 (id := i) hd hdn hb
        rw [e0] at he
        cases he
  · have e0 : comE a f i = 26 := by simp [comE, hd]
    rw [e0] at he
    cases he
end Go.Proofs.YtomajiicjinekaaDoor
/-! Jn23 -/
namespace Go.Proofs.YtomajiicjinekaaDoor
open Go Go.Sx Go.MapKept Go.WideMaps Go.Maps
set_option maxRecDepth 100000
set_option linter.unusedVariables false
theorem JI.crash {u : Int} {n i : Nat} {a : JA} {f : AF} (h : JI u n i a f) (keep : Int) : JI u n i { a with down := [] } (crashF f keep) := AllF.crash h keep
theorem JI.new {name : List UInt8} {room : Int} : JI 0 0 0 ⟨name, 0, [], [], false⟩ (AF0 room) := AllF.new ⟨⟨.inl ⟨rfl, rfl⟩, .inl ⟨rfl, rfl⟩, rfl, fun _ _ _ => rfl⟩, (fun k k' i h _ => by cases h), ⟨Int.le_refl _, Nat.le_refl _, fun q hq => by cases hq⟩⟩
end Go.Proofs.YtomajiicjinekaaDoor
/-! Jn24 -/
namespace Go.Proofs.YtomajiicjinekaaDoor
open Go Go.Sx Go.MapKept Go.WideMaps Go.Maps
set_option maxRecDepth 100000
set_option linter.unusedVariables false
theorem crashG_con (r : FR) (a : AF) (keep : Int) (w : World) (hok : r.Ok a) : Con Tryd.prog 32 [r.ptr, .int .i64 keep] w r.heap fun _ S' => ∃ r' : FR, S' = [r'.heap] ∧ r'.Ok (crashF a keep) ∧ r'.gf = r.gf :=
  (crash_con r a keep w hok).mono fun u S' hu => by
    obtain ⟨r', h2, h3, h4⟩ := hu
    exact ⟨r', h2, h3, h4.gf⟩
theorem lit_seen {α : Type} {R : World → Value → α → Prop} {w : World} {g : Nat} {e : TypeId} {fz : Nat × Nat} {vs : List Value} {l : List α} (hg : w.heap[g]? = some (.cells vs.toArray e fz)) (hl : vs.length = l.length) {n : Nat} (hn : n = l.length) (h : ∀ (i : Nat) (x : α) (u : Value), l[i]? = some x → vs[i]? = some u → R w u x) : SeenL R w (.slice (some ⟨g, 0, none⟩) n n) l := by
  subst hn
  refine ⟨_, _, vs, rfl, hl, fun _ => ⟨_, rfl, fun j u hu => ?_⟩, h⟩
  rw [add_off, Nat.zero_add, cell_of hg]
  exact hu
theorem zero_out {w w' : World} {S : List SH} (hw : Sig ⟨w, dom []⟩ S w') (h0 : 0 < w.heap.size) {k : Nat} {c : SH} (hk : S[k]? = some c) : 0 ∉ dom c := fun h => by
  obtain ⟨q, hq, e⟩ := List.mem_map.1 h
  rcases hw.dom_ 0 (List.mem_map.2 ⟨q, mem_flatten_of hk hq, e⟩) with h1 | h1
  · simp [dom] at h1
  · simp only at h1
    omega
end Go.Proofs.YtomajiicjinekaaDoor
/-! Jn25 -/
namespace Go.Proofs.YtomajiicjinekaaDoor
open Go Go.Sx
set_option maxRecDepth 100000
set_option maxHeartbeats 4000000
set_option linter.unusedVariables false
set_option linter.unusedSimpArgs false
attribute [local irreducible] J JQ QS Con W opW
abbrev kA : JA := ⟨[106], 0, [], [[97], [98]], false⟩
theorem kDn : limR kA.down := ⟨by decide, by decide⟩
theorem kOk : ComOk kA (AF0 10000) 0 := by
  have h := grpE_lim kDn
  have h0 := (AllF.now (JI.new (name := [106]) (room := 10000))).1
  refine ⟨h0, by decide, (fun g hg => by cases hg), kDn, by decide, ?_, by decide, ⟨by decide, ?_⟩, by decide, by decide, (fun q hq => by cases hq), by decide, by decide⟩
  · show (gsE []).length + _ ≤ _
    rw [gsE_nil, List.length_nil]
    omega
  · have h2 : (grpE kA.down).length ≤ 10000 := by
      unfold grpE
      rw [List.length_append, List.length_append, sum_length]
      have h3 := recsE_len (rs := [[97], [98]]) (by decide)
      have h4 := num_len (show 2 < 268435456 by decide)
      have h5 : (bodyE kA.down).length ≤ 100 := by
        show (num 2 ++ recsE [[97], [98]]).length ≤ 100
        rw [List.length_append]
        have h6 : sizeR [[97], [98]] = 2 := by decide
        have h7 : ([[97], [98]] : List (List UInt8)).length = 2 := rfl
        omega
      have h8 := num_len (show (bodyE kA.down).length < 268435456 by omega)
      omega
    show (0 : Int) + _ ≤ 10000
    omega
theorem kCom : comE kA (AF0 10000) 0 = 0 := (com3 (id := 0) rfl (by decide) rfl rfl).1
theorem kL : limG [[[97], [98]]] := ⟨by decide, fun g hg => by rw [List.mem_singleton.1 hg]; exact kDn⟩
theorem kJ : comJ kA (AF0 10000) 0 = ⟨[106], 0, [[[97], [98]]], [], false⟩ := (com3 (id := 0) rfl (by decide) rfl rfl).2.1
theorem kI : JI (0 + ((grpE kA.down).length : Int)) 1 1 ⟨[106], 0, [[[97], [98]]], [], false⟩ (comA kA (AF0 10000) 0) := by
  have h0 : JI 0 0 0 kA (AF0 10000) := JI.new (name := [106]) (room := 10000)
  have h := h0.com kCom
  rwa [kJ] at h
attribute [local irreducible] sum gsE headE fileN contA readE grpE fillE
theorem known_con (w : World) (hP : P10 w) : Con Tryd.prog 14 [] w [] fun u _ => u = .bool true := by
  refine con_of_tree mix Tryd.func14 T14_ok (by kernel_rfl) ?_
  unfold T14
  refine j_q (qs_ac) ?_
  refine j_call0 ent4 rfl rfl rfl (fun w' hw' => newR_con 10000 w' (by decide) (by decide)) (fun u S2 hu => ?_)
  obtain ⟨r, rfl, rfl, hr⟩ := hu
  refine j_subl (S' := [r.heap]) (by repeat first | exact slR _ | exact slN _ | apply slC | apply slD) ?_
  refine j_q (qs_ext rfl rfl) ?_
  refine j_q (qs_ext rfl rfl) ?_
  refine j_call0 ent7 rfl rfl rfl (fun w' hw' => open_con r (AF0 10000) [106] 0 [] w' (in_own hw' 0 rfl) hr (AllF.now (JI.new (name := [106]) (room := 10000))).1 ⟨by decide, fun g hg => by cases hg⟩ (by decide) (by decide) (by decide) (hP.keep hw' (by simp))) (fun u S2 hu => ?_)
  obtain ⟨j, rfl, rfl, hj, hjf⟩ := hu
  refine j_q (qs_ext rfl rfl) ?_
  refine j_q (qs_ext rfl rfl) ?_
  refine j_q (qs_neq rfl rfl) ?_
  rw [show ((0 : Int) != 0) = false from rfl]
  refine j_gt rfl (qs_mt rfl) ?_
  refine j_gt rfl (qs_pnil Tryd.underlying29 rfl) ?_
  refine j_q (qs_or rfl rfl) ?_
  refine j_gt rfl (qs_mt rfl) ?_
  refine j_ga rfl ?_
  refine j_lit (vs := [.int .u8 97]) Tryd.underlying22 sz5 zero5 rfl (by simp [oneV]) ⟨rfl, by decide⟩ (fun g12 v12 c12 hv12 hc12 ho12 => ?_)
  subst hv12 hc12
  refine j_ga rfl ?_
  refine j_convsl 0 Tryd.underlying22 Tryd.underlying5 rfl rfl ?_
  have hf12 : Sx.Own 5 1 (ints [97]) (.slice (some ⟨g12, 0, none⟩) 1 1) [(g12, .cells (ints [97]).toArray 5 (1, 2))] := own_froz (xs := [97])
  refine j_ga rfl ?_
  refine j_call 1 ent9 rfl rfl rfl rfl (fun w' hw' => jadd_con j ⟨[106], 0, [], [], false⟩ _ [97] w' hj (own_br hf12 0 rfl hw') (sep_own hf12 (k := 0) (m := 1) rfl rfl (by decide) hw') (by decide) (by decide)) (fun u S2 hu => ?_)
  obtain ⟨rfl, j1, rfl, hj1, hgj1, hpj1⟩ := hu
  rw [show mayJ ⟨[106], 0, [], [], false⟩ = 0 from rfl]
  refine j_subl (S' := [j1.heap, r.heap]) (by repeat first | exact slR _ | exact slN _ | apply slC | apply slD) ?_
  refine j_gt rfl (qs_neq rfl rfl) ?_
  rw [show ((0 : Int) != 0) = false from rfl]
  refine j_q (qs_or rfl rfl) ?_
  refine j_gt rfl (qs_mt rfl) ?_
  refine j_ga rfl ?_
  refine j_lit (vs := [.int .u8 98]) Tryd.underlying22 sz5 zero5 rfl (by simp [oneV]) ⟨rfl, by decide⟩ (fun g18 v18 c18 hv18 hc18 ho18 => ?_)
  subst hv18 hc18
  refine j_ga rfl ?_
  refine j_convsl 0 Tryd.underlying22 Tryd.underlying5 rfl rfl ?_
  have hf18 : Sx.Own 5 1 (ints [98]) (.slice (some ⟨g18, 0, none⟩) 1 1) [(g18, .cells (ints [98]).toArray 5 (1, 2))] := own_froz (xs := [98])
  rw [show j.ptr = j1.ptr from by rw [JM.ptr, JM.ptr, hgj1]]
  refine j_ga rfl ?_
  refine j_call 1 ent9 rfl rfl rfl rfl (fun w' hw' => jadd_con j1 ⟨[106], 0, [], [[97]], false⟩ _ [98] w' hj1 (own_br hf18 0 rfl hw') (sep_own hf18 (k := 0) (m := 1) rfl rfl (by decide) hw') (by decide) (by decide)) (fun u S2 hu => ?_)
  obtain ⟨rfl, j2, rfl, hj2, hgj2, hpj2⟩ := hu
  rw [show mayJ ⟨[106], 0, [], [[97]], false⟩ = 0 from rfl]
  refine j_subl (S' := [j2.heap, r.heap]) (by repeat first | exact slR _ | exact slN _ | apply slC | apply slD) ?_
  refine j_gt rfl (qs_neq rfl rfl) ?_
  rw [show ((0 : Int) != 0) = false from rfl]
  refine j_q (qs_or rfl rfl) ?_
  refine j_gt rfl (qs_mt rfl) ?_
  rw [show j1.ptr = j2.ptr from by rw [JM.ptr, JM.ptr, hgj2]]
  refine j_ga rfl ?_
  refine j_perm (S' := [j2.heap ++ r.heap]) (by simp) ?_
  refine j_call 0 ent10 rfl rfl rfl rfl (fun w' hw' => jcomU_con j2 kA r (AF0 10000) 0 w' hj2 hr (hpj2.trans (hpj1.trans hjf)) (fun _ _ => kOk) (hP.keep hw' (by simp)) (zero_out hw' hP.1 (k := 0) rfl)) (fun u S2 hu => ?_)
  obtain ⟨rfl, j3, r1, rfl, hj3, hr1, hgj3, hpj3, hrg1⟩ := hu
  rw [kCom]
  rw [kJ] at hj3
  refine j_subl (S' := [j3.heap, r1.heap]) (by repeat first | exact slR _ | exact slN _ | apply slC | apply slD) ?_
  refine j_gt rfl (qs_neq rfl rfl) ?_
  rw [show ((0 : Int) != 0) = false from rfl]
  refine j_q (qs_or rfl rfl) ?_
  refine j_gt rfl (qs_mt rfl) ?_
  refine j_ga rfl ?_
  refine j_lit (vs := [.int .u8 99]) Tryd.underlying22 sz5 zero5 rfl (by simp [oneV]) ⟨rfl, by decide⟩ (fun g28 v28 c28 hv28 hc28 ho28 => ?_)
  subst hv28 hc28
  refine j_ga rfl ?_
  refine j_convsl 0 Tryd.underlying22 Tryd.underlying5 rfl rfl ?_
  have hf28 : Sx.Own 5 1 (ints [99]) (.slice (some ⟨g28, 0, none⟩) 1 1) [(g28, .cells (ints [99]).toArray 5 (1, 2))] := own_froz (xs := [99])
  rw [show j2.ptr = j3.ptr from by rw [JM.ptr, JM.ptr, hgj3]]
  refine j_ga rfl ?_
  refine j_call 1 ent9 rfl rfl rfl rfl (fun w' hw' => jadd_con j3 ⟨[106], 0, [[[97], [98]]], [], false⟩ _ [99] w' hj3 (own_br hf28 0 rfl hw') (sep_own hf28 (k := 0) (m := 1) rfl rfl (by decide) hw') (by decide) (by decide)) (fun u S2 hu => ?_)
  obtain ⟨rfl, j4, rfl, hj4, hgj4, hpj4⟩ := hu
  rw [show mayJ ⟨[106], 0, [[[97], [98]]], [], false⟩ = 0 from rfl]
  refine j_subl (S' := [j4.heap, r1.heap]) (by repeat first | exact slR _ | exact slN _ | apply slC | apply slD) ?_
  refine j_gt rfl (qs_neq rfl rfl) ?_
  rw [show ((0 : Int) != 0) = false from rfl]
  refine j_q (qs_or rfl rfl) ?_
  refine j_cond rfl (fun hc0 => ?_) (fun hc0 => ?_)
  · skip
    simp at hc0
  · skip
    rw [show r.ptr = r1.ptr from by rw [FR.ptr, FR.ptr, hrg1]]
    refine j_call 1 ent32 rfl rfl rfl rfl (fun w' hw' => crashG_con r1 _ 0 w' hr1) (fun u S2 hu => ?_)
    obtain ⟨r2, rfl, hr2, hrg2⟩ := hu
    refine j_subl (S' := [r2.heap]) (by repeat first | exact slR _ | exact slN _ | apply slC | apply slD) ?_
    rw [show r1.ptr = r2.ptr from by rw [FR.ptr, FR.ptr, hrg2]]
    refine j_call0 ent7 rfl rfl rfl (fun w' hw' => open_con r2 _ [106] 0 [[[97], [98]]] w' (in_own hw' 0 rfl) hr2 (AllF.now (kI.crash 0)).1 kL (by decide) (by decide) (by decide) (hP.keep hw' (by simp))) (fun u S2 hu => ?_)
    obtain ⟨j5, rfl, rfl, hj5, hjf5⟩ := hu
    refine j_q (qs_ext rfl rfl) ?_
    refine j_q (qs_ext rfl rfl) ?_
    refine j_q (qs_eql rfl rfl) ?_
    rw [show ((0 : Int) == 0) = true from rfl]
    refine j_gt rfl (qs_mt rfl) ?_
    refine j_gt rfl (qs_pnnil Tryd.underlying29 rfl) ?_
    refine j_q (qs_and rfl rfl) ?_
    refine j_gt rfl (qs_mt rfl) ?_
    refine j_ga rfl ?_
    refine j_call0 ent8 rfl rfl rfl (fun w' hw' => jgroups_con j5 _ w' (in_own hw' 0 rfl) hj5 kL) (fun u S2 hu => ?_)
    obtain ⟨n, rfl, rfl, hn, hng⟩ := hu
    refine j_ga rfl ?_
    refine j_lit (vs := [.int .u8 97]) Tryd.underlying22 sz5 zero5 rfl (by simp [oneV]) ⟨rfl, by decide⟩ (fun g44 v44 c44 hv44 hc44 ho44 => ?_)
    subst hv44 hc44
    refine j_ga rfl ?_
    refine j_convsl 0 Tryd.underlying22 Tryd.underlying5 rfl rfl ?_
    have hf44 : Sx.Own 5 1 (ints [97]) (.slice (some ⟨g44, 0, none⟩) 1 1) [(g44, .cells (ints [97]).toArray 5 (1, 2))] := own_froz (xs := [97])
    refine j_ga rfl ?_
    refine j_lit (vs := [.int .u8 98]) Tryd.underlying22 sz5 zero5 rfl (by simp [oneV]) ⟨rfl, by decide⟩ (fun g46 v46 c46 hv46 hc46 ho46 => ?_)
    subst hv46 hc46
    refine j_ga rfl ?_
    refine j_convsl 0 Tryd.underlying22 Tryd.underlying5 rfl rfl ?_
    have hf46 : Sx.Own 5 1 (ints [98]) (.slice (some ⟨g46, 0, none⟩) 1 1) [(g46, .cells (ints [98]).toArray 5 (1, 2))] := own_froz (xs := [98])
    refine j_ga rfl ?_
    refine j_lit (vs := [.slice (some ⟨g44, 0, none⟩) 1 1, .slice (some ⟨g46, 0, none⟩) 1 1]) Tryd.underlying39 sz22 zero22 rfl (by simp [oneV]) ⟨rfl, by decide⟩ (fun g48 v48 c48 hv48 hc48 ho48 => ?_)
    subst hv48 hc48
    refine j_ga rfl ?_
    refine j_lit (vs := [.slice (some ⟨g48, 0, none⟩) 2 2]) Tryd.underlying32 sz39 zero39 rfl (by simp [oneV]) ⟨rfl, by decide⟩ (fun g49 v49 c49 hv49 hc49 ho49 => ?_)
    subst hv49 hc49
    refine j_ga rfl ?_
    refine j_call0 ent13 rfl rfl rfl (fun w' hw' => groups_con n.gs [[[97], [98]]] _ _ w' (hn.seen (fun q hq => by
      rcases List.mem_append.1 hq with h | h
      · exact in_own hw' 4 rfl q h
      · exact in_own hw' 5 rfl q h)) (by
      refine lit_seen (R := BRR) (l := [[[97], [98]]]) (n := 1) (hw'.at_ (k := 0) rfl) rfl rfl ?_
      rintro (_ | i) x u hx hu
      · simp at hx hu
        subst hx hu
        refine lit_seen (R := BR) (l := [[97], [98]]) (n := 2) (hw'.at_ (k := 1) rfl) rfl rfl ?_
        rintro (_ | _ | i) x u hx hu
        · simp at hx hu
          subst hx hu
          exact own_br hf44 3 rfl hw'
        · simp at hx hu
          subst hx hu
          exact own_br hf46 2 rfl hw'
        · simp at hx
      · simp at hx) (by rw [hng]; decide) (by rw [hng]; decide)) (fun u S2 hu => ?_)
    obtain ⟨bb, rfl, hbb⟩ := hu
    rw [hbb hng]
    refine j_sub (S' := []) (List.nil_sublist _) ?_
    refine j_q (qs_and rfl rfl) ?_
    refine j_ret_con (vs := [_]) (fun w' hw' => ⟨rfl, trivial⟩) ?_
    rfl
end Go.Proofs.YtomajiicjinekaaDoor
/-! Jn27 -/
namespace Go.Proofs.YtomajiicjinekaaDoor
open Go Go.Sx Go.MapKept Go.WideMaps Go.Maps
set_option maxRecDepth 100000
set_option linter.unusedVariables false
attribute [local irreducible] sum
theorem used_pos {r : FR} {a : AF} (h : r.Ok a) : 0 ≤ a.now.used := by
  obtain ⟨_, ⟨_, _, h1⟩, ⟨_, _, h2⟩⟩ := h.now
  omega
theorem grpE_len2 {g : List (List UInt8)} (h : limR g) : (grpE g).length ≤ sizeR g + 440 := by
  have h0 := grpE_lim h
  have h1 := recsE_len (rs := g) fun x hx => Nat.le_trans (sizeR_get hx) h.2
  have h2 := num_len (show g.length < 268435456 by have := h.1; omega)
  have h3 : (bodyE g).length = (num g.length).length + (recsE g).length := by unfold bodyE; rw [List.length_append]
  have h4 := bodyE_lim h
  have h5 := num_len (show (bodyE g).length < 268435456 by omega)
  have h6 : (grpE g).length = (num (bodyE g).length).length + ((bodyE g).length + 32) := by unfold grpE; rw [List.length_append, List.length_append, sum_length]
  have := h.1
  omega
theorem gsE_len2 {gs : List (List (List UInt8))} (h : ∀ g ∈ gs, limR g) : (gsE gs).length ≤ sizeG gs + gs.length * 440 := by
  induction gs with
  | nil => exact Nat.le_refl _
  | cons g gs ih =>
    have h1 := ih fun x hx => h x (List.mem_cons_of_mem _ hx)
    have h2 := grpE_len2 (h g (List.mem_cons_self ..))
    rw [gsE_cons, List.length_append, List.length_cons]
    have h3 : sizeG (g :: gs) = sizeR g + sizeG gs := by unfold sizeG; rw [List.map_cons, List.sum_cons]
    omega
structure PI (nm : List UInt8) (i b : Nat) (a : JA) (f : AF) : Prop where
  ji : JI (12600 * (i : Int)) i i a f
  nm : a.name = nm
  sz : sizeG a.gs + sizeR a.down ≤ b
  ln : a.gs.length + a.down.length ≤ i
  gl : ∀ g ∈ a.gs, g.length ≤ 100 ∧ sizeR g ≤ 12000
  ag : a.age ≤ i
  rm : f.room ≤ 1073741824
  pd : f.pend.length ≤ i
theorem PI.lim {nm : List UInt8} {i b : Nat} {a : JA} {f : AF} (h : PI nm i b a f) (hi : i ≤ 100) : limG a.gs := ⟨by have := h.ln; omega, h.gl⟩
theorem PI.limD {nm : List UInt8} {i b : Nat} {a : JA} {f : AF} (h : PI nm i b a f) (hi : i ≤ 100) (hb : b ≤ 12000) : limR a.down := ⟨by have := h.ln; omega, by have := h.sz; omega⟩
theorem PI.comOk {nm : List UInt8} {i b : Nat} {a : JA} {f : AF} (h : PI nm i b a f) (hi : i ≤ 100) (hb : b ≤ 12000) (hu : 0 ≤ f.now.used) (hdn : a.down ≠ []) (hn : nm.length ≤ 100) (hr : 12600 * ((i + 1 : Nat) : Int) ≤ f.room) : ComOk a f i := by
  have hl := h.lim hi
  have hd := h.limD hi hb
  have h1 := h.ln
  have h2 : 1 ≤ a.down.length := by
    cases hx : a.down with
    | nil => exact absurd hx hdn
    | cons x l => rw [List.length_cons]; omega
  obtain ⟨hj, hs, hbd⟩ := AllF.now h.ji
  have hsz := h.sz
  have h3 := gsE_len2 hl.2
  have h4 := grpE_lim hd
  have h5 := h.rm
  have h6 := hbd.us
  have h7 := hbd.nm
  have h8 := h.pd
  have h9 := h.ag
  have h10 := hl.1
  refine ⟨hj, by omega, hl.2, hd, by omega, by omega, h5, ⟨hu, by omega⟩, by omega, by omega, hbd.fresh, by omega, by rw [h.nm]; exact hn⟩
theorem PI.up {nm : List UInt8} {i b b' : Nat} {a : JA} {f : AF} (h : PI nm i b a f) (hb : b ≤ b') : PI nm (i + 1) b' a f :=
  ⟨h.ji.mono (by omega) (Nat.le_succ i) (Nat.le_succ i), h.nm, Nat.le_trans h.sz hb, Nat.le_succ_of_le h.ln, h.gl, Nat.le_succ_of_le h.ag, h.rm, Nat.le_succ_of_le h.pd⟩
theorem PI.le {nm : List UInt8} {i b b' : Nat} {a : JA} {f : AF} (h : PI nm i b a f) (hb : b ≤ b') : PI nm i b' a f := ⟨h.ji, h.nm, Nat.le_trans h.sz hb, h.ln, h.gl, h.ag, h.rm, h.pd⟩
theorem PI.add {nm : List UInt8} {i b : Nat} {a : JA} {f : AF} (h : PI nm i b a f) (xs : List UInt8) : PI nm (i + 1) (b + xs.length) (addJ a xs) f := by
  have h1 := h.up (Nat.le_add_right b xs.length)
  unfold addJ
  split
  · exact h1
  · refine ⟨h1.ji, h1.nm, ?_, ?_, h1.gl, h1.ag, h1.rm, h1.pd⟩
    · show sizeG a.gs + sizeR (a.down ++ [xs]) ≤ _
      rw [sizeR_snoc]
      have := h.sz
      omega
    · show a.gs.length + (a.down ++ [xs]).length ≤ _
      rw [List.length_append, List.length_singleton]
      have := h.ln
      omega
theorem PI.drop {nm : List UInt8} {i b : Nat} {a : JA} {f : AF} (h : PI nm i b a f) : PI nm (i + 1) b { a with down := [] } f := by
  have h1 := h.up (Nat.le_refl b)
  refine ⟨h1.ji, h1.nm, ?_, ?_, h1.gl, h1.ag, h1.rm, h1.pd⟩
  · show sizeG a.gs + sizeR [] ≤ _
    have e : sizeR [] = 0 := rfl
    have := h.sz
    omega
  · show a.gs.length + 0 ≤ _
    have := h.ln
    omega
theorem PI.crash {nm : List UInt8} {i b : Nat} {a : JA} {f : AF} (h : PI nm i b a f) (k : Int) : PI nm (i + 1) b { a with down := [] } (crashF f k) := by
  have h1 := h.drop
  exact ⟨JI.crash (a := a) (h.up (Nat.le_refl b)).ji k, h1.nm, h1.sz, h1.ln, h1.gl, h1.ag, h1.rm, Nat.zero_le _⟩
theorem comA_room (a : JA) (f : AF) (id : Nat) : (comA a f id).room = f.room ∧ (comA a f id).fused = f.fused ∧ (comA a f id).pend.length ≤ f.pend.length + 1 := by
  unfold comA
  repeat' split
  all_goals first | exact ⟨rfl, rfl, Nat.le_succ _⟩ | exact ⟨rfl, rfl, by show (f.pend ++ [_]).length ≤ _; rw [List.length_append]; exact Nat.le_refl _⟩ | exact ⟨rfl, rfl, Nat.zero_le _⟩
theorem PI.com {nm : List UInt8} {i b : Nat} {a : JA} {f : AF} (h : PI nm i b a f) (hi : i ≤ 100) (hb : b ≤ 12000) (he : comE a f i = 0) : PI nm (i + 1) b (comJ a f i) (comA a f i) := by
  have h0 := comA_room a f i
  have hd := h.limD hi hb
  have h1 : JI (12600 * ((i + 1 : Nat) : Int)) (i + 1) (i + 1) (comJ a f i) (comA a f i) := (h.ji.com he).mono (by have := grpE_lim hd; omega) (Nat.le_refl _) (Nat.le_refl _)
  have h2 : (comJ a f i).name = a.name ∧ (comJ a f i).age = a.age := by
    unfold comJ
    repeat' split
    all_goals exact ⟨rfl, rfl⟩
  have hp := h.pd
  refine ⟨h1, by rw [h2.1]; exact h.nm, ?_, ?_, ?_, by rw [h2.2]; exact Nat.le_succ_of_le h.ag, by rw [h0.1]; exact h.rm, by omega⟩
  · have hs := h.sz
    unfold comJ
    repeat' split
    all_goals first | exact hs | skip
    show sizeG (a.gs ++ [a.down]) + sizeR [] ≤ b
    rw [sizeG_snoc]
    have e : sizeR [] = 0 := rfl
    omega
  · have hs := h.ln
    unfold comJ
    split
    · omega
    split
    · omega
    rename_i hdn
    have h2 : 1 ≤ a.down.length := by
      cases hx : a.down with
      | nil => exact absurd hx hdn
      | cons x l => rw [List.length_cons]; omega
    repeat' split
    all_goals first | exact Nat.le_succ_of_le hs | skip
    show (a.gs ++ [a.down]).length + 0 ≤ i + 1
    rw [List.length_append, List.length_singleton]
    omega
  · intro g hg
    unfold comJ at hg
    repeat' split at hg
    all_goals first | exact h.gl g hg | skip
    rcases List.mem_append.1 hg with hg | hg
    · exact h.gl g hg
    · rw [List.mem_singleton.1 hg]
      exact hd
theorem PI.new {nm : List UInt8} {room : Int} (h : room ≤ 1073741824) : PI nm 0 0 ⟨nm, 0, [], [], false⟩ (AF0 room) :=
  ⟨JI.new, rfl, Nat.le_refl _, Nat.le_refl _, (fun g hg => by cases hg), Nat.le_refl _, h, Nat.le_refl _⟩
theorem burnt_no {f : AF} (h : f.fused = false) : burnt f = false := by
  unfold burnt
  rw [h]
  rfl
theorem comE_no {a : JA} {f : AF} {id : Nat} (hd : a.dead = false) (h : f.fused = false) : comE a f id = 0 := by
  have h2 : burnt (stepF f (comT a id)) = false := burnt_no h
  unfold comE
  rw [hd, burnt_no h, h2]
  simp
theorem comJ_0 {a : JA} {f : AF} {id : Nat} (he : comE a f id = 0) : comJ a f id = if a.down = [] then a else { a with gs := a.gs ++ [a.down], down := [] } := by
  unfold comE at he
  unfold comJ
  cases hd : a.dead <;> rw [hd] at he
  · simp only [if_neg (show ¬ (false = true) by simp)] at he ⊢
    split
    · rfl
    · rename_i hdn
      rw [if_neg hdn] at he
      split at he
      · cases he
      · rename_i hb
        rw [if_neg hb]
        split at he
        · cases he
        · rename_i hb2
          rw [if_neg hb2]
  · cases he
end Go.Proofs.YtomajiicjinekaaDoor
/-! Jo1 -/
namespace Go.Proofs.YtomajiicjinekaaDoor
open Go Go.Sx
set_option maxRecDepth 100000
set_option maxHeartbeats 4000000
set_option linter.unusedVariables false
set_option linter.unusedSimpArgs false
attribute [local irreducible] J JQ QS Con W opW
open Go.MapKept Go.WideMaps Go.Maps
abbrev logN : List UInt8 := [108, 111, 103]
def othN : List UInt8 := [111, 116, 104, 101, 114]
abbrev FO1 (xs : List UInt8) : AF := stepF (AF0 1048576) (.wr othN xs 0)
abbrev FO (xs : List UInt8) : AF := syncF (FO1 xs)
abbrev AO : JA := ⟨logN, 0, [], [], false⟩
theorem fo_now (xs : List UInt8) : (FO xs).now = writeA AS0 othN xs 0 := rfl
theorem fo_look (xs k : List UInt8) : alook (FO xs).now.nm k = if othN = k then some 0 else none := by
  rw [fo_now, alook_write]
  rfl
theorem oth_file (a p : Nat) : othN ≠ fileN logN a p := fun h => by
  unfold fileN logN othN at h
  injection h with h1 _
  exact absurd h1 (by decide)
theorem oth_log : othN ≠ logN := by decide
theorem fo_js (xs : List UInt8) : JS logN 0 [] (FO xs).now := by
  refine ⟨.inl ⟨rfl, ?_⟩, .inl ⟨rfl, ?_⟩, ?_, fun a _ p => ?_⟩
  all_goals rw [fo_look, if_neg]
  · exact oth_log
  · exact oth_file _ _
  · exact oth_file _ _
  · exact oth_file _ _
theorem fo_pi (xs : List UInt8) (h : xs.length ≤ 12000) : PI logN 1 0 AO (FO xs) := by
  have h0 : Bd AS0 0 0 0 := ⟨Int.le_refl _, Nat.le_refl _, fun q hq => by cases hq⟩
  have hs0 : Sole AS0 := fun k k' i h _ => by cases h
  refine ⟨AllF.sync ⟨fo_js xs, hs0.write (fun q hq => by cases hq), (h0.write othN xs).mono (by omega) (Nat.le_refl _) (Nat.le_refl _)⟩, rfl, Nat.le_refl _, Nat.zero_le _, (fun g hg => by cases hg), Nat.zero_le _, (show (1048576 : Int) ≤ 1073741824 by decide), Nat.zero_le _⟩
theorem fo_write {xs : List UInt8} (hx : xs.length ≤ 12000) : wrE (AF0 1048576) othN xs = 0 := by
  rw [wrE_val (by decide) (by omega)]
  · rfl
  · unfold fullA
    rintro (⟨_, h⟩ | h)
    · exact absurd h (by decide)
    · have h1 : (freesA (AF0 1048576).now othN) = 0 := rfl
      have h2 : (AF0 1048576).room = 1048576 := rfl
      have h3 : (AF0 1048576).now.used = 0 := rfl
      rw [h1, h2, h3] at h
      omega
theorem fo_com (xs ys : List UInt8) : comE (addJ AO ys) (FO xs) 2 = 0 ∧ comJ (addJ AO ys) (FO xs) 2 = ⟨logN, 0, [[ys]], [], false⟩ := by
  have h : comE (addJ AO ys) (FO xs) 2 = 0 := comE_no rfl rfl
  refine ⟨h, ?_⟩
  rw [comJ_0 h]
  rfl
theorem fo_read (xs ys : List UInt8) : readE (comA (addJ AO ys) (FO xs) 2).now othN = 0 ∧ contA (comA (addJ AO ys) (FO xs) 2).now othN = xs := by
  have e : (comA (addJ AO ys) (FO xs) 2).now = writeA (FO xs).now (fileN logN 0 0) (grpE [ys]) 2 := by
    have hb : burnt (FO xs) = false := burnt_no rfl
    have hb2 : burnt (stepF (FO xs) (comT (addJ AO ys) 2)) = false := burnt_no rfl
    rw [(com3 (id := 2) rfl (by simp [addJ]) hb hb2).2.2]
    have e2 : (stepF (FO xs) (comT (addJ AO ys) 2)).now = doA (FO xs).now (comT (addJ AO ys) 2) := runA_snoc
    show (stepF (FO xs) (comT (addJ AO ys) 2)).now = _
    rw [e2]
    rfl
  have hid : ∀ q ∈ (FO xs).now.nm, q.2 ≠ 2 := fun q hq => by
    have h9 : q ∈ (writeA AS0 othN xs 0).nm := hq
    rw [writeA_eq] at h9
    rcases List.mem_append.1 h9 with h9 | h9
    · cases h9
    · rw [List.mem_singleton.1 h9]
      decide
  rw [e]
  constructor
  · rw [readE_0, alook_write, if_neg (oth_file 0 0).symm, fo_look, if_pos rfl]
    simp
  · rw [cont_write hid, if_neg (oth_file 0 0).symm, fo_now, cont_write (fun q hq => by cases hq), if_pos rfl]
attribute [local irreducible] sum gsE headE fileN contA readE grpE fillE
theorem journalOther_con (xs : List UInt8) (v1 : Value) (ys : List UInt8) (v2 : Value) (w : World) (hx0 : RSl w v1 (ints xs)) (hy0 : RSl w v2 (ints ys)) (hxb : xs.length ≤ 140737488351232) (hyb : ys.length ≤ 140737488351232) (hP : P10 w) : Con Tryd.prog 3 [v1, v2] w [] fun u _ => u = .bool true := by
  refine con_of_tree mix Tryd.func3 T3_ok (by kernel_rfl) ?_
  unfold T3
  have hx := br_rsl hx0
  have hy := br_rsl hy0
  obtain ⟨A1, c1, hv1, hc1'⟩ := br_form hx
  subst hv1
  obtain ⟨A2, c2, hv2, hc2'⟩ := br_form hy
  subst hv2
  refine j_q (qs_ac) ?_
  refine j_q (qs_lenl Tryd.underlying22 rfl) ?_
  refine j_q (qs_lenl Tryd.underlying22 rfl) ?_
  refine j_q (qs_add64 rfl rfl (by first | omega | (simp only [bnA] at *; omega))) ?_
  refine j_q (qs_gtr rfl rfl) ?_
  refine j_cond rfl (fun hc0 => ?_) (fun hc0 => ?_)
  · skip
    refine j_q (qs_ac) ?_
    refine j_ret_con (vs := [_]) (fun w' hw' => ⟨rfl, trivial⟩) ?_
    rfl
  · skip
    have hxl2 : xs.length ≤ 12000 ∧ ys.length ≤ 12000 := by
      have h9 := of_decide_eq_false hc0
      omega
    obtain ⟨hxl, hyl⟩ := hxl2
    refine j_call0 ent4 rfl rfl rfl (fun w' hw' => newR_con 1048576 w' (by decide) (by decide)) (fun u S2 hu => ?_)
    obtain ⟨r, rfl, rfl, hr⟩ := hu
    refine j_subl (S' := [r.heap]) (by repeat first | exact slR _ | exact slN _ | apply slC | apply slD) ?_
    refine j_q (qs_ext rfl rfl) ?_
    refine j_q (qs_ext rfl rfl) ?_
    refine j_call 0 ent5 rfl rfl rfl rfl (fun w' hw' => writeG_con r (AF0 1048576) othN _ xs 0 w' hr (by decide) (br0 hx hw') (base_sep hx hw' 0 rfl) (by omega) (by decide) (by decide) (fun q hq => by cases hq)) (fun u S2 hu => ?_)
    obtain ⟨rfl, r1, rfl, hr1, hgr1⟩ := hu
    rw [fo_write hxl] at hr1 ⊢
    rw [if_pos rfl] at hr1
    refine j_subl (S' := [r1.heap]) (by repeat first | exact slR _ | exact slN _ | apply slC | apply slD) ?_
    rw [show r.ptr = r1.ptr from by rw [FR.ptr, FR.ptr, hgr1]]
    refine j_call 0 ent6 rfl rfl rfl rfl (fun w' hw' => syncG_con r1 (FO1 xs) w' hr1) (fun u S2 hu => ?_)
    obtain ⟨rfl, r2, rfl, hr2, hgr2⟩ := hu
    have hm0 : mayE (FO1 xs).fused (FO1 xs).left [] = 0 := rfl
    rw [hm0] at hr2 ⊢
    rw [if_pos rfl] at hr2
    refine j_subl (S' := [r2.heap]) (by repeat first | exact slR _ | exact slN _ | apply slC | apply slD) ?_
    rw [show r1.ptr = r2.ptr from by rw [FR.ptr, FR.ptr, hgr2]]
    refine j_call0 ent7 rfl rfl rfl (fun w' hw' => open_con r2 (FO xs) logN 0 [] w' (in_own hw' 0 rfl) hr2 (fo_js xs) ⟨by decide, fun g hg => by cases hg⟩ (by decide) (by decide) (by decide) (hP.keep hw' (by simp))) (fun u S2 hu => ?_)
    obtain ⟨j, rfl, rfl, hj, hjf⟩ := hu
    refine j_q (qs_ext rfl rfl) ?_
    refine j_q (qs_ext rfl rfl) ?_
    refine j_q (qs_neq rfl rfl) ?_
    rw [show ((0 : Int) != 0) = false from rfl]
    refine j_gt rfl (qs_mt rfl) ?_
    refine j_gt rfl (qs_pnil Tryd.underlying29 rfl) ?_
    refine j_q (v := .bool false) (qs_or (b0 := false) (b1 := false) rfl rfl) ?_
    refine j_gt rfl (qs_mt rfl) ?_
    refine j_ga rfl ?_
    refine j_call0 ent8 rfl rfl rfl (fun w' hw' => jgroups_con j AO w' (in_own hw' 0 rfl) hj ⟨by decide, fun g hg => by cases hg⟩) (fun u S2 hu => ?_)
    obtain ⟨n, rfl, rfl, hn, hng⟩ := hu
    obtain ⟨An, capn, hnv, _⟩ := hn.form
    have hn0 : n.L.length = 0 := by
      have h9 : n.gs.length = n.L.length := List.length_map _
      rw [← h9, hng]
      rfl
    refine j_subl (S' := [j.heap, r2.heap]) (by repeat first | exact slR _ | exact slN _ | apply slC | apply slD) ?_
    refine j_gt rfl (qs_lenl (n := n.L.length) (A := An) (c := capn) Tryd.underlying32 hnv) ?_
    refine j_gt rfl (qs_neq rfl rfl) ?_
    rw [hn0, show (((0 : Nat) : Int) != 0) = false from rfl]
    refine j_q (v := .bool false) (qs_or (b0 := false) (b1 := false) rfl rfl) ?_
    refine j_gt rfl (qs_mt rfl) ?_
    refine j_gt rfl (qs_mt rfl) ?_
    refine j_ga rfl ?_
    refine j_call 0 ent9 rfl rfl rfl rfl (fun w' hw' => jadd_con j AO _ ys w' hj (br0 hy hw') (base_sep hy hw' 0 rfl) (by show 0 + ys.length ≤ _; omega) (by decide)) (fun u S2 hu => ?_)
    obtain ⟨rfl, j1, rfl, hj1, hgj1, hpj1⟩ := hu
    rw [show mayJ AO = 0 from rfl]
    refine j_perm (S' := [j1.heap ++ r2.heap]) (by
      classical
      refine List.perm_iff_count.2 fun x => ?_
      simp only [List.set, List.flatten_cons, List.flatten_nil, List.append_nil, List.nil_append, List.cons_append, List.count_append, List.count_cons, List.count_nil]
      all_goals omega) ?_
    refine j_gt rfl (qs_neq rfl rfl) ?_
    rw [show ((0 : Int) != 0) = false from rfl]
    refine j_q (v := .bool false) (qs_or (b0 := false) (b1 := false) rfl rfl) ?_
    refine j_gt rfl (qs_mt rfl) ?_
    have hpi : PI logN 2 (0 + ys.length) (addJ AO ys) (FO xs) := (fo_pi xs hxl).add ys
    rw [show j.ptr = j1.ptr from by rw [JM.ptr, JM.ptr, hgj1]]
    refine j_ga rfl ?_
    refine j_call 0 ent10 rfl rfl rfl rfl (fun w' hw' => jcomU_con j1 (addJ AO ys) r2 (FO xs) 2 w' hj1 hr2 (hpj1.trans hjf) (fun _ hdn => hpi.comOk (by decide) (by omega) (used_pos hr2) hdn (by decide) (show 12600 * ((2 + 1 : Nat) : Int) ≤ (1048576 : Int) by decide)) (hP.keep hw' (by simp)) (zero_out hw' hP.1 (k := 0) rfl)) (fun u S2 hu => ?_)
    obtain ⟨rfl, j2, r3, rfl, hj2, hr3, hgj2, hpj2, hgr3⟩ := hu
    rw [(fo_com xs ys).1]
    rw [(fo_com xs ys).2] at hj2
    refine j_subl (S' := [j2.heap, r3.heap]) (by repeat first | exact slR _ | exact slN _ | apply slC | apply slD) ?_
    refine j_gt rfl (qs_neq rfl rfl) ?_
    rw [show ((0 : Int) != 0) = false from rfl]
    refine j_q (v := .bool false) (qs_or (b0 := false) (b1 := false) rfl rfl) ?_
    refine j_cond rfl (fun hc1 => ?_) (fun hc1 => ?_)
    · skip
      simp at hc1
    · skip
      rw [show r2.ptr = r3.ptr from by rw [FR.ptr, FR.ptr, hgr3]]
      refine j_call0 ent11 rfl rfl rfl (fun w' hw' => readRO_con r3 _ othN w' (in_own hw' 1 rfl) hr3 (by decide)) (fun u S2 hu => ?_)
      obtain ⟨v33, c33, rfl, rfl, ho33⟩ := hu
      rw [(fo_read xs ys).1]
      rw [(fo_read xs ys).2] at ho33
      refine j_q (qs_ext (vs := [v33, .int .i64 0]) rfl rfl) ?_
      refine j_q (qs_ext (vs := [v33, .int .i64 0]) rfl rfl) ?_
      refine j_q (qs_eql rfl rfl) ?_
      rw [show ((0 : Int) == 0) = true from rfl]
      refine j_gt rfl (qs_mt rfl) ?_
      refine j_gt rfl (qs_mt rfl) ?_
      refine j_gt rfl (qs_call ent12 rfl rfl rfl (fun w' hw' => same_con xs xs _ _ w' (own_br ho33 0 rfl hw') (br0 hx hw') (by omega))) ?_
      rw [beq_self_eq_true]
      refine j_q (v := .bool true) (qs_and (b0 := true) (b1 := true) rfl rfl) ?_
      refine j_gt rfl (qs_mt rfl) ?_
      have hlimY : limR [ys] := ⟨by simp, by simp [sizeR]; omega⟩
      rw [show j1.ptr = j2.ptr from by rw [JM.ptr, JM.ptr, hgj2]]
      refine j_ga rfl ?_
      refine j_call0 ent8 rfl rfl rfl (fun w' hw' => jgroups_con j2 _ w' (in_own hw' 1 rfl) hj2 ⟨by simp, fun g hg => by rw [List.mem_singleton.1 hg]; exact hlimY⟩) (fun u S2 hu => ?_)
      obtain ⟨n2, rfl, rfl, hn2, hng2⟩ := hu
      refine j_gt rfl (qs_mt rfl) ?_
      refine j_ga rfl ?_
      refine j_lit (vs := [.slice A2 ys.length c2]) Tryd.underlying39 sz22 zero22 rfl (by simp [oneV]) ⟨rfl, by decide⟩ (fun g44 v44 c44 hv44 hc44 ho44 => ?_)
      subst hv44 hc44
      refine j_ga rfl ?_
      refine j_lit (vs := [.slice (some ⟨g44, 0, none⟩) 1 1]) Tryd.underlying32 sz39 zero39 rfl (by simp [oneV]) ⟨rfl, by decide⟩ (fun g45 v45 c45 hv45 hc45 ho45 => ?_)
      subst hv45 hc45
      refine j_ga rfl ?_
      refine j_call0 ent13 rfl rfl rfl (fun w' hw' => groups_con n2.gs [[ys]] _ _ w' (hn2.seen (fun q hq => by
        rcases List.mem_append.1 hq with h | h
        · exact in_own hw' 2 rfl q h
        · exact in_own hw' 3 rfl q h)) (by
        refine lit_seen (R := BRR) (l := [[ys]]) (n := 1) (hw'.at_ (k := 0) rfl) rfl rfl ?_
        rintro (_ | i) x u hx9 hu
        · simp at hx9 hu
          subst hx9 hu
          refine lit_seen (R := BR) (l := [ys]) (n := 1) (hw'.at_ (k := 1) rfl) rfl rfl ?_
          rintro (_ | i) x u hx9 hu
          · simp at hx9 hu
            subst hx9 hu
            exact br0 hy hw'
          · simp at hx9
        · simp at hx9) (by rw [hng2]; simp) (by
        rw [hng2]
        intro g hg
        rw [List.mem_singleton.1 hg]
        refine ⟨by simp, fun z hz => ?_⟩
        rw [List.mem_singleton.1 hz]
        omega)) (fun u S2 hu => ?_)
      obtain ⟨bb, rfl, hbb⟩ := hu
      rw [hbb hng2]
      refine j_q (v := .bool true) (qs_and (b0 := true) (b1 := true) rfl rfl) ?_
      refine j_gt rfl (qs_call ent14 rfl rfl rfl (fun w' hw' => known_con w' (hP.keep hw' (by simp)))) ?_
      refine j_q (v := .bool true) (qs_and (b0 := true) (b1 := true) rfl rfl) ?_
      refine j_ret_con (vs := [_]) (fun w' hw' => ⟨rfl, trivial⟩) ?_
      rfl
end Go.Proofs.YtomajiicjinekaaDoor
/-! SxT -/
namespace Go.Sx
open Go Go.ChangeShapes Go.WideShapes Go.ChangeAt Go.RowKit
set_option linter.unusedVariables false
end Go.Sx
/-! RowT -/
namespace Go.Proofs.YtomajiicjinekaaDoor
open Go Go.Sx Go.ChangeShapes Go.WideShapes Go.ChangeAt Go.RowKit
set_option linter.unusedVariables false
theorem own_journalOther : ownKnob Tryd.prog.godebug = none := by kernel_rfl
theorem laid_journalOther : laidOutB Tryd.prog = true := by kernel_rfl
set_option maxRecDepth 100000 in
theorem door_met_journalOther (os : Os) (args : Array Value) : laidMetH Tryd.prog Rows.journalOtherRow.laid ((World.doorLaid Tryd.prog 400 os).forCall (fun _ _ => 0) ⟨#[], args, []⟩).memory := by
  rw [MakeChecks.laidMetH_plain _ _ _ (by kernel_rfl)]
  exact laidMet_of_run' 8 (by kernel_rfl) (by kernel_rfl)
theorem p10_of_laid_journalOther {W : World} (h : laidMetH Tryd.prog Rows.journalOtherRow.laid W) : P10 W := by
  rw [MakeChecks.laidMetH_plain _ _ _ (by kernel_rfl)] at h
  have h3 : Lib.TabIs Tryd.prog W "internal/strconv.uint64pow10" .u64 p10 := Lib.tabIs_of_head (t := 136) (e := 64) (n := 20) (g := 0) (by kernel_rfl) (by kernel_rfl) Tryd.underlying136 Tryd.underlying64 (by kernel_rfl) (by kernel_rfl) (rest := []) h.tail.tail
  have hc : ∀ i, i < 20 → W.cell? ⟨0, i, none⟩ = some (.int .u64 (p10.getD i 0)) := fun i hi => h3.cell (by kernel_rfl) i hi
  refine ⟨?_, fun j u hu => ?_⟩
  · have h0 := hc 0 (by decide)
    unfold World.cell? at h0
    by_cases hz : 0 < W.heap.size
    · exact hz
    · rw [Array.getElem?_eq_none (by simp only []; omega)] at h0
      cases h0
  · obtain ⟨hj, rfl⟩ := List.getElem?_eq_some_iff.1 hu
    have hj' : j < 20 := by rw [ks_length] at hj; exact hj
    rw [add_off, Nat.zero_add, hc j hj']
    have := ks_get (k := .u64) (l := p10) (i := j) hj'
    rw [← this, List.getElem?_eq_getElem hj]
set_option maxRecDepth 100000 in
theorem journalOther_lifted (os : Os) (started : os.Started) (H : Type) (enc : TypeId × Value → H) :
    ReturnsInHanded {} Tryd.checked os 3 .any (fun w args => (Rows.journalOtherSpec.pre enc Tryd.prog Tryd.f3 [] false w args ∧ laidMetH Tryd.prog Rows.journalOtherRow.laid w) ∧ sizedMet enc Tryd.prog Tryd.f3 (OpenSpec.ofChange Rows.journalOtherSpec) false w args) (Rows.journalOtherSpec.post enc Tryd.prog Tryd.f3 false true false false) := by
  refine returnsInHanded_of_change_and (C := Tryd.checked) (X := fun w _ => laidMetH Tryd.prog Rows.journalOtherRow.laid w) (fun _ _ _ hh h => h.of_heap hh) own_journalOther started (by kernel_rfl) Tryd.func3
    (ChangeSpec.witness_shaped (enc := enc) (C := Tryd.checked) (os := os) (X := fun w _ => laidMetH Tryd.prog Rows.journalOtherRow.laid w) false (World.doorLaid Tryd.prog 400 os) #[.slice none 0 0, .slice none 0 0] 8 rfl (World.shaped_of_RefB (by kernel_rfl) (by kernel_rfl)) (by kernel_rfl) (by kernel_rfl) (by kernel_rfl) (door_met_journalOther os _)) ?_
  intro W base args ds gs before hval0 hW hcnd hsz0 hL _
  have hsz : (DataW.weightsEach Tryd.prog (Tryd.f3.params.toList ++ Rows.journalOtherSpec.plain.varTypes Tryd.prog) (ds ++ gs)).all (· ≤ reachBytes) = true := hsz0
  have hreach : reachBytes = 140737488351232 := rfl
  have hval : ∀ (j : Nat) t v, Tryd.f3.params[j]? = some t → args[j]? = some v → Value.okWide Tryd.prog W .any base t v := hval0
  have hW' := hW
  obtain ⟨p, q, hA0, hV, rfl, hfz, hnd⟩ := hW
  have hA : DataW.TrodAll enc Tryd.prog W 0 (fun _ => true) true Tryd.f3.params.toList args.toList ds p := hA0
  rw [Tryd.params3] at hA hval
  obtain ⟨v0, v1, d0, d1, p0, p1, rfl, rfl, rfl, h0, h1⟩ := trodAll_two hA
  obtain ⟨rfl, rfl⟩ := trodVars_none hV
  obtain ⟨a0, wa0, wc0⟩ := open_bytesl Tryd.underlying22 Tryd.underlying5 (by kernel_rfl) (hval 0 22 v0 rfl rfl) h0
  have wb0 : a0.length ≤ reachBytes := bytes_sized hsz (j := 0) (t := 22) (by rw [Tryd.params3]; rfl) rfl Tryd.underlying22 (by kernel_rfl) wc0
  obtain ⟨a1, wa1, wc1⟩ := open_bytesl Tryd.underlying22 Tryd.underlying5 (by kernel_rfl) (hval 1 22 v1 rfl rfl) h1
  have wb1 : a1.length ≤ reachBytes := bytes_sized hsz (j := 1) (t := 22) (by rw [Tryd.params3]; rfl) rfl Tryd.underlying22 (by kernel_rfl) wc1
  clear hA0 hval0
  have hP := p10_of_laid_journalOther hL
  have hc := journalOther_con a0 v0 a1 v1 W wa0 wa1 (by omega) (by omega) hP (by simp) (by simp)
  refine hc.mono fun e W' h => ?_
  obtain ⟨v, S', rfl, rfl, hS⟩ := h
  exact ⟨_, rfl, post_law hW' rfl rfl laid_journalOther (by decide +kernel) rfl Tryd.underlying4 (below_of_sig hS)⟩
theorem journalOther_holds : Rows.JournalOtherSaid :=
  OpenClaim.holds_of_wide 3 Tryd.f3 rfl rfl rfl rfl rfl rfl rfl ⟨rfl, rfl, rfl, rfl, rfl⟩ rfl rfl rfl rfl rfl (by kernel_rfl) Tryd.func3 (by kernel_rfl)
    (of_decide_eq_true (by kernel_rfl)) (by unfold Func.isWrapper; first | (rw [if_pos (by decide +kernel)]; kernel_rfl) | (rw [if_neg (by decide +kernel)]; exact ⟨rfl, rfl⟩))
    (fun os started H enc _ => journalOther_lifted os started H enc)
theorem journalOtherCard_holds : Rows.JournalOtherCardSaid :=
  Claim7.holds_tied_plain_at .later [] [.data, .data, .data] true (true, "de4df6a7322b2d4a79c22067fc3200175885bcd439d05d10b7abf7a52c257d21") false
    journalOther_holds (fun _ h => by cases h) (by kernel_rfl) (fun _ h => by cases h) journalOther_row_tie rfl ⟨rfl, rfl⟩ (by kernel_rfl) rfl
    (fun f fn hf hfn => by
      obtain rfl : f = 3 := Option.some.inj ((show Tryd.prog.funcNamed "pantry/pantrylaw8.JournalOther" = some 3 by kernel_rfl).symm.trans hf) |>.symm
      obtain rfl : fn = Tryd.f3 := (Option.some.inj (Tryd.func3.symm.trans hfn)).symm
      exact ⟨by kernel_rfl, fun j t ht => by
        rw [Tryd.params3] at ht
        have hm : t ∈ [22] := by simpa using Array.mem_of_getElem? ht
        have hall : ([22].all fun u => !Tryd.prog.wantsStandIn u) = true := by kernel_rfl
        exact (show Tryd.prog.wantsStandIn t = false by simpa using List.all_eq_true.1 hall t hm)⟩)
    (by kernel_rfl)
end Go.Proofs.YtomajiicjinekaaDoor
