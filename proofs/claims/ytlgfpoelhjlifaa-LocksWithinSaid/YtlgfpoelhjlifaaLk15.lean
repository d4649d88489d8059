/- Tasks that take turns: the law LocksWithin. -/
import Derived.Test.YtlgfpoelhjlifaaTa
import Derived.Test.YtlgfpoelhjlifaaLk14
import Derived.Test.YtlgfpoelhjlifaaLk8
namespace Go.Proofs.Ytlgfpoelhjlifaa
open Go Go.Sx
set_option maxRecDepth 100000
set_option maxHeartbeats 4000000
set_option linter.unusedVariables false
set_option linter.unusedSimpArgs false
attribute [local irreducible] J JQ QS Con W opW
theorem ent10 : Sx.Enters Try.prog 10 := ⟨_, Try.func10, by kernel_rfl, by kernel_rfl⟩
theorem ent11 : Sx.Enters Try.prog 11 := ⟨_, Try.func11, by kernel_rfl, by kernel_rfl⟩
theorem zero4 : zeroL Try.prog 4 = some ([.bool false]) := by kernel_rfl
theorem zero22 : zeroL Try.prog 22 = some ([.nilFunc]) := by kernel_rfl

/-- what the law itself has in memory -/
def Uw (g9 g16 g14 g0 g18 gr : Nat) (inner added n : Int) (fv : Value) : SH := [(g9, .cells [Value.pointer (some ⟨gr, 0, none⟩)].toArray 23 (0, 0)), (g16, .cells [Value.int .i64 inner].toArray 3 (0, 0)), (g14, .cells [Value.int .i64 added].toArray 3 (0, 0)), (g0, .cells [Value.int .i64 n].toArray 3 (0, 0)), (g18, .cells [fv].toArray 22 (0, 0))]
theorem range_map {α : Type} (ts : List α) (d : α) : (List.range ts.length).map (fun j => ts.getD j d) = ts := by
  apply List.ext_getElem
  · simp
  · intro i h1 h2
    simp [List.getD_eq_getElem?_getD, List.getElem?_eq_getElem h2]
theorem goers_alive {ts : List TM} (h : ∀ t ∈ ts, t.bl = false) : (goers ts ts.length).length = alive ts := by
  have e : goers ts ts.length = (List.range ts.length).filter fun j => !(ts.getD j TM0).en := by
    unfold goers
    refine List.filter_congr fun j hj => ?_
    unfold liveT
    rw [h _ (tmem (List.mem_range.1 hj))]
    simp
  have e2 : alive ts = (((List.range ts.length).map fun j => ts.getD j TM0).filter fun t => !t.en).length := by rw [range_map]; rfl
  rw [e, e2, List.filter_map, List.length_map]
  rfl
abbrev caps11 (g9 g16 g14 g0 g18 : Nat) : List Value := [.pointer (some ⟨g9, 0, none⟩), .pointer (some ⟨g16, 0, none⟩), .pointer (some ⟨g14, 0, none⟩), .pointer (some ⟨g0, 0, none⟩), .pointer (some ⟨g18, 0, none⟩)]
abbrev fv11 (g9 g16 g14 g0 g18 : Nat) : Value := .func (.func 11) #[] (caps11 g9 g16 g14 g0 g18).toArray
/-- pantry.pantrylaw12.LocksWithin$1 -/
theorem within1_con (r : RM) (g9 g16 g14 g0 g18 : Nat) (inner added n : Int) (w : World) (hok : r.Ok) (hbu : r.busy = true) (hlen : r.ts.length ≤ 200) (had : 0 ≤ added ∧ added ≤ n ∧ n ≤ 50) : Con Try.prog 11 (caps11 g9 g16 g14 g0 g18) w (r.heap ++ Uw g9 g16 g14 g0 g18 r.gr inner added n (fv11 g9 g16 g14 g0 g18)) fun v S' => v = .bool false ∧ ∃ r2 : RM, S' = [r2.heap, Uw g9 g16 g14 g0 g18 r.gr (-1) (if added < n then added + 1 else added) n (fv11 g9 g16 g14 g0 g18)] ∧ r2.Ok ∧ r2.gr = r.gr ∧ r2.busy = true ∧ r2.steps = r.steps ∧ (if added < n then ∃ g, r2.ts = r.ts ++ [⟨g, (fv11 g9 g16 g14 g0 g18), false, false⟩] else r2.ts = r.ts) := by
  refine con_of_tree mix Try.func11 T11_ok (by kernel_rfl) ?_
  unfold T11
  refine j_perm (S' := [r.heap, [(g9, .cells [Value.pointer (some ⟨r.gr, 0, none⟩)].toArray 23 (0, 0))], [(g16, .cells [Value.int .i64 (inner)].toArray 3 (0, 0))], [(g14, .cells [Value.int .i64 (added)].toArray 3 (0, 0))], [(g0, .cells [Value.int .i64 n].toArray 3 (0, 0))], [(g18, .cells [(fv11 g9 g16 g14 g0 g18)].toArray 22 (0, 0))]]) (by simp [Uw]) ?_
  refine j_q (qs_ac) ?_
  refine j_q (qs_load (l := [.pointer (some ⟨r.gr, 0, none⟩)]) 1 Try.underlying23 rfl rfl rfl rfl) ?_
  refine j_q (qs_call ent12 rfl rfl rfl (fun w' hw' => stepBusy_con r 0 w' (fun q hq => rdo_mem 0 rfl hq w' hw') hbu)) ?_
  refine j_q (qs_ext (vs := [.int .i64 (-1), .bool false]) rfl rfl) ?_
  refine j_q (qs_ext (vs := [.int .i64 (-1), .bool false]) rfl rfl) ?_
  refine j_store (l := [.int .i64 inner]) 2 sz3 rfl rfl rfl rfl (by simp) (by simp) ?_
  refine j_q (qs_load (l := [.int .i64 added]) 3 Try.underlying3 rfl rfl rfl rfl) ?_
  refine j_q (qs_load (l := [.int .i64 n]) 4 Try.underlying3 rfl rfl rfl rfl) ?_
  refine j_q (qs_lss rfl rfl) ?_
  refine j_cond rfl (fun hc0 => ?_) (fun hc0 => ?_)
  · skip
    have hlt : added < n := by simpa using hc0
    refine j_q (qs_load (l := [.int .i64 added]) 3 Try.underlying3 rfl rfl rfl rfl) ?_
    refine j_q (qs_add64 rfl rfl (by first | omega | (simp only [Bool.and_eq_true, Bool.or_eq_true, Bool.and_eq_false_iff, Bool.or_eq_false_iff, Bool.not_eq_true', Bool.not_eq_false', decide_eq_true_eq, decide_eq_false_iff_not, beq_iff_eq, beq_eq_false_iff_ne, bne_iff_ne, bne_eq_false_iff_eq, ne_eq, Int.toNat_natCast] at *; omega))) ?_
    refine j_store (l := [.int .i64 added]) 3 sz3 rfl rfl rfl rfl (by simp) (by simp) ?_
    refine j_q (qs_load (l := [.pointer (some ⟨r.gr, 0, none⟩)]) 1 Try.underlying23 rfl rfl rfl rfl) ?_
    refine j_q (qs_load (l := [(fv11 g9 g16 g14 g0 g18)]) 5 Try.underlying22 rfl rfl rfl rfl) ?_
    refine j_call 0 ent13 rfl rfl rfl rfl (fun w' hw' => addR_con r 11 (caps11 g9 g16 g14 g0 g18).toArray w' hok (by omega) (by have := alive_le r.ts; omega)) (fun u S2 hu => ?_)
    obtain ⟨r2, rfl, rfl, hok2, hgr2, hs2, hb2, g, hts2⟩ := hu
    refine j_q (qs_ac) ?_
    refine j_perm (S' := [r2.heap, Uw g9 g16 g14 g0 g18 r.gr (-1) (added + 1) n (fv11 g9 g16 g14 g0 g18)]) (by
      show ([r2.heap, [], [(g9, .cells [Value.pointer (some ⟨r.gr, 0, none⟩)].toArray 23 (0, 0))], [(g16, .cells [Value.int .i64 (-1)].toArray 3 (0, 0))], [(g14, .cells [Value.int .i64 (added + 1)].toArray 3 (0, 0))], [(g0, .cells [Value.int .i64 n].toArray 3 (0, 0))], [(g18, .cells [(fv11 g9 g16 g14 g0 g18)].toArray 22 (0, 0))]] : List SH).flatten.Perm _
      simp [Uw]) ?_
    refine j_ret_con (vs := [_]) (fun w' hw' => ⟨rfl, trivial⟩) ?_
    refine ⟨rfl, r2, by rw [if_pos hlt], hok2, hgr2, hb2.trans hbu, hs2, ?_⟩
    rw [if_pos hlt]
    exact ⟨g, hts2⟩
  · skip
    have hlt : ¬ added < n := by simpa using hc0
    refine j_q (qs_ac) ?_
    refine j_perm (S' := [r.heap, Uw g9 g16 g14 g0 g18 r.gr (-1) added n (fv11 g9 g16 g14 g0 g18)]) (by
      show ([r.heap, [(g9, .cells [Value.pointer (some ⟨r.gr, 0, none⟩)].toArray 23 (0, 0))], [(g16, .cells [Value.int .i64 (-1)].toArray 3 (0, 0))], [(g14, .cells [Value.int .i64 (added)].toArray 3 (0, 0))], [(g0, .cells [Value.int .i64 n].toArray 3 (0, 0))], [(g18, .cells [(fv11 g9 g16 g14 g0 g18)].toArray 22 (0, 0))]] : List SH).flatten.Perm _
      simp [Uw]) ?_
    refine j_ret_con (vs := [_]) (fun w' hw' => ⟨rfl, trivial⟩) ?_
    refine ⟨rfl, r, by rw [if_neg hlt], hok, rfl, hbu, rfl, ?_⟩
    rw [if_neg hlt]

theorem stepW_con (r : RM) (g9 g16 g14 g0 g18 : Nat) (inner added n : Int) (pick : Int) (w : World) (hok : r.Ok) (hnb : r.busy = false) (hst : 0 ≤ r.steps ∧ r.steps ≤ 1000000) (hlen : r.ts.length ≤ 200) (hall : ∀ t ∈ r.ts, t.bl = false ∧ t.fv = (fv11 g9 g16 g14 g0 g18)) (had : 0 ≤ added ∧ added ≤ n ∧ n ≤ 50) : Con Try.prog 12 [.pointer (some ⟨r.gr, 0, none⟩), .int .i64 pick] w (r.heap ++ Uw g9 g16 g14 g0 g18 r.gr inner added n (fv11 g9 g16 g14 g0 g18)) fun v S' => ∃ (x : Int) (y : Bool) (r3 : RM), v = .tuple #[.int .i64 x, .bool y] ∧ S' = [r3.heap, Uw g9 g16 g14 g0 g18 r.gr (if y then -1 else inner) (if y then (if added < n then added + 1 else added) else added) n (fv11 g9 g16 g14 g0 g18)] ∧ r3.gr = r.gr ∧ r3.Ok ∧ r3.busy = false ∧ (∀ t ∈ r3.ts, t.bl = false ∧ t.fv = (fv11 g9 g16 g14 g0 g18)) ∧
    ((y = false ∧ alive r.ts = 0 ∧ r3 = r) ∨ (y = true ∧ 0 < alive r.ts ∧ r3.steps = r.steps + 1 ∧ r3.ts.length = r.ts.length + (if added < n then 1 else 0) ∧ alive r3.ts + 1 = alive r.ts + (if added < n then 1 else 0))) := by
  have hga := goers_alive (fun t ht => (hall t ht).1)
  by_cases hgo : goers r.ts r.ts.length = []
  · refine (stepNone_con r (Uw g9 g16 g14 g0 g18 r.gr inner added n (fv11 g9 g16 g14 g0 g18)) pick w hok hnb hgo).mono fun v S' h => ?_
    obtain ⟨rfl, rfl⟩ := h
    refine ⟨-1, false, r, rfl, rfl, rfl, hok, hnb, hall, .inl ⟨rfl, ?_, rfl⟩⟩
    rw [← hga, hgo]
    rfl
  · have hpos : 0 < (goers r.ts r.ts.length).length := List.length_pos_iff.2 hgo
    have hpk : pickN r.ts pick < r.ts.length := (goers_at (ts := r.ts) (i := r.ts.length) (k := (max 0 pick).toNat % (goers r.ts r.ts.length).length) (Nat.mod_lt _ hpos)).1
    have htp : r.ts[pickN r.ts pick]? = some (r.ts.getD (pickN r.ts pick) TM0) := tgetq hpk
    refine (step_con r (Uw g9 g16 g14 g0 g18 r.gr inner added n (fv11 g9 g16 g14 g0 g18)) pick 11 (caps11 g9 g16 g14 g0 g18) w (fun b S' => b = false ∧ ∃ r2 : RM, S' = [r2.heap, Uw g9 g16 g14 g0 g18 r.gr (-1) (if added < n then added + 1 else added) n (fv11 g9 g16 g14 g0 g18)] ∧ r2.Ok ∧ r2.gr = r.gr ∧ r2.busy = true ∧ r2.steps = r.steps + 1 ∧ (if added < n then ∃ g, r2.ts = r.ts ++ [⟨g, (fv11 g9 g16 g14 g0 g18), false, false⟩] else r2.ts = r.ts))
      (fun b r2 U2 => b = false ∧ U2 = Uw g9 g16 g14 g0 g18 r.gr (-1) (if added < n then added + 1 else added) n (fv11 g9 g16 g14 g0 g18) ∧ (if added < n then ∃ g, r2.ts = r.ts ++ [⟨g, (fv11 g9 g16 g14 g0 g18), false, false⟩] else r2.ts = r.ts)) hok hnb hst hgo (hall _ (tmem hpk)).2 ent11 (fun w' => conx_of_con ((within1_con ({ r with busy := true, steps := r.steps + 1 } : RM) g9 g16 g14 g0 g18 inner added n w' ⟨hok.own, hok.few, hok.isf, hok.len⟩ rfl hlen had).mono fun v S' h => ?_)) (fun b S' h => ?_)).mono fun v S' h => ?_
    · obtain ⟨rfl, r2, h1, h2, h3, h4, h5, h6⟩ := h
      exact ⟨false, rfl, rfl, r2, h1, h2, h3, h4, h5, h6⟩
    · obtain ⟨rfl, r2, h1, h2, h3, h4, h5, h6⟩ := h
      refine ⟨r2, _, h1, h2, h3, h4, h5, ?_, rfl, rfl, h6⟩
      split at h6
      · obtain ⟨g, h6⟩ := h6
        rw [h6, List.getElem?_append_left hpk]
        exact htp
      · rw [h6]
        exact htp
    · obtain ⟨b, r2, U2, rfl, rfl, hok3, hgr2, hs2, hts2, rfl, rfl, hts⟩ := h
      have hg2 : r2.ts.getD (pickN r.ts pick) TM0 = r.ts.getD (pickN r.ts pick) TM0 := by rw [List.getD_eq_getElem?_getD, hts2, Option.getD_some]
      have hall2 : ∀ t ∈ r2.ts, t.bl = false ∧ t.fv = (fv11 g9 g16 g14 g0 g18) := fun t ht => by
        split at hts
        · obtain ⟨g, hts⟩ := hts
          rw [hts] at ht
          rcases List.mem_append.1 ht with ht | ht
          · exact hall t ht
          · rw [List.mem_singleton] at ht
            rw [ht]
            exact ⟨rfl, rfl⟩
        · rw [hts] at ht
          exact hall t ht
      have hlv := (goers_at (ts := r.ts) (i := r.ts.length) (k := (max 0 pick).toNat % (goers r.ts r.ts.length).length) (Nat.mod_lt _ hpos)).2
      have hen0 : (r.ts.getD (pickN r.ts pick) TM0).en = false := by
        have h1 : liveT (r.ts.getD (pickN r.ts pick) TM0) = true := hlv
        unfold liveT at h1
        simp only [Bool.and_eq_true, Bool.not_eq_true'] at h1
        exact h1.1
      have hal := alive_end hts2 hen0
      refine ⟨_, true, after r2 (pickN r.ts pick) false, rfl, rfl, hgr2, hok3, rfl, fun t ht => ?_, .inr ⟨rfl, by omega, hs2, ?_, ?_⟩⟩
      · have ht' : t ∈ r2.ts.set (pickN r.ts pick) { r2.ts.getD (pickN r.ts pick) TM0 with en := true } := ht
        rcases List.mem_or_eq_of_mem_set ht' with ht' | rfl
        · exact hall2 t ht'
        · rw [hg2]
          exact hall (r.ts.getD (pickN r.ts pick) TM0) (tmem hpk)
      · show (r2.ts.set _ _).length = _
        rw [List.length_set]
        split at hts
        · rename_i hlt
          obtain ⟨g, hts⟩ := hts
          rw [hts, if_pos hlt, List.length_append]
          rfl
        · rename_i hlt
          rw [hts, if_neg hlt]
          rfl
      · show alive (r2.ts.set _ { r2.ts.getD (pickN r.ts pick) TM0 with en := true }) + 1 = _
        rw [hg2]
        refine hal.trans ?_
        split at hts
        · rename_i hlt
          obtain ⟨g, hts⟩ := hts
          rw [hts, if_pos hlt, alive_app]
          rfl
        · rename_i hlt
          rw [hts, if_neg hlt]
          rfl

/-- pantry.pantrylaw12.LocksWithin -/
theorem locksWithin_con (n : Int) (w : World) (hn : intOk n) : Con Try.prog 3 [.int .i64 n] w [] fun u _ => u = .bool true := by
  refine con_of_tree mix Try.func3 T3_ok (by kernel_rfl) ?_
  unfold T3
  refine j_box (l := [.int .i64 n]) rfl (fun g0 hg0 hs0 => ?_)
  refine j_q (qs_ac) ?_
  first
    | refine j_q (qs_loadk 0 Try.underlying3 rfl rfl (by first | omega | (simp only [Bool.and_eq_true, Bool.or_eq_true, Bool.and_eq_false_iff, Bool.or_eq_false_iff, Bool.not_eq_true', Bool.not_eq_false', decide_eq_true_eq, decide_eq_false_iff_not, beq_iff_eq, beq_eq_false_iff_ne, bne_iff_ne, bne_eq_false_iff_eq, ne_eq, Int.toNat_natCast] at *; omega))) ?_
    | refine j_q (qs_loadk 1 Try.underlying3 rfl rfl (by first | omega | (simp only [Bool.and_eq_true, Bool.or_eq_true, Bool.and_eq_false_iff, Bool.or_eq_false_iff, Bool.not_eq_true', Bool.not_eq_false', decide_eq_true_eq, decide_eq_false_iff_not, beq_iff_eq, beq_eq_false_iff_ne, bne_iff_ne, bne_eq_false_iff_eq, ne_eq, Int.toNat_natCast] at *; omega))) ?_
    | refine j_q (qs_loadk 2 Try.underlying3 rfl rfl (by first | omega | (simp only [Bool.and_eq_true, Bool.or_eq_true, Bool.and_eq_false_iff, Bool.or_eq_false_iff, Bool.not_eq_true', Bool.not_eq_false', decide_eq_true_eq, decide_eq_false_iff_not, beq_iff_eq, beq_eq_false_iff_ne, bne_iff_ne, bne_eq_false_iff_eq, ne_eq, Int.toNat_natCast] at *; omega))) ?_
    | refine j_q (qs_loadk 3 Try.underlying3 rfl rfl (by first | omega | (simp only [Bool.and_eq_true, Bool.or_eq_true, Bool.and_eq_false_iff, Bool.or_eq_false_iff, Bool.not_eq_true', Bool.not_eq_false', decide_eq_true_eq, decide_eq_false_iff_not, beq_iff_eq, beq_eq_false_iff_ne, bne_iff_ne, bne_eq_false_iff_eq, ne_eq, Int.toNat_natCast] at *; omega))) ?_
    | refine j_q (qs_loadk 4 Try.underlying3 rfl rfl (by first | omega | (simp only [Bool.and_eq_true, Bool.or_eq_true, Bool.and_eq_false_iff, Bool.or_eq_false_iff, Bool.not_eq_true', Bool.not_eq_false', decide_eq_true_eq, decide_eq_false_iff_not, beq_iff_eq, beq_eq_false_iff_ne, bne_iff_ne, bne_eq_false_iff_eq, ne_eq, Int.toNat_natCast] at *; omega))) ?_
    | refine j_q (qs_loadk 5 Try.underlying3 rfl rfl (by first | omega | (simp only [Bool.and_eq_true, Bool.or_eq_true, Bool.and_eq_false_iff, Bool.or_eq_false_iff, Bool.not_eq_true', Bool.not_eq_false', decide_eq_true_eq, decide_eq_false_iff_not, beq_iff_eq, beq_eq_false_iff_ne, bne_iff_ne, bne_eq_false_iff_eq, ne_eq, Int.toNat_natCast] at *; omega))) ?_
    | refine j_q (qs_load 0 Try.underlying3 rfl rfl rfl rfl) ?_
    | refine j_q (qs_load 1 Try.underlying3 rfl rfl rfl rfl) ?_
    | refine j_q (qs_load 2 Try.underlying3 rfl rfl rfl rfl) ?_
    | refine j_q (qs_load 3 Try.underlying3 rfl rfl rfl rfl) ?_
    | refine j_q (qs_load 4 Try.underlying3 rfl rfl rfl rfl) ?_
    | refine j_q (qs_load 5 Try.underlying3 rfl rfl rfl rfl) ?_
  refine j_q (qs_lss rfl rfl) ?_
  first
    | refine j_g rfl (fun hb => qs_loadk 0 Try.underlying3 rfl rfl (by first | omega | (simp only [Bool.and_eq_true, Bool.or_eq_true, Bool.and_eq_false_iff, Bool.or_eq_false_iff, Bool.not_eq_true', Bool.not_eq_false', decide_eq_true_eq, decide_eq_false_iff_not, beq_iff_eq, beq_eq_false_iff_ne, bne_iff_ne, bne_eq_false_iff_eq, ne_eq, Int.toNat_natCast] at *; omega))) ?_
    | refine j_g rfl (fun hb => qs_loadk 1 Try.underlying3 rfl rfl (by first | omega | (simp only [Bool.and_eq_true, Bool.or_eq_true, Bool.and_eq_false_iff, Bool.or_eq_false_iff, Bool.not_eq_true', Bool.not_eq_false', decide_eq_true_eq, decide_eq_false_iff_not, beq_iff_eq, beq_eq_false_iff_ne, bne_iff_ne, bne_eq_false_iff_eq, ne_eq, Int.toNat_natCast] at *; omega))) ?_
    | refine j_g rfl (fun hb => qs_loadk 2 Try.underlying3 rfl rfl (by first | omega | (simp only [Bool.and_eq_true, Bool.or_eq_true, Bool.and_eq_false_iff, Bool.or_eq_false_iff, Bool.not_eq_true', Bool.not_eq_false', decide_eq_true_eq, decide_eq_false_iff_not, beq_iff_eq, beq_eq_false_iff_ne, bne_iff_ne, bne_eq_false_iff_eq, ne_eq, Int.toNat_natCast] at *; omega))) ?_
    | refine j_g rfl (fun hb => qs_loadk 3 Try.underlying3 rfl rfl (by first | omega | (simp only [Bool.and_eq_true, Bool.or_eq_true, Bool.and_eq_false_iff, Bool.or_eq_false_iff, Bool.not_eq_true', Bool.not_eq_false', decide_eq_true_eq, decide_eq_false_iff_not, beq_iff_eq, beq_eq_false_iff_ne, bne_iff_ne, bne_eq_false_iff_eq, ne_eq, Int.toNat_natCast] at *; omega))) ?_
    | refine j_g rfl (fun hb => qs_loadk 4 Try.underlying3 rfl rfl (by first | omega | (simp only [Bool.and_eq_true, Bool.or_eq_true, Bool.and_eq_false_iff, Bool.or_eq_false_iff, Bool.not_eq_true', Bool.not_eq_false', decide_eq_true_eq, decide_eq_false_iff_not, beq_iff_eq, beq_eq_false_iff_ne, bne_iff_ne, bne_eq_false_iff_eq, ne_eq, Int.toNat_natCast] at *; omega))) ?_
    | refine j_g rfl (fun hb => qs_loadk 5 Try.underlying3 rfl rfl (by first | omega | (simp only [Bool.and_eq_true, Bool.or_eq_true, Bool.and_eq_false_iff, Bool.or_eq_false_iff, Bool.not_eq_true', Bool.not_eq_false', decide_eq_true_eq, decide_eq_false_iff_not, beq_iff_eq, beq_eq_false_iff_ne, bne_iff_ne, bne_eq_false_iff_eq, ne_eq, Int.toNat_natCast] at *; omega))) ?_
    | refine j_g rfl (fun hb => qs_load 0 Try.underlying3 rfl rfl rfl rfl) ?_
    | refine j_g rfl (fun hb => qs_load 1 Try.underlying3 rfl rfl rfl rfl) ?_
    | refine j_g rfl (fun hb => qs_load 2 Try.underlying3 rfl rfl rfl rfl) ?_
    | refine j_g rfl (fun hb => qs_load 3 Try.underlying3 rfl rfl rfl rfl) ?_
    | refine j_g rfl (fun hb => qs_load 4 Try.underlying3 rfl rfl rfl rfl) ?_
    | refine j_g rfl (fun hb => qs_load 5 Try.underlying3 rfl rfl rfl rfl) ?_
  refine j_g rfl (fun hb => qs_gtr (gd_eq hb) rfl) ?_
  refine j_q (qs_or rfl rfl) ?_
  refine j_cond rfl (fun hc0 => ?_) (fun hc0 => ?_)
  · skip
    refine j_q (qs_call ent9 rfl rfl rfl (fun w' hw' => known_con w')) ?_
    refine j_ret_con (vs := [_]) (fun w' hw' => ⟨rfl, trivial⟩) ?_
    rfl
  · skip
    have hn1 : 1 ≤ n ∧ n ≤ 50 := by
      simp [gd] at hc0
      omega
    refine j_call0 ent10 rfl rfl rfl (fun w' hw' => newRun_con w') (fun u S2 hu => ?_)
    obtain ⟨r0, rfl, rfl, hok0, hts0, hst0, hb0⟩ := hu
    refine j_alloc zero23 (fun g9 hg9 hs9 => ?_)
    refine j_store (l := [.pointer none]) 0 sz23 rfl rfl rfl rfl (by simp) (by simp) ?_
    refine j_q (qs_load (l := [.pointer (some ⟨r0.gr, 0, none⟩)]) 0 Try.underlying23 rfl rfl rfl rfl) ?_
    refine j_q (qs_pnil Try.underlying23 rfl) ?_
    refine j_cond rfl (fun hc1 => ?_) (fun hc1 => ?_)
    · skip
      simp at hc1
    · skip
      refine j_alloc zero3 (fun g14 hg14 hs14 => ?_)
      refine j_store (l := [.int .i64 0]) 0 sz3 rfl rfl rfl rfl (by simp) (by simp) ?_
      refine j_alloc zero3 (fun g16 hg16 hs16 => ?_)
      refine j_store (l := [.int .i64 0]) 0 sz3 rfl rfl rfl rfl (by simp) (by simp) ?_
      refine j_alloc zero22 (fun g18 hg18 hs18 => ?_)
      refine j_q (qs_mkfuncv (vs := caps11 g9 g16 g14 g0 g18) rfl) ?_
      refine j_store (l := [.nilFunc]) 0 sz22 rfl rfl rfl rfl (by simp) (by simp) ?_
      refine j_perm (S' := [r0.heap, [(g9, .cells [Value.pointer (some ⟨r0.gr, 0, none⟩)].toArray 23 (0, 0))], [(g16, .cells [Value.int .i64 7].toArray 3 (0, 0))], [(g14, .cells [Value.int .i64 0].toArray 3 (0, 0))], [(g0, .cells [Value.int .i64 n].toArray 3 (0, 0))], [(g18, .cells [(fv11 g9 g16 g14 g0 g18)].toArray 22 (0, 0))]]) (by
        classical
        show ([[(g18, .cells [(fv11 g9 g16 g14 g0 g18)].toArray 22 (0, 0))], [(g16, .cells [Value.int .i64 7].toArray 3 (0, 0))], [(g14, .cells [Value.int .i64 0].toArray 3 (0, 0))], [(g9, .cells [Value.pointer (some ⟨r0.gr, 0, none⟩)].toArray 23 (0, 0))], r0.heap, [(g0, .cells [Value.int .i64 n].toArray 3 (0, 0))]] : List SH).flatten.Perm _
        refine List.perm_iff_count.2 fun a => ?_
        simp only [List.flatten_cons, List.flatten_nil, List.append_nil, List.nil_append, List.cons_append, List.count_append, List.count_cons, List.count_nil]
        omega) ?_
      refine j_q (qs_load (l := [.pointer (some ⟨r0.gr, 0, none⟩)]) 1 Try.underlying23 rfl rfl rfl rfl) ?_
      refine j_q (qs_load (l := [(fv11 g9 g16 g14 g0 g18)]) 5 Try.underlying22 rfl rfl rfl rfl) ?_
      refine j_call 0 ent13 rfl rfl rfl rfl (fun w' hw' => addR_con r0 11 (caps11 g9 g16 g14 g0 g18).toArray w' hok0 (by rw [hts0]; decide) (by rw [hts0]; decide)) (fun u S2 hu => ?_)
      obtain ⟨r1, rfl, rfl, hok1, hgr1, hs1, hb1, gt1, hts1⟩ := hu
      refine j_perm (S' := [r1.heap, Uw g9 g16 g14 g0 g18 r0.gr 7 0 n (fv11 g9 g16 g14 g0 g18)]) (by
        show ([r1.heap, [], [(g9, .cells [Value.pointer (some ⟨r0.gr, 0, none⟩)].toArray 23 (0, 0))], [(g16, .cells [Value.int .i64 7].toArray 3 (0, 0))], [(g14, .cells [Value.int .i64 0].toArray 3 (0, 0))], [(g0, .cells [Value.int .i64 n].toArray 3 (0, 0))], [(g18, .cells [(fv11 g9 g16 g14 g0 g18)].toArray 22 (0, 0))]] : List SH).flatten.Perm _
        simp [Uw]) ?_
      rw [hts0, List.nil_append] at hts1
      rw [← hgr1]
      refine j_q (qs_ac) ?_
      refine j_loop (fun m vs S' => ∃ (k : Nat) (r : RM) (inner added : Int), vs = [.int .i64 (k : Int)] ∧ S' = [r.heap, Uw g9 g16 g14 g0 g18 r.gr inner added n (fv11 g9 g16 g14 g0 g18)] ∧ r.gr = r1.gr ∧ r.Ok ∧ r.busy = false ∧ r.steps = k ∧ (∀ t ∈ r.ts, t.bl = false ∧ t.fv = (fv11 g9 g16 g14 g0 g18)) ∧ added = min (k : Int) n ∧ r.ts.length = (min (k : Int) n).toNat + 1 ∧ ((alive r.ts : Nat) : Int) = min (k : Int) n + 1 - k ∧ (0 < k → inner = -1) ∧ (k : Int) ≤ n + 1 ∧ m = 60 - k) ⟨_, 0, r1, 7, 0, rfl, rfl, rfl, hok1, hb1.trans hb0, by rw [hs1, hst0]; rfl, (fun t ht => by rw [hts1, List.mem_singleton] at ht; rw [ht]; exact ⟨rfl, rfl⟩), by omega, by rw [hts1]; show 1 = _; omega, by rw [hts1]; show ((1 : Nat) : Int) = _; omega, (fun h => absurd h (by decide)), by omega, rfl⟩ ?_
      rintro m vs S' hlen ⟨k, r, inner, added, rfl, rfl, hgr, hok, hnb, hst, hall, hadd, hlen1, hal1, hin, hkn, rfl⟩
      rw [← hgr]
      refine j_perm (S' := [r.heap, [(g9, .cells [Value.pointer (some ⟨r.gr, 0, none⟩)].toArray 23 (0, 0))], [(g16, .cells [Value.int .i64 (inner)].toArray 3 (0, 0))], [(g14, .cells [Value.int .i64 (added)].toArray 3 (0, 0))], [(g0, .cells [Value.int .i64 n].toArray 3 (0, 0))], [(g18, .cells [(fv11 g9 g16 g14 g0 g18)].toArray 22 (0, 0))]]) (by simp [Uw]) ?_
      refine j_q (qs_lss rfl rfl) ?_
      refine j_cond rfl (fun hc2 => ?_) (fun hc2 => ?_)
      · skip
        refine j_q (qs_load (l := [.pointer (some ⟨r.gr, 0, none⟩)]) 1 Try.underlying23 rfl rfl rfl rfl) ?_
        refine j_perm (S' := [r.heap ++ Uw g9 g16 g14 g0 g18 r.gr inner added n (fv11 g9 g16 g14 g0 g18)]) (by
          show ([r.heap, [(g9, .cells [Value.pointer (some ⟨r.gr, 0, none⟩)].toArray 23 (0, 0))], [(g16, .cells [Value.int .i64 (inner)].toArray 3 (0, 0))], [(g14, .cells [Value.int .i64 (added)].toArray 3 (0, 0))], [(g0, .cells [Value.int .i64 n].toArray 3 (0, 0))], [(g18, .cells [(fv11 g9 g16 g14 g0 g18)].toArray 22 (0, 0))]] : List SH).flatten.Perm _
          simp [Uw]) ?_
        have hk52 : (k : Int) ≤ 51 := by omega
        have hga := goers_alive (fun t ht => (hall t ht).1)
        refine j_call 0 ent12 rfl rfl rfl rfl (fun w' hw' => stepW_con r g9 g16 g14 g0 g18 inner added n k w' hok hnb (by omega) (by omega) hall (by omega)) (fun u S2 hu => ?_)
        obtain ⟨x, y, r3, rfl, rfl, hgr3, hcase⟩ := hu
        refine j_perm (S' := [r3.heap, [(g9, .cells [Value.pointer (some ⟨r.gr, 0, none⟩)].toArray 23 (0, 0))], [(g16, .cells [Value.int .i64 (if y then -1 else inner)].toArray 3 (0, 0))], [(g14, .cells [Value.int .i64 (if y then (if added < n then added + 1 else added) else added)].toArray 3 (0, 0))], [(g0, .cells [Value.int .i64 n].toArray 3 (0, 0))], [(g18, .cells [(fv11 g9 g16 g14 g0 g18)].toArray 22 (0, 0))]]) (by
          show ([r3.heap, Uw g9 g16 g14 g0 g18 r.gr (if y then -1 else inner) (if y then (if added < n then added + 1 else added) else added) n (fv11 g9 g16 g14 g0 g18), []] : List SH).flatten.Perm _
          simp [Uw]) ?_
        refine j_q (qs_ext (vs := [.int .i64 x, .bool y]) rfl rfl) ?_
        refine j_q (qs_ext (vs := [.int .i64 x, .bool y]) rfl rfl) ?_
        refine j_q (qs_not rfl) ?_
        refine j_cond rfl (fun hc3 => ?_) (fun hc3 => ?_)
        · skip
          obtain rfl : y = false := by simpa using hc3
          obtain ⟨hok3, hnb3, hall3, hcs⟩ := hcase
          obtain ⟨hal0, hrr⟩ : alive r.ts = 0 ∧ r3 = r := by
            rcases hcs with ⟨_, a, b⟩ | ⟨h1, _⟩
            · exact ⟨a, b⟩
            · cases h1
          have hal3 : ((alive r3.ts : Nat) : Int) = 0 := by rw [hrr, hal0]; rfl
          have hst3 : r3.steps = k := by rw [hrr]; exact hst
          have hk1 : (k : Int) = n + 1 := by rw [hal0] at hal1; simp only [Int.natCast_zero] at hal1; omega
          have hin3 : inner = -1 := hin (by omega)
          refine j_q (qs_load (l := [.pointer (some ⟨r.gr, 0, none⟩)]) 1 Try.underlying23 rfl rfl rfl rfl) ?_
          refine j_q (qs_call ent14 rfl rfl rfl (fun w' hw' => (show Con Try.prog 14 [.pointer (some ⟨r.gr, 0, none⟩)] w' [] (fun v _ => v = .tuple #[.int .i64 (alive r3.ts : Nat), .int .i64 r3.steps]) from by rw [← hgr3]; exact leftR_con r3 w' (fun q hq => rdo_mem 0 rfl hq w' hw') hok3))) ?_
          refine j_q (qs_ext (vs := [.int .i64 (alive r3.ts : Nat), .int .i64 r3.steps]) rfl rfl) ?_
          refine j_q (qs_ext (vs := [.int .i64 (alive r3.ts : Nat), .int .i64 r3.steps]) rfl rfl) ?_
          refine j_q (qs_load (l := [.int .i64 n]) 4 Try.underlying3 rfl rfl rfl rfl) ?_
          refine j_q (qs_add64 rfl rfl (by first | omega | (simp only [Bool.and_eq_true, Bool.or_eq_true, Bool.and_eq_false_iff, Bool.or_eq_false_iff, Bool.not_eq_true', Bool.not_eq_false', decide_eq_true_eq, decide_eq_false_iff_not, beq_iff_eq, beq_eq_false_iff_ne, bne_iff_ne, bne_eq_false_iff_eq, ne_eq, Int.toNat_natCast] at *; omega))) ?_
          refine j_q (qs_eql rfl rfl) ?_
          refine j_g rfl (fun hb => qs_mt rfl) ?_
          refine j_g rfl (fun hb => qs_eql (gd_eq hb) rfl) ?_
          refine j_q (qs_and rfl rfl) ?_
          refine j_g rfl (fun hb => qs_mt rfl) ?_
          refine j_g rfl (fun hb => qs_load (l := [.int .i64 n]) 4 Try.underlying3 rfl rfl rfl rfl) ?_
          refine j_g rfl (fun hb => qs_add64 (gd_eq hb) rfl (by first | omega | (simp only [Bool.and_eq_true, Bool.or_eq_true, Bool.and_eq_false_iff, Bool.or_eq_false_iff, Bool.not_eq_true', Bool.not_eq_false', decide_eq_true_eq, decide_eq_false_iff_not, beq_iff_eq, beq_eq_false_iff_ne, bne_iff_ne, bne_eq_false_iff_eq, ne_eq, Int.toNat_natCast] at *; omega))) ?_
          refine j_g rfl (fun hb => qs_eql (gd_eq hb) (gd_eq hb)) ?_
          refine j_q (qs_and rfl rfl) ?_
          refine j_g rfl (fun hb => qs_load (l := [.int .i64 inner]) 2 Try.underlying3 rfl rfl rfl rfl) ?_
          refine j_g rfl (fun hb => qs_eql (gd_eq hb) rfl) ?_
          refine j_q (qs_and rfl rfl) ?_
          refine j_g rfl (fun hb => qs_call ent9 rfl rfl (args0) (fun w' hw' => known_con w')) ?_
          refine j_q (qs_and rfl rfl) ?_
          refine j_ret_con (vs := [_]) (fun w' hw' => ⟨rfl, trivial⟩) ?_
          show Value.bool _ = _
          congr 1
          simp only [hal3, hst3, hin3, hk1]
          simp
        · skip
          obtain rfl : y = true := by simpa using hc3
          obtain ⟨hok3, hnb3, hall3, hcs⟩ := hcase
          obtain ⟨hal0, hst3, hlen3, hal3⟩ : 0 < alive r.ts ∧ r3.steps = r.steps + 1 ∧ r3.ts.length = r.ts.length + (if added < n then 1 else 0) ∧ alive r3.ts + 1 = alive r.ts + (if added < n then 1 else 0) := by
            rcases hcs with ⟨h1, _⟩ | ⟨_, a⟩
            · cases h1
            · exact a
          refine j_perm (S' := [r3.heap, Uw g9 g16 g14 g0 g18 r3.gr (-1) (if added < n then added + 1 else added) n (fv11 g9 g16 g14 g0 g18)]) (by
            show ([r3.heap, [(g9, .cells [Value.pointer (some ⟨r.gr, 0, none⟩)].toArray 23 (0, 0))], [(g16, .cells [Value.int .i64 (-1)].toArray 3 (0, 0))], [(g14, .cells [Value.int .i64 (if added < n then added + 1 else added)].toArray 3 (0, 0))], [(g0, .cells [Value.int .i64 n].toArray 3 (0, 0))], [(g18, .cells [(fv11 g9 g16 g14 g0 g18)].toArray 22 (0, 0))]] : List SH).flatten.Perm _
            rw [hgr3]
            simp [Uw]) ?_
          refine j_q (qs_add64 rfl rfl (by first | omega | (simp only [Bool.and_eq_true, Bool.or_eq_true, Bool.and_eq_false_iff, Bool.or_eq_false_iff, Bool.not_eq_true', Bool.not_eq_false', decide_eq_true_eq, decide_eq_false_iff_not, beq_iff_eq, beq_eq_false_iff_ne, bne_iff_ne, bne_eq_false_iff_eq, ne_eq, Int.toNat_natCast] at *; omega))) ?_
          refine j_back rfl ?_
          refine ⟨60 - (k + 1), by omega, k + 1, r3, -1, if added < n then added + 1 else added, rfl, rfl, hgr3, hok3, hnb3, by rw [hst3, hst]; rfl, hall3, ?_, ?_, ?_, fun _ => rfl, by omega, rfl⟩
          · split <;> omega
          · rw [hlen3, hlen1]
            split <;> omega
          · split at hal3 <;> omega
      · skip
        exfalso
        simp at hc2
        omega
end Go.Proofs.Ytlgfpoelhjlifaa
