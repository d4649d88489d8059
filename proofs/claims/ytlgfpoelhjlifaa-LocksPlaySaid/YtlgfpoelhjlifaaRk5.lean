/- Locks by names, as the document has them: Take, Give. -/
import Derived.Test.YtlgfpoelhjlifaaTa
import Derived.Test.YtlgfpoelhjlifaaRk4
namespace Go.Proofs.Ytlgfpoelhjlifaa
open Go Go.Sx
set_option maxRecDepth 100000
set_option maxHeartbeats 4000000
set_option linter.unusedVariables false
set_option linter.unusedSimpArgs false
attribute [local irreducible] J JQ QS Con W opW
theorem ent34 : Sx.Enters Try.prog 34 := ⟨_, Try.func34, by kernel_rfl, by kernel_rfl⟩
theorem ent49 : Sx.Enters Try.prog 49 := ⟨_, Try.func49, by kernel_rfl, by kernel_rfl⟩
theorem ent50 : Sx.Enters Try.prog 50 := ⟨_, Try.func50, by kernel_rfl, by kernel_rfl⟩

theorem less_iff {x y : List UInt8} {r : Bool} (h : Op.bytesLess x y = r) : (x < y) ↔ r = true := by
  rw [← h, bytesLess_eq, decide_eq_true_eq]
theorem flat1 {α : Type} (h : List α) : [h].flatten = h := by simp
/-- names rise -/
def RiseE (es : List RE) : Prop := es.Pairwise fun x y => Op.bytesLess x.name y.name = true
theorem bl_trans {a b c : List UInt8} (h1 : Op.bytesLess a b = true) (h2 : Op.bytesLess b c = true) : Op.bytesLess a c = true := by
  exact (less_iff rfl).1 (List.lt_trans ((less_iff rfl).2 h1) ((less_iff rfl).2 h2))
theorem bl_irr (a : List UInt8) : Op.bytesLess a a = false := by
  cases h : Op.bytesLess a a with
  | false => rfl
  | true => exact absurd ((less_iff rfl).2 h) (List.lt_irrefl _)
theorem bl_tri {a b : List UInt8} (h1 : Op.bytesLess a b = false) (h2 : a ≠ b) : Op.bytesLess b a = true := by
  refine (less_iff rfl).1 ?_
  have h3 : ¬ a < b := fun h => by rw [(less_iff rfl).1 h] at h1; cases h1
  rcases List.le_iff_lt_or_eq.1 (List.not_lt.1 h3) with h | h
  · exact h
  · exact absurd h.symm h2
theorem rise_nd {es : List RE} (h : RiseE es) : (es.map RE.name).Nodup := by
  unfold List.Nodup
  rw [List.pairwise_map]
  exact h.imp fun hab e => by rw [e, bl_irr] at hab; cases hab
theorem rise_set {es : List RE} (h : RiseE es) (e : RE) : RiseE (setE es e) := by
  unfold RiseE setE at *
  rw [List.pairwise_map]
  refine h.imp fun {a b} hab => ?_
  have hn : ∀ x : RE, (if x.name = e.name then e else x).name = x.name := fun x => by split <;> simp_all
  rw [hn, hn]
  exact hab
theorem drop_split {es : List RE} {n : List UInt8} : es.takeWhile (lessN n) ++ es.dropWhile (lessN n) = es := List.takeWhile_append_dropWhile
theorem rise_ensure {es : List RE} (h : RiseE es) (n : List UInt8) : RiseE (ensureE es n) := by
  unfold ensureE
  have hs := drop_split (es := es) (n := n)
  have htw : ∀ x ∈ es.takeWhile (lessN n), Op.bytesLess x.name n = true := fun x hx => by
    have := List.all_takeWhile (p := lessN n) (l := es)
    exact List.all_eq_true.1 this x hx
  have h' := h
  unfold RiseE at h'
  rw [← hs] at h'
  obtain ⟨ha, hb, hab⟩ := List.pairwise_append.1 h'
  cases hd : es.dropWhile (lessN n) with
  | nil =>
    refine List.pairwise_append.2 ⟨ha, List.pairwise_singleton _ _, fun x hx y hy => ?_⟩
    rw [List.mem_singleton] at hy
    rw [hy]
    exact htw x hx
  | cons e r =>
    simp only
    split
    · exact h
    · rename_i hne
      have hp : lessN n e = false := by
        have := List.head?_dropWhile_not (lessN n) es
        rw [hd] at this
        simpa using this
      have hne' : Op.bytesLess n e.name = true := bl_tri hp hne
      rw [hd] at hb hab
      refine List.pairwise_append.2 ⟨ha, List.pairwise_cons.2 ⟨fun y hy => ?_, hb⟩, fun x hx y hy => ?_⟩
      · rcases List.mem_cons.1 hy with rfl | hy
        · exact hne'
        · exact bl_trans hne' ((List.pairwise_cons.1 hb).1 y hy)
      · rcases List.mem_cons.1 hy with rfl | hy
        · exact htw x hx
        · exact hab x hx y hy
theorem lockE_name (es : List RE) (n : List UInt8) : (lockE es n).name = n := by
  unfold lockE
  split
  · rfl
  · split
    · assumption
    · rfl
open Classical in
/-- Take, as the document has it -/
noncomputable def takeE (es : List RE) (t : Int) (n : List UInt8) (s : Bool) : List RE × Bool × Int :=
  if t < 0 then (es, false, 1)
  else if holdsE es t n || (findWE es t).isSome then (es, false, 8)
  else if (lockE es n).row.isEmpty && ((lockE es n).holds.isEmpty || ((lockE es n).sh && s)) then (setE (ensureE es n) { lockE es n with holds := (lockE es n).holds ++ [t], sh := s }, true, 0)
  else if EReach (setE (ensureE es n) { lockE es n with row := (lockE es n).row ++ [(t, s)] }) t t then (setE (setE (ensureE es n) { lockE es n with row := (lockE es n).row ++ [(t, s)] }) (lockE es n), false, 17)
  else (setE (ensureE es n) { lockE es n with row := (lockE es n).row ++ [(t, s)] }, false, 0)
/-- Give, as the document has it -/
def giveE (es : List RE) (t : Int) (n : List UInt8) : List RE × List Int × Int :=
  if holdsE es t n then
    let g := goesH (lockE es n).row (outs t (lockE es n).holds) (lockE es n).sh []
    (setE (ensureE es n) ⟨n, g.1, g.2.1, g.2.2.1⟩, g.2.2.2, 0)
  else (es, [], 7)
theorem askers2 (t : Int) (s : Bool) : askers [(t, s)] = [.int .i64 t, .bool s] := by simp [askers]
theorem setE_setE {es : List RE} {e f : RE} (h : e.name = f.name) : setE (setE es e) f = setE es f := by
  unfold setE
  rw [List.map_map]
  refine List.map_congr_left fun x _ => ?_
  simp only [Function.comp]
  by_cases hx : x.name = e.name
  · rw [if_pos hx, if_pos h, if_pos (hx.trans h)]
  · rw [if_neg hx]
/-- (*pantry.pantryref12.Table).Take -/
theorem rtake_con (B : Nat) (hB : B < 1000) (p : RT) (t : Int) (n : List UInt8) (s : Bool) (w : World) (hok : p.Ok B) (hn : strOk n) (hrise : RiseE (p.ls.map RL.e)) : Con Try.prog 25 [.pointer (some ⟨p.gt, 0, none⟩), .int .i64 t, .string (bs n), .bool s] w p.heap fun v S' => ∃ (p' : RT) (r : Bool) (e : Int), S' = [p'.heap] ∧ v = .tuple #[.bool r, .int .i64 e] ∧ p'.gt = p.gt ∧ p'.Ok (B + 1) ∧ (p'.ls.map RL.e, r, e) = takeE (p.ls.map RL.e) t n s := by
  refine con_of_tree mix Try.func25 T25_ok (by kernel_rfl) ?_
  unfold T25
  refine j_q (qs_ac) ?_
  refine j_q (qs_ac) ?_
  refine j_q (qs_lss rfl rfl) ?_
  refine j_cond rfl (fun hc0 => ?_) (fun hc0 => ?_)
  · skip
    have hneg : t < 0 := by simpa using hc0
    refine j_q (qs_ac) ?_
    refine j_q (qs_ac) ?_
    refine j_ret_con (vs := [_, _]) (fun w' hw' => ⟨rfl, rfl, trivial⟩) ?_
    refine ⟨p, _, _, rfl, rfl, rfl, hok.up (Nat.le_succ _), ?_⟩
    unfold takeE
    rw [if_pos hneg]
  · skip
    have hneg : ¬ t < 0 := by simpa using hc0
    refine j_q (qs_call ent34 rfl rfl rfl (fun w' hw' => rholds_con B (by omega) p t n w' (in_own hw' 0 rfl) hok)) ?_
    refine j_g rfl (fun hb => qs_mt rfl) ?_
    refine j_g rfl (fun hb => qs_mt rfl) ?_
    refine j_g rfl (fun hb => qs_call ent48 rfl rfl (args2 (gd_eq hb) (gd_eq hb)) (fun w' hw' => rwaits_con B (by omega) p t w' (in_own hw' 0 rfl) hok)) ?_
    refine j_g rfl (fun hb => qs_pnnil Try.underlying110 (gd_eq hb)) ?_
    refine j_q (qs_or rfl rfl) ?_
    refine j_cond rfl (fun hc1 => ?_) (fun hc1 => ?_)
    · skip
      have hhas : (holdsE (p.ls.map RL.e) t n || (findWE (p.ls.map RL.e) t).isSome) = true := by
        rw [holds_e, findW_e]
        cases h1 : rholds p.ls t n <;> cases h2 : findW p.ls t <;> simp [gd, h1, h2] at hc1 ⊢
      refine j_q (qs_ac) ?_
      refine j_q (qs_ac) ?_
      refine j_perm (S' := [p.heap]) (by simp) ?_
      refine j_ret_con (vs := [_, _]) (fun w' hw' => ⟨rfl, rfl, trivial⟩) ?_
      refine ⟨p, _, _, rfl, rfl, rfl, hok.up (Nat.le_succ _), ?_⟩
      unfold takeE
      rw [if_neg hneg, if_pos hhas]
    · skip
      have hhas : (holdsE (p.ls.map RL.e) t n || (findWE (p.ls.map RL.e) t).isSome) = false := by
        rw [holds_e, findW_e]
        cases h1 : rholds p.ls t n <;> cases h2 : findW p.ls t <;> simp [gd, h1, h2] at hc1 ⊢
      refine j_call 0 ent49 rfl rfl rfl rfl (fun w' hw' => rlock_con B (by omega) p n w' hok hn) (fun u S2 hu => ?_)
      obtain ⟨p1, l, rfl, rfl, hmem, hle, hlB, hok1, hgt1, hes1⟩ := hu
      refine j_subl (S' := [p1.heap]) (by repeat first | exact List.Sublist.refl _ | exact List.nil_sublist _ | apply List.Sublist.cons_cons | apply List.Sublist.cons) ?_
      obtain ⟨a, b, hab⟩ := split_mem hmem
      have hnd : NamesNd (a ++ l :: b) := by
        unfold NamesNd
        rw [← hab, ← names_e, hes1]
        exact rise_nd (rise_ensure hrise n)
      refine j_perm (S' := [[(p1.gt, p1.tobj)], p1.lc, [(l.g, .cells [.string (bs l.name), .bool l.sh, l.hv, l.rv].toArray 115 (0, 0))], l.hc, l.rc, restR a b]) (by
        rw [List.flatten_cons, List.flatten_nil, List.append_nil]
        refine (RT.open_ hab).trans (List.Perm.of_eq ?_)
        simp [RL.heap]) ?_
      unfold ptrR
      rw [← hgt1]
      obtain ⟨n1, A1, cap1, gr, ro, hrv, hn1, hcap1, hA⟩ := row_first hlB.r
      obtain ⟨Ah, caph, gh, hhv, hcaph, hAh⟩ := hold_form hlB.h
      have hbl := hlB.b
      have hn0 : l.name = n := by have := congrArg RE.name hle; rw [lockE_name] at this; exact this
      have hsetE : ∀ l' : RL, l'.name = l.name → (a ++ l' :: b).map RL.e = setE (ensureE (p.ls.map RL.e) n) l'.e := fun l' hl' => by
        rw [← hes1, hab]
        exact setE_split hnd hl'
      refine j_q (qs_nil rfl) ?_
      refine j_q (qs_field Try.underlying115 rfl sz113 (by decide) rfl) ?_
      refine j_q (qs_load (l := [.string (bs l.name), .bool l.sh, l.hv, l.rv]) 2 Try.underlying113 rfl rfl rfl rfl) ?_
      refine j_q (qs_lenl (n := l.row.length) (A := A1) (c := cap1) Try.underlying113 (hrv.trans (by rw [hn1]))) ?_
      refine j_q (qs_eql rfl rfl) ?_
      refine j_g rfl (fun hb => qs_mt rfl) ?_
      refine j_g rfl (fun hb => qs_nil (gd_eq hb)) ?_
      refine j_g rfl (fun hb => qs_field Try.underlying115 rfl sz36 (by decide) (gd_eq hb)) ?_
      refine j_g rfl (fun hb => qs_load (l := [.string (bs l.name), .bool l.sh, l.hv, l.rv]) 2 Try.underlying36 rfl (gd_eq hb) rfl rfl) ?_
      refine j_g rfl (fun hb => qs_lenl (n := l.holds.length) (A := Ah) (c := caph) Try.underlying36 ((gd_eq hb).trans hhv)) ?_
      refine j_g rfl (fun hb => qs_eql (gd_eq hb) rfl) ?_
      refine j_g rfl (fun hb => qs_move (gd_eq hb)) ?_
      refine j_gg rfl (fun hb hb1 => qs_mt rfl) ?_
      refine j_gg rfl (fun hb hb1 => qs_nil (gd_eq2 hb hb1)) ?_
      refine j_gg rfl (fun hb hb1 => qs_field Try.underlying115 rfl sz4 (by decide) (gd_eq2 hb hb1)) ?_
      refine j_gg rfl (fun hb hb1 => qs_load (l := [.string (bs l.name), .bool l.sh, l.hv, l.rv]) 2 Try.underlying4 rfl (gd_eq2 hb hb1) rfl rfl) ?_
      refine j_gg rfl (fun hb hb1 => qs_move (gd_eq2 hb hb1)) ?_
      refine j_ggg rfl (fun hb hb1 hb2 => qs_mt rfl) ?_
      refine j_gg rfl (fun hb hb1 => qs_and (gd_eq2 hb hb1) (gd_eq2 hb hb1)) ?_
      refine j_g rfl (fun hb => qs_or (gd_eq hb) (gd_eq hb)) ?_
      refine j_q (qs_and rfl rfl) ?_
      refine j_cond rfl (fun hc2 => ?_) (fun hc2 => ?_)
      · skip
        have hfree : (l.row.isEmpty && (l.holds.isEmpty || (l.sh && s))) = true := by
          cases hr : l.row with
          | nil => cases hh : l.holds <;> cases h1 : l.sh <;> cases h2 : s <;> rw [hr, hh] at hc2 <;> simp [gd, h1, h2] at hc2 ⊢ <;> omega
          | cons x r => rw [hr] at hc2; simp [gd] at hc2; omega
        refine j_q (qs_nil rfl) ?_
        refine j_q (qs_field Try.underlying115 rfl sz36 (by decide) rfl) ?_
        refine j_q (qs_load (l := [.string (bs l.name), .bool l.sh, l.hv, l.rv]) 2 Try.underlying36 rfl rfl rfl rfl) ?_
        refine j_lit (vs := [.int .i64 _]) Try.underlying36 sz3 zero3 rfl (by simp [oneV]) ⟨rfl, by decide⟩ (fun g38 v38 c38 hv38 hc38 ho38 => ?_)
        subst hv38 hc38
        refine j_append 4 Try.underlying36 Try.underlying36 (.inr ⟨_, rfl⟩) sb3 zero3 rfl hlB.h rfl (.inl ⟨_, _, rfl, own_rd ho38 0 rfl, rfl⟩) (by intro u hu; rw [List.mem_singleton] at hu; rw [hu]; rfl) ⟨(by simp only [ks_length, List.length_singleton]; omega), (by decide)⟩ (fun v39 c39 ho39 => ?_)
        refine j_q (qs_nil rfl) ?_
        refine j_q (qs_field Try.underlying115 rfl sz36 (by decide) rfl) ?_
        refine j_store (l := [.string (bs l.name), .bool l.sh, l.hv, l.rv]) 3 sz36 rfl rfl (by obtain ⟨n', A', cap', e', _⟩ := own_form ho39 (by decide); show oneV v39 = true; rw [e']; rfl) rfl (by simp) (by simp) ?_
        refine j_q (qs_nil rfl) ?_
        refine j_q (qs_field Try.underlying115 rfl sz4 (by decide) rfl) ?_
        refine j_store (l := [.string (bs l.name), .bool l.sh, v39, l.rv]) 3 sz4 rfl rfl rfl rfl (by simp) (by simp) ?_
        refine j_q (qs_ac) ?_
        refine j_q (qs_ac) ?_
        have hl2 : RL.Ok (B + 1) ({ l with holds := l.holds ++ [t], hv := v39, hc := c39, sh := s } : RL) := ⟨by
          have e : ks .i64 (l.holds ++ [t]) = ks .i64 l.holds ++ [Value.int .i64 t] := by simp [ks]
          show Sx.Own 3 1 (ks .i64 (l.holds ++ [t])) v39 c39
          rw [e]
          exact ho39, hlB.r, hlB.n, by show (l.holds ++ [t]).length + l.row.length ≤ B + 1; rw [List.length_append, List.length_singleton]; omega⟩
        refine j_subl (S' := [[(p1.gt, p1.tobj)], p1.lc, [(l.g, .cells [.string (bs l.name), .bool s, v39, l.rv].toArray 115 (0, 0))], c39, l.rc, restR a b]) (by repeat first | exact List.Sublist.refl _ | exact List.nil_sublist _ | apply List.Sublist.cons_cons | apply List.Sublist.cons) ?_
        refine j_perm (S' := [RT.heap ({ p1 with ls := a ++ ({ l with holds := l.holds ++ [t], hv := v39, hc := c39, sh := s } : RL) :: b } : RT)]) (by
          refine List.Perm.trans ?_ (List.Perm.of_eq (flat1 _).symm)
          refine List.Perm.trans (List.Perm.of_eq ?_) (RT.open_ (p := ({ p1 with ls := a ++ ({ l with holds := l.holds ++ [t], hv := v39, hc := c39, sh := s } : RL) :: b } : RT)) (a := a) (b := b) rfl).symm
          simp [RL.heap] <;> rfl) ?_
        refine j_ret_con (vs := [_, _]) (fun w' hw' => ⟨rfl, rfl, trivial⟩) ?_
        refine ⟨_, _, _, rfl, rfl, rfl, hok1.put hab rfl hl2 (Nat.le_refl _), ?_⟩
        unfold takeE
        rw [if_neg hneg, if_neg (by rw [hhas]; decide), if_pos (by rw [← hle]; exact hfree), ← hle]
        show ((a ++ ({ l with holds := l.holds ++ [t], hv := v39, hc := c39, sh := s } : RL) :: b).map RL.e, true, (0 : Int)) = _
        rw [hsetE ({ l with holds := l.holds ++ [t], hv := v39, hc := c39, sh := s } : RL) rfl]
        rfl
      · skip
        have hfree : (l.row.isEmpty && (l.holds.isEmpty || (l.sh && s))) = false := by
          cases hr : l.row with
          | nil => cases hh : l.holds <;> cases h1 : l.sh <;> cases h2 : s <;> rw [hr, hh] at hc2 <;> simp [gd, h1, h2] at hc2 ⊢ <;> omega
          | cons x r => rfl
        refine j_q (qs_nil rfl) ?_
        refine j_q (qs_field Try.underlying115 rfl sz113 (by decide) rfl) ?_
        refine j_q (qs_load (l := [.string (bs l.name), .bool l.sh, l.hv, l.rv]) 2 Try.underlying113 rfl rfl rfl rfl) ?_
        refine j_q (qs_build (places := [(0, 1), (1, 1)]) (offs := [(0, [.int .i64 t]), (1, [.bool s])]) Try.underlying117 zero117 (by kernel_rfl) rfl (by rintro (_ | _ | j) p q hp hq <;> first | (simp at hp hq; subst hp hq; exact ⟨rfl, rfl, by simp⟩) | (simp at hp))) ?_
        refine j_litw (vs := [.int .i64 t, .bool s]) Try.underlying113 sz117 zero117 rfl rfl ⟨rfl, by decide, by decide⟩ (fun g52 hg52 ho52 => ?_)
        refine j_appendO 5 Try.underlying113 Try.underlying113 (.inr ⟨_, rfl⟩) sb117 zero117 rfl hlB.r rfl (.inl ⟨_, _, rfl, own_rd ho52 0 rfl, rfl⟩) (by intro u hu; simp at hu; rcases hu with rfl | rfl <;> rfl) ⟨(by rw [askers_length]; simp only [List.length_cons, List.length_nil]; omega), (by decide)⟩ (fun v53 c53 ho53 => ?_)
        have ho53' : OwnO 117 2 (askers (l.row ++ [(t, s)])) v53 c53 := by
          rw [askers_append, askers2]
          exact ho53
        obtain ⟨n5, A5, cap5, gr5, ro5, hrv5, hn5, hcap5, hA5⟩ := row_first ho53'
        rw [List.length_append, List.length_singleton] at hn5
        refine j_q (qs_nil rfl) ?_
        refine j_q (qs_field Try.underlying115 rfl sz113 (by decide) rfl) ?_
        refine j_store (l := [.string (bs l.name), .bool l.sh, l.hv, l.rv]) 3 sz113 rfl rfl (by show oneV v53 = true; rw [hrv5]; rfl) rfl (by simp) (by simp) ?_
        have hl3 : RL.Ok (B + 1) ({ l with row := l.row ++ [(t, s)], rv := v53, rc := c53 } : RL) := ⟨hlB.h, ho53', hlB.n, by show l.holds.length + (l.row ++ [(t, s)]).length ≤ B + 1; rw [List.length_append, List.length_singleton]; omega⟩
        have hok3 : RT.Ok (B + 1) ({ p1 with ls := a ++ ({ l with row := l.row ++ [(t, s)], rv := v53, rc := c53 } : RL) :: b } : RT) := hok1.put hab rfl hl3 (Nat.le_refl _)
        refine j_subl (S' := [[(p1.gt, p1.tobj)], p1.lc, [(l.g, .cells [.string (bs l.name), .bool l.sh, l.hv, v53].toArray 115 (0, 0))], l.hc, c53, restR a b]) (by repeat first | exact List.Sublist.refl _ | exact List.nil_sublist _ | apply List.Sublist.cons_cons | apply List.Sublist.cons) ?_
        refine j_perm (S' := [RT.heap ({ p1 with ls := a ++ ({ l with row := l.row ++ [(t, s)], rv := v53, rc := c53 } : RL) :: b } : RT)]) (by
          refine List.Perm.trans ?_ (List.Perm.of_eq (flat1 _).symm)
          refine List.Perm.trans (List.Perm.of_eq ?_) (RT.open_ (p := ({ p1 with ls := a ++ ({ l with row := l.row ++ [(t, s)], rv := v53, rc := c53 } : RL) :: b } : RT)) (a := a) (b := b) rfl).symm
          simp [RL.heap] <;> rfl) ?_
        refine j_q (qs_call ent50 rfl rfl rfl (fun w' hw' => ring_con (B + 1) (by omega) ({ p1 with ls := a ++ ({ l with row := l.row ++ [(t, s)], rv := v53, rc := c53 } : RL) :: b } : RT) t w' (in_own hw' 0 rfl) hok3)) ?_
        refine j_cond rfl (fun hc3 => ?_) (fun hc3 => ?_)
        · skip
          have hring : EReach (RT.ls ({ p1 with ls := a ++ ({ l with row := l.row ++ [(t, s)], rv := v53, rc := c53 } : RL) :: b } : RT) |>.map RL.e) t t := (reach_e _ _ _).2 (ringB_iff.1 hc3)
          refine j_perm (S' := [[(p1.gt, p1.tobj)], p1.lc, [(l.g, .cells [.string (bs l.name), .bool l.sh, l.hv, v53].toArray 115 (0, 0))], l.hc, c53, restR a b]) (by
            rw [List.flatten_cons, List.flatten_nil, List.append_nil]
            refine (RT.open_ (p := ({ p1 with ls := a ++ ({ l with row := l.row ++ [(t, s)], rv := v53, rc := c53 } : RL) :: b } : RT)) (a := a) (b := b) rfl).trans (List.Perm.of_eq ?_)
            simp [RL.heap]) ?_
          refine j_draw ?_
          refine jq_q (qs_nil rfl) ?_
          refine jq_q (qs_field Try.underlying115 rfl sz113 (by decide) rfl) ?_
          refine jq_q (qs_load (l := [.string (bs l.name), .bool l.sh, l.hv, v53]) 2 Try.underlying113 rfl rfl rfl rfl) ?_
          refine jq_q (qs_nil rfl) ?_
          refine jq_q (qs_field Try.underlying115 rfl sz113 (by decide) rfl) ?_
          refine jq_q (qs_load (l := [.string (bs l.name), .bool l.sh, l.hv, v53]) 2 Try.underlying113 rfl rfl rfl rfl) ?_
          refine jq_q (qs_lenl (n := n5) (A := A5) (c := cap5) Try.underlying113 hrv5) ?_
          refine jq_q (qs_sub64 rfl rfl (by omega)) ?_
          refine jq_q (qs_cutl (a := 0) (z := n5 - 1) Try.underlying113 sz117 hrv5 rfl ⟨.i64, by show Value.int .i64 ((n5 : Int) - 1) = _; congr 1; omega⟩ (Nat.zero_le _) (by omega)) ?_
          refine jq_q (qs_nil rfl) ?_
          refine jq_q (qs_field Try.underlying115 rfl sz113 (by decide) rfl) ?_
          refine jq_nil ?_
          refine j_store (l := [.string (bs l.name), .bool l.sh, l.hv, v53]) 2 sz113 rfl rfl rfl rfl (by simp) (by simp) ?_
          refine j_q (qs_ac) ?_
          refine j_q (qs_ac) ?_
          have hcut : OwnO 117 2 (askers l.row) (.slice (if cap5 = 0 then A5 else A5.map (fun a : Addr => a.add (0 * 2))) (n5 - 1 - 0) (cap5 - 0)) c53 := by
            have h1 := ho53'
            rw [hrv5] at h1
            have h2 := ownO_cut (i := n5 - 1) h1 (by omega)
            have e : (askers (l.row ++ [(t, s)])).take ((n5 - 1) * 2) = askers l.row := by
              rw [askers_append, List.take_left' (by rw [askers_length]; omega)]
            rw [e] at h2
            exact h2
          have hl4 : RL.Ok (B + 1) ({ l with rv := .slice (if cap5 = 0 then A5 else A5.map (fun a : Addr => a.add (0 * 2))) (n5 - 1 - 0) (cap5 - 0), rc := c53 } : RL) := ⟨hlB.h, hcut, hlB.n, by show l.holds.length + l.row.length ≤ B + 1; omega⟩
          refine j_perm (S' := [RT.heap ({ p1 with ls := a ++ ({ l with rv := .slice (if cap5 = 0 then A5 else A5.map (fun a : Addr => a.add (0 * 2))) (n5 - 1 - 0) (cap5 - 0), rc := c53 } : RL) :: b } : RT)]) (by
            refine List.Perm.trans ?_ (List.Perm.of_eq (flat1 _).symm)
            refine List.Perm.trans (List.Perm.of_eq ?_) (RT.open_ (p := ({ p1 with ls := a ++ ({ l with rv := .slice (if cap5 = 0 then A5 else A5.map (fun a : Addr => a.add (0 * 2))) (n5 - 1 - 0) (cap5 - 0), rc := c53 } : RL) :: b } : RT)) (a := a) (b := b) rfl).symm
            simp [RL.heap] <;> rfl) ?_
          refine j_ret_con (vs := [_, _]) (fun w' hw' => ⟨rfl, rfl, trivial⟩) ?_
          refine ⟨({ p1 with ls := a ++ ({ l with rv := .slice (if cap5 = 0 then A5 else A5.map (fun a : Addr => a.add (0 * 2))) (n5 - 1 - 0) (cap5 - 0), rc := c53 } : RL) :: b } : RT), _, _, rfl, rfl, rfl, hok1.put hab rfl hl4 (Nat.le_refl _), ?_⟩
          have he3 : (RT.ls ({ p1 with ls := a ++ ({ l with row := l.row ++ [(t, s)], rv := v53, rc := c53 } : RL) :: b } : RT)).map RL.e = setE (ensureE (p.ls.map RL.e) n) { lockE (p.ls.map RL.e) n with row := (lockE (p.ls.map RL.e) n).row ++ [(t, s)] } := by
            rw [← hle]
            exact hsetE ({ l with row := l.row ++ [(t, s)], rv := v53, rc := c53 } : RL) rfl
          rw [he3] at hring
          have he4 : (RT.ls ({ p1 with ls := a ++ ({ l with rv := .slice (if cap5 = 0 then A5 else A5.map (fun a : Addr => a.add (0 * 2))) (n5 - 1 - 0) (cap5 - 0), rc := c53 } : RL) :: b } : RT)).map RL.e = setE (ensureE (p.ls.map RL.e) n) l.e := hsetE ({ l with rv := .slice (if cap5 = 0 then A5 else A5.map (fun a : Addr => a.add (0 * 2))) (n5 - 1 - 0) (cap5 - 0), rc := c53 } : RL) rfl
          rw [he4]
          unfold takeE
          rw [if_neg hneg, if_neg (by rw [hhas]; decide), if_neg (by rw [← hle]; exact fun h => by rw [show (l.e.row.isEmpty && (l.e.holds.isEmpty || (l.e.sh && s))) = false from hfree] at h; cases h), if_pos hring]
          rw [setE_setE (by rw [lockE_name]), ← hle]
        · skip
          have hring : ¬ EReach (RT.ls ({ p1 with ls := a ++ ({ l with row := l.row ++ [(t, s)], rv := v53, rc := c53 } : RL) :: b } : RT) |>.map RL.e) t t := fun h => by rw [ringB_true ((reach_e _ _ _).1 h)] at hc3; cases hc3
          refine j_q (qs_ac) ?_
          refine j_q (qs_ac) ?_
          refine j_ret_con (vs := [_, _]) (fun w' hw' => ⟨rfl, rfl, trivial⟩) ?_
          refine ⟨_, _, _, rfl, rfl, rfl, hok3, ?_⟩
          have he3 : (RT.ls ({ p1 with ls := a ++ ({ l with row := l.row ++ [(t, s)], rv := v53, rc := c53 } : RL) :: b } : RT)).map RL.e = setE (ensureE (p.ls.map RL.e) n) { lockE (p.ls.map RL.e) n with row := (lockE (p.ls.map RL.e) n).row ++ [(t, s)] } := by
            rw [← hle]
            exact hsetE ({ l with row := l.row ++ [(t, s)], rv := v53, rc := c53 } : RL) rfl
          rw [he3] at hring ⊢
          unfold takeE
          rw [if_neg hneg, if_neg (by rw [hhas]; decide), if_neg (by rw [← hle]; exact fun h => by rw [show (l.e.row.isEmpty && (l.e.holds.isEmpty || (l.e.sh && s))) = false from hfree] at h; cases h), if_neg hring]
end Go.Proofs.Ytlgfpoelhjlifaa
