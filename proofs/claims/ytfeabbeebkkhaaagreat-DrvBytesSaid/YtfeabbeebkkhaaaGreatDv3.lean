/- A text between its signs: package strings' Replacer, built once; quote. -/
import Derived.Test.YtfeabbeebkkhaaaGreatTa
import Derived.Test.YtfeabbeebkkhaaaGreatDo2
namespace Go.Proofs.YtfeabbeebkkhaaaGreat
open Go Go.Sx
set_option maxRecDepth 100000
set_option maxHeartbeats 4000000
set_option linter.unusedVariables false
set_option linter.unusedSimpArgs false
attribute [local irreducible] J JQ QS Con W opW
theorem ent120 : Sx.Enters Tryz.prog 120 := ⟨_, Tryz.func120, by kernel_rfl, by kernel_rfl⟩
theorem ent121 : Sx.Enters Tryz.prog 121 := ⟨_, Tryz.func121, by kernel_rfl, by kernel_rfl⟩
theorem ent144 : Sx.Enters Tryz.prog 144 := ⟨_, Tryz.func144, by kernel_rfl, by kernel_rfl⟩
theorem ent165 : Sx.Enters Tryz.prog 165 := ⟨_, Tryz.func165, by kernel_rfl, by kernel_rfl⟩
theorem ent166 : Sx.Enters Tryz.prog 166 := ⟨_, Tryz.func166, by kernel_rfl, by kernel_rfl⟩
theorem ent167 : Sx.Enters Tryz.prog 167 := ⟨_, Tryz.func167, by kernel_rfl, by kernel_rfl⟩
theorem ent233 : Sx.Enters Tryz.prog 233 := ⟨_, Tryz.func233, by kernel_rfl, by kernel_rfl⟩
theorem sz145 : (Tryz.prog.info? 145).map (·.size) = some 1 := by kernel_rfl
theorem sz200 : (Tryz.prog.info? 200).map (·.size) = some 1 := by kernel_rfl
theorem sz206 : (Tryz.prog.info? 206).map (·.size) = some 3 := by kernel_rfl
theorem sz208 : (Tryz.prog.info? 208).map (·.size) = some 1 := by kernel_rfl
theorem zero210 : zeroL Tryz.prog 210 = some ([.int .u32 0, .int .i32 0, .int .u32 0, .nilIface, .slice none 0 0]) := by kernel_rfl

theorem notFrozen {w : World} {g i : Nat} {l : List Value} {e : TypeId} (h : w.heap[g]? = some (.cells l.toArray e (0, 0))) : w.frozen? ⟨g, i, none⟩ = false := by
  unfold World.frozen?
  simp [h]
theorem sig_refl (w : World) (F : SH) (h : ∀ p ∈ F, w.heap[p.1]? = some p.2) (hn : (dom F).Nodup) : Sig ⟨w, dom F⟩ [F] w :=
  ⟨rfl, rfl, rfl, Nat.le_refl _, by simpa using h, by simpa using hn, fun k hk => .inl (by simpa using hk), fun _ _ _ => rfl⟩
abbrev rc (d m : Int) (it ov : Value) : List Value := [.int .u32 d, .int .i32 m, .int .u32 0, it, ov]
abbrev rob (d m : Int) (it ov : Value) : Obj := .cells (rc d m it ov).toArray 210 (0, 0)
abbrev itv (gb : Nat) : Value := .iface 247 (.pointer (some ⟨gb, 0, none⟩))
abbrev nilS : Value := .slice none 0 0
attribute [local irreducible] es Tbl Half
theorem invReplace (gb : Nat) (s : Value) (w : World) : (invoke (.fn (.method "Replace") #[]) #[itv gb, s]).run Tryz.prog w = .ok (.enter 233 #[.pointer (some ⟨gb, 0, none⟩), s]) w := by kernel_rfl
theorem ent145b : Sx.Enters Tryz.prog 145 := ⟨_, Tryz.func145, by kernel_rfl, by kernel_rfl⟩
/-- (*strings.Replacer).buildOnce -/
theorem buildOnce_con (gr : Nat) (d m : Int) (ov : Value) (co : SH) (ho : Sx.Own 9 1 (strs ON) ov co) (w : World) : Con Tryz.prog 145 [.pointer (some ⟨gr, 0, none⟩)] w ((gr, rob d m .nilIface ov) :: co) fun v S' => v = .tuple #[] ∧ ∃ gb F, S' = [[(gr, rob d m (itv gb) nilS)], F] ∧ ∀ w' : World, (∀ p ∈ F, w'.heap[p.1]? = some p.2) → Tbl w' gb := by
  refine con_of_tree mix Tryz.func145 T145_ok (by kernel_rfl) ?_
  unfold T145
  refine j_perm (S' := [[(gr, rob d m .nilIface ov)], co]) (by simp) ?_
  refine j_call0 ent167 rfl rfl rfl (fun w' hw' => build_con gr _ _ _ _ _ w' (hw'.at_ (k := 0) rfl) (strsl_own ho 1 rfl hw')) (fun u S2 hu => ?_)
  obtain ⟨gb, F, rfl, rfl, hF⟩ := hu
  refine j_q (qs_nil rfl) ?_
  refine j_q (qs_field Tryz.underlying210 rfl sz208 (by decide) rfl) ?_
  refine j_store (l := rc d m .nilIface ov) (v := itv gb) 1 sz208 rfl rfl rfl rfl (by simp) (by simp) ?_
  refine j_q (qs_nil rfl) ?_
  refine j_q (qs_field Tryz.underlying210 rfl sz22 (by decide) rfl) ?_
  refine j_store (l := rc d m (itv gb) ov) (v := nilS) 1 sz22 rfl rfl rfl rfl (by simp) (by simp) ?_
  refine j_subl (S' := [F, [(gr, rob d m (itv gb) nilS)]]) (by repeat first | exact List.Sublist.refl _ | exact List.nil_sublist _ | apply List.Sublist.cons_cons | apply List.Sublist.cons) ?_
  refine j_swap ?_
  refine j_ret_con (vs := []) (fun w' hw' => trivial) ?_
  exact ⟨rfl, gb, F, rfl, hF⟩

theorem slow_con (gr : Nat) (ov : Value) (co : SH) (ho : Sx.Own 9 1 (strs ON) ov co) (w : World) : Con Tryz.prog 166 [.pointer (some ⟨gr, 0, none⟩), .func (.func 145) #[.pointer (some ⟨gr, 0, none⟩)] #[]] w ((gr, rob 0 0 .nilIface ov) :: co)
    fun v S' => v = .tuple #[] ∧ ∃ gb F, S' = [[(gr, rob 1 0 (itv gb) nilS)], F] ∧ ∀ w' : World, (∀ p ∈ F, w'.heap[p.1]? = some p.2) → Tbl w' gb := by
  unfold Con
  intro hown hnd
  have hgt := hown (gr, _) (List.mem_cons_self)
  simp only at hgt
  have hs0 : Sig ⟨w, dom ((gr, rob 0 0 .nilIface ov) :: co)⟩ [[(gr, rob 0 0 .nilIface ov)], co] w := (sig_refl w _ hown hnd).perm (by simp)
  have hl1 : (w.setCell ⟨gr, 1, none⟩ (.int .i32 1)).heap[gr]? = some (rob 0 1 .nilIface ov) := setCell_same hgt
  have hs1 := hs0.set (k := 0) (g := gr) (w' := w.setCell ⟨gr, 1, none⟩ (.int .i32 1)) rfl rfl rfl rfl (by unfold World.setCell; simp) hl1 (fun j hj => setCell_other hj)
  have hs1' : Sig ⟨w, dom ((gr, rob 0 0 .nilIface ov) :: co)⟩ [[(gr, rob 0 1 .nilIface ov)], co] (w.setCell ⟨gr, 1, none⟩ (.int .i32 1)) := hs1
  have hc0 := buildOnce_con gr 0 1 ov co ho (w.setCell ⟨gr, 1, none⟩ (.int .i32 1))
  unfold Con at hc0
  have hc1 := hc0 (fun p hp => hs1'.own p (by simpa using hp)) (by simpa [dom] using hs1'.nodup)
  refine (slow_gen gr 0 145 #[.pointer (some ⟨gr, 0, none⟩)] w (fun w1 => ∃ gb F, Sig ⟨w, dom ((gr, rob 0 0 .nilIface ov) :: co)⟩ [[(gr, rob 0 1 (itv gb) nilS)], F] w1 ∧ ∀ w' : World, (∀ p ∈ F, w'.heap[p.1]? = some p.2) → Tbl w' gb) ent145b (by rw [cell_of hgt]; rfl) (by rw [cell_of hgt]; rfl) (notFrozen hgt) (hc1.mono ?_)).mono ?_
  · rintro e w2 ⟨v, S', rfl, ⟨rfl, gb, F, rfl, hF⟩, hS⟩
    have hS1 : Sig ⟨w, dom ((gr, rob 0 0 .nilIface ov) :: co)⟩ [[(gr, rob 0 1 (itv gb) nilS)], F] w2 :=
      Sig.call (Fr := []) hs1' (by simp) hS (by simp)
    have hg1 := hS1.at_ (k := 0) rfl
    exact ⟨rfl, ⟨gb, F, hS1, hF⟩, by rw [cell_of hg1]; rfl, notFrozen hg1, by rw [cell_of hg1]; rfl, notFrozen hg1⟩
  · rintro e w' ⟨rfl, w1, ⟨gb, F, hS, hF⟩, rfl⟩
    refine ⟨_, _, rfl, ⟨rfl, gb, F, rfl, hF⟩, ?_⟩
    have hd := hS.drew
    have hg1 := hd.at_ (k := 0) rfl
    have h2 := hd.set (k := 0) (g := gr) (w' := w1.drew.setCell ⟨gr, 0, none⟩ (.int .u32 1)) rfl rfl rfl rfl (by unfold World.setCell; simp only [Array.size_modify]; rfl) (setCell_same hg1) (fun j hj => setCell_other hj)
    have hg2 := h2.at_ (k := 0) rfl
    exact h2.set (k := 0) (g := gr) (w' := (w1.drew.setCell ⟨gr, 0, none⟩ (.int .u32 1)).setCell ⟨gr, 1, none⟩ (.int .i32 0)) rfl rfl rfl rfl (by unfold World.setCell; simp) (setCell_same hg2) (fun j hj => setCell_other hj)

/-- (*sync.atomic.Bool).Load -/
theorem bload_con (g i : Nat) (l : List Value) (e : TypeId) (fz : Nat × Nat) (n : Int) (w : World) (hc : w.heap[g]? = some (.cells l.toArray e fz)) (hi : l[i]? = some (.int .u32 n)) : Con Tryz.prog 165 [.pointer (some ⟨g, i, none⟩)] w [] fun v _ => v = .bool (n != 0) := by
  refine con_of_tree mix Tryz.func165 T165_ok (by kernel_rfl) ?_
  unfold T165
  refine j_q (qs_ac) ?_
  refine j_q (qs_nil rfl) ?_
  refine j_q (qs_field Tryz.underlying200 rfl sz145 (by decide) rfl) ?_
  refine j_q (qs_extw (f := 175) (fn := Tryz.f175) (e := fun _ => pure .nilIface) rfl rfl rfl (fun w' hw' => run_call_load Tryz.func175 (by kernel_rfl) (by kernel_rfl) (by kernel_rfl) .u32 (by kernel_rfl) (by rw [cell_of ((hw'.frame g (lt_of_get hc) (by simp)).trans hc)]; exact hi))) ?_
  refine j_q (qs_neq rfl rfl) ?_
  refine j_ret_con (vs := [_]) (fun w' hw' => ⟨rfl, trivial⟩) ?_
  rfl
/-- (*sync.Once).Do -/
theorem once_con (gr : Nat) (ov : Value) (co : SH) (ho : Sx.Own 9 1 (strs ON) ov co) (w : World) : Con Tryz.prog 144 [.pointer (some ⟨gr, 0, none⟩), .func (.func 145) #[.pointer (some ⟨gr, 0, none⟩)] #[]] w ((gr, rob 0 0 .nilIface ov) :: co) fun v S' => v = .tuple #[] ∧ ∃ gb F, S' = [[(gr, rob 1 0 (itv gb) nilS)], F] ∧ ∀ w' : World, (∀ p ∈ F, w'.heap[p.1]? = some p.2) → Tbl w' gb := by
  refine con_of_tree mix Tryz.func144 T144_ok (by kernel_rfl) ?_
  unfold T144
  refine j_q (qs_nil rfl) ?_
  refine j_q (qs_field Tryz.underlying206 rfl sz200 (by decide) rfl) ?_
  refine j_q (qs_call ent165 rfl rfl rfl (fun w' hw' => bload_con gr 0 (rc 0 0 .nilIface ov) 210 (0, 0) 0 w' (hw'.own (gr, _) (by simp)) rfl)) ?_
  refine j_q (qs_not rfl) ?_
  refine j_cond rfl (fun hc0 => ?_) (fun hc0 => ?_)
  · skip
    refine j_call 0 ent166 rfl rfl rfl rfl (fun w' hw' => slow_con gr ov co ho w') (fun u S2 hu => ?_)
    obtain ⟨rfl, gb, F, rfl, hF⟩ := hu
    refine j_subl (S' := [[(gr, rob 1 0 (itv gb) nilS)], F]) (by repeat first | exact List.Sublist.refl _ | exact List.nil_sublist _ | apply List.Sublist.cons_cons | apply List.Sublist.cons) ?_
    refine j_ret_con (vs := []) (fun w' hw' => trivial) ?_
    exact ⟨rfl, gb, F, rfl, hF⟩
  · skip
    cases hc0
/-- (*strings.Replacer).Replace -/
theorem replace_con (gr : Nat) (ov : Value) (co : SH) (ho : Sx.Own 9 1 (strs ON) ov co) (s : Bs) (w : World) (hs : s.length ≤ 1099511627776) : Con Tryz.prog 121 [.pointer (some ⟨gr, 0, none⟩), .string (bs s)] w ((gr, rob 0 0 .nilIface ov) :: co) fun v _ => v = .string (bs (es s)) := by
  refine con_of_tree mix Tryz.func121 T121_ok (by kernel_rfl) ?_
  unfold T121
  refine j_q (qs_ac) ?_
  refine j_q (qs_nil rfl) ?_
  refine j_q (qs_field Tryz.underlying210 rfl sz206 (by decide) rfl) ?_
  refine j_q (qs_mkfuncF rfl) ?_
  refine j_call 0 ent144 rfl rfl rfl rfl (fun w' hw' => once_con gr ov co ho w') (fun u S2 hu => ?_)
  obtain ⟨rfl, gb, F, rfl, hF⟩ := hu
  refine j_q (qs_nil rfl) ?_
  refine j_q (qs_field Tryz.underlying210 rfl sz208 (by decide) rfl) ?_
  refine j_q (qs_load (l := rc 1 0 (itv gb) nilS) (v := itv gb) 0 Tryz.underlying208 rfl rfl rfl rfl) ?_
  refine j_q (qs_meth (v := .string (bs (es s))) (args := [itv gb, .string (bs s)]) (args2 := [.pointer (some ⟨gb, 0, none⟩), .string (bs s)]) rfl rfl (fun w => invReplace gb (.string (bs s)) w) (fun w' hw' => brep_con gb s w' (hF w' (fun p hp => hw'.own p (by simp [hp]))) hs)) ?_
  refine j_ret_con (vs := [_]) (fun w' hw' => ⟨rfl, trivial⟩) ?_
  rfl
/-- strings.NewReplacer -/
theorem newRep_con (v : Value) (w : World) (hv : StrSl w v ON) : Con Tryz.prog 120 [v] w [] fun u S' => ∃ gr ov co, u = .pointer (some ⟨gr, 0, none⟩) ∧ S' = [(gr, rob 0 0 .nilIface ov) :: co] ∧ Sx.Own 9 1 (strs ON) ov co := by
  refine con_of_tree mix Tryz.func120 T120_ok (by kernel_rfl) ?_
  unfold T120
  obtain ⟨A, cap, rfl, hcap⟩ := strsl_form hv
  refine j_q (qs_ac) ?_
  refine j_q (qs_lenl Tryz.underlying22 rfl) ?_
  refine j_q (qs_rem64 rfl rfl (by first | omega | (simp only [Bool.and_eq_true, Bool.or_eq_true, Bool.and_eq_false_iff, Bool.or_eq_false_iff, Bool.not_eq_true', Bool.not_eq_false', decide_eq_true_eq, decide_eq_false_iff_not, beq_iff_eq, beq_eq_false_iff_ne, bne_iff_ne, bne_eq_false_iff_eq, ne_eq, Int.toNat_natCast] at *; omega)) (by first | omega | (simp only [Bool.and_eq_true, Bool.or_eq_true, Bool.and_eq_false_iff, Bool.or_eq_false_iff, Bool.not_eq_true', Bool.not_eq_false', decide_eq_true_eq, decide_eq_false_iff_not, beq_iff_eq, beq_eq_false_iff_ne, bne_iff_ne, bne_eq_false_iff_eq, ne_eq, Int.toNat_natCast] at *; omega))) ?_
  refine j_q (qs_eql rfl rfl) ?_
  refine j_cond rfl (fun hc0 => ?_) (fun hc0 => ?_)
  · skip
    exact absurd hc0 (by decide)
  · skip
    refine j_append 0 Tryz.underlying22 Tryz.underlying22 (.inr ⟨_, rfl⟩) sb9 zero9 rfl own_nil rfl (src_strsl hv) (by simp [strs, oneV]) ⟨(by decide), (by decide)⟩ (fun v9 c9 ho9 => ?_)
    rw [List.nil_append] at ho9
    obtain ⟨n9, A9, cap9, rfl, hn9⟩ := own_form ho9 (by decide)
    refine j_q (qs_build (places := [(0, 3), (3, 1), (4, 1)]) (offs := [(4, [.slice A9 n9 cap9])]) Tryz.underlying210 zero210 (by kernel_rfl) rfl (by rintro (_ | j) p q hp hq <;> first | (simp at hp hq; subst hp hq; exact ⟨rfl, rfl, by simp⟩) | (simp at hp))) ?_
    refine j_box (l := rc 0 0 .nilIface (.slice A9 n9 cap9)) rfl (fun g11 hg11 hs11 => ?_)
    refine j_perm (S' := [(g11, rob 0 0 .nilIface (.slice A9 n9 cap9)) :: c9]) (by simp) ?_
    refine j_ret_con (vs := [_]) (fun w' hw' => ⟨rfl, trivial⟩) ?_
    exact ⟨g11, _, c9, rfl, rfl, ho9⟩
/-- pantry.drv.quote -/
theorem quote_con (s : Bs) (w : World) (hs : s.length ≤ 1099511627776) : Con Tryz.prog 69 [.string (bs s)] w [] fun v _ => v = .string (bs (qt s)) := by
  refine con_of_tree mix Tryz.func69 T69_ok (by kernel_rfl) ?_
  unfold T69
  have hel := es_len s
  refine j_q (qs_ac) ?_
  refine j_lit (vs := [.string (bs _), .string (bs _), .string (bs _), .string (bs _), .string (bs _), .string (bs _), .string (bs _), .string (bs _), .string (bs _), .string (bs _)]) Tryz.underlying22 sz9 zero9 rfl (by simp [oneV]) ⟨rfl, by decide⟩ (fun g1 v1 c1 hv1 hc1 ho1 => ?_)
  subst hv1 hc1
  refine j_call0 ent120 rfl rfl rfl (fun w' hw' => newRep_con _ w' (strsl_own (xs := ON) (by exact ho1) 0 rfl hw')) (fun u S2 hu => ?_)
  obtain ⟨gr, ov, co, rfl, rfl, ho⟩ := hu
  refine j_call 0 ent121 rfl rfl rfl rfl (fun w' hw' => replace_con gr ov co ho s w' hs) (fun u S2 hu => ?_)
  subst hu
  refine j_q (qs_sadd (l := [34]) rfl rfl (by simp only [List.length_cons, List.length_nil]; omega)) ?_
  refine j_q (qs_sadd (l' := [34]) rfl rfl (by simp only [List.length_append, List.length_cons, List.length_nil]; omega)) ?_
  refine j_ret_con (vs := [_]) (fun w' hw' => ⟨rfl, trivial⟩) ?_
  rfl
end Go.Proofs.YtfeabbeebkkhaaaGreat
