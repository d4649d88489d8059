/- Locks by names, as the document has them: whom a task waits for, and whether that comes back to it. -/
import Derived.Test.YtlgfpoelhjlifaaTa
import Derived.Test.YtlgfpoelhjlifaaRk1
namespace Go.Proofs.Ytlgfpoelhjlifaa
open Go Go.Sx
set_option maxRecDepth 100000
set_option maxHeartbeats 4000000
set_option linter.unusedVariables false
set_option linter.unusedSimpArgs false
attribute [local irreducible] J JQ QS Con W opW
theorem ent66 : Sx.Enters Try.prog 66 := ⟨_, Try.func66, by kernel_rfl, by kernel_rfl⟩

inductive RReach (ls : List RL) : Int → Int → Prop
  | one {a b : Int} : b ∈ needsL ls a → RReach ls a b
  | more {a b c : Int} : c ∈ needsL ls a → RReach ls c b → RReach ls a b
theorem RReach.snoc {ls : List RL} {a b c : Int} (h : RReach ls a b) (hc : c ∈ needsL ls b) : RReach ls a c := by
  induction h with
  | one h1 => exact .more h1 (.one hc)
  | more h1 _ ih => exact .more h1 (ih hc)
open Classical in
noncomputable def ringB (ls : List RL) (t : Int) : Bool := decide (RReach ls t t)
theorem ringB_true {ls : List RL} {t : Int} (h : RReach ls t t) : ringB ls t = true := by unfold ringB; simp [h]
theorem ringB_false {ls : List RL} {t : Int} (h : ¬ RReach ls t t) : ringB ls t = false := by unfold ringB; simp [h]
theorem ringB_iff {ls : List RL} {t : Int} : ringB ls t = true ↔ RReach ls t t := by unfold ringB; simp
def univR (ls : List RL) : List Int := (ls.map fun l => l.holds ++ l.row.map Prod.fst).flatten
theorem needs_univ {ls : List RL} {t c : Int} (h : c ∈ needsL ls t) : c ∈ univR ls := by
  unfold needsL at h
  cases hf : findW ls t with
  | none => rw [hf] at h; cases h
  | some l =>
    rw [hf] at h
    refine List.mem_flatten.2 ⟨_, List.mem_map.2 ⟨l, List.mem_of_find?_eq_some hf, rfl⟩, ?_⟩
    rcases List.mem_append.1 h with h | h
    · exact List.mem_append_left _ h
    · obtain ⟨x, hx, rfl⟩ := List.mem_map.1 h
      exact List.mem_append_right _ (List.mem_map.2 ⟨x, (List.takeWhile_sublist _).subset hx, rfl⟩)
theorem flat_le {ls : List RL} {B : Nat} (h : ∀ l ∈ ls, l.holds.length + l.row.length ≤ B) : (univR ls).length ≤ ls.length * B := by
  unfold univR
  induction ls with
  | nil => simp
  | cons l ls ih =>
    have h1 := h l (by simp)
    have h2 := ih fun l hl => h l (List.mem_cons_of_mem _ hl)
    simp only [List.map_cons, List.flatten_cons, List.length_append, List.length_map, List.length_cons, Nat.add_mul, Nat.one_mul]
    omega
theorem needs_len {ls : List RL} {t : Int} : (needsL ls t).length ≤ (univR ls).length := by
  unfold needsL
  cases hf : findW ls t with
  | none => simp
  | some l =>
    obtain ⟨a, b, e⟩ := List.append_of_mem (List.mem_of_find?_eq_some hf)
    simp only [List.length_append, List.length_map]
    have h1 : (tw t l.row).length ≤ l.row.length := (List.takeWhile_sublist _).length_le
    unfold univR
    rw [e]
    simp only [List.map_append, List.map_cons, List.flatten_append, List.flatten_cons, List.length_append, List.length_map]
    omega
structure BI (ls : List RL) (t : Int) (seen todo : List Int) : Prop where
  rt : ∀ x ∈ todo, RReach ls t x
  ne : ∀ x ∈ seen, x ≠ t
  st : ∀ c ∈ needsL ls t, c ∈ seen ∨ c ∈ todo
  cl : ∀ s ∈ seen, ∀ c ∈ needsL ls s, c ∈ seen ∨ c ∈ todo
  nd : seen.Nodup
  su : ∀ x ∈ seen, x ∈ univR ls
  tu : ∀ x ∈ todo, x ∈ univR ls
  tl : todo.length ≤ (seen.length + 1) * (univR ls).length
theorem bi_len {ls : List RL} {t : Int} {seen todo : List Int} (h : BI ls t seen todo) : seen.length ≤ (univR ls).length := List.Nodup.length_le_of_subset h.nd h.su
theorem bi_start (ls : List RL) (t : Int) : BI ls t [] (needsL ls t) := ⟨fun x h => .one h, (fun x h => by cases h), fun c h => .inr h, (fun s h => by cases h), List.nodup_nil, (fun x h => by cases h), fun x h => needs_univ h, by have := needs_len (ls := ls) (t := t); simp; omega⟩
theorem bi_skip {ls : List RL} {t x : Int} {seen todo : List Int} (h : BI ls t seen (x :: todo)) (hx : x ∈ seen) : BI ls t seen todo := by
  have tr : ∀ c, c ∈ seen ∨ c ∈ x :: todo → c ∈ seen ∨ c ∈ todo := fun c hc => by
    rcases hc with hc | hc
    · exact .inl hc
    · rcases List.mem_cons.1 hc with rfl | hc
      · exact .inl hx
      · exact .inr hc
  refine ⟨fun y hy => h.rt y (List.mem_cons_of_mem _ hy), h.ne, fun c hc => tr c (h.st c hc), fun s hs c hc => tr c (h.cl s hs c hc), h.nd, h.su, fun y hy => h.tu y (List.mem_cons_of_mem _ hy), ?_⟩
  have := h.tl
  rw [List.length_cons] at this
  omega
theorem bi_more {ls : List RL} {t x : Int} {seen todo : List Int} (h : BI ls t seen (x :: todo)) (hx : x ∉ seen) (hxt : x ≠ t) : BI ls t (seen ++ [x]) (todo ++ needsL ls x) := by
  have hrx := h.rt x (by simp)
  have tr : ∀ c, c ∈ seen ∨ c ∈ x :: todo → c ∈ seen ++ [x] ∨ c ∈ todo ++ needsL ls x := fun c hc => by
    rcases hc with hc | hc
    · exact .inl (List.mem_append_left _ hc)
    · rcases List.mem_cons.1 hc with rfl | hc
      · exact .inl (by simp)
      · exact .inr (List.mem_append_left _ hc)
  refine ⟨fun y hy => ?_, fun y hy => ?_, fun c hc => tr c (h.st c hc), fun s hs c hc => ?_, ?_, fun y hy => ?_, fun y hy => ?_, ?_⟩
  · rcases List.mem_append.1 hy with hy | hy
    · exact h.rt y (List.mem_cons_of_mem _ hy)
    · exact hrx.snoc hy
  · rcases List.mem_append.1 hy with hy | hy
    · exact h.ne y hy
    · rw [List.mem_singleton.1 hy]; exact hxt
  · rcases List.mem_append.1 hs with hs | hs
    · exact tr c (h.cl s hs c hc)
    · rw [List.mem_singleton.1 hs] at hc
      exact .inr (List.mem_append_right _ hc)
  · rw [List.nodup_append]
    exact ⟨h.nd, by simp, fun a ha b hb e => hx (by rw [List.mem_singleton] at hb; rw [← hb, ← e]; exact ha)⟩
  · rcases List.mem_append.1 hy with hy | hy
    · exact h.su y hy
    · rw [List.mem_singleton.1 hy]; exact h.tu x (by simp)
  · rcases List.mem_append.1 hy with hy | hy
    · exact h.tu y (List.mem_cons_of_mem _ hy)
    · exact needs_univ hy
  · have h1 := h.tl
    have h2 := needs_len (ls := ls) (t := x)
    rw [List.length_cons] at h1
    rw [List.length_append, List.length_append, List.length_singleton, Nat.add_mul (seen.length + 1) 1, Nat.one_mul]
    omega
theorem bi_end {ls : List RL} {t : Int} {seen : List Int} (h : BI ls t seen []) : ¬ RReach ls t t := by
  have cl2 : ∀ s ∈ seen, ∀ c ∈ needsL ls s, c ∈ seen := fun s hs c hc => (h.cl s hs c hc).elim id (fun h1 => by cases h1)
  have st2 : ∀ c ∈ needsL ls t, c ∈ seen := fun c hc => (h.st c hc).elim id (fun h1 => by cases h1)
  have key : ∀ {a b : Int}, RReach ls a b → (∀ c ∈ needsL ls a, c ∈ seen) → b ∈ seen := by
    intro a b hab
    induction hab with
    | one hc => exact fun hs => hs _ hc
    | more hc _ ih => exact fun hs => ih (cl2 _ (hs _ hc))
  exact fun hr => h.ne t (key hr st2) rfl
theorem own_rsl0 {w : World} {e : TypeId} {xs : List Value} {v : Value} {c : SH} (ho : Sx.Own e 1 xs v c) (hin : In w c) : RSl w v xs := own_rsl ho hin (S := [[]]) ⟨rfl, rfl, rfl, Nat.le_refl _, (fun p hp => by simp at hp), by simp, (fun k hk => by simp at hk), fun _ _ _ => rfl⟩
theorem ring_less {ls : List RL} {t x : Int} {seen td : List Int} (h : BI ls t seen (x :: td)) (hx : x ∉ seen) (hxt : x ≠ t) : ((univR ls).length - (seen ++ [x]).length) * ((univR ls).length + 1) + (td ++ needsL ls x).length < ((univR ls).length - seen.length) * ((univR ls).length + 1) + (x :: td).length := by
  have h1 := bi_len (bi_more h hx hxt)
  have h2 := needs_len (ls := ls) (t := x)
  rw [List.length_append, List.length_singleton] at h1 ⊢
  rw [List.length_append, List.length_cons]
  have e : (univR ls).length - seen.length = ((univR ls).length - (seen.length + 1)) + 1 := by omega
  rw [e, Nat.add_mul, Nat.one_mul]
  omega
/-- (*pantry.pantryref12.Table).needs -/
theorem needs_con (B : Nat) (hB : B ≤ 1000000) (p : RT) (t : Int) (w : World) (hin : In w p.heap) (hok : p.Ok B) : Con Try.prog 66 [.pointer (some ⟨p.gt, 0, none⟩), .int .i64 t] w [] fun v S' => ∃ c, S' = [c] ∧ Sx.Own 3 1 (ks .i64 (needsL p.ls t)) v c := by
  refine con_of_tree mix Try.func66 T66_ok (by kernel_rfl) ?_
  unfold T66
  obtain ⟨o, ho⟩ : ∃ o, o = findW p.ls t := ⟨_, rfl⟩
  have hmem : ∀ l, o = some l → l ∈ p.ls := fun l h => List.mem_of_find?_eq_some (ho.symm.trans h)
  refine j_q (qs_ac) ?_
  refine j_q (qs_call ent48 rfl rfl rfl (fun w' hw' => rwaits_con B hB p t w' (in_keep0 hin hw') hok)) ?_
  rw [← ho]
  refine j_q (qs_pnil Try.underlying110 rfl) ?_
  refine j_cond rfl (fun hc0 => ?_) (fun hc0 => ?_)
  · skip
    obtain rfl : o = none := by
      cases o with
      | none => rfl
      | some l => simp at hc0
    refine j_q (qs_ac) ?_
    refine j_ret_con (vs := [_]) (fun w' hw' => ⟨rfl, trivial⟩) ?_
    refine ⟨_, rfl, ?_⟩
    unfold needsL
    rw [← ho]
    exact own_nil
  · skip
    obtain ⟨l, rfl⟩ : ∃ l, o = some l := by
      cases o with
      | none => simp at hc0
      | some l => exact ⟨l, rfl⟩
    rw [Option.map_some]
    have hlk := hok.each _ (hmem l rfl)
    have hbk := hlk.b
    obtain ⟨nr, Ar, capr, gr, ro, hrv, hnr, hcapr, hAr⟩ := row_first hlk.r
    subst hnr
    obtain ⟨Ah, caph, hhv, hcaph⟩ := rsl_form (own_rsl0 hlk.h (RL.in_hc (RT.in_l hin (hmem l rfl))))
    rw [ks_length] at hhv hcaph
    have rR : ∀ {S : List SH}, l.row ≠ [] → Rd ⟨w, dom []⟩ S ⟨gr, ro, none⟩ (askers l.row) := fun {S} h0 => by
      have h1 := hlk.r
      rw [hrv, hAr h0] at h1
      exact ownO_base h1 (RL.in_rc (RT.in_l hin (hmem l rfl))) (by simp)
    have hne : ∀ {k : Nat}, k < l.row.length → l.row ≠ [] := fun h e => by rw [e] at h; simp at h
    have ho0 := ho
    refine j_lit (vs := []) Try.underlying36 sz3 zero3 rfl (by simp [oneV]) ⟨rfl, by decide⟩ (fun g4 v4 c4 hv4 hc4 ho4 => ?_)
    subst hv4 hc4
    refine j_q (qs_nil rfl) ?_
    refine j_q (qs_field Try.underlying115 rfl sz36 (by decide) rfl) ?_
    first
      | refine j_q (qs_loadO (rdo_base (o := RL.obj l) (RL.in_g (RT.in_l hin (hmem l rfl))) (by simp)) Try.underlying36 rfl rfl rfl) ?_
      | refine j_q (qs_load 0 Try.underlying36 rfl rfl rfl rfl) ?_
    refine j_append 0 Try.underlying36 Try.underlying36 (.inr ⟨_, rfl⟩) sb3 zero3 rfl ho4 rfl (by rw [show _ = l.hv from rfl, hhv]; have h1 := own_rsl0 hlk.h (RL.in_hc (RT.in_l hin (hmem l rfl))); rw [hhv] at h1; exact src_rsl h1 (by simp)) ks_one ⟨(by simp only [ks_length, List.length_nil]; omega), (by decide)⟩ (fun v8 c8 ho8 => ?_)
    have ho8' : Sx.Own 3 1 (ks .i64 (l.holds ++ (l.row.take 0).map Prod.fst)) v8 c8 := by simpa using ho8
    refine j_subl (S' := [c8]) (by repeat first | exact List.Sublist.refl _ | exact List.nil_sublist _ | apply List.Sublist.cons_cons | apply List.Sublist.cons) ?_
    refine j_q (qs_ac) ?_
    refine j_loop (fun m vs S' => ∃ (k : Nat) (ov : Value) (oc : SH), vs = [ov, .int .i64 (k : Int)] ∧ S' = [oc] ∧ Sx.Own 3 1 (ks .i64 (l.holds ++ (l.row.take k).map Prod.fst)) ov oc ∧ (∀ x ∈ l.row.take k, x.1 ≠ t) ∧ k ≤ l.row.length ∧ m = l.row.length - k) ⟨_, 0, _, c8, rfl, rfl, ho8', (fun x h => by simp at h), Nat.zero_le _, rfl⟩ ?_
    rintro m vs S' hlen ⟨k, ov, oc, rfl, rfl, ho, hnt, hk, rfl⟩
    refine j_q (qs_nil rfl) ?_
    refine j_q (qs_field Try.underlying115 rfl sz113 (by decide) rfl) ?_
    first
      | refine j_q (qs_loadO (rdo_base (o := RL.obj l) (RL.in_g (RT.in_l hin (hmem l rfl))) (by simp)) Try.underlying113 rfl rfl rfl) ?_
      | refine j_q (qs_load 0 Try.underlying113 rfl rfl rfl rfl) ?_
    refine j_q (qs_lenl (n := l.row.length) (A := Ar) (c := capr) Try.underlying113 (Eq.trans rfl hrv)) ?_
    refine j_q (qs_lss rfl rfl) ?_
    refine j_g rfl (fun hb => qs_mt rfl) ?_
    refine j_g rfl (fun hb => qs_nil (gd_eq hb)) ?_
    refine j_g rfl (fun hb => qs_field Try.underlying115 rfl sz113 (by decide) (gd_eq hb)) ?_
    first
      | refine j_g rfl (fun hb => qs_loadO (rdo_base (o := RL.obj l) (RL.in_g (RT.in_l hin (hmem l rfl))) (by simp)) Try.underlying113 rfl (gd_eq hb) rfl) ?_
      | refine j_g rfl (fun hb => qs_load 0 Try.underlying113 rfl (gd_eq hb) rfl rfl) ?_
    refine j_g rfl (fun hb => qs_mt rfl) ?_
    refine j_g rfl (fun hb => qs_ixn (g := gr) (off := ro) (n := l.row.length) (c := capr) Try.underlying113 sz117 ((gd_eq hb).trans (hrv.trans (by rw [hAr (hne (k := k) (by have h1 : (k : Int) < (l.row.length : Nat) := (by simpa using hb); omega))]))) (gd_eq hb) (by have h1 : (k : Int) < (l.row.length : Nat) := (by simpa using hb); omega)) ?_
    refine j_g rfl (fun hb => qs_field Try.underlying117 rfl sz3 (by decide) (gd_eq hb)) ?_
    refine j_g rfl (fun hb => qs_loadrec (d := (0, false)) (encA := fun x : Int × Bool => [.int .i64 x.1, .bool x.2]) (fun _ => rfl) (rR (hne (k := k) (by have h1 : (k : Int) < (l.row.length : Nat) := (by simpa using hb); omega))) (show k < l.row.length by have h1 : (k : Int) < (l.row.length : Nat) := (by simpa using hb); omega) Try.underlying3 rfl (gd_eq hb) rfl) ?_
    refine j_g rfl (fun hb => qs_mt rfl) ?_
    refine j_g rfl (fun hb => qs_neq (gd_eq hb) (gd_eq hb)) ?_
    refine j_q (qs_and rfl rfl) ?_
    refine j_cond rfl (fun hc1 => ?_) (fun hc1 => ?_)
    · skip
      have hk1 : k < l.row.length := by
        simp only [Bool.and_eq_true, decide_eq_true_eq] at hc1
        omega
      have hkt : (l.row.getD k (0, false)).1 ≠ t := by
        simp only [Bool.and_eq_true] at hc1
        simpa using hc1.2
      refine j_q (qs_nil rfl) ?_
      refine j_q (qs_field Try.underlying115 rfl sz113 (by decide) rfl) ?_
      first
        | refine j_q (qs_loadO (rdo_base (o := RL.obj l) (RL.in_g (RT.in_l hin (hmem l rfl))) (by simp)) Try.underlying113 rfl rfl rfl) ?_
        | refine j_q (qs_load 0 Try.underlying113 rfl rfl rfl rfl) ?_
      refine j_q (qs_ixn (g := gr) (off := ro) (n := l.row.length) (c := capr) Try.underlying113 sz117 (hrv.trans (by rw [hAr (hne hk1)])) rfl hk1) ?_
      refine j_q (qs_field Try.underlying117 rfl sz3 (by decide) rfl) ?_
      refine j_q (qs_loadrec (d := (0, false)) (encA := fun x : Int × Bool => [.int .i64 x.1, .bool x.2]) (fun _ => rfl) (rR (hne hk1)) hk1 Try.underlying3 rfl rfl rfl) ?_
      refine j_lit (vs := [.int .i64 _]) Try.underlying36 sz3 zero3 rfl (by simp [oneV]) ⟨rfl, by decide⟩ (fun g32 v32 c32 hv32 hc32 ho32 => ?_)
      subst hv32 hc32
      refine j_append 1 Try.underlying36 Try.underlying36 (.inr ⟨_, rfl⟩) sb3 zero3 rfl ho rfl (.inl ⟨_, _, rfl, own_rd ho32 0 rfl, rfl⟩) (by intro u hu; rw [List.mem_singleton] at hu; rw [hu]; rfl) ⟨(by simp only [ks_length, List.length_append, List.length_map, List.length_take, List.length_singleton]; omega), (by decide)⟩ (fun v33 c33 ho33 => ?_)
      have hrk : l.row[k]? = some (l.row.getD k (0, false)) := by rw [List.getD_eq_getElem?_getD, List.getElem?_eq_getElem hk1, Option.getD_some]
      have htk : l.row.take (k + 1) = l.row.take k ++ [l.row.getD k (0, false)] := by
        rw [List.take_add_one, hrk]
        rfl
      have ho33' : Sx.Own 3 1 (ks .i64 (l.holds ++ (l.row.take (k + 1)).map Prod.fst)) v33 c33 := by
        have e : ks .i64 (l.holds ++ (l.row.take (k + 1)).map Prod.fst) = ks .i64 (l.holds ++ (l.row.take k).map Prod.fst) ++ [Value.int .i64 (l.row.getD k (0, false)).1] := by
          rw [htk]
          simp [ks]
        rw [e]
        exact ho33
      refine j_subl (S' := [c33]) (by repeat first | exact List.Sublist.refl _ | exact List.nil_sublist _ | apply List.Sublist.cons_cons | apply List.Sublist.cons) ?_
      refine j_q (qs_add64 rfl rfl (by first | omega | (simp only [Bool.and_eq_true, Bool.or_eq_true, Bool.and_eq_false_iff, Bool.or_eq_false_iff, Bool.not_eq_true', Bool.not_eq_false', decide_eq_true_eq, decide_eq_false_iff_not, beq_iff_eq, beq_eq_false_iff_ne, bne_iff_ne, bne_eq_false_iff_eq, ne_eq, Int.toNat_natCast] at *; omega))) ?_
      refine j_back rfl ?_
      exact ⟨l.row.length - (k + 1), by omega, k + 1, _, c33, rfl, rfl, ho33', fun x hx => by
        rw [htk] at hx
        rcases List.mem_append.1 hx with hx | hx
        · exact hnt x hx
        · rw [List.mem_singleton.1 hx]; exact hkt, by omega, rfl⟩
    · skip
      have hend : tw t l.row = l.row.take k := by
        rcases Nat.lt_or_ge k l.row.length with hk1 | hk1
        · have h0 : decide ((k : Int) < (l.row.length : Nat)) = true := decide_eq_true (by omega)
          rw [h0, Bool.true_and] at hc1
          exact tw_stop hk1 hnt (by simpa using hc1)
        · obtain rfl : k = l.row.length := by omega
          rw [List.take_of_length_le (Nat.le_refl _)] at hnt ⊢
          exact tw_end hnt
      refine j_ret_con (vs := [_]) (fun w' hw' => ⟨rfl, trivial⟩) ?_
      refine ⟨_, rfl, ?_⟩
      unfold needsL
      rw [← ho0]
      show Sx.Own 3 1 (ks .i64 (l.holds ++ (tw t l.row).map Prod.fst)) _ _
      rw [hend]
      exact ho
/-- (*pantry.pantryref12.Table).ring -/
theorem ring_con (B : Nat) (hB : B ≤ 1000) (p : RT) (t : Int) (w : World) (hin : In w p.heap) (hok : p.Ok B) : Con Try.prog 50 [.pointer (some ⟨p.gt, 0, none⟩), .int .i64 t] w [] fun v _ => v = .bool (ringB p.ls t) := by
  refine con_of_tree mix Try.func50 T50_ok (by kernel_rfl) ?_
  unfold T50
  have hU : (univR p.ls).length ≤ 1000000 := by
    have h1 := flat_le (ls := p.ls) (B := B) fun l hl => (hok.each l hl).b
    have h2 := hok.lb
    have h3 : p.ls.length * B ≤ 1000 * 1000 := Nat.mul_le_mul (by omega) hB
    omega
  refine j_q (qs_ac) ?_
  refine j_q (qs_ac) ?_
  refine j_call0 ent66 rfl rfl rfl (fun w' hw' => needs_con B (by omega) p t w' (in_keep0 hin hw') hok) (fun u S2 hu => ?_)
  obtain ⟨nc, rfl, hno⟩ := hu
  refine j_perm (S' := [[], nc]) (by simp) ?_
  refine j_loop (fun m vs S' => ∃ (seen todo : List Int) (sv tv : Value) (sc tc : SH), vs = [sv, tv] ∧ S' = [sc, tc] ∧ Sx.Own 3 1 (ks .i64 seen) sv sc ∧ OwnO 3 1 (ks .i64 todo) tv tc ∧ BI p.ls t seen todo ∧ m = ((univR p.ls).length - seen.length) * ((univR p.ls).length + 1) + todo.length) ⟨_, [], needsL p.ls t, _, _, [], nc, rfl, rfl, own_nil, hno.toO, bi_start _ _, rfl⟩ ?_
  rintro m vs S' hlen ⟨seen, todo, sv, tv, sc, tc, rfl, rfl, hs, ht, hbi, rfl⟩
  obtain ⟨nt, At, capt, rfl, hnt, hcapt⟩ := ownO_form ht
  rw [ks_length, Nat.mul_one] at hnt
  subst hnt
  have hsl := bi_len hbi
  refine j_q (qs_lenl Try.underlying36 rfl) ?_
  refine j_q (qs_gtr rfl rfl) ?_
  refine j_cond rfl (fun hc0 => ?_) (fun hc0 => ?_)
  · skip
    have hpos : 0 < todo.length := by
      simp only [Bool.and_eq_true, Bool.or_eq_true, Bool.and_eq_false_iff, Bool.or_eq_false_iff, Bool.not_eq_true', Bool.not_eq_false', decide_eq_true_eq, decide_eq_false_iff_not, beq_iff_eq, beq_eq_false_iff_ne, bne_iff_ne, bne_eq_false_iff_eq, ne_eq, Int.toNat_natCast] at *
      omega
    obtain ⟨x, td, rfl⟩ := List.exists_cons_of_ne_nil (List.length_pos_iff.1 hpos)
    obtain ⟨gq, oq, rfl⟩ := ownO_addr ht (by simp [ks])
    have ht2 : OwnO 3 1 (ks .i64 td) _ tc := ownO_tail (x := [.int .i64 x]) (by exact ht) rfl (by decide)
    rw [List.length_cons] at hcapt
    refine j_q (qs_ixl (n := td.length + 1) (c := capt) (a := ⟨gq, oq, none⟩) Try.underlying36 sz3 rfl rfl (by omega) (by omega)) ?_
    refine j_q (qs_loadR (v := .int .i64 x) (i := 0) (ownO_rd ht 1 rfl) Try.underlying3 rfl rfl rfl) ?_
    refine j_q (qs_cutl (a := 1) (z := td.length + 1) Try.underlying36 sz3 rfl ⟨.i64, rfl⟩ rfl (by omega) (by omega)) ?_
    refine j_q (qs_eql rfl rfl) ?_
    refine j_cond rfl (fun hc1 => ?_) (fun hc1 => ?_)
    · skip
      have hxt : x = t := by simpa using hc1
      refine j_q (qs_ac) ?_
      refine j_ret_con (vs := [_]) (fun w' hw' => ⟨rfl, trivial⟩) ?_
      rw [ringB_true (by have h1 := hbi.rt x (by simp); rw [hxt] at h1; exact h1)]
      rfl
    · skip
      have hxt : x ≠ t := by simpa using hc1
      refine j_q (qs_call ent58 rfl rfl rfl (fun w' hw' => rhas_con seen x _ w' (rsl_own hs 0 rfl hw') (by have := bi_len hbi; omega))) ?_
      refine j_cond rfl (fun hc2 => ?_) (fun hc2 => ?_)
      · skip
        have hxs : x ∈ seen := hasI_iff.1 hc2
        refine j_back rfl ?_
        exact ⟨((univR p.ls).length - seen.length) * ((univR p.ls).length + 1) + td.length, by rw [List.length_cons]; omega, seen, td, _, _, sc, tc, rfl, rfl, hs, ht2, bi_skip hbi hxs, rfl⟩
      · skip
        have hxs : x ∉ seen := fun h => by rw [hasI_iff.2 h] at hc2; cases hc2
        refine j_lit (vs := [.int .i64 _]) Try.underlying36 sz3 zero3 rfl (by simp [oneV]) ⟨rfl, by decide⟩ (fun g11 v11 c11 hv11 hc11 ho11 => ?_)
        subst hv11 hc11
        refine j_append 1 Try.underlying36 Try.underlying36 (.inr ⟨_, rfl⟩) sb3 zero3 rfl hs rfl (.inl ⟨_, _, rfl, own_rd ho11 0 rfl, rfl⟩) (by intro u hu; rw [List.mem_singleton] at hu; rw [hu]; rfl) ⟨(by simp only [ks_length, List.length_singleton]; omega), (by decide)⟩ (fun v12 c12 ho12 => ?_)
        have hs' : Sx.Own 3 1 (ks .i64 (seen ++ [x])) v12 c12 := by
          have e : ks .i64 (seen ++ [x]) = ks .i64 seen ++ [Value.int .i64 x] := by simp [ks]
          rw [e]
          exact ho12
        refine j_subl (S' := [c12, tc]) (by repeat first | exact List.Sublist.refl _ | exact List.nil_sublist _ | apply List.Sublist.cons_cons | apply List.Sublist.cons) ?_
        refine j_call0 ent66 rfl rfl rfl (fun w' hw' => needs_con B (by omega) p x w' (in_keep0 hin hw') hok) (fun u S2 hu => ?_)
        obtain ⟨nc, rfl, hno⟩ := hu
        obtain ⟨mn, hsn1, hsn2⟩ := src_own (b := ⟨w, dom []⟩) (S := [nc, c12, tc]) 0 hno rfl
        rw [ks_length, Nat.mul_one] at hsn2
        subst hsn2
        refine j_appendO 2 Try.underlying36 Try.underlying36 (.inr ⟨_, rfl⟩) sb3 zero3 rfl ht2 rfl hsn1 ks_one ⟨(by simp only [ks_length]; have h1 := (bi_more hbi hxs hxt).tl; have h2 := bi_len (bi_more hbi hxs hxt); rw [List.length_append] at h1; have h3 : ((seen ++ [x]).length + 1) * (univR p.ls).length ≤ 1000001 * 1000000 := Nat.mul_le_mul (by omega) hU; omega), (by decide)⟩ (fun v14 c14 ho14 => ?_)
        have ht' : OwnO 3 1 (ks .i64 (td ++ needsL p.ls x)) v14 c14 := by
          have e : ks .i64 (td ++ needsL p.ls x) = ks .i64 td ++ ks .i64 (needsL p.ls x) := by simp [ks]
          rw [e]
          exact ho14
        refine j_subl (S' := [c12, c14]) (by repeat first | exact List.Sublist.refl _ | exact List.nil_sublist _ | apply List.Sublist.cons_cons | apply List.Sublist.cons) ?_
        refine j_back rfl ?_
        exact ⟨((univR p.ls).length - (seen ++ [x]).length) * ((univR p.ls).length + 1) + (td ++ needsL p.ls x).length, ring_less hbi hxs hxt, seen ++ [x], td ++ needsL p.ls x, _, _, c12, c14, rfl, rfl, hs', ht', bi_more hbi hxs hxt, rfl⟩
  · skip
    obtain rfl : todo = [] := by
      refine List.eq_nil_of_length_eq_zero ?_
      simp only [Bool.and_eq_true, Bool.or_eq_true, Bool.and_eq_false_iff, Bool.or_eq_false_iff, Bool.not_eq_true', Bool.not_eq_false', decide_eq_true_eq, decide_eq_false_iff_not, beq_iff_eq, beq_eq_false_iff_ne, bne_iff_ne, bne_eq_false_iff_eq, ne_eq, Int.toNat_natCast] at *
      omega
    refine j_q (qs_ac) ?_
    refine j_ret_con (vs := [_]) (fun w' hw' => ⟨rfl, trivial⟩) ?_
    rw [ringB_false (bi_end hbi)]
    rfl
end Go.Proofs.Ytlgfpoelhjlifaa
