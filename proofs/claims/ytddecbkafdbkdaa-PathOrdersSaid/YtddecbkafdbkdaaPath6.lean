/- The path of a name and of what it refers to: what the program's and the document's functions answer. -/
import Derived.Test.YtddecbkafdbkdaaTa
import Derived.Test.YtddecbkafdbkdaaSrtB
namespace Go.Proofs.Ytddecbkafdbkdaa
open Go Go.Sx
set_option maxRecDepth 100000
set_option maxHeartbeats 4000000
set_option linter.unusedVariables false
set_option linter.unusedSimpArgs false
attribute [local irreducible] J JQ QS Con W opW
theorem ent47 : Sx.Enters Try.prog 47 := ⟨_, Try.func47, by kernel_rfl, by kernel_rfl⟩
theorem ent48 : Sx.Enters Try.prog 48 := ⟨_, Try.func48, by kernel_rfl, by kernel_rfl⟩
theorem ent49 : Sx.Enters Try.prog 49 := ⟨_, Try.func49, by kernel_rfl, by kernel_rfl⟩
theorem ent50 : Sx.Enters Try.prog 50 := ⟨_, Try.func50, by kernel_rfl, by kernel_rfl⟩
theorem ent51 : Sx.Enters Try.prog 51 := ⟨_, Try.func51, by kernel_rfl, by kernel_rfl⟩
theorem ent52 : Sx.Enters Try.prog 52 := ⟨_, Try.func52, by kernel_rfl, by kernel_rfl⟩
theorem ent53 : Sx.Enters Try.prog 53 := ⟨_, Try.func53, by kernel_rfl, by kernel_rfl⟩
theorem ent63 : Sx.Enters Try.prog 63 := ⟨_, Try.func63, by kernel_rfl, by kernel_rfl⟩
theorem zero80 : zeroL Try.prog 80 = some ([.pointer none, .slice none 0 0]) := by kernel_rfl

attribute [local irreducible] fold sum hex text32 pathOf allDig isName isPath spA spB spE cp sortS rise
/-- each one behind a colon -/
def refsOf (l : List (List UInt8)) : List UInt8 := l.flatMap fun p => 58 :: p
def withP (kind h : List UInt8) (rs : List (List UInt8)) (name : List UInt8) : List UInt8 := if isName name && (rs.all isPath && decide (rs.length ≤ 1024)) then pathOf (kind ++ refsOf (rise rs)) h name else []
def withE (rs : List (List UInt8)) (name : List UInt8) : Int := if isName name then if rs.all isPath then if rs.length ≤ 1024 then 0 else 5 else 3 else 9
/-- what a path with what it refers to is -/
def withV (kind h : List UInt8) (rs : List (List UInt8)) (name : List UInt8) : Value := .tuple #[.string (bs (withP kind h rs name)), .int .i64 (withE rs name)]
theorem refs_snoc (l : List (List UInt8)) (p : List UInt8) : refsOf (l ++ [p]) = refsOf l ++ ([58] ++ p) := by simp [refsOf]
theorem refs_len {l : List (List UInt8)} (h : ∀ p ∈ l, p.length ≤ 113) : (refsOf l).length ≤ 114 * l.length := by
  induction l with
  | nil => simp [refsOf]
  | cons a l ih =>
    have h1 := h a (by simp)
    have h2 := ih fun p hp => h p (by simp [hp])
    have : refsOf (a :: l) = 58 :: a ++ refsOf l := by simp [refsOf]
    rw [this]
    simp only [List.length_append, List.length_cons]
    omega
theorem path_len {l : List UInt8} (h : isPath l = true) : l.length ≤ 113 := by
  unfold isPath at h
  simp only [Bool.and_eq_true] at h
  have := isName_len h.1.2
  rw [List.length_drop] at this
  omega
theorem all_get {rs : List (List UInt8)} (h : rs.all isPath = true) {x : List UInt8} (hx : x ∈ rs) : isPath x = true := List.all_eq_true.1 h x hx
theorem all_snoc {rs : List (List UInt8)} {i : Nat} (hi : i < rs.length) (h : (rs.take i).all isPath = true) (h2 : isPath (rs.getD i []) = true) : (rs.take (i + 1)).all isPath = true := by
  rw [take_snoc hi, List.all_append, h]
  simpa using h2
theorem all_not {rs : List (List UInt8)} {i : Nat} (hi : i < rs.length) (h2 : isPath (rs.getD i []) = false) : rs.all isPath = false := by
  cases h : rs.all isPath
  · rfl
  · rw [all_get h (x := rs.getD i []) (by rw [List.getD_eq_getElem?_getD, List.getElem?_eq_getElem hi]; exact List.getElem_mem hi)] at h2
    cases h2
theorem kind_len {rs : List (List UInt8)} (h : rs.all isPath = true) (hn : rs.length ≤ 1024) (i : Nat) : (refsOf ((rise rs).take i)).length ≤ 116736 := by
  have h1 : (refsOf ((rise rs).take i)).length ≤ 114 * ((rise rs).take i).length := refs_len fun p hp => path_len (all_get h ((rise_mem rs p).1 (List.mem_of_mem_take hp)))
  have h2 := rise_len rs
  rw [List.length_take] at h1
  omega
theorem rise_get_len {rs : List (List UInt8)} (h : rs.all isPath = true) {i : Nat} (hi : i < (rise rs).length) : ((rise rs).getD i []).length ≤ 113 := by
  refine path_len (all_get h ((rise_mem rs _).1 ?_))
  rw [List.getD_eq_getElem?_getD, List.getElem?_eq_getElem hi]
  exact List.getElem_mem hi
theorem get_len {rs : List (List UInt8)} {M : Nat} (h : ∀ r ∈ rs, r.length ≤ M) {i : Nat} (hi : i < rs.length) : (rs.getD i []).length ≤ M := by
  refine h _ ?_
  rw [List.getD_eq_getElem?_getD, List.getElem?_eq_getElem hi]
  exact List.getElem_mem hi
theorem spE_yes {l : List UInt8} (h : isPath l = true) : spE l = 0 := by unfold spE; rw [if_pos h]
theorem spE_no {l : List UInt8} (h : isPath l = false) : spE l = 3 := by unfold spE; rw [if_neg (by rw [h]; decide)]
theorem withV_no {kind h : List UInt8} {rs : List (List UInt8)} {name : List UInt8} (hn : isName name = false) : withV kind h rs name = .tuple #[.string (bs []), .int .i64 9] := by simp [withV, withP, withE, hn]
theorem withV_form {kind h : List UInt8} {rs : List (List UInt8)} {name : List UInt8} (hn : isName name = true) (ha : rs.all isPath = false) : withV kind h rs name = .tuple #[.string (bs []), .int .i64 3] := by simp only [withV, withP, withE, hn, ha]; rfl
theorem withV_long {kind h : List UInt8} {rs : List (List UInt8)} {name : List UInt8} (hn : isName name = true) (ha : rs.all isPath = true) (hl : ¬ rs.length ≤ 1024) : withV kind h rs name = .tuple #[.string (bs []), .int .i64 5] := by simp only [withV, withP, withE, hn, ha, hl]; rfl
theorem withV_ok {kind h : List UInt8} {rs : List (List UInt8)} {name : List UInt8} (hn : isName name = true) (ha : rs.all isPath = true) (hl : rs.length ≤ 1024) : withV kind h rs name = .tuple #[.string (bs (pathOf (kind ++ refsOf (rise rs)) h name)), .int .i64 0] := by simp only [withV, withP, withE, hn, ha, hl]; rfl
theorem svals_of {w : World} {v : Value} {rs : List (List UInt8)} (h : StrSl w v rs) : SVals w.heap.size w v rs := by
  rcases h with ⟨rfl, rfl⟩ | ⟨g, off, cap, rfl, h1, h2, h3⟩
  · exact .inl ⟨rfl, rfl⟩
  · refine .inr ⟨g, off, cap, rfl, h1, fun j hj => ?_⟩
    have := h3 j _ (strs_get hj)
    rw [add_off] at this
    rw [this]
    simp only [encStr]
    rfl
attribute [local irreducible] refsOf
/-- pantry.pantryref3.Rising -/
theorem rising_con (rs : List (List UInt8)) (v : Value) (w : World) (hv : StrSl w v rs) (hn : rs.length ≤ 90000) : Con Try.prog 53 [v] w [] fun u S' => ∃ c', S' = [c'] ∧ Sx.Own 26 1 (strs (rise rs)) u c' := by
  refine con_of_tree mix Try.func53 T53_ok (by kernel_rfl) ?_
  unfold T53
  obtain ⟨A, cap, rfl, hcap⟩ := strsl_form hv
  refine j_q (qs_ac) ?_
  refine j_q (qs_ac) ?_
  refine j_q (qs_ac) ?_
  refine j_loop (fun m vs S' => ∃ (i : Nat) (zs : List (List UInt8)) (ov : Value) (c : SH), vs = [ov, .int .i64 (i : Int)] ∧ S' = [c] ∧ Sx.Own 26 1 (strs zs) ov c ∧ Strict zs ∧ (∀ x, x ∈ zs ↔ x ∈ rs.take i) ∧ zs.length ≤ i ∧ i ≤ rs.length ∧ m = rs.length - i) ⟨_, 0, [], _, [], rfl, rfl, own_nil, List.Pairwise.nil, by simp, Nat.zero_le _, Nat.zero_le _, rfl⟩ ?_
  rintro m vs S' hlen ⟨i, zs, ov, c, rfl, rfl, ho, hst, hmem, hzl, hin, rfl⟩
  refine j_q (qs_lenl Try.underlying38 rfl) ?_
  refine j_q (qs_lss rfl rfl) ?_
  refine j_cond rfl (fun hc0 => ?_) (fun hc0 => ?_)
  · skip
    have hi : i < rs.length := by
      simp only [Bool.and_eq_true, Bool.or_eq_true, Bool.and_eq_false_iff, Bool.or_eq_false_iff, Bool.not_eq_true', Bool.not_eq_false', decide_eq_true_eq, decide_eq_false_iff_not, beq_iff_eq, beq_eq_false_iff_ne, bne_iff_ne, bne_eq_false_iff_eq, ne_eq, Int.toNat_natCast] at *
      omega
    obtain ⟨ga, off, rfl, hga, hcells⟩ := strsl_addr hv (by omega)
    refine j_q (qs_ixl0 Try.underlying38 sz26 rfl rfl ⟨(by first | omega | (simp only [Bool.and_eq_true, Bool.or_eq_true, Bool.and_eq_false_iff, Bool.or_eq_false_iff, Bool.not_eq_true', Bool.not_eq_false', decide_eq_true_eq, decide_eq_false_iff_not, beq_iff_eq, beq_eq_false_iff_ne, bne_iff_ne, bne_eq_false_iff_eq, ne_eq, Int.toNat_natCast] at *; omega)), (by first | omega | (simp only [Bool.and_eq_true, Bool.or_eq_true, Bool.and_eq_false_iff, Bool.or_eq_false_iff, Bool.not_eq_true', Bool.not_eq_false', decide_eq_true_eq, decide_eq_false_iff_not, beq_iff_eq, beq_eq_false_iff_ne, bne_iff_ne, bne_eq_false_iff_eq, ne_eq, Int.toNat_natCast] at *; omega))⟩) ?_
    refine j_q (qs_loadrs (rd_cells hcells (by simp)) Try.underlying26 rfl (by simp only [Int.toNat_natCast]; omega)) ?_
    simp only [Int.toNat_natCast]
    refine j_call 0 ent63 rfl rfl rfl rfl (fun w' hw' => lay_con zs _ ov c ho hst (by omega) w') (fun u S2 hu => ?_)
    obtain ⟨zs2, c2, rfl, ho2, hst2, hmem2, hl2⟩ := hu
    refine j_subl (S' := [c2]) (by repeat first | exact List.Sublist.refl _ | exact List.nil_sublist _ | apply List.Sublist.cons_cons | apply List.Sublist.cons) ?_
    refine j_q (qs_add64 rfl rfl (by first | omega | (simp only [Bool.and_eq_true, Bool.or_eq_true, Bool.and_eq_false_iff, Bool.or_eq_false_iff, Bool.not_eq_true', Bool.not_eq_false', decide_eq_true_eq, decide_eq_false_iff_not, beq_iff_eq, beq_eq_false_iff_ne, bne_iff_ne, bne_eq_false_iff_eq, ne_eq, Int.toNat_natCast] at *; omega))) ?_
    refine j_back rfl ?_
    exact ⟨rs.length - (i + 1), by omega, i + 1, zs2, _, c2, rfl, rfl, ho2, hst2, fun x => by rw [hmem2, take_snoc hi, List.mem_append, List.mem_singleton, hmem], by omega, by omega, rfl⟩
  · skip
    obtain rfl : i = rs.length := by
      simp only [Bool.and_eq_true, Bool.or_eq_true, Bool.and_eq_false_iff, Bool.or_eq_false_iff, Bool.not_eq_true', Bool.not_eq_false', decide_eq_true_eq, decide_eq_false_iff_not, beq_iff_eq, beq_eq_false_iff_ne, bne_iff_ne, bne_eq_false_iff_eq, ne_eq, Int.toNat_natCast] at *
      omega
    refine j_ret_con (vs := [_]) (fun w' hw' => ⟨rfl, trivial⟩) ?_
    refine ⟨c, rfl, ?_⟩
    rw [← rise_eq hst (fun x => by rw [hmem, List.take_of_length_le (Nat.le_refl _)])]
    exact ho
/-- pantry.path.with -/
theorem with_con (kind h : List UInt8) (rs : List (List UInt8)) (name : List UInt8) (v : Value) (w : World) (hv : StrSl w v rs) (hk0 : kind ≠ []) (hk : kind.length ≤ 1000) (hh : h.length = 32) (hn : rs.length ≤ 90000) (hl : ∀ r ∈ rs, r.length ≤ 9223372036854775807) (hnm : name.length ≤ 1099511000000) : Con Try.prog 34 [.string (bs kind), .agg (ints h).toArray, v, .string (bs name)] w [] fun u _ => u = withV kind h rs name := by
  refine con_of_tree mix Try.func34 T34_ok (by kernel_rfl) ?_
  unfold T34
  obtain ⟨A, cap, rfl, hcap⟩ := strsl_form hv
  refine j_box rfl (fun g0 hg0 hs0 => ?_)
  refine j_q (qs_ac) ?_
  refine j_q (qs_ac) ?_
  refine j_q (qs_call ent8 rfl rfl rfl (fun w' hw' => isName_con name w' (by omega))) ?_
  refine j_q (qs_not rfl) ?_
  refine j_cond rfl (fun hc0 => ?_) (fun hc0 => ?_)
  · skip
    have hno : isName name = false := by
      simp only [Bool.and_eq_true, Bool.or_eq_true, Bool.and_eq_false_iff, Bool.or_eq_false_iff, Bool.not_eq_true', Bool.not_eq_false', decide_eq_true_eq, decide_eq_false_iff_not, beq_iff_eq, beq_eq_false_iff_ne, bne_iff_ne, bne_eq_false_iff_eq, ne_eq, Int.toNat_natCast] at *
      exact hc0
    refine j_q (qs_ac) ?_
    refine j_q (qs_ac) ?_
    refine j_ret_con (vs := [_, _]) (fun w' hw' => ⟨rfl, rfl, trivial⟩) ?_
    show Value.tuple #[_, _] = _
    rw [withV_no hno]
    rfl
  · skip
    have hyes : isName name = true := by
      simp only [Bool.and_eq_true, Bool.or_eq_true, Bool.and_eq_false_iff, Bool.or_eq_false_iff, Bool.not_eq_true', Bool.not_eq_false', decide_eq_true_eq, decide_eq_false_iff_not, beq_iff_eq, beq_eq_false_iff_ne, bne_iff_ne, bne_eq_false_iff_eq, ne_eq, Int.toNat_natCast] at *
      exact hc0
    refine j_q (qs_lenl Try.underlying38 rfl) ?_
    refine j_q (qs_mc) ?_
    refine j_loop (fun m vs S' => ∃ i : Nat, vs = [.int .i64 (i : Int)] ∧ S' = [[(g0, .cells (ints h).toArray 25 (0, 0))], []] ∧ i ≤ rs.length ∧ (rs.take i).all isPath = true ∧ m = rs.length - i) ⟨_, 0, rfl, rfl, Nat.zero_le _, by simp, rfl⟩ ?_
    rintro m vs S' hlen ⟨i, rfl, rfl, hin, hall, rfl⟩
    refine j_q (qs_lss rfl rfl) ?_
    refine j_cond rfl (fun hc1 => ?_) (fun hc1 => ?_)
    · skip
      have hi : i < rs.length := by
        simp only [Bool.and_eq_true, Bool.or_eq_true, Bool.and_eq_false_iff, Bool.or_eq_false_iff, Bool.not_eq_true', Bool.not_eq_false', decide_eq_true_eq, decide_eq_false_iff_not, beq_iff_eq, beq_eq_false_iff_ne, bne_iff_ne, bne_eq_false_iff_eq, ne_eq, Int.toNat_natCast] at *
        omega
      obtain ⟨ga, off, rfl, hga, hcells⟩ := strsl_addr hv (by omega)
      refine j_q (qs_ixl0 Try.underlying38 sz26 rfl rfl ⟨(by first | omega | (simp only [Bool.and_eq_true, Bool.or_eq_true, Bool.and_eq_false_iff, Bool.or_eq_false_iff, Bool.not_eq_true', Bool.not_eq_false', decide_eq_true_eq, decide_eq_false_iff_not, beq_iff_eq, beq_eq_false_iff_ne, bne_iff_ne, bne_eq_false_iff_eq, ne_eq, Int.toNat_natCast] at *; omega)), (by first | omega | (simp only [Bool.and_eq_true, Bool.or_eq_true, Bool.and_eq_false_iff, Bool.or_eq_false_iff, Bool.not_eq_true', Bool.not_eq_false', decide_eq_true_eq, decide_eq_false_iff_not, beq_iff_eq, beq_eq_false_iff_ne, bne_iff_ne, bne_eq_false_iff_eq, ne_eq, Int.toNat_natCast] at *; omega))⟩) ?_
      refine j_q (qs_loadrs (rd_cells hcells (by simp)) Try.underlying26 rfl (by simp only [Int.toNat_natCast]; omega)) ?_
      simp only [Int.toNat_natCast]
      refine j_q (qs_call ent13 rfl rfl rfl (fun w' hw' => split_con (rs.getD i []) w' (get_len hl hi))) ?_
      unfold spl
      refine j_q (qs_ext (vs := [.string (bs (spA (rs.getD i []))), .string (bs (spB (rs.getD i []))), .int .i64 (spE (rs.getD i []))]) rfl rfl) ?_
      refine j_q (qs_ext (vs := [.string (bs (spA (rs.getD i []))), .string (bs (spB (rs.getD i []))), .int .i64 (spE (rs.getD i []))]) rfl rfl) ?_
      refine j_q (qs_ext (vs := [.string (bs (spA (rs.getD i []))), .string (bs (spB (rs.getD i []))), .int .i64 (spE (rs.getD i []))]) rfl rfl) ?_
      refine j_q (qs_neq rfl rfl) ?_
      refine j_cond rfl (fun hc2 => ?_) (fun hc2 => ?_)
      · skip
        have hbad : isPath (rs.getD i []) = false := by
          cases hx : isPath (rs.getD i [])
          · rfl
          · rw [spE_yes hx] at hc2; exact absurd hc2 (by decide)
        refine j_q (qs_ac) ?_
        refine j_ret_con (vs := [_, _]) (fun w' hw' => ⟨rfl, rfl, trivial⟩) ?_
        show Value.tuple #[_, _] = _
        rw [withV_form hyes (all_not hi hbad), spE_no hbad]
        rfl
      · skip
        have hok : isPath (rs.getD i []) = true := by
          cases hx : isPath (rs.getD i [])
          · rw [spE_no hx] at hc2; exact absurd hc2 (by decide)
          · rfl
        refine j_q (qs_add64 rfl rfl (by first | omega | (simp only [Bool.and_eq_true, Bool.or_eq_true, Bool.and_eq_false_iff, Bool.or_eq_false_iff, Bool.not_eq_true', Bool.not_eq_false', decide_eq_true_eq, decide_eq_false_iff_not, beq_iff_eq, beq_eq_false_iff_ne, bne_iff_ne, bne_eq_false_iff_eq, ne_eq, Int.toNat_natCast] at *; omega))) ?_
        refine j_back rfl ?_
        exact ⟨rs.length - (i + 1), by omega, i + 1, rfl, rfl, by omega, all_snoc hi hall hok, rfl⟩
    · skip
      obtain rfl : i = rs.length := by
        simp only [Bool.and_eq_true, Bool.or_eq_true, Bool.and_eq_false_iff, Bool.or_eq_false_iff, Bool.not_eq_true', Bool.not_eq_false', decide_eq_true_eq, decide_eq_false_iff_not, beq_iff_eq, beq_eq_false_iff_ne, bne_iff_ne, bne_eq_false_iff_eq, ne_eq, Int.toNat_natCast] at *
        omega
      rw [List.take_of_length_le (Nat.le_refl _)] at hall
      refine j_subl (S' := [[(g0, .cells (ints h).toArray 25 (0, 0))]]) (by repeat first | exact List.Sublist.refl _ | exact List.nil_sublist _ | apply List.Sublist.cons_cons | apply List.Sublist.cons) ?_
      refine j_q (qs_lenl Try.underlying38 rfl) ?_
      refine j_q (qs_gtr rfl rfl) ?_
      refine j_cond rfl (fun hc3 => ?_) (fun hc3 => ?_)
      · skip
        have hn1 : ¬ rs.length ≤ 1024 := by
          simp only [Bool.and_eq_true, Bool.or_eq_true, Bool.and_eq_false_iff, Bool.or_eq_false_iff, Bool.not_eq_true', Bool.not_eq_false', decide_eq_true_eq, decide_eq_false_iff_not, beq_iff_eq, beq_eq_false_iff_ne, bne_iff_ne, bne_eq_false_iff_eq, ne_eq, Int.toNat_natCast] at *
          omega
        refine j_q (qs_ac) ?_
        refine j_q (qs_ac) ?_
        refine j_ret_con (vs := [_, _]) (fun w' hw' => ⟨rfl, rfl, trivial⟩) ?_
        show Value.tuple #[_, _] = _
        rw [withV_long hyes hall hn1]
        rfl
      · skip
        have hn1 : rs.length ≤ 1024 := by
          simp only [Bool.and_eq_true, Bool.or_eq_true, Bool.and_eq_false_iff, Bool.or_eq_false_iff, Bool.not_eq_true', Bool.not_eq_false', decide_eq_true_eq, decide_eq_false_iff_not, beq_iff_eq, beq_eq_false_iff_ne, bne_iff_ne, bne_eq_false_iff_eq, ne_eq, Int.toNat_natCast] at *
          omega
        refine j_alloc zero80 (fun g23 hg23 hs23 => ?_)
        refine j_call 0 ent47 rfl rfl rfl rfl (fun w' hw' => writeString_con g23 none (.inl rfl) (.slice none 0 0) [] [] kind own_nil (by simp; omega) w') (fun u S2 hu => ?_)
        obtain ⟨rfl, bv, cb, rfl, hob⟩ := hu
        rw [List.nil_append] at hob
        refine j_call0 ent50 rfl rfl rfl (fun w' hw' => values_con _ _ _ w') (fun u S2 hu => ?_)
        obtain ⟨gs, rfl, rfl⟩ := hu
        refine j_call0 ent49 rfl rfl rfl (fun w' hw' => sorted_con gs (.slice A rs.length cap) rs w' (by omega) (lt_of_get (hw'.at_ (k := 0) rfl)) (by rw [cell_of (hw'.at_ (k := 0) rfl)]; rfl) (svals_of (strsl_keep hv hw'))) (fun u S2 hu => ?_)
        obtain ⟨c1, rfl, ho1⟩ := hu
        refine j_call 0 ent48 rfl rfl rfl rfl (fun w' hw' => compact_con (sortS rs) _ c1 ho1 (by rw [sortS_length]; omega) w') (fun u S2 hu => ?_)
        obtain ⟨c2, rfl, ho2⟩ := hu
        rw [← rise] at ho2
        obtain ⟨nr, A2, cap2, rfl, hnr⟩ := own_form ho2 (by decide)
        rw [strs_length, Nat.mul_one] at hnr
        subst hnr
        refine j_subl (S' := [c2, (g23, .cells [.pointer (some ⟨g23, 0, none⟩), bv].toArray 80 (0, 0)) :: cb, [(g0, .cells (ints h).toArray 25 (0, 0))]]) (by repeat first | exact List.Sublist.refl _ | exact List.nil_sublist _ | apply List.Sublist.cons_cons | apply List.Sublist.cons) ?_
        refine j_swap ?_
        refine j_q (qs_lenl Try.underlying38 rfl) ?_
        refine j_q (qs_mc) ?_
        refine j_loop (fun m vs S' => ∃ (i : Nat) (bv : Value) (cb : SH), vs = [.int .i64 (i : Int)] ∧ S' = [(g23, .cells [.pointer (some ⟨g23, 0, none⟩), bv].toArray 80 (0, 0)) :: cb, c2, [(g0, .cells (ints h).toArray 25 (0, 0))]] ∧ Sx.Own 5 1 (ints (kind ++ refsOf ((rise rs).take i))) bv cb ∧ i ≤ (rise rs).length ∧ m = (rise rs).length - i) ⟨_, 0, bv, cb, rfl, rfl, by rw [show refsOf ((rise rs).take 0) = [] by rw [refsOf]; rfl, List.append_nil]; exact hob, Nat.zero_le _, rfl⟩ ?_
        rintro m vs S' hlen ⟨i, bv, cb, rfl, rfl, hob, hin, rfl⟩
        refine j_q (qs_lss rfl rfl) ?_
        refine j_cond rfl (fun hc4 => ?_) (fun hc4 => ?_)
        · skip
          have hi : i < (rise rs).length := by
            simp only [Bool.and_eq_true, Bool.or_eq_true, Bool.and_eq_false_iff, Bool.or_eq_false_iff, Bool.not_eq_true', Bool.not_eq_false', decide_eq_true_eq, decide_eq_false_iff_not, beq_iff_eq, beq_eq_false_iff_ne, bne_iff_ne, bne_eq_false_iff_eq, ne_eq, Int.toNat_natCast] at *
            omega
          obtain ⟨ga, rfl⟩ := own_addr ho2 (by rw [strs_length]; omega)
          have hgl := rise_get_len hall hi
          have hrl := rise_len rs
          have hkl := kind_len hall hn1 i
          refine j_q (qs_ixl0 Try.underlying38 sz26 rfl rfl ⟨(by first | omega | (simp only [Bool.and_eq_true, Bool.or_eq_true, Bool.and_eq_false_iff, Bool.or_eq_false_iff, Bool.not_eq_true', Bool.not_eq_false', decide_eq_true_eq, decide_eq_false_iff_not, beq_iff_eq, beq_eq_false_iff_ne, bne_iff_ne, bne_eq_false_iff_eq, ne_eq, Int.toNat_natCast] at *; omega)), (by first | omega | (simp only [Bool.and_eq_true, Bool.or_eq_true, Bool.and_eq_false_iff, Bool.or_eq_false_iff, Bool.not_eq_true', Bool.not_eq_false', decide_eq_true_eq, decide_eq_false_iff_not, beq_iff_eq, beq_eq_false_iff_ne, bne_iff_ne, bne_eq_false_iff_eq, ne_eq, Int.toNat_natCast] at *; omega))⟩) ?_
          refine j_q (qs_loadrs (own_rd ho2 1 rfl) Try.underlying26 rfl (by simp only [Int.toNat_natCast]; omega)) ?_
          simp only [Int.toNat_natCast]
          refine j_q (qs_sadd (l := [58]) rfl rfl (by simp only [List.length_append, List.length_cons, List.length_nil]; omega)) ?_
          refine j_call 0 ent47 rfl rfl rfl rfl (fun w' hw' => writeString_con g23 (some ⟨g23, 0, none⟩) (.inr rfl) bv cb _ _ hob (by simp only [List.length_append, List.length_singleton]; omega) w') (fun u S2 hu => ?_)
          obtain ⟨rfl, bv2, cb2, rfl, hob2⟩ := hu
          rw [List.append_assoc, ← refs_snoc, ← take_snoc hi] at hob2
          refine j_subl (S' := [(g23, .cells [.pointer (some ⟨g23, 0, none⟩), bv2].toArray 80 (0, 0)) :: cb2, c2, [(g0, .cells (ints h).toArray 25 (0, 0))]]) (by repeat first | exact List.Sublist.refl _ | exact List.nil_sublist _ | apply List.Sublist.cons_cons | apply List.Sublist.cons) ?_
          refine j_q (qs_add64 rfl rfl (by first | omega | (simp only [Bool.and_eq_true, Bool.or_eq_true, Bool.and_eq_false_iff, Bool.or_eq_false_iff, Bool.not_eq_true', Bool.not_eq_false', decide_eq_true_eq, decide_eq_false_iff_not, beq_iff_eq, beq_eq_false_iff_ne, bne_iff_ne, bne_eq_false_iff_eq, ne_eq, Int.toNat_natCast] at *; omega))) ?_
          refine j_back rfl ?_
          exact ⟨(rise rs).length - (i + 1), by omega, i + 1, bv2, cb2, rfl, rfl, hob2, by omega, rfl⟩
        · skip
          obtain rfl : i = (rise rs).length := by
            simp only [Bool.and_eq_true, Bool.or_eq_true, Bool.and_eq_false_iff, Bool.or_eq_false_iff, Bool.not_eq_true', Bool.not_eq_false', decide_eq_true_eq, decide_eq_false_iff_not, beq_iff_eq, beq_eq_false_iff_ne, bne_iff_ne, bne_eq_false_iff_eq, ne_eq, Int.toNat_natCast] at *
            omega
          have hkl := kind_len hall hn1 (rise rs).length
          rw [List.take_of_length_le (Nat.le_refl _)] at hob hkl
          refine j_mix [[(g0, .cells (ints h).toArray 25 (0, 0))]] (Le.of_sub (by repeat first | exact List.Sublist.refl _ | exact List.nil_sublist _ | apply List.Sublist.cons_cons | apply List.Sublist.cons)) ?_
          first
            | refine j_mq (qs_loadw 0 Try.underlying25 rfl sz25 rfl rfl (by first | (rw [ints_length]; exact hh) | rfl)) ?_
            | refine j_mq (qs_loadw 1 Try.underlying25 rfl sz25 rfl rfl (by first | (rw [ints_length]; exact hh) | rfl)) ?_
          refine j_call 0 ent51 rfl rfl rfl rfl (fun w' hw' => string_con g23 _ bv cb (kind ++ refsOf (rise rs)) (by simp [hk0]) (by simp only [List.length_append]; omega) hob w') (fun u S2 hu => ?_)
          obtain ⟨rfl, rfl⟩ := hu
          refine j_mD0 (Le.of_sub (by repeat first | exact List.Sublist.refl _ | exact List.nil_sublist _ | apply List.Sublist.cons_cons | apply List.Sublist.cons)) ?_
          refine j_q (qs_call ent11 rfl rfl rfl (fun w' hw' => make_con (kind ++ refsOf (rise rs)) h name w' hh (by have := kind_len hall hn1 (rise rs).length; rw [List.take_of_length_le (Nat.le_refl _)] at this; simp only [List.length_append]; omega))) ?_
          rw [mk, if_pos hyes]
          refine j_mD0 (Le.of_sub (by repeat first | exact List.Sublist.refl _ | exact List.nil_sublist _ | apply List.Sublist.cons_cons | apply List.Sublist.cons)) ?_
          refine j_mq (qs_ext (vs := [.string (bs (pathOf (kind ++ refsOf (rise rs)) h name)), .int .i64 0]) rfl rfl) ?_
          refine j_mq (qs_ext (vs := [.string (bs (pathOf (kind ++ refsOf (rise rs)) h name)), .int .i64 0]) rfl rfl) ?_
          refine j_mend ?_
          refine j_ret_con (vs := [_, _]) (fun w' hw' => ⟨rfl, rfl, trivial⟩) ?_
          show Value.tuple #[_, _] = _
          rw [withV_ok hyes hall hn1]
          rfl
/-- pantry.pantryref3.with -/
theorem rwith_con (kind h : List UInt8) (rs : List (List UInt8)) (name : List UInt8) (v : Value) (w : World) (hv : StrSl w v rs) (hk0 : kind ≠ []) (hk : kind.length ≤ 1000) (hh : h.length = 32) (hn : rs.length ≤ 90000) (hl : ∀ r ∈ rs, r.length ≤ 9223372036854775807) (hnm : name.length ≤ 1099511000000) : Con Try.prog 35 [.string (bs kind), .agg (ints h).toArray, v, .string (bs name)] w [] fun u _ => u = withV kind h rs name := by
  refine con_of_tree mix Try.func35 T35_ok (by kernel_rfl) ?_
  unfold T35
  obtain ⟨A, cap, rfl, hcap⟩ := strsl_form hv
  refine j_box rfl (fun g0 hg0 hs0 => ?_)
  refine j_q (qs_ac) ?_
  refine j_q (qs_ac) ?_
  refine j_q (qs_call ent9 rfl rfl rfl (fun w' hw' => risName_con name w' (by omega))) ?_
  refine j_q (qs_not rfl) ?_
  refine j_cond rfl (fun hc0 => ?_) (fun hc0 => ?_)
  · skip
    have hno : isName name = false := by
      simp only [Bool.and_eq_true, Bool.or_eq_true, Bool.and_eq_false_iff, Bool.or_eq_false_iff, Bool.not_eq_true', Bool.not_eq_false', decide_eq_true_eq, decide_eq_false_iff_not, beq_iff_eq, beq_eq_false_iff_ne, bne_iff_ne, bne_eq_false_iff_eq, ne_eq, Int.toNat_natCast] at *
      exact hc0
    refine j_q (qs_ac) ?_
    refine j_q (qs_ac) ?_
    refine j_ret_con (vs := [_, _]) (fun w' hw' => ⟨rfl, rfl, trivial⟩) ?_
    show Value.tuple #[_, _] = _
    rw [withV_no hno]
    rfl
  · skip
    have hyes : isName name = true := by
      simp only [Bool.and_eq_true, Bool.or_eq_true, Bool.and_eq_false_iff, Bool.or_eq_false_iff, Bool.not_eq_true', Bool.not_eq_false', decide_eq_true_eq, decide_eq_false_iff_not, beq_iff_eq, beq_eq_false_iff_ne, bne_iff_ne, bne_eq_false_iff_eq, ne_eq, Int.toNat_natCast] at *
      exact hc0
    refine j_q (qs_ac) ?_
    refine j_loop (fun m vs S' => ∃ i : Nat, vs = [.int .i64 (i : Int)] ∧ S' = [[(g0, .cells (ints h).toArray 25 (0, 0))], []] ∧ i ≤ rs.length ∧ (rs.take i).all isPath = true ∧ m = rs.length - i) ⟨_, 0, rfl, rfl, Nat.zero_le _, by simp, rfl⟩ ?_
    rintro m vs S' hlen ⟨i, rfl, rfl, hin, hall, rfl⟩
    refine j_q (qs_lenl Try.underlying38 rfl) ?_
    refine j_q (qs_lss rfl rfl) ?_
    refine j_cond rfl (fun hc1 => ?_) (fun hc1 => ?_)
    · skip
      have hi : i < rs.length := by
        simp only [Bool.and_eq_true, Bool.or_eq_true, Bool.and_eq_false_iff, Bool.or_eq_false_iff, Bool.not_eq_true', Bool.not_eq_false', decide_eq_true_eq, decide_eq_false_iff_not, beq_iff_eq, beq_eq_false_iff_ne, bne_iff_ne, bne_eq_false_iff_eq, ne_eq, Int.toNat_natCast] at *
        omega
      obtain ⟨ga, off, rfl, hga, hcells⟩ := strsl_addr hv (by omega)
      refine j_q (qs_ixl0 Try.underlying38 sz26 rfl rfl ⟨(by first | omega | (simp only [Bool.and_eq_true, Bool.or_eq_true, Bool.and_eq_false_iff, Bool.or_eq_false_iff, Bool.not_eq_true', Bool.not_eq_false', decide_eq_true_eq, decide_eq_false_iff_not, beq_iff_eq, beq_eq_false_iff_ne, bne_iff_ne, bne_eq_false_iff_eq, ne_eq, Int.toNat_natCast] at *; omega)), (by first | omega | (simp only [Bool.and_eq_true, Bool.or_eq_true, Bool.and_eq_false_iff, Bool.or_eq_false_iff, Bool.not_eq_true', Bool.not_eq_false', decide_eq_true_eq, decide_eq_false_iff_not, beq_iff_eq, beq_eq_false_iff_ne, bne_iff_ne, bne_eq_false_iff_eq, ne_eq, Int.toNat_natCast] at *; omega))⟩) ?_
      refine j_q (qs_loadrs (rd_cells hcells (by simp)) Try.underlying26 rfl (by simp only [Int.toNat_natCast]; omega)) ?_
      simp only [Int.toNat_natCast]
      refine j_q (qs_call ent52 rfl rfl rfl (fun w' hw' => is_con (rs.getD i []) w' (get_len hl hi))) ?_
      refine j_q (qs_not rfl) ?_
      refine j_cond rfl (fun hc2 => ?_) (fun hc2 => ?_)
      · skip
        have hbad : isPath (rs.getD i []) = false := by simpa using hc2
        refine j_q (qs_ac) ?_
        refine j_q (qs_ac) ?_
        refine j_ret_con (vs := [_, _]) (fun w' hw' => ⟨rfl, rfl, trivial⟩) ?_
        show Value.tuple #[_, _] = _
        rw [withV_form hyes (all_not hi hbad)]
        rfl
      · skip
        have hok : isPath (rs.getD i []) = true := by simpa using hc2
        refine j_q (qs_add64 rfl rfl (by first | omega | (simp only [Bool.and_eq_true, Bool.or_eq_true, Bool.and_eq_false_iff, Bool.or_eq_false_iff, Bool.not_eq_true', Bool.not_eq_false', decide_eq_true_eq, decide_eq_false_iff_not, beq_iff_eq, beq_eq_false_iff_ne, bne_iff_ne, bne_eq_false_iff_eq, ne_eq, Int.toNat_natCast] at *; omega))) ?_
        refine j_back rfl ?_
        exact ⟨rs.length - (i + 1), by omega, i + 1, rfl, rfl, by omega, all_snoc hi hall hok, rfl⟩
    · skip
      obtain rfl : i = rs.length := by
        simp only [Bool.and_eq_true, Bool.or_eq_true, Bool.and_eq_false_iff, Bool.or_eq_false_iff, Bool.not_eq_true', Bool.not_eq_false', decide_eq_true_eq, decide_eq_false_iff_not, beq_iff_eq, beq_eq_false_iff_ne, bne_iff_ne, bne_eq_false_iff_eq, ne_eq, Int.toNat_natCast] at *
        omega
      rw [List.take_of_length_le (Nat.le_refl _)] at hall
      refine j_subl (S' := [[(g0, .cells (ints h).toArray 25 (0, 0))]]) (by repeat first | exact List.Sublist.refl _ | exact List.nil_sublist _ | apply List.Sublist.cons_cons | apply List.Sublist.cons) ?_
      refine j_q (qs_lenl Try.underlying38 rfl) ?_
      refine j_q (qs_gtr rfl rfl) ?_
      refine j_cond rfl (fun hc3 => ?_) (fun hc3 => ?_)
      · skip
        have hn1 : ¬ rs.length ≤ 1024 := by
          simp only [Bool.and_eq_true, Bool.or_eq_true, Bool.and_eq_false_iff, Bool.or_eq_false_iff, Bool.not_eq_true', Bool.not_eq_false', decide_eq_true_eq, decide_eq_false_iff_not, beq_iff_eq, beq_eq_false_iff_ne, bne_iff_ne, bne_eq_false_iff_eq, ne_eq, Int.toNat_natCast] at *
          omega
        refine j_q (qs_ac) ?_
        refine j_q (qs_ac) ?_
        refine j_ret_con (vs := [_, _]) (fun w' hw' => ⟨rfl, rfl, trivial⟩) ?_
        show Value.tuple #[_, _] = _
        rw [withV_long hyes hall hn1]
        rfl
      · skip
        have hn1 : rs.length ≤ 1024 := by
          simp only [Bool.and_eq_true, Bool.or_eq_true, Bool.and_eq_false_iff, Bool.or_eq_false_iff, Bool.not_eq_true', Bool.not_eq_false', decide_eq_true_eq, decide_eq_false_iff_not, beq_iff_eq, beq_eq_false_iff_ne, bne_iff_ne, bne_eq_false_iff_eq, ne_eq, Int.toNat_natCast] at *
          omega
        refine j_call0 ent53 rfl rfl rfl (fun w' hw' => rising_con rs _ w' (strsl_keep hv hw') hn) (fun u S2 hu => ?_)
        obtain ⟨c2, rfl, ho2⟩ := hu
        obtain ⟨nr, A2, cap2, rfl, hnr⟩ := own_form ho2 (by decide)
        rw [strs_length, Nat.mul_one] at hnr
        subst hnr
        refine j_subl (S' := [c2, [(g0, .cells (ints h).toArray 25 (0, 0))]]) (by repeat first | exact List.Sublist.refl _ | exact List.nil_sublist _ | apply List.Sublist.cons_cons | apply List.Sublist.cons) ?_
        refine j_q (qs_ac) ?_
        refine j_loop (fun m vs S' => ∃ (i : Nat), vs = [.string (bs (kind ++ refsOf ((rise rs).take i))), .int .i64 (i : Int)] ∧ S' = [c2, [(g0, .cells (ints h).toArray 25 (0, 0))]] ∧ i ≤ (rise rs).length ∧ m = (rise rs).length - i) ⟨_, 0, by rw [show refsOf ((rise rs).take 0) = [] by rw [refsOf]; rfl, List.append_nil]; rfl, rfl, Nat.zero_le _, rfl⟩ ?_
        rintro m vs S' hlen ⟨i, rfl, rfl, hin, rfl⟩
        refine j_q (qs_lenl Try.underlying38 rfl) ?_
        refine j_q (qs_lss rfl rfl) ?_
        refine j_cond rfl (fun hc4 => ?_) (fun hc4 => ?_)
        · skip
          have hi : i < (rise rs).length := by
            simp only [Bool.and_eq_true, Bool.or_eq_true, Bool.and_eq_false_iff, Bool.or_eq_false_iff, Bool.not_eq_true', Bool.not_eq_false', decide_eq_true_eq, decide_eq_false_iff_not, beq_iff_eq, beq_eq_false_iff_ne, bne_iff_ne, bne_eq_false_iff_eq, ne_eq, Int.toNat_natCast] at *
            omega
          obtain ⟨ga, rfl⟩ := own_addr ho2 (by rw [strs_length]; omega)
          have hgl := rise_get_len hall hi
          have hrl := rise_len rs
          have hkl := kind_len hall hn1 i
          refine j_q (qs_sadd (l' := [58]) rfl rfl (by simp only [List.length_append, List.length_cons, List.length_nil]; omega)) ?_
          refine j_q (qs_ixl0 Try.underlying38 sz26 rfl rfl ⟨(by first | omega | (simp only [Bool.and_eq_true, Bool.or_eq_true, Bool.and_eq_false_iff, Bool.or_eq_false_iff, Bool.not_eq_true', Bool.not_eq_false', decide_eq_true_eq, decide_eq_false_iff_not, beq_iff_eq, beq_eq_false_iff_ne, bne_iff_ne, bne_eq_false_iff_eq, ne_eq, Int.toNat_natCast] at *; omega)), (by first | omega | (simp only [Bool.and_eq_true, Bool.or_eq_true, Bool.and_eq_false_iff, Bool.or_eq_false_iff, Bool.not_eq_true', Bool.not_eq_false', decide_eq_true_eq, decide_eq_false_iff_not, beq_iff_eq, beq_eq_false_iff_ne, bne_iff_ne, bne_eq_false_iff_eq, ne_eq, Int.toNat_natCast] at *; omega))⟩) ?_
          refine j_q (qs_loadrs (own_rd ho2 0 rfl) Try.underlying26 rfl (by simp only [Int.toNat_natCast]; omega)) ?_
          simp only [Int.toNat_natCast]
          refine j_q (qs_sadd rfl rfl (by simp only [List.length_append, List.length_cons, List.length_nil]; omega)) ?_
          rw [List.append_assoc, List.append_assoc, ← refs_snoc, ← take_snoc hi]
          refine j_q (qs_add64 rfl rfl (by first | omega | (simp only [Bool.and_eq_true, Bool.or_eq_true, Bool.and_eq_false_iff, Bool.or_eq_false_iff, Bool.not_eq_true', Bool.not_eq_false', decide_eq_true_eq, decide_eq_false_iff_not, beq_iff_eq, beq_eq_false_iff_ne, bne_iff_ne, bne_eq_false_iff_eq, ne_eq, Int.toNat_natCast] at *; omega))) ?_
          refine j_back rfl ?_
          exact ⟨(rise rs).length - (i + 1), by omega, i + 1, rfl, rfl, by omega, rfl⟩
        · skip
          obtain rfl : i = (rise rs).length := by
            simp only [Bool.and_eq_true, Bool.or_eq_true, Bool.and_eq_false_iff, Bool.or_eq_false_iff, Bool.not_eq_true', Bool.not_eq_false', decide_eq_true_eq, decide_eq_false_iff_not, beq_iff_eq, beq_eq_false_iff_ne, bne_iff_ne, bne_eq_false_iff_eq, ne_eq, Int.toNat_natCast] at *
            omega
          have hkl := kind_len hall hn1 (rise rs).length
          rw [List.take_of_length_le (Nat.le_refl _)] at hkl ⊢
          first
            | refine j_q (qs_loadw 0 Try.underlying25 rfl sz25 rfl rfl (by first | (rw [ints_length]; exact hh) | rfl)) ?_
            | refine j_q (qs_loadw 1 Try.underlying25 rfl sz25 rfl rfl (by first | (rw [ints_length]; exact hh) | rfl)) ?_
          refine j_q (qs_call ent12 rfl rfl rfl (fun w' hw' => rmake_con (kind ++ refsOf (rise rs)) h name w' hh (by simp only [List.length_append]; omega))) ?_
          rw [mk, if_pos hyes]
          refine j_q (qs_ext (vs := [.string (bs (pathOf (kind ++ refsOf (rise rs)) h name)), .int .i64 0]) rfl rfl) ?_
          refine j_q (qs_ext (vs := [.string (bs (pathOf (kind ++ refsOf (rise rs)) h name)), .int .i64 0]) rfl rfl) ?_
          refine j_ret_con (vs := [_, _]) (fun w' hw' => ⟨rfl, rfl, trivial⟩) ?_
          show Value.tuple #[_, _] = _
          rw [withV_ok hyes hall hn1]
          rfl
end Go.Proofs.Ytddecbkafdbkdaa
